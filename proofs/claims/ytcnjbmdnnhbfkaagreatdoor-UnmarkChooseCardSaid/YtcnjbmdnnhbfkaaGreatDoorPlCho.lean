/- The plain law of UnmarkChoose. -/
import Derived.Test.YtcnjbmdnnhbfkaaGreatDoorPlRd
import Derived.Test.YtcnjbmdnnhbfkaaGreatDoorChW
namespace Go.Proofs.YtcnjbmdnnhbfkaaGreatDoor.Plain
open Go.RowKit Go.Proofs.YtcnjbmdnnhbfkaaGreatDoor.XD Go.Proofs.YtcnjbmdnnhbfkaaGreatDoor.Mark Go.Proofs.YtcnjbmdnnhbfkaaGreatDoor.Ref Go.Proofs.YtcnjbmdnnhbfkaaGreatDoorW.PrintWords Go.Proofs.YtcnjbmdnnhbfkaaGreatDoorW.PrintMore
set_option linter.unusedVariables false

structure Nice (l : List Mark.Piece) : Prop where
 conf : ∀ p ∈ l, p.f0 = true → p.f1 = []
 text : ∀ (j : Nat) p, l[j]? = some p → p.f0 = false → p = ⟨false, p.f1, [], []⟩ ∧ 0 < p.f1.length ∧ ∀ q, l[j + 1]? = some q → q.f0 = true
theorem nice_put {out : List Mark.Piece} {x : Mark.Piece} (h : Nice out) : Nice (putR out x) := by
 have snoc : ∀ z : Mark.Piece, (z.f0 = true → z.f1 = []) → (z.f0 = false → z = ⟨false, z.f1, [], []⟩ ∧ 0 < z.f1.length) → (z.f0 = false → ∀ y, out.getLast? = some y → y.f0 = true) → Nice (out ++ [z]) := fun z h1 h2 h3 => by
  refine ⟨fun p hp hf => ?_, fun j p hj hf => ?_⟩
  ·rcases List.mem_append.1 hp with hp | hp
   ·exact h.conf p hp hf
   ·rw [List.mem_singleton] at hp; subst hp; exact h1 hf
  ·rcases Nat.lt_trichotomy j out.length with hlt | rfl | hgt
   ·rw [List.getElem?_append_left hlt] at hj
    obtain ⟨a, b, c⟩ := h.text j p hj hf
    refine ⟨a, b, fun q hq => ?_⟩
    rcases Nat.lt_or_ge (j + 1) out.length with h4 | h4
    ·rw [List.getElem?_append_left h4] at hq
     exact c q hq
    ·have e : j + 1 = out.length := by omega
     rw [e, List.getElem?_append_right (Nat.le_refl _), Nat.sub_self] at hq
     injection hq with hq
     subst hq
     cases hz : z.f0 with
     | true => rfl
     | false =>
      have hl : out.getLast? = some p := by rw [List.getLast?_eq_getElem?, show out.length - 1 = j by omega]; exact hj
      have := h3 hz p hl
      rw [hf] at this; cases this
   ·rw [List.getElem?_append_right (Nat.le_refl _), Nat.sub_self] at hj
    injection hj with hj
    subst hj
    refine ⟨(h2 hf).1, (h2 hf).2, fun q hq => ?_⟩
    rw [List.getElem?_append_right (by omega), show out.length + 1 - out.length = 1 by omega] at hq
    simp at hq
   ·rw [List.getElem?_append_right (by omega)] at hj
    have : ([z] : List Mark.Piece)[j - out.length]? = none := List.getElem?_eq_none (by simp; omega)
    rw [this] at hj; cases hj
 unfold putR
 split
 ·exact snoc _ (fun _ => rfl) (fun e => (by cases e)) (fun e => (by cases e))
 ·split
  ·exact h
  ·rename_i hne
   have hpos : 0 < x.f1.length := by omega
   split
   ·rename_i hn
    exact snoc _ (fun e => (by cases e)) (fun _ => ⟨rfl, hpos⟩) (fun _ y hy => by rw [hn] at hy; cases hy)
   ·rename_i y hy
    split
    ·rename_i hyt
     exact snoc _ (fun e => (by cases e)) (fun _ => ⟨rfl, hpos⟩) (fun _ z hz => by rw [hy] at hz; injection hz with hz; subst hz; exact hyt)
    ·rename_i hyf
     have hyf : y.f0 = false := by simpa using hyf
     have hl : out[out.length - 1]? = some y := by rw [← List.getLast?_eq_getElem?]; exact hy
     have hlt : out.length - 1 < out.length := (List.getElem?_eq_some_iff.1 hl).1
     obtain ⟨a, b, -⟩ := h.text _ y hl hyf
     have e2 : y.f2 = [] ∧ y.f3 = [] := by rw [a]; exact ⟨rfl, rfl⟩
     refine ⟨fun p hp hf => ?_, fun j p hj hf => ?_⟩
     ·rcases List.mem_or_eq_of_mem_set hp with hp | rfl
      ·exact h.conf p hp hf
      ·rw [hyf] at hf; cases hf
     ·rcases Nat.lt_trichotomy j (out.length - 1) with h1 | rfl | h1
      ·rw [List.getElem?_set_ne (by omega)] at hj
       obtain ⟨c1, c2, c3⟩ := h.text j p hj hf
       refine ⟨c1, c2, fun q hq => ?_⟩
       by_cases h2 : j + 1 = out.length - 1
       ·have := c3 y (by rw [h2]; exact hl)
        rw [hyf] at this; cases this
       ·rw [List.getElem?_set_ne (by omega)] at hq
        exact c3 q hq
      ·rw [List.getElem?_set_self hlt] at hj
       injection hj with hj
       subst hj
       refine ⟨by rw [hyf, e2.1, e2.2], by rw [List.length_append]; omega, fun q hq => ?_⟩
       have := (List.getElem?_eq_some_iff.1 hq).1
       rw [List.length_set] at this
       omega
      ·have := (List.getElem?_eq_some_iff.1 hj).1
       rw [List.length_set] at this
       omega
theorem norm_nice (xs : List Mark.Piece) : Nice (norm xs) := by
 have : ∀ (ys : List Mark.Piece) out, Nice out → Nice (ys.foldl putR out) := by
  intro ys
  induction ys with
  | nil => intro out h; exact h
  | cons x xs ih => intro out h; exact ih _ (nice_put h)
 exact this xs [] ⟨fun p hp => by simp at hp, fun j p hj => by simp at hj⟩
theorem nice_adj : ∀ (l : List Mark.Piece), Nice l → Adj l
 | [], _ => trivial
 | p :: l, h => by
  refine ⟨fun hf => ?_, nice_adj l ⟨fun q hq => h.conf q (by simp [hq]), fun j q hj hf => ?_⟩⟩
  ·obtain ⟨a, b, c⟩ := h.text 0 p rfl hf
   exact ⟨a, b, fun q hq => c q (by rw [List.head?_eq_getElem?] at hq; simpa using hq)⟩
  ·obtain ⟨a, b, c⟩ := h.text (j + 1) q (by simpa using hj) hf
   exact ⟨a, b, fun q2 hq => c q2 (by simpa using hq)⟩
theorem want_of {l : List Mark.Piece} (hN : Nice l) (st : Int) : l.map (wantP st) = if st = 1 then Law.bare l else l := by
 by_cases hs : st = 1
 ·rw [if_pos hs, Law.bare]
  refine List.map_congr_left fun p hp => ?_
  unfold wantP Law.bareP
  cases hf : p.f0 with
  | true => rw [if_pos rfl, if_neg (fun h => h hs), hN.conf p hp hf]
  | false =>
   rw [if_neg (by decide)]
   obtain ⟨j, hj, e⟩ := List.mem_iff_getElem.1 hp
   obtain ⟨a, -, -⟩ := hN.text j p (by rw [List.getElem?_eq_getElem hj, e]) hf
   rw [a]
 ·rw [if_neg hs]
  conv => rhs; rw [← List.map_id l]
  refine List.map_congr_left fun p hp => ?_
  unfold wantP
  cases hf : p.f0 with
  | true =>
   rw [if_pos rfl, if_pos hs]
   have := hN.conf p hp hf
   cases p
   simp only at hf this ⊢
   rw [hf, this]; rfl
  | false => rw [if_neg (by decide)]; rfl

/-! ### a side chosen -/
theorem choose_append (sd : Int) (a b : List Mark.Piece) : chooseL sd (a ++ b) = chooseL sd a ++ chooseL sd b := List.flatMap_append ..
theorem chooseP_text (sd : Int) (a : List ByteArray) (b : List ByteArray) (c : List (List ByteArray)) : chooseP sd ⟨false, a, b, c⟩ = a := rfl
theorem chooseP_conf (sd : Int) (x : Mark.Piece) (h : x.f0 = true) : chooseP sd x = if 1 ≤ sd ∧ sd ≤ x.f3.length then x.f3.getD (sd - 1).toNat [] else [] := if_neg (by rw [h]; decide)
theorem choose_put (sd : Int) (out : List Mark.Piece) (x : Mark.Piece) : chooseL sd (putR out x) = chooseL sd out ++ chooseP sd x := by
  have one : ∀ z : Mark.Piece, chooseL sd [z] = chooseP sd z := fun z => by simp [chooseL]
  unfold putR
  split
  · rename_i h
    rw [choose_append, one, chooseP_conf sd x h, chooseP_conf sd ⟨true, [], x.f2, x.f3⟩ rfl]
  · rename_i h
    have hf : x.f0 = false := by simpa using h
    have ex : chooseP sd x = x.f1 := if_pos hf
    rw [ex]
    split
    · rename_i h0
      rw [List.length_eq_zero_iff.1 h0, List.append_nil]
    · split
      · rw [choose_append, one]; rfl
      · rename_i y hy
        split
        · rw [choose_append, one]; rfl
        · rename_i hyf
          have hyf : y.f0 = false := by simpa using hyf
          obtain ⟨init, rfl⟩ : ∃ init, out = init ++ [y] := by
            obtain ⟨init, z, rfl⟩ := List.eq_nil_or_concat out |>.resolve_left (fun e => by rw [e] at hy; cases hy)
            simp at hy
            exact ⟨init, by rw [← hy]; simp⟩
          have hset : (init ++ [y]).set ((init ++ [y]).length - 1) ⟨y.f0, y.f1 ++ x.f1, y.f2, y.f3⟩ = init ++ [⟨y.f0, y.f1 ++ x.f1, y.f2, y.f3⟩] := by
            rw [List.length_append, List.length_cons, List.length_nil, Nat.zero_add, Nat.add_sub_cancel, List.set_append_right _ _ (Nat.le_refl _), Nat.sub_self]
            rfl
          rw [hset, choose_append, choose_append, one, one, List.append_assoc]
          congr 1
          unfold chooseP
          rw [if_pos hyf, if_pos hyf]
theorem choose_norm (sd : Int) (xs : List Mark.Piece) : chooseL sd (norm xs) = chooseL sd xs := by
  have : ∀ (ys out : List Mark.Piece), chooseL sd (ys.foldl putR out) = chooseL sd out ++ chooseL sd ys := by
    intro ys
    induction ys with
    | nil => intro out; simp [chooseL]
    | cons y ys ih =>
      intro out
      rw [List.foldl_cons, ih, choose_put, List.append_assoc]
      congr 1
  have h := this xs []
  simpa [chooseL, norm] using h
theorem choose_bare (sd : Int) (l : List Mark.Piece) : chooseL sd (Law.bare l) = chooseL sd l := by
  unfold chooseL Law.bare
  rw [List.flatMap_map]
  rfl
theorem alike_good {f : List ByteArray → Nat → ByteArray} {l : List (List ByteArray)} {j : Nat} (h : j < alike f l) {k : List ByteArray} (hk : k ∈ l) : f k j = f (l.headD []) j := by
  unfold alike at h
  have h1 : ((List.range (least l)).takeWhile (good f l))[j] = j := by
    have := (List.takeWhile_prefix (good f l) (l := List.range (least l))).getElem h
    rw [this, List.getElem_range]
  have h2 := List.all_eq_true.1 (List.all_takeWhile (p := good f l) (l := List.range (least l))) _ (List.getElem_mem h)
  rw [h1] at h2
  unfold good at h2
  rw [Bool.not_eq_true', List.any_eq_false] at h2
  have h3 := h2 k hk
  simp only [Bool.not_eq_true', Bool.not_eq_false, beq_iff_eq] at h3
  exact toList_inj.1 h3
/-- The sides are alike ahead .. -/
theorem alike_head (l : List (List ByteArray)) (k : List ByteArray) (hk : k ∈ l) : k.take (alike atA l) = (l.headD []).take (alike atA l) := by
  have h1 : alike atA l ≤ k.length := alike_fit atA hk
  have h2 : alike atA l ≤ (l.headD []).length := alike_fit atA (headD_mem (List.length_pos_of_mem hk))
  apply List.ext_getElem
  · rw [List.length_take, List.length_take]; omega
  · intro j h3 h4
    rw [List.length_take] at h3
    have hj : j < alike atA l := by omega
    have := alike_good hj hk
    unfold atA at this
    rw [List.getD_eq_getElem?_getD, List.getD_eq_getElem?_getD, List.getElem?_eq_getElem (by omega), List.getElem?_eq_getElem (by omega)] at this
    rw [List.getElem_take, List.getElem_take]
    exact this
/-- .. and behind. -/
theorem alike_tail (l : List (List ByteArray)) (k : List ByteArray) (hk : k ∈ l) : k.drop (k.length - alike atB l) = (l.headD []).drop ((l.headD []).length - alike atB l) := by
  have h1 : alike atB l ≤ k.length := alike_fit atB hk
  have h2 : alike atB l ≤ (l.headD []).length := alike_fit atB (headD_mem (List.length_pos_of_mem hk))
  apply List.ext_getElem
  · rw [List.length_drop, List.length_drop]; omega
  · intro j h3 h4
    rw [List.length_drop] at h3 h4
    have hj : alike atB l - 1 - j < alike atB l := by omega
    have e1 : k.length - 1 - (alike atB l - 1 - j) = k.length - alike atB l + j := by omega
    have e2 : (l.headD []).length - 1 - (alike atB l - 1 - j) = (l.headD []).length - alike atB l + j := by omega
    have := alike_good hj hk
    unfold atB at this
    rw [show k.length - 1 - (alike (fun l i => l.getD (l.length - 1 - i) ByteArray.empty) l - 1 - j) = k.length - alike atB l + j from e1, show (l.headD []).length - 1 - (alike (fun l i => l.getD (l.length - 1 - i) ByteArray.empty) l - 1 - j) = (l.headD []).length - alike atB l + j from e2] at this
    rw [List.getD_eq_getElem?_getD, List.getD_eq_getElem?_getD, List.getElem?_eq_getElem (by omega), List.getElem?_eq_getElem (by omega)] at this
    rw [List.getElem_drop, List.getElem_drop]
    exact this
theorem chooseP_side (sd : Int) (p : Mark.Piece) (hf : p.f0 = true) (h1 : 1 ≤ sd) (h2 : sd ≤ p.f3.length) : chooseP sd p = p.f3.getD (sd - 1).toNat [] := by
  rw [chooseP, if_neg (by rw [hf]; decide), if_pos ⟨h1, h2⟩]
theorem choose_trim (sd : Int) (h1 : 1 ≤ sd) (p : Mark.Piece) (hp : p.f0 = true → sd ≤ p.f3.length) : chooseL sd (trim p) = chooseP sd p := by
  have one : ∀ z : Mark.Piece, chooseL sd [z] = chooseP sd z := fun z => by simp [chooseL]
  unfold trim
  split
  · rw [choose_norm, one]
  · rename_i hc
    have hf : p.f0 = true := by cases h : p.f0 with | true => rfl | false => exact absurd (.inl h) hc
    have hsd := hp hf
    have hn : (sd - 1).toNat < p.f3.length := by omega
    obtain ⟨k, hk⟩ : ∃ k, p.f3[(sd - 1).toNat] = k := ⟨_, rfl⟩
    have hkm : k ∈ p.f3 := by rw [← hk]; exact List.getElem_mem hn
    have hkd : p.f3.getD (sd - 1).toNat [] = k := by rw [List.getD_eq_getElem?_getD, List.getElem?_eq_getElem hn, hk]; rfl
    rw [chooseP_side sd p hf h1 hsd, hkd]
    have hA : k.take (Mark.ahead p) = (first p).take (Mark.ahead p) := alike_head p.f3 k hkm
    have hAk : Mark.ahead p ≤ k.length := alike_fit atA hkm
    have hAf : Mark.ahead p ≤ (first p).length := alike_fit atA (headD_mem (List.length_pos_of_mem hkm))
    have hdrop : ∀ x : List ByteArray, midL x (Mark.ahead p) 0 = x.drop (Mark.ahead p) := fun x => by rw [midL, Nat.sub_zero, List.take_length]
    have hrm : k.drop (Mark.ahead p) ∈ rest p := List.mem_map.2 ⟨k, hkm, hdrop k⟩
    have hrh : (rest p).headD [] = (first p).drop (Mark.ahead p) := by
      rw [show (rest p).headD [] = midL (first p) (Mark.ahead p) 0 from cutL_head (List.length_pos_of_mem hkm) _ _, hdrop]
    unfold trimC
    split
    · rw [choose_norm]
      have hB : (k.drop (Mark.ahead p)).drop ((k.drop (Mark.ahead p)).length - Mark.behind p) = (first p).drop ((first p).length - Mark.behind p) := by
        have h := alike_tail (rest p) _ hrm
        rw [hrh] at h
        have hb : Mark.behind p ≤ ((rest p).headD []).length := alike_fit atB (headD_mem (List.length_pos_of_mem hrm))
        rw [hrh, List.length_drop] at hb
        refine h.trans ?_
        rw [List.drop_drop, List.length_drop]
        congr 1
        show Mark.ahead p + ((first p).length - Mark.ahead p - Mark.behind p) = (first p).length - Mark.behind p
        omega
      have hm2 : (midP p).f3.getD (sd - 1).toNat [] = (k.drop (Mark.ahead p)).take ((k.drop (Mark.ahead p)).length - Mark.behind p) := by
        show (cutL (rest p) 0 (Mark.behind p)).getD (sd - 1).toNat [] = _
        have hl : (sd - 1).toNat < (cutL (rest p) 0 (Mark.behind p)).length := by rw [cutL_length, rest, cutL_length]; exact hn
        rw [List.getD_eq_getElem?_getD, List.getElem?_eq_getElem hl]
        simp only [Option.getD_some, cutL, rest, List.getElem_map, hk, hdrop]
        rw [midL, List.drop_zero]
      have hmid : chooseP sd (midP p) = (midP p).f3.getD (sd - 1).toNat [] := chooseP_side sd (midP p) rfl h1 (by
        show sd ≤ ((cutL (rest p) 0 (Mark.behind p)).length : Int)
        rw [cutL_length, rest, cutL_length]; exact hsd)
      show chooseL sd ([textA p] ++ ([midP p] ++ [textB p])) = k
      rw [choose_append, choose_append, one, one, one, hmid, hm2, show chooseP sd (textA p) = (first p).take (Mark.ahead p) from rfl, show chooseP sd (textB p) = (first p).drop ((first p).length - Mark.behind p) from rfl, ← hA, ← hB, List.take_append_drop, List.take_append_drop]
    · rename_i hno
      rw [choose_norm, one, show chooseP sd (textA p) = (first p).take (Mark.ahead p) from rfl, ← hA]
      have h0 : k.drop (Mark.ahead p) = [] := by
        have := List.any_eq_false.1 ((Bool.not_eq_true _).mp hno) _ hrm
        exact List.length_eq_zero_iff.1 (by simpa using this)
      rw [List.take_of_length_le (by have := congrArg List.length h0; rw [List.length_drop, List.length_nil] at this; omega)]
theorem choose_zeal (sd : Int) (h1 : 1 ≤ sd) (l : List Mark.Piece) (h : ∀ p ∈ l, p.f0 = true → sd ≤ p.f3.length) : chooseL sd (zeal l) = chooseL sd l := by
  rw [zeal, choose_norm]
  induction l with
  | nil => rfl
  | cons p l ih =>
    rw [List.flatMap_cons, choose_append, ih (fun q hq => h q (by simp [hq])), choose_trim sd h1 p (h p (by simp))]
    rfl
theorem choose_tot (sd : Int) (l : List Mark.Piece) : (chooseL sd l).length ≤ tot l := by
  induction l with
  | nil => exact Nat.zero_le _
  | cons p l ih =>
    have h1 : (chooseP sd p).length ≤ szP p := by
      unfold chooseP szP
      split
      · omega
      · split
        · rename_i hs
          have hn : (sd - 1).toNat < p.f3.length := by omega
          have := mem_flat_le (List.getElem_mem hn)
          rw [List.getD_eq_getElem?_getD, List.getElem?_eq_getElem hn]
          simp only [Option.getD_some]
          omega
        · exact Nat.zero_le _
    have h2 : chooseL sd (p :: l) = chooseP sd p ++ chooseL sd l := rfl
    have h3 : tot (p :: l) = szP p + tot l := by simp [tot]
    rw [h2, h3, List.length_append]
    omega

/-! ### the reference's -/
theorem choose_in (l : List Mark.Piece) (sd : Int) (h1 : 1 ≤ sd) (h6 : sd ≤ 6) (p : Mark.Piece) (suf pre : List Mark.Piece) (e : l = pre ++ p :: suf) (hl : l.length ≤ 20000) (hf : p.f0 = true) (hp3 : p.f3.length ≤ 20000) (B : Nat) (hB : ∀ t ∈ p.f3, t.length ≤ B) (hB2 : B ≤ 1000000) (r : List ByteArray) (fin : List ByteArray) (hfin : Ev (fun k => sennitref07_Choose.l0 k l sd fin (((pre.length + 1 : Nat) : Int))) r) :
    ∀ (d j : Nat) (acc : List ByteArray), j + d = p.f3.length → acc.length ≤ 1000000 → (acc ++ (if (j : Int) ≤ sd - 1 ∧ sd ≤ p.f3.length then p.f3.getD (sd - 1).toNat [] else [])) = fin → Ev (fun k => sennitref07_Choose.l1 k l sd acc (pre.length : Int) (j : Int)) r
  | 0, j, acc, hj, ha, hacc => by
    have hlt : (pre.length : Int) < (l.length : Int) := by subst e; simp; omega
    have hrd : rd_T36 l (pre.length : Int) = p := by subst e; exact rdT_mid pre suf p
    rw [if_neg (by omega), List.append_nil] at hacc
    subst hacc
    refine Ev.step (fun k => by simp only [sennitref07_Choose.l1]; rw [if_pos (by omega), if_pos hlt, hrd, if_pos hf, decide_eq_false (show ¬ (j : Int) < (p.f3.length : Int) by omega)]) ?_
    refine Ev.step (fun k => by simp only [sennitref07_Choose.j3]; rw [if_neg (by decide), wrap_nat _ (by unfold M; omega)]) ?_
    exact hfin
  | d + 1, j, acc, hj, ha, hacc => by
    have hlt : (pre.length : Int) < (l.length : Int) := by subst e; simp; omega
    have hrd : rd_T36 l (pre.length : Int) = p := by subst e; exact rdT_mid pre suf p
    have hjl : j < p.f3.length := by omega
    have hw : wrap64 (sd - 1) = sd - 1 := by unfold wrap64; omega
    refine Ev.step (fun k => by simp only [sennitref07_Choose.l1]; rw [if_pos (by omega), if_pos hlt, hrd, if_pos hf, decide_eq_true (show (j : Int) < (p.f3.length : Int) by omega)]) ?_
    by_cases hj1 : (j : Int) = sd - 1
    · have hx : rd_L2 p.f3 (j : Int) = p.f3[j] := by simp [rd_L2, List.getD_eq_getElem?_getD, hjl]
      have hxl := hB _ (List.getElem_mem hjl)
      rw [if_pos ⟨by omega, by omega⟩, show (sd - 1).toNat = j by omega, List.getD_eq_getElem?_getD, List.getElem?_eq_getElem hjl] at hacc
      simp only [Option.getD_some] at hacc
      refine Ev.step (fun k => by simp only [sennitref07_Choose.j3]; rw [if_pos trivial, hw, if_pos hj1, if_pos (by omega), if_pos hlt, if_pos (by omega), hrd, if_pos (by omega), hx, if_pos (by omega), wrap_nat _ (by unfold M; omega)]) ?_
      -- what is behind adds nothing
      have last : ∀ (d j : Nat), j + d = p.f3.length → sd - 1 < (j : Int) → Ev (fun k => sennitref07_Choose.l1 k l sd fin (pre.length : Int) (j : Int)) r := by
        intro d
        induction d with
        | zero =>
          intro j hj _
          refine Ev.step (fun k => by simp only [sennitref07_Choose.l1]; rw [if_pos (by omega), if_pos hlt, hrd, if_pos hf, decide_eq_false (show ¬ (j : Int) < (p.f3.length : Int) by omega)]) ?_
          refine Ev.step (fun k => by simp only [sennitref07_Choose.j3]; rw [if_neg (by decide), wrap_nat _ (by unfold M; omega)]) ?_
          exact hfin
        | succ d ih =>
          intro j hj hjs
          refine Ev.step (fun k => by simp only [sennitref07_Choose.l1]; rw [if_pos (by omega), if_pos hlt, hrd, if_pos hf, decide_eq_true (show (j : Int) < (p.f3.length : Int) by omega)]) ?_
          refine Ev.step (fun k => by simp only [sennitref07_Choose.j3]; rw [if_pos trivial, hw, if_neg (by omega), wrap_nat _ (by unfold M; omega)]) ?_
          exact ih (j + 1) (by omega) (by omega)
      rw [hacc]
      exact last d (j + 1) (by omega) (by omega)
    · refine Ev.step (fun k => by simp only [sennitref07_Choose.j3]; rw [if_pos trivial, hw, if_neg hj1, wrap_nat _ (by unfold M; omega)]) ?_
      refine choose_in l sd h1 h6 p suf pre e hl hf hp3 B hB hB2 r fin hfin d (j + 1) acc (by omega) ha ?_
      rw [← hacc]
      congr 1
      by_cases h : (j : Int) ≤ sd - 1 ∧ sd ≤ p.f3.length
      · rw [if_pos h, if_pos ⟨by omega, h.2⟩]
      · rw [if_neg h, if_neg (fun h2 => h ⟨by omega, h2.2⟩)]
theorem choose_gen (l : List Mark.Piece) (hl : l.length ≤ 20000) (ht : tot l ≤ 20000) (sd : Int) (h1 : 1 ≤ sd) (h6 : sd ≤ 6) : ∀ (suf pre : List Mark.Piece), l = pre ++ suf → Ev (fun k => sennitref07_Choose.l0 k l sd (chooseL sd pre) (pre.length : Int)) (chooseL sd l)
  | [], pre, e => by
    have e2 : l = pre := by rw [e]; simp
    rw [← e2]
    exact Ev.step (fun k => by simp only [sennitref07_Choose.l0]; rw [if_neg (by omega)]) (Ev.now _)
  | p :: suf, pre, e => by
    have hlt : (pre.length : Int) < (l.length : Int) := by subst e; simp; omega
    have hrd : rd_T36 l (pre.length : Int) = p := by subst e; exact rdT_mid pre suf p
    have ih := choose_gen l hl ht sd h1 h6 suf (pre ++ [p]) (by simp [e])
    have e2 : chooseL sd (pre ++ [p]) = chooseL sd pre ++ chooseP sd p := by rw [choose_append]; simp [chooseL]
    have e3 : (((pre ++ [p]).length : Nat) : Int) = ((pre.length + 1 : Nat) : Int) := by simp
    rw [e2, e3] at ih
    have h2 : tot pre + szP p ≤ tot l := by
      subst e
      simp only [tot_append]
      simp only [tot, List.map_cons, List.sum_cons]
      omega
    have h3 := choose_tot sd pre
    have h4 : p.f1.length ≤ szP p := by simp only [szP]; omega
    cases hf : p.f0 with
    | false =>
      have ex : chooseP sd p = p.f1 := if_pos hf
      rw [ex] at ih
      refine Ev.step (fun k => by simp only [sennitref07_Choose.l0]; rw [if_pos hlt, if_pos (by omega), hrd, if_neg (by rw [hf]; decide), if_pos (by omega)]) ?_
      refine Ev.step (f := fun k => sennitref07_Choose.l1 k l sd (chooseL sd pre ++ p.f1) (pre.length : Int) 0) (fun k => by simp only [sennitref07_Choose.j1]) ?_
      refine Ev.step (fun k => by simp only [sennitref07_Choose.l1]; rw [if_pos (by omega), if_pos hlt, hrd, if_neg (by rw [hf]; decide)]) ?_
      refine Ev.step (fun k => by simp only [sennitref07_Choose.j3]; rw [if_neg (by decide), wrap_nat _ (by unfold M; omega)]) ?_
      exact ih
    | true =>
      have hfl : ∀ t ∈ p.f3, t.length ≤ 20000 := fun t ht2 => by have := mem_flat_le ht2; simp only [szP] at h2; omega
      have hp3 : p.f3.length ≤ 20000 := by simp only [szP] at h2; omega
      refine Ev.step (fun k => by simp only [sennitref07_Choose.l0]; rw [if_pos hlt, if_pos (by omega), hrd, if_pos hf]) ?_
      refine Ev.step (f := fun k => sennitref07_Choose.l1 k l sd (chooseL sd pre) (pre.length : Int) 0) (fun k => by simp only [sennitref07_Choose.j1]) ?_
      refine choose_in l sd h1 h6 p suf pre e hl hf hp3 20000 hfl (by omega) _ _ ih p.f3.length 0 (chooseL sd pre) (by omega) (by omega) ?_
      congr 1
      rw [chooseP_conf sd p hf]
      by_cases h : sd ≤ p.f3.length
      · rw [if_pos ⟨by omega, h⟩, if_pos ⟨h1, h⟩]
      · rw [if_neg (fun h2 => h h2.2), if_neg (fun h2 => h h2.2)]

theorem UnmarkChoose (l : List Mark.Piece) (st n0 n1 : Int) (h : l.length ≤ M ∧ ∀ p ∈ l, InP p) (h0 : 0 ≤ n0) (h1 : 0 ≤ n1) :
    ∃ k m, sennitref12_May.f k l st (1 + n0 % 12) = some m ∧ (m = true → manyB (1 + n1 % 6) l = true → ∃ (b : List ByteArray) (e0 : Int) (p : List S36) (s n : Int) (c1 : List ByteArray), mark_Print.f l st (1 + n0 % 12) = some (b, e0) ∧ Unmark.unmark_Parse.f b (1 + n0 % 12) = some (p, s, n, 0) ∧ pick_Choose.f p (1 + n1 % 6) = some c1 ∧ sennitref07_Choose.f k l (1 + n1 % 6) = some c1) := by
  obtain ⟨lg, hlg⟩ : ∃ lg, 1 + n0 % 12 = lg := ⟨_, rfl⟩
  obtain ⟨sd, hsd⟩ : ∃ sd, 1 + n1 % 6 = sd := ⟨_, rfl⟩
  rw [hlg, hsd]
  have hs1 : 1 ≤ sd := by omega
  have hs6 : sd ≤ 6 := by omega
  obtain ⟨m, ⟨k1, hm⟩, hq⟩ := may12_ev l st lg h.1 (len_in h.2)
  cases m with
  | false => exact ⟨k1, false, hm k1 (Nat.le_refl _), fun e => by cases e⟩
  | true =>
    obtain ⟨⟨f1, f2⟩, h40, hw⟩ := hq rfl
    obtain ⟨o1, o2⟩ := few_okay f1 f2
    obtain ⟨⟨g1, g2, g3, g4, g5⟩, ⟨g6, g7⟩, g8⟩ := (Law.wrong_iff _ _ _ _).1 hw
    have hsm : smallOf l st = l ∨ smallOf l st = zeal l := by
      unfold smallOf
      split
      · exact .inr rfl
      · exact .inl rfl
    have hfit := (Law.fits_ok g3).1 g8
    have hcr := (Law.crowd_iff _).1 g5
    have facts : Okay (smallOf l st) ∧ (∀ p ∈ smallOf l st, Law.Conf Law.FewSides p) ∧ (∀ p ∈ smallOf l st, ∀ t ∈ textsL p, ∀ s ∈ t, (Size.runN s : Int) < lg) ∧ (∀ p ∈ smallOf l st, ∀ t ∈ textsL p, ∀ s ∈ t, s.size ≤ 100) := by
      rcases hsm with e | e <;> rw [e]
      · exact ⟨o1, hcr, hfit, few_texts f2⟩
      · exact ⟨o2, Law.zeal_conf hcr, Law.zeal_all hfit, Law.zeal_all (few_texts f2)⟩
    obtain ⟨oS, cS, rS, zS⟩ := facts
    obtain ⟨n1', n2', n3'⟩ := (odd_iff _).1 g7
    have nice : Nice (smallOf l st) := by rw [← n1']; exact norm_nice _
    clear hlg
    obtain ⟨L, hL⟩ : ∃ L : Nat, lg = (L : Int) := ⟨lg.toNat, by omega⟩
    subst hL
    have tx : ∀ p ∈ smallOf l st, Tx (L : Int) p := fun p hp => ⟨fun t ht => n2' t (by rw [lists, List.mem_flatMap]; exact ⟨p, hp, ht⟩), rS p hp, zS p hp⟩
    have txc : ∀ p ∈ smallOf l st, Tx (L : Int) p ∧ Law.Conf Law.FewSides p := fun p hp => ⟨tx p hp, cS p hp⟩
    obtain ⟨-, -, gg3⟩ := page_news (st := st) (n := L) ⟨by omega, by omega⟩ rfl (smallOf l st) [] txc n3' (fun s hs => by simp at hs)
    have hpar := parse_page (by omega) (by omega) st (smallOf l st) txc n3' (nice_adj _ nice)
    rw [want_of nice] at hpar
    have hpr : printL l st (L : Int) = (pageTo st L (smallOf l st), 0) := by rw [printL, if_pos hw, Int.toNat_natCast]
    have hlen : (pageTo st L (smallOf l st)).length ≤ 100000 := by
      have q := pageTo_len st L (smallOf l st) (smallOf l st).length
      rw [List.take_length] at q
      have := oS.1
      omega
    have hpf : Unmark.unmark_Parse.f (pageTo st L (smallOf l st)) (L : Int) = some (Unmark.parseP (pageTo st L (smallOf l st)) (L : Int)) := if_pos ⟨hlen, fun s hs => by have := gg3 s hs; omega⟩
    rw [hpar] at hpf
    obtain ⟨k2, hc⟩ := choose_gen l o1.1.1 o1.1.2 sd hs1 hs6 l [] rfl
    refine ⟨max k1 k2, true, hm _ (Nat.le_max_left _ _), fun _ hmany => ?_⟩
    have hall : ∀ p ∈ l, p.f0 = true → sd ≤ p.f3.length := fun p hp hf => by
      have := List.all_eq_true.1 hmany p hp
      rw [hf] at this
      simpa using this
    have hsame : chooseL sd (if st = 1 then Law.bare (smallOf l st) else smallOf l st) = chooseL sd l := by
      have e : chooseL sd (smallOf l st) = chooseL sd l := by
        rcases hsm with e | e <;> rw [e]
        exact choose_zeal sd hs1 l hall
      split
      · rw [choose_bare, e]
      · exact e
    refine ⟨_, _, _, _, _, chooseL sd l, (print_f l st (L : Int) o1).trans (by rw [hpr]), hpf, ?_, hc _ (Nat.le_max_right _ _)⟩
    unfold pick_Choose.f
    rw [hsame, if_pos (by have := choose_tot sd l; have := o1.1.2; omega)]
#print axioms UnmarkChoose
end Go.Proofs.YtcnjbmdnnhbfkaaGreatDoor.Plain
