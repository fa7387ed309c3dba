import Derived.Test.YtcnjbmdnnhbfkaaDoorR13P
/- What sennitref13.Parse tells is what the program's reader tells. -/
namespace Go.Proofs.YtcnjbmdnnhbfkaaDoor.Plain
open Go.RowKit Go.Proofs.YtcnjbmdnnhbfkaaDoor.XQ Go.Proofs.YtcnjbmdnnhbfkaaDoor.Size Go.Proofs.YtcnjbmdnnhbfkaaDoor.Unmark Go.Proofs.YtcnjbmdnnhbfkaaDoor.Ref13 Go.Proofs.YtcnjbmdnnhbfkaaDoorW.PrintWords Go.Proofs.YtcnjbmdnnhbfkaaDoorW.PrintMore
/-! ### lines -/
theorem split_ten (a : List UInt8) (h : (10 : UInt8) ∈ a) : ∃ b c, a = b ++ 10 :: c ∧ (10 : UInt8) ∉ b := by
  induction a with
  | nil => simp at h
  | cons x t ih =>
    by_cases hx : x = 10
    · exact ⟨[], t, by simp [hx], by simp⟩
    · have : (10 : UInt8) ∈ t := by
        rcases List.mem_cons.1 h with e | h
        · exact absurd e.symm hx
        · exact h
      obtain ⟨b, c, e, hb⟩ := ih this
      exact ⟨x :: b, c, by simp [e], by simp [hb]; exact fun e => hx e.symm⟩
theorem index_split (b c : List UInt8) (h : (10 : UInt8) ∉ b) : Lib.indexByte (b ++ 10 :: c) 10 = b.length := by
  induction b with
  | nil => simp [Lib.indexByte]
  | cons x t ih =>
    simp only [List.mem_cons, not_or] at h
    have : (x == 10) = false := by simpa using fun e => h.1 e.symm
    rw [List.cons_append, Lib.indexByte, ih h.2, this]
    simp
theorem may_open (s : ByteArray) : (oneMay s && !oneOpen s) = lineB s ∧ (oneMay s && oneOpen s) = openB s := by
  have hz : s.data.toList.length = s.size := rfl
  by_cases hl : lineB s = true
  · obtain ⟨h1, h2⟩ := (lineB_ended hl).may
    refine ⟨by rw [h1, h2, hl]; rfl, ?_⟩
    rw [h1, h2, Bool.and_false]
    cases ho : openB s with
    | false => rfl
    | true =>
      have := (openB_may ho).2
      rw [h2] at this
      cases this
  · by_cases ho : openB s = true
    · obtain ⟨h1, h2⟩ := openB_may ho
      rw [h1, h2, ho]
      exact ⟨by simpa using hl, rfl⟩
    · have hno : oneMay s = false := by
        by_cases hm : (10 : UInt8) ∈ s.data.toList
        · obtain ⟨b, c, e, hb⟩ := split_ten _ hm
          have hi := index_split b c hb
          rw [← e] at hi
          unfold oneMay
          rw [hi, if_neg (by omega)]
          refine decide_eq_false (fun h => hl ?_)
          have hlen : s.size = b.length + 1 + c.length := by rw [← hz, e]; simp; omega
          have hc : c = [] := List.length_eq_zero_iff.1 (by omega)
          subst hc
          unfold lineB
          have h1 : cnt s = 1 := by unfold cnt; rw [e, List.count_append, List.count_eq_zero.2 hb]; simp
          rw [h1, decide_eq_true rfl, Bool.true_and, beq_iff_eq]
          have hbl : b.length < s.size := by omega
          have h4 := drop_at s b.length hbl
          have h5 : (s.data.toList.drop b.length).head? = some 10 := by rw [List.head?_drop, e]; simp
          rw [h4] at h5
          have := (bt_ten s b.length hbl).2 (by simpa using h5)
          rw [show (b.length : Int) = (s.size : Int) - 1 by simp at hlen; omega] at this
          exact this
        · unfold oneMay
          rw [indexByte_none _ hm, if_pos (by decide)]
          refine decide_eq_false (fun h => ho ?_)
          unfold openB cnt
          rw [List.count_eq_zero.2 hm]
          simpa using h
      rw [hno]
      exact ⟨by simpa using hl, by simpa using ho⟩
theorem lineOk_conf (n i : Nat) (σ : Rd) (s : ByteArray) (h : σ.conf = true) : lineOk n i σ s = lineB s := by
  rw [lineOk, h, Bool.not_true, Bool.and_false, Bool.or_false, (may_open s).1]
theorem lineOk_free (n i : Nat) (σ : Rd) (s : ByteArray) (h : σ.conf = false) : lineOk n i σ s = ((decide (i + 1 = n) && openB s) || lineB s) := by
  have e : decide ((i : Int) = (n : Int) - 1) = decide (i + 1 = n) := decide_eq_decide.2 (by omega)
  obtain ⟨h1, h2⟩ := may_open s
  rw [lineOk, h, e, Bool.not_false, Bool.and_true, ← h1, ← h2]
  cases oneMay s <;> cases oneOpen s <;> cases decide (i + 1 = n) <;> rfl
theorem mark_mk (σ : Rd) (s : ByteArray) : markOf σ s = mk (σ.long : Int) s := rfl
theorem trim_line {s : ByteArray} (h : lineB s = true) : trimB s = s.extract 0 (s.size - 1) := by
  obtain ⟨a, e, hn⟩ := lineB_ended h
  have hz : s.size = a.length + 1 := by have z : s.data.toList.length = s.size := rfl; rw [← z, e]; simp
  apply ByteArray.ext
  apply Array.ext'
  unfold trimB
  rw [e]
  have h1 : Lib.trimSuffix (a ++ [10]) [10] = a := by
    unfold Lib.trimSuffix
    rw [if_pos (suffix_end a)]
    simp
  rw [h1]
  simp [ByteArray.data_extract, hz, e]
/-! ### runs of lines -/
theorem goP_run (N : Nat) (L : Nat) : ∀ (a rest : List ByteArray) (i : Nat) (σ : Rd), σ.inn = true → σ.conf = true → σ.long = L → (∀ s ∈ a, lineB s = true ∧ mk (L : Int) s = false) → goP N (a ++ rest) i σ = goP N rest (i + a.length) { σ with part := σ.part ++ a }
  | [], rest, i, σ, _, _, _, _ => by simp
  | s :: a, rest, i, σ, h1, h2, h3, h4 => by
    obtain ⟨hl, hk⟩ := h4 s (by simp)
    have hf : feed1 N i σ s = some { σ with part := σ.part ++ [s] } := by
      have hm : markOf σ s = false := by rw [mark_mk, h3]; exact hk
      rw [feed1, lineOk_conf _ _ _ _ h2, hl, if_pos rfl, if_pos h1, hm]
      rfl
    rw [List.cons_append, goP, hf]
    have := goP_run N L a rest (i + 1) { σ with part := σ.part ++ [s] } h1 h2 h3 (fun x hx => h4 x (by simp [hx]))
    simp only [this, List.length_cons, List.append_assoc, List.singleton_append]
    rw [show i + 1 + a.length = i + (a.length + 1) by omega]
theorem stop_run (K : Int) : ∀ l : List ByteArray, ∀ s ∈ l.take (stopN K l), lineB s = true ∧ mk K s = false
  | [], s, h => by simp at h
  | x :: t, s, h => by
    unfold stopN at h
    split at h
    · rename_i hc
      rw [List.take_succ_cons] at h
      rcases List.mem_cons.1 h with rfl | h
      · simpa using hc
      · exact stop_run K t s h
    · simp at h
theorem stop_at (K : Int) : ∀ (l : List ByteArray) (s : ByteArray) (r : List ByteArray), l.drop (stopN K l) = s :: r → lineB s = true → mk K s = true
  | [], s, r, h, _ => by simp at h
  | x :: t, s, r, h, hb => by
    unfold stopN at h
    split at h
    · rw [List.drop_succ_cons] at h
      exact stop_at K t s r h hb
    · rename_i hc
      rw [List.drop_zero] at h
      injection h with h1 h2
      subst h1
      rw [hb] at hc
      simpa using hc
theorem goP_out (N : Nat) (L : Nat) : ∀ (l : List ByteArray) (i : Nat) (σ : Rd), σ.inn = false → σ.conf = false → σ.long = L → i + l.length = N →
    goP N l i σ = if (outN (L : Int) l).2 = true then .error (i + (outN (L : Int) l).1) else goP N (l.drop (outN (L : Int) l).1) (i + (outN (L : Int) l).1) { σ with text := σ.text ++ l.take (outN (L : Int) l).1 }
  | [], i, σ, _, _, _, _ => by simp [outN, goP]
  | s :: t, i, σ, h1, h2, h3, h4 => by
    have hd : decide (i + 1 = N) = t.isEmpty := by
      cases t with
      | nil => simp at h4; simp [h4]
      | cons x t => simp at h4; simp; omega
    cases hk : mk (L : Int) s
    · cases ho : (t.isEmpty && openB s) || lineB s
      · have e : outN (L : Int) (s :: t) = (0, true) := by rw [outN, hk, if_neg (by decide), ho, if_neg (by decide)]
        have hf : feed1 N i σ s = none := by rw [feed1, lineOk_free _ _ _ _ h2, hd, ho, if_neg (by decide)]
        rw [e, goP, hf]
        rfl
      · have e : outN (L : Int) (s :: t) = ((outN (L : Int) t).1 + 1, (outN (L : Int) t).2) := by rw [outN, hk, if_neg (by decide), ho, if_pos rfl]
        have hf : feed1 N i σ s = some { σ with text := σ.text ++ [s] } := by
          have hm : markOf σ s = false := by rw [mark_mk, h3]; exact hk
          rw [feed1, lineOk_free _ _ _ _ h2, hd, ho, if_pos rfl, if_neg (by rw [h1]; decide), hm]
          rfl
        rw [e, goP, hf]
        have := goP_out N L t (i + 1) { σ with text := σ.text ++ [s] } h1 h2 h3 (by simp at h4; omega)
        simp only [this]
        rw [show i + 1 + (outN (L : Int) t).1 = i + ((outN (L : Int) t).1 + 1) by omega]
        simp
    · have e : outN (L : Int) (s :: t) = (0, false) := by rw [outN, hk, if_pos rfl]
      rw [e]
      simp
theorem out_at (K : Int) : ∀ (l : List ByteArray) (s : ByteArray) (r : List ByteArray), (outN K l).2 = false → l.drop (outN K l).1 = s :: r → mk K s = true
  | [], s, r, _, h => by simp at h
  | x :: t, s, r, h0, h => by
    unfold outN at h0 h
    split at h
    · rename_i hc
      rw [List.drop_zero] at h
      injection h with h1 h2
      subst h1
      exact hc
    · rename_i hc
      rw [if_neg hc] at h0
      split at h
      · rename_i hc2
        rw [if_pos hc2] at h0
        rw [List.drop_succ_cons] at h
        exact out_at K t s r h0 h
      · rename_i hc2
        rw [if_neg hc2] at h0
        cases h0
/-! ### a mark in a conflict -/
theorem eqS_iff (a b : ByteArray) : eqS a b = true ↔ a = b := by
  unfold eqS
  rw [beq_iff_eq, ByteArray.toList_eq, ByteArray.toList_eq]
  exact ⟨fun h => ByteArray.ext (Array.ext' h), fun h => by rw [h]⟩
theorem mkM_list (c : UInt8) (L : Nat) (m label : ByteArray) : (mkM ⟨#[c]⟩ L m label).data.toList = List.replicate L c ++ m.data.toList ++ label.data.toList ++ [10] := by
  unfold mkM
  rw [ByteArray.data_append, Array.toList_append, ByteArray.data_append, Array.toList_append, ByteArray.data_append, Array.toList_append, rep_list]
  rfl
theorem mkM_bang (c : UInt8) (L : Nat) (label : ByteArray) : mkM ⟨#[c]⟩ L ⟨#[]⟩ label ≠ mkM ⟨#[c]⟩ L bang label := by
  intro h
  have h1 : (mkM ⟨#[c]⟩ L ⟨#[]⟩ label).data.toList.length = (mkM ⟨#[c]⟩ L bang label).data.toList.length := by rw [h]
  rw [mkM_list, mkM_list] at h1
  simp [bang] at h1
theorem fitC_val (s : ByteArray) (L : Nat) (c : UInt8) (label : ByteArray) : fitC s L c label = 0 ∨ fitC s L c label = 1 ∨ fitC s L c label = 2 := by
  unfold fitC
  split
  · exact .inr (.inl rfl)
  · split
    · exact .inr (.inr rfl)
    · exact .inl rfl
theorem fitC_head {s : ByteArray} {L : Nat} {c : UInt8} {label : ByteArray} (hL : 1 ≤ L) (h : fitC s L c label ≠ 0) : s.data.toList.head? = some c := by
  have hd : ∀ m, (mkM ⟨#[c]⟩ L m label).data.toList.head? = some c := fun m => by
    rw [mkM_list]
    obtain ⟨n, rfl⟩ : ∃ n, L = n + 1 := ⟨L - 1, by omega⟩
    simp [List.replicate_succ]
  unfold fitC at h
  split at h
  · rename_i h1; rw [(eqS_iff _ _).1 h1]; exact hd _
  · split at h
    · rename_i h1; rw [(eqS_iff _ _).1 h1]; exact hd _
    · exact absurd rfl h
theorem fitC_two {s : ByteArray} {L : Nat} {c d : UInt8} {la lb : ByteArray} (hL : 1 ≤ L) (hcd : c ≠ d) (h : fitC s L c la ≠ 0) : fitC s L d lb = 0 := by
  rcases Decidable.em (fitC s L d lb = 0) with h2 | h2
  · exact h2
  · have e1 := fitC_head hL h
    rw [fitC_head hL h2] at e1
    exact absurd (Option.some.inj e1).symm hcd
theorem isOk_fit (σ : Rd) (s : ByteArray) (c : UInt8) (label : ByteArray) : isOk σ s c label = decide (fitC s σ.long c label ≠ 0) := by
  unfold isOk fitC
  cases eqS s (mkM ⟨#[c]⟩ σ.long ⟨#[]⟩ label) <;> cases eqS s (mkM ⟨#[c]⟩ σ.long bang label) <;> decide
theorem isOp_fit (σ : Rd) (s : ByteArray) (c : UInt8) (label : ByteArray) : isOp σ s c label = decide (fitC s σ.long c label = 2) := by
  unfold isOp fitC
  cases h1 : eqS s (mkM ⟨#[c]⟩ σ.long ⟨#[]⟩ label)
  · cases eqS s (mkM ⟨#[c]⟩ σ.long bang label) <;> decide
  · cases h2 : eqS s (mkM ⟨#[c]⟩ σ.long bang label)
    · decide
    · exact absurd (((eqS_iff _ _).1 h1).symm.trans ((eqS_iff _ _).1 h2)) (mkM_bang _ _ _)
theorem lastOf_R (p : List ByteArray) : lastOf p = lastR p := by
  rw [lastOf, lastR, rdOf, Int.toNat_natCast]
theorem ended_eq (p : List ByteArray) (hp : ∀ x ∈ p, lineB x = true) (how : Int) (h : how = 1 ∨ how = 2) : ended p (decide (how = 2)) = if (openedR p how).2 = true then some (openedR p how).1 else none := by
  rcases h with rfl | rfl
  · have e1 : openedR p 1 = (p, true) := if_pos (by decide)
    rw [e1, if_pos rfl]
    rfl
  · have e2 : openedR p 2 = if p.length = 0 then ([], false) else if (lastR p).size < 2 then ([], false) else (p.set (p.length - 1) ((lastR p).extract 0 ((lastR p).size - 1)), true) := if_neg (by decide)
    rw [e2, show decide ((2 : Int) = 2) = true from rfl, ended, if_neg (by decide), lastOf_R]
    by_cases h0 : p.length = 0
    · rw [if_pos h0, if_pos h0]; rfl
    · rw [if_neg h0, if_neg h0]
      by_cases h2 : (lastR p).size < 2
      · rw [if_pos h2, if_pos h2]; rfl
      · have hl : lineB (lastR p) = true := by
          unfold lastR
          rw [List.getD_eq_getElem?_getD, List.getElem?_eq_getElem (by omega)]
          exact hp _ (List.getElem_mem _)
        rw [if_neg h2, if_neg h2, if_pos rfl, trim_line hl]
def rdC (L : Nat) (out : List Piece) (base : List ByteArray) (sides : List (List ByteArray)) (part : List ByteArray) (inb : Bool) (st : Int) : Rd := ⟨L, out, [], true, base, sides, part, inb, st, true⟩
def rdO (L : Nat) (out : List Piece) (text : List ByteArray) (st : Int) : Rd := ⟨L, out, text, false, [], [], [], false, st, false⟩
def numA (sides : List (List ByteArray)) (inb : Bool) : Int := if 16 < nOf sides inb + 1 then 16 else nOf sides inb + 1
def fOf (s : ByteArray) (L : Nat) (sides : List (List ByteArray)) (inb : Bool) : Int := if nOf sides inb = 16 then 0 else fitC s L 61 (numL (numA sides inb).toNat)
def stOf (st b : Int) (first : Bool) : Int := if b > 0 then 2 else if first = true then 1 else st
theorem endP_rd (L : Nat) (out : List Piece) (base : List ByteArray) (sides : List (List ByteArray)) (p : List ByteArray) (inb : Bool) (st : Int) (hp : ∀ x ∈ p, lineB x = true) (how : Int) (h : how = 1 ∨ how = 2) :
    endP (rdC L out base sides p inb st) (decide (how = 2)) = if (openedR p how).2 = true then some (rdC L out (if inb = true then (openedR p how).1 else base) (if inb = true then sides else sides ++ [(openedR p how).1]) [] false st) else none := by
  rw [endP, show (rdC L out base sides p inb st).part = p from rfl, ended_eq p hp how h]
  cases (openedR p how).2
  · rfl
  · rw [if_pos rfl, if_pos rfl, Option.map_some, putPart]
    cases inb <;> rfl
theorem inside_eq (L : Nat) (hL : 1 ≤ L) (out : List Piece) (base : List ByteArray) (sides : List (List ByteArray)) (p : List ByteArray) (inb : Bool) (st : Int) (s : ByteArray) (hi : inb = true → sides ≠ []) (hn : nOf sides inb ≤ 16) (hp : ∀ x ∈ p, lineB x = true)
    (b f e : Int) (hb : fitC s L 124 baseL = b) (hf : fOf s L sides inb = f) (he : fitC s L 62 ⟨#[]⟩ = e) :
    insideP (rdC L out base sides p inb st) s true = if (wantsOf (firstOf sides inb) st b f e && (openedR p (b + f + e)).2) = true then
      some (if e > 0 then rdO L (out ++ [⟨true, [], if inb = true then (openedR p (b + f + e)).1 else base, if inb = true then sides else sides ++ [(openedR p (b + f + e)).1]⟩]) [] (stOf st b (firstOf sides inb))
        else rdC L out (if inb = true then (openedR p (b + f + e)).1 else base) (if inb = true then sides else sides ++ [(openedR p (b + f + e)).1]) [] (decide (b > 0)) (stOf st b (firstOf sides inb))) else none := by
  have hfirst : firstOf sides inb = decide (sides.length = 0) := by
    unfold firstOf nOf
    cases inb
    · rw [if_neg (by decide), Bool.not_false, Bool.true_and]
      exact decide_eq_decide.2 (by omega)
    · rw [Bool.not_true, Bool.false_and]
      exact (decide_eq_false (fun h => hi rfl (List.length_eq_zero_iff.1 h))).symm
  have hN : (sidesN (rdC L out base sides p inb st) : Int) = nOf sides inb := by
    unfold sidesN nOf
    cases inb <;> simp [rdC]
  have hv := fitC_val s L 124 baseL
  have hve := fitC_val s L 62 ⟨#[]⟩
  rw [hb] at hv
  rw [he] at hve
  have hlong : (rdC L out base sides p inb st).long = L := rfl
  unfold insideP
  rw [if_neg (by decide)]
  by_cases h0 : b = 0
  · -- no mark of a base
    rw [if_neg (by rw [isOk_fit, hlong, hb, h0]; decide)]
    generalize hNN : sidesN (rdC L out base sides p inb st) = N at *
    have hfo : isOk (rdC L out base sides p inb st) s 61 (numL (N + 1)) = decide (fitC s L 61 (numL (N + 1)) ≠ 0) := isOk_fit _ _ _ _
    have hfp : isOp (rdC L out base sides p inb st) s 61 (numL (N + 1)) = decide (fitC s L 61 (numL (N + 1)) = 2) := isOp_fit _ _ _ _
    have heo : isOk (rdC L out base sides p inb st) s 62 ⟨#[]⟩ = decide (e ≠ 0) := by rw [isOk_fit, hlong, he]
    have hep : isOp (rdC L out base sides p inb st) s 62 ⟨#[]⟩ = decide (e = 2) := by rw [isOp_fit, hlong, he]
    rw [hfo, hfp, heo, hep]
    obtain ⟨F, hF⟩ : ∃ F, fitC s L 61 (numL (N + 1)) = F := ⟨_, rfl⟩
    have hFv := fitC_val s L 61 (numL (N + 1))
    rw [hF] at hFv ⊢
    have hx : F ≠ 0 → e = 0 := fun h => by rw [← he]; exact fitC_two (c := 61) (d := 62) hL (by decide) (by rw [hF]; exact h)
    -- what the reference takes for the next side's mark
    have hfF : f = if N = 16 then 0 else F := by
      rw [← hf, fOf, ← hN]
      by_cases h16 : N = 16
      · rw [if_pos (by omega), if_pos h16]
      · rw [if_neg (by omega), if_neg h16, ← hF, numA, ← hN, if_neg (by omega), show ((N : Int) + 1).toNat = N + 1 by omega]
    have hsl : (rdC L out base sides p inb st).sides = sides := rfl
    have hst : (rdC L out base sides p inb st).style = st := rfl
    rw [hfirst]
    unfold bars
    rw [hNN, hsl, hst]
    by_cases hbar : ((!decide (F ≠ 0) && !decide (e ≠ 0)) || (decide (F ≠ 0) && decide (16 ≤ N)) || (decide (sides.length = 0) && decide (st = 2))) = true
    · rw [if_pos hbar, if_neg]
      intro hc
      rw [Bool.and_eq_true] at hc
      have hw := hc.1
      unfold wantsOf at hw
      rw [h0] at hw
      simp only [Bool.or_eq_true, Bool.and_eq_true, Bool.not_eq_true', decide_eq_true_eq, decide_eq_false_iff_not, Decidable.not_not] at hbar hw
      rcases hw with hw | hw
      · exact absurd hw.2.2 (by decide)
      · rcases hbar with (⟨h1, h2⟩ | ⟨h1, h2⟩) | ⟨h1, h2⟩
        · rw [hfF, h1, h2] at hw
          split at hw <;> exact absurd hw.2 (by decide)
        · rw [hfF, if_pos (by omega), hx h1] at hw
          exact absurd hw.2 (by decide)
        · rcases hw.1 with h3 | h3
          · exact h3 h1
          · exact h3 h2
    · rw [if_neg hbar]
      simp only [Bool.or_eq_true, Bool.and_eq_true, Bool.not_eq_true', decide_eq_true_eq, decide_eq_false_iff_not, Decidable.not_not, not_or, not_and] at hbar
      obtain ⟨⟨hb1, hb2⟩, hb3⟩ := hbar
      have hFf : f = F := by
        rw [hfF]
        split
        · rcases Decidable.em (F = 0) with h | h
          · exact h.symm
          · exact absurd (by omega) (hb2 h)
        · rfl
      rw [hFf]
      have how : b + F + e = 1 ∨ b + F + e = 2 := by
        rcases Decidable.em (F = 0) with h | h
        · have := hb1 h; omega
        · have := hx h; omega
      have hop : (decide (F = 2) || decide (e = 2)) = decide (b + F + e = 2) := by
        rcases Decidable.em (F = 0) with h | h
        · rw [h, h0, decide_eq_false (show ¬ (0 : Int) = 2 by decide), Bool.false_or]
          exact decide_eq_decide.2 (by omega)
        · rw [hx h, h0, decide_eq_false (show ¬ (0 : Int) = 2 by decide), Bool.or_false]
          exact decide_eq_decide.2 (by omega)
      have hw : wantsOf (decide (sides.length = 0)) st b F e = true := by
        unfold wantsOf
        simp only [Bool.or_eq_true, Bool.and_eq_true, Bool.not_eq_true', decide_eq_true_eq, decide_eq_false_iff_not]
        right
        refine ⟨?_, by omega⟩
        rcases Decidable.em (sides.length = 0) with h | h
        · exact .inr (hb3 h)
        · exact .inl h
      rw [hop, endP_rd L out base sides p inb st hp _ how, hw, Bool.true_and]
      cases (openedR p (b + F + e)).2
      · rfl
      · rw [if_pos rfl, if_pos rfl, Option.map_some, after, stOf, if_neg (show ¬ b > 0 by omega), decide_eq_false (show ¬ b > 0 by omega)]
        rcases Decidable.em (e = 0) with h | h
        · rw [h, decide_eq_false (fun h => h rfl), if_neg (show ¬ (0 : Int) > 0 by decide)]
          cases decide (sides.length = 0) <;> rfl
        · rw [decide_eq_true h, if_pos rfl, if_pos (show e > 0 by omega)]
          cases decide (sides.length = 0) <;> rfl
  · -- the base's mark
    have hb0 : fitC s L 124 baseL ≠ 0 := by rw [hb]; exact h0
    have he0 : e = 0 := by rw [← he]; exact fitC_two hL (by decide) hb0
    have hf0 : f = 0 := by
      rw [← hf, fOf]
      split
      · rfl
      · exact fitC_two hL (by decide) hb0
    subst he0 hf0
    have hbp : b > 0 := by omega
    rw [if_pos (by rw [isOk_fit, hlong, hb]; simpa using h0), isOp_fit, hlong, hb, beginP, hfirst]
    have hw : wantsOf (decide (sides.length = 0)) st b 0 0 = (decide (sides.length = 0) && decide (st ≠ 1)) := by
      unfold wantsOf
      rw [decide_eq_true hbp, decide_eq_false (show ¬ (0 : Int) + 0 > 0 by decide), Bool.and_false, Bool.or_false, Bool.and_true]
    rw [hw, show b + 0 + 0 = b by omega]
    have hsl : (rdC L out base sides p inb st).sides = sides := rfl
    have hst : (rdC L out base sides p inb st).style = st := rfl
    rw [hsl, hst]
    by_cases h1 : sides.length = 0
    · have hinb : inb = false := by
        cases inb with
        | false => rfl
        | true => exact absurd (List.length_eq_zero_iff.1 h1) (hi rfl)
      subst hinb
      rw [if_neg (by omega), decide_eq_true h1, Bool.true_and]
      by_cases h2 : st = 1
      · rw [if_pos h2, decide_eq_false (fun h => h h2), Bool.false_and, if_neg (by decide)]
      · rw [if_neg h2, decide_eq_true h2, Bool.true_and, endP_rd L out base sides p false st hp b (by omega)]
        cases (openedR p b).2
        · rfl
        · rw [if_pos rfl, if_pos rfl, Option.map_some, if_neg (show ¬ (0 : Int) > 0 by decide), stOf, if_pos hbp, decide_eq_true hbp]
          rfl
    · rw [if_pos (by omega), decide_eq_false h1, Bool.false_and, Bool.false_and, if_neg (by decide)]
/-! ### the sides -/
theorem digits_small (n : Nat) (h : n ≤ 16) : (⟨(Lib.decDigits n).toArray⟩ : ByteArray).size ≤ 2 := by
  have := digits_le n (by omega)
  simpa [ByteArray.size] using this
theorem step_ev (L : Nat) (hL : L ≤ 4096) (l : List ByteArray) (st wr : Int) (p : List ByteArray) (hp : FL p) (sides : List (List ByteArray)) (inb : Bool) (hn1 : 1 ≤ nOf sides inb) (hn : nOf sides inb ≤ 16) (s : ByteArray) (suf pre : List ByteArray) (e : l = pre ++ s :: suf)
    (b f x : Int) (hb : fitC s L 124 baseL = b) (hf : fOf s L sides inb = f) (hx : fitC s L 62 ⟨#[]⟩ = x) :
    Ev (fun k => stepF k l (L : Int) (pre.length : Int) st wr p sides inb) (wantsOf (firstOf sides inb) st b f x && (openedR p (b + f + x)).2, (openedR p (b + f + x)).1, b, x) := by
  have hA1 : 1 ≤ (numA sides inb).toNat := by unfold numA; split <;> omega
  have hA2 : (numA sides inb).toNat ≤ 16 := by unfold numA; split <;> omega
  have hA3 : ((numA sides inb).toNat : Int) = numA sides inb := by unfold numA; split <;> omega
  have hd := digits_small _ hA2
  refine Ev.bind (a := b) (by rw [← hb]; exact fits_ev L hL l st wr 124 baseL (by decide) s suf pre e) ?_
  refine Ev.bind (a := ⟨(Lib.decDigits (numA sides inb).toNat).toArray⟩) (by rw [show (if 16 < nOf sides inb + 1 then 16 else nOf sides inb + 1) = ((numA sides inb).toNat : Int) from hA3.symm]; exact number_ev _ hA1 hA2) ?_
  refine Ev.pos (by omega) ?_
  have hls : (numL (numA sides inb).toNat).size ≤ 1000 := by
    unfold numL
    rw [ByteArray.size_append]
    have : (⟨#[32]⟩ : ByteArray).size = 1 := rfl
    omega
  refine Ev.bind (fits_ev L hL l st wr 61 (numL (numA sides inb).toNat) hls s suf pre e) ?_
  refine Ev.bind (a := x) (by rw [← hx]; exact fits_ev L hL l st wr 62 ⟨#[]⟩ (by decide) s suf pre e) ?_
  have v1 := fitC_val s L 124 baseL
  have v2 := fitC_val s L 61 (numL (numA sides inb).toNat)
  have v3 := fitC_val s L 62 ⟨#[]⟩
  rw [hb] at v1
  rw [hx] at v3
  refine Ev.pos ⟨by omega, by omega, by omega⟩ ?_
  have ef : (if nOf sides inb = 16 then 0 else fitC s L 61 (numL (numA sides inb).toNat)) = f := hf
  rw [ef]
  exact Ev.bind (opened_ev p hp _) (Ev.now _)
def sideTail (k : Nat) (bs : List ByteArray) (sd : List (List ByteArray)) (inb : Bool) (t : PRes) : Option SRes :=
    if t.2.2.2.2.1 > 0 then some (t.1, t.2.1, t.2.2.1, t.2.2.2.1, t.2.2.2.2.1, bs, sd)
    else if sd.length ≤ 1000000 then
      (stepF k t.1 t.2.1 t.2.2.1 t.2.2.2.1 t.2.2.2.2.1 t.2.2.2.2.2 sd inb).bind fun s =>
      if s.1 = true then
        if s.2.2.2 > 0 then some (t.1, t.2.1, wrap64 (t.2.2.1 + 1), (if s.2.2.1 > 0 then 2 else if firstOf sd inb = true then 1 else t.2.2.2.1), t.2.2.2.2.1, (if inb = true then s.2.1 else bs), (if inb = true then sd else sd ++ [s.2.1]))
        else sidesF k t.1 t.2.1 (wrap64 (t.2.2.1 + 1)) (if s.2.2.1 > 0 then 2 else if firstOf sd inb = true then 1 else t.2.2.2.1) t.2.2.2.2.1 (if inb = true then s.2.1 else bs) (if inb = true then sd else sd ++ [s.2.1]) (decide (s.2.2.1 > 0))
      else (sennitref13_bad.f t.1 t.2.1 t.2.2.1 t.2.2.2.1 t.2.2.2.2.1).bind fun z => some (z.1, z.2.1, z.2.2.1, z.2.2.2.1, z.2.2.2.2, bs, sd)
    else none
theorem sides_bind {l : List ByteArray} {K i st wr : Int} {bs : List ByteArray} {sd : List (List ByteArray)} {inb : Bool} {t : PRes} {r : SRes} (hp : Ev (fun k => sennitref13_part.f k l K i st wr) t) (h : Ev (fun k => sideTail k bs sd inb t) r) : Ev (fun k => sidesF k l K i st wr bs sd inb) r :=
  Ev.step (f := fun k => (sennitref13_part.f k l K i st wr).bind (sideTail k bs sd inb)) (fun _ => rfl) (Ev.bind hp h)
section
variable {l p q : List ByteArray} {K i st wr b x : Int} {bs : List ByteArray} {sd : List (List ByteArray)} {inb : Bool} {r : SRes}
theorem tail_wrong (h : wr > 0) : Ev (fun k => sideTail k bs sd inb (l, K, i, st, wr, p)) (l, K, i, st, wr, bs, sd) := Ev.pos h (Ev.now _)
theorem tail_bad (hsl : sd.length ≤ 1000000) (hs : Ev (fun k => stepF k l K i st 0 p sd inb) (false, q, b, x)) : Ev (fun k => sideTail k bs sd inb (l, K, i, st, 0, p)) (l, K, i, st, wrap64 (i + 1), bs, sd) :=
  Ev.neg (show ¬ (0 : Int) > 0 by decide) (Ev.pos hsl (Ev.bind hs (Ev.neg (show ¬ (false = true) by decide) (Ev.bind (a := (l, K, i, st, wrap64 (i + 1))) ⟨0, fun _ _ => rfl⟩ (Ev.now _)))))
theorem tail_end (hsl : sd.length ≤ 1000000) (hs : Ev (fun k => stepF k l K i st 0 p sd inb) (true, q, b, x)) (hx : x > 0) : Ev (fun k => sideTail k bs sd inb (l, K, i, st, 0, p)) (l, K, wrap64 (i + 1), stOf st b (firstOf sd inb), 0, (if inb = true then q else bs), (if inb = true then sd else sd ++ [q])) :=
  Ev.neg (show ¬ (0 : Int) > 0 by decide) (Ev.pos hsl (Ev.bind hs (Ev.pos rfl (Ev.pos hx (Ev.now _)))))
theorem tail_more (hsl : sd.length ≤ 1000000) (hs : Ev (fun k => stepF k l K i st 0 p sd inb) (true, q, b, x)) (hx : ¬ x > 0) (h : Ev (fun k => sidesF k l K (wrap64 (i + 1)) (stOf st b (firstOf sd inb)) 0 (if inb = true then q else bs) (if inb = true then sd else sd ++ [q]) (decide (b > 0))) r) : Ev (fun k => sideTail k bs sd inb (l, K, i, st, 0, p)) r :=
  Ev.neg (show ¬ (0 : Int) > 0 by decide) (Ev.pos hsl (Ev.bind hs (Ev.pos rfl (Ev.neg hx h))))
end
def SimS (L : Nat) (l suf pre : List ByteArray) (out : List Piece) (σ : Rd) (res : SRes) : Prop :=
  (∃ e : Nat, goP l.length suf pre.length σ = .error e ∧ res.2.2.2.2.1 = (e : Int) + 1) ∨
  (∃ τ, goP l.length suf pre.length σ = .ok τ ∧ τ.conf = true ∧ res.2.2.2.2.1 = (l.length : Int) + 1) ∨
  (∃ (pre2 suf2 : List ByteArray) (st2 : Int) (bs2 : List ByteArray) (sd2 : List (List ByteArray)), l = pre2 ++ suf2 ∧ suf2.length < suf.length ∧ res = (l, (L : Int), (pre2.length : Int), st2, 0, bs2, sd2) ∧
    goP l.length suf pre.length σ = goP l.length suf2 pre2.length (rdO L (out ++ [⟨true, [], bs2, sd2⟩]) [] st2))
theorem sides_sim (L : Nat) (hL1 : 1 ≤ L) (hL2 : L ≤ 4096) (l : List ByteArray) (hl : FL l) (out : List Piece) : ∀ (d : Nat) (suf pre : List ByteArray), suf.length ≤ d → l = pre ++ suf → ∀ (base : List ByteArray) (sides : List (List ByteArray)) (inb : Bool) (st : Int), (inb = true → sides ≠ []) → nOf sides inb ≤ 16 →
    ∃ res, Ev (fun k => sidesF k l (L : Int) (pre.length : Int) st 0 base sides inb) res ∧ SimS L l suf pre out (rdC L out base sides [] inb st) res := by
  intro d
  induction d with
  | zero =>
    intro suf pre hd e base sides inb st hi hn
    obtain rfl : suf = [] := List.length_eq_zero_iff.1 (by omega)
    have hle : pre.length = l.length := by rw [e]; simp
    have hp := part_ev (L : Int) l hl st 0 [] pre e
    rw [partR, if_pos (.inl (by simpa [stopN] using hle))] at hp
    refine ⟨_, sides_bind hp (tail_wrong (by omega)), .inr (.inl ⟨_, rfl, rfl, ?_⟩)⟩
    simp [stopN, hle]
  | succ d ih =>
    intro suf pre hd e base sides inb st hi hn
    have hp := part_ev (L : Int) l hl st 0 suf pre e
    have hrun := stop_run (L : Int) suf
    have hat := stop_at (L : Int) suf
    have hml := stopN_le (L : Int) suf
    obtain ⟨m, hm⟩ : ∃ m, stopN (L : Int) suf = m := ⟨_, rfl⟩
    rw [hm] at hp hrun hat hml
    have hsplit : suf = suf.take m ++ suf.drop m := (List.take_append_drop m suf).symm
    obtain ⟨a, ha⟩ : ∃ a, suf.take m = a := ⟨_, rfl⟩
    have hal : a.length = m := by rw [← ha, List.length_take]; omega
    rw [ha] at hrun hsplit
    have hgo : goP l.length suf pre.length (rdC L out base sides [] inb st) = goP l.length (suf.drop m) (pre.length + m) (rdC L out base sides a inb st) := by
      conv => lhs; rw [hsplit]
      rw [goP_run l.length L a (suf.drop m) pre.length (rdC L out base sides [] inb st) rfl rfl rfl hrun, hal]
      rfl
    cases hr : suf.drop m with
    | nil =>
      have hle : pre.length + m = l.length := by
        rw [e, List.length_append]
        have := congrArg List.length hr
        rw [List.length_drop, List.length_nil] at this
        omega
      rw [partR, if_pos (.inl hle)] at hp
      rw [hr] at hgo
      refine ⟨_, sides_bind hp (tail_wrong (by omega)), .inr (.inl ⟨_, hgo, rfl, ?_⟩)⟩
      show ((pre.length + m : Nat) : Int) + 1 = _
      rw [hle]
    | cons s r =>
      rw [hr] at hsplit hgo
      have e1 : l = (pre ++ a) ++ s :: r := (e.trans (congrArg (pre ++ ·) hsplit)).trans (List.append_assoc _ _ _).symm
      have hlen : (pre ++ a).length = pre.length + m := by rw [List.length_append, hal]
      have hgd : l.getD (pre.length + m) ByteArray.empty = s := by rw [← hlen]; exact getD_mid (pre ++ a) r s l e1
      have hne : ¬ pre.length + m = l.length := by rw [e1, List.length_append, hlen]; simp
      cases hb : lineB s with
      | false =>
        rw [partR, if_pos (.inr (by rw [hgd]; exact hb))] at hp
        refine ⟨_, sides_bind hp (tail_wrong (by omega)), .inl ⟨pre.length + m, ?_, rfl⟩⟩
        rw [hgo, goP, feed1, lineOk_conf _ _ _ _ rfl, hb, if_neg (by decide)]
      | true =>
        have hk := hat s r hr hb
        have hta : (l.take (pre.length + m)).drop pre.length = a := by rw [e1, ← hlen, List.take_left, List.drop_left]
        rw [partR, if_neg (by rw [hgd, hb]; simpa using hne), hta] at hp
        have hpa : FL a := ⟨by have := hl.1; rw [e1, List.length_append, List.length_append] at this; omega, fun x hx => hl.2 x (by rw [e1]; simp [hx])⟩
        have hn1 : 1 ≤ nOf sides inb := by
          unfold nOf
          split
          · rename_i h; have := List.length_pos_iff.2 (hi h); omega
          · omega
        obtain ⟨b, hbb⟩ : ∃ b, fitC s L 124 baseL = b := ⟨_, rfl⟩
        obtain ⟨f, hff⟩ : ∃ f, fOf s L sides inb = f := ⟨_, rfl⟩
        obtain ⟨x, hxx⟩ : ∃ x, fitC s L 62 ⟨#[]⟩ = x := ⟨_, rfl⟩
        have hstep := step_ev L hL2 l st 0 a hpa sides inb hn1 hn s r (pre ++ a) e1 b f x hbb hff hxx
        rw [hlen] at hstep
        have hins := inside_eq L hL1 out base sides a inb st s hi hn (fun y hy => (hrun y hy).1) b f x hbb hff hxx
        have hfeed : feed1 l.length (pre.length + m) (rdC L out base sides a inb st) s = insideP (rdC L out base sides a inb st) s true := by
          have hmo : markOf (rdC L out base sides a inb st) s = true := hk
          rw [feed1, lineOk_conf _ _ _ _ rfl, hb, if_pos rfl, if_pos (show (rdC L out base sides a inb st).inn = true from rfl), hmo]
        have hsl : sides.length ≤ 1000000 := by unfold nOf at hn; split at hn <;> omega
        have hm1 := hl.1
        have hlt : pre.length + m < l.length := by rw [e1, List.length_append, hlen]; simp
        have hwr : wrap64 (((pre.length + m : Nat) : Int) + 1) = (((pre ++ a) ++ [s]).length : Int) := by
          rw [wrap_nat _ (by unfold M; omega), List.length_append, hlen]; rfl
        have e2 : l = ((pre ++ a) ++ [s]) ++ r := by rw [e1]; simp
        have hrl : r.length + 1 ≤ suf.length := by
          have := congrArg List.length hsplit
          rw [List.length_append, List.length_cons] at this
          omega
        cases hg : wantsOf (firstOf sides inb) st b f x && (openedR a (b + f + x)).2 with
        | false =>
          rw [hg] at hstep hins
          rw [if_neg (by decide)] at hins
          refine ⟨_, sides_bind hp (tail_bad hsl hstep), .inl ⟨pre.length + m, ?_, ?_⟩⟩
          · rw [hgo, goP, hfeed, hins]
          · show wrap64 (((pre.length + m : Nat) : Int) + 1) = _
            rw [wrap_nat _ (by unfold M; omega)]; rfl
        | true =>
          rw [hg] at hstep hins
          rw [if_pos rfl] at hins
          by_cases hx0 : x > 0
          · rw [if_pos hx0] at hins
            refine ⟨_, sides_bind hp (tail_end hsl hstep hx0), .inr (.inr ⟨(pre ++ a) ++ [s], r, stOf st b (firstOf sides inb), (if inb = true then (openedR a (b + f + x)).1 else base), (if inb = true then sides else sides ++ [(openedR a (b + f + x)).1]), e2, by omega, ?_, ?_⟩)⟩
            · simp only [hwr]
            · rw [hgo, goP, hfeed, hins]
              simp only
              rw [show pre.length + m + 1 = ((pre ++ a) ++ [s]).length by rw [List.length_append, hlen]; rfl]
          · rw [if_neg hx0] at hins
            have hwants : wantsOf (firstOf sides inb) st b f x = true := by
              rw [Bool.and_eq_true] at hg
              exact hg.1
            have vb := fitC_val s L 124 baseL
            have vx := fitC_val s L 62 ⟨#[]⟩
            rw [hbb] at vb
            rw [hxx] at vx
            have hxz : x = 0 := by omega
            have hinv : (decide (b > 0) = true → (if inb = true then sides else sides ++ [(openedR a (b + f + x)).1]) ≠ []) ∧ nOf (if inb = true then sides else sides ++ [(openedR a (b + f + x)).1]) (decide (b > 0)) ≤ 16 := by
              by_cases hb0 : b > 0
              · have hfz : f = 0 := by
                  rw [← hff, fOf]
                  split
                  · rfl
                  · exact fitC_two hL1 (by decide) (show fitC s L 124 baseL ≠ 0 by omega)
                have hinb : inb = false := by
                  unfold wantsOf firstOf at hwants
                  rw [hfz, hxz, decide_eq_false (show ¬ (0 : Int) + 0 > 0 by decide), Bool.and_false, Bool.or_false] at hwants
                  cases inb
                  · rfl
                  · simp at hwants
                subst hinb
                rw [if_neg (by decide)]
                refine ⟨fun _ => by simp, ?_⟩
                rw [decide_eq_true hb0]
                unfold nOf at hn ⊢
                rw [if_neg (by decide)] at hn
                rw [if_pos rfl, List.length_append]
                simp
                omega
              · rw [decide_eq_false hb0]
                refine ⟨fun h => (by cases h), ?_⟩
                have hfz : f > 0 := by
                  unfold wantsOf at hwants
                  rw [decide_eq_false hb0, Bool.and_false, Bool.and_false, Bool.false_or, Bool.and_eq_true, decide_eq_true_eq] at hwants
                  omega
                have h16 : ¬ nOf sides inb = 16 := by
                  intro h
                  rw [← hff, fOf, if_pos h] at hfz
                  exact absurd hfz (by decide)
                unfold nOf at hn h16 ⊢
                rw [if_neg (show ¬ (false = true) by decide)]
                cases inb
                · rw [if_neg (by decide)] at hn h16 ⊢
                  rw [List.length_append]
                  simp
                  omega
                · rw [if_pos rfl] at hn h16 ⊢
                  omega
            obtain ⟨res, hres, hsim⟩ := ih r ((pre ++ a) ++ [s]) (by omega) e2 (if inb = true then (openedR a (b + f + x)).1 else base) (if inb = true then sides else sides ++ [(openedR a (b + f + x)).1]) (decide (b > 0)) (stOf st b (firstOf sides inb)) hinv.1 hinv.2
            refine ⟨res, sides_bind hp (tail_more hsl hstep hx0 ?_), ?_⟩
            · rw [← hwr] at hres
              exact hres
            · have hgo2 : goP l.length suf pre.length (rdC L out base sides [] inb st) = goP l.length r ((pre ++ a) ++ [s]).length (rdC L out (if inb = true then (openedR a (b + f + x)).1 else base) (if inb = true then sides else sides ++ [(openedR a (b + f + x)).1]) [] (decide (b > 0)) (stOf st b (firstOf sides inb))) := by
                rw [hgo, goP, hfeed, hins]
                simp only
                rw [show pre.length + m + 1 = ((pre ++ a) ++ [s]).length by rw [List.length_append, hlen]; rfl]
              unfold SimS at hsim ⊢
              rw [hgo2]
              rcases hsim with h | h | ⟨p2, s2, t2, b2, d2, h1, h2, h3, h4⟩
              · exact .inl h
              · exact .inr (.inl h)
              · exact .inr (.inr ⟨p2, s2, t2, b2, d2, h1, by omega, h3, h4⟩)
/-! ### all of it -/
theorem wrong_end (n : Nat) (l : List ByteArray) (K i st wr : Int) (out : List Piece) (h : wr > 0) : Ev (fun k => parseF k n l K i st wr out) ([], 0, wr, 2) :=
  Ev.step (fun k => by simp only [parseF]; rw [if_neg (fun e => by omega), if_pos h]) (Ev.now _)
theorem right_end (n : Nat) (l : List ByteArray) (K st : Int) (out : List Piece) : Ev (fun k => parseF k n l K (n : Int) st 0 out) (out, max st 1, 0, 0) :=
  Ev.step (fun k => by simp only [parseF]; rw [if_neg (fun e => by omega), if_neg (by decide)]) (Ev.now _)
def finish (n : Nat) : Except Nat Rd → List Piece × Int × Int × Int
  | .error i => ([], 0, (i : Int) + 1, 2)
  | .ok σ => if σ.conf then ([], 0, (n : Int) + 1, 2) else ((flush σ).out, max σ.style 1, 0, 0)
def parseTail (k n : Nat) (out : List Piece) (t : PRes) : Option (List Piece × Int × Int × Int) :=
      if out.length ≤ 1000000 then
        if t.2.2.2.2.1 > 0 ∨ t.2.2.1 = (n : Int) then parseF k n t.1 t.2.1 t.2.2.1 t.2.2.2.1 t.2.2.2.2.1 (addT out t.2.2.2.2.2)
        else (sennitref13_fits.f k t.1 t.2.1 t.2.2.1 t.2.2.2.1 t.2.2.2.2.1 ⟨#[60]⟩ ⟨#[32, 49]⟩).bind fun f =>
          if f = 1 then (sidesF k t.1 t.2.1 (wrap64 (t.2.2.1 + 1)) t.2.2.2.1 t.2.2.2.2.1 [] [] false).bind fun u => parseF k n u.1 u.2.1 u.2.2.1 u.2.2.2.1 u.2.2.2.2.1 (addT out t.2.2.2.2.2 ++ [⟨true, [], u.2.2.2.2.2.1, u.2.2.2.2.2.2⟩])
          else (sennitref13_bad.f t.1 t.2.1 t.2.2.1 t.2.2.2.1 t.2.2.2.2.1).bind fun z => parseF k n z.1 z.2.1 z.2.2.1 z.2.2.2.1 z.2.2.2.2 (addT out t.2.2.2.2.2)
      else none
theorem parse_bind {n : Nat} {l : List ByteArray} {K i st : Int} {out : List Piece} {t : PRes} {r : List Piece × Int × Int × Int} (hi : i < (n : Int)) (hp : Ev (fun k => sennitref13_outside.f k l K i st 0) t) (h : Ev (fun k => parseTail k n out t) r) : Ev (fun k => parseF k n l K i st 0 out) r :=
  Ev.step (f := fun k => if i < (n : Int) ∧ (0 : Int) = 0 then (sennitref13_outside.f k l K i st 0).bind (parseTail k n out) else if (0 : Int) > 0 then some ([], 0, 0, 2) else some (out, max st 1, 0, 0)) (fun _ => rfl) (Ev.pos ⟨hi, rfl⟩ (Ev.bind hp h))
theorem addT_len (out : List Piece) (x : List ByteArray) : (addT out x).length ≤ out.length + 1 := by
  unfold addT
  split
  · rw [List.length_append]; simp
  · omega
theorem flush_addT (L : Nat) (out : List Piece) (x : List ByteArray) (st : Int) : (flush (rdO L out x st)).out = addT out x := by
  unfold flush addT rdO
  by_cases h : 0 < x.length
  · rw [if_pos h, if_pos (show (x.length : Int) > 0 by omega)]
  · rw [if_neg h, if_neg (show ¬ (x.length : Int) > 0 by omega)]
theorem first_mark (L : Nat) : repB ⟨#[60]⟩ L ++ ⟨#[32, 49, 10]⟩ = mkM ⟨#[60]⟩ L ⟨#[]⟩ ⟨#[32, 49]⟩ := by
  apply ByteArray.ext
  apply Array.ext'
  rw [mkM_list, ByteArray.data_append, Array.toList_append, rep_list]
  simp
theorem first_line (L : Nat) : lineB (mkM ⟨#[60]⟩ L ⟨#[]⟩ ⟨#[32, 49]⟩) = true := by
  have h : Ended (mkM ⟨#[60]⟩ L ⟨#[]⟩ ⟨#[32, 49]⟩) := ⟨_, mkM_list _ _ _ _, by simp [List.mem_replicate]⟩
  obtain ⟨h1, h2⟩ := h.may
  rw [← (may_open _).1, h1, h2]
  rfl
theorem begins (L n i : Nat) (out : List Piece) (x : List ByteArray) (st : Int) (s : ByteArray) (hk : mk (L : Int) s = true) :
    feed1 n i (rdO L out x st) s = if fitC s L 60 ⟨#[32, 49]⟩ = 1 then some (rdC L (addT out x) [] [] [] false st) else none := by
  have hmo : markOf (rdO L out x st) s = true := hk
  have hls : ((rdO L out x st).long) = L := rfl
  by_cases h : eqS s (mkM ⟨#[60]⟩ L ⟨#[]⟩ ⟨#[32, 49]⟩) = true
  · have hs := (eqS_iff _ _).1 h
    have hl : lineB s = true := by rw [hs]; exact first_line L
    have hlo : lineOk n i (rdO L out x st) s = true := by rw [lineOk_free _ _ _ _ rfl, hl, Bool.or_true]
    rw [fitC, if_pos h, if_pos rfl, feed1, hlo, if_pos rfl, if_neg (show ¬ (rdO L out x st).inn = true by simp [rdO]), hmo, outside, if_neg (by decide), hls, first_mark, h, if_neg (by decide)]
    have e1 := flush_addT L out x st
    unfold flush at e1 ⊢
    split at e1
    · rename_i h2
      rw [if_pos h2]
      rw [← e1]; rfl
    · rename_i h2
      rw [if_neg h2]
      rw [← e1]; rfl
  · have h0 : ¬ fitC s L 60 ⟨#[32, 49]⟩ = 1 := by
      unfold fitC
      rw [if_neg h]
      split <;> decide
    rw [if_neg h0, feed1]
    split
    · rw [if_neg (show ¬ (rdO L out x st).inn = true by simp [rdO]), hmo, outside, if_neg (by decide), hls, first_mark, if_pos (by simpa using h)]
    · rfl
theorem parse_sim (L : Nat) (hL1 : 1 ≤ L) (hL2 : L ≤ 4096) (l : List ByteArray) (hl : FL l) : ∀ (d : Nat) (suf pre : List ByteArray), suf.length ≤ d → l = pre ++ suf → ∀ (out : List Piece) (st : Int), out.length + 2 * suf.length ≤ 200000 →
    Ev (fun k => parseF k l.length l (L : Int) (pre.length : Int) st 0 out) (finish l.length (goP l.length suf pre.length (rdO L out [] st))) := by
  intro d
  induction d with
  | zero =>
    intro suf pre hd e out st ho
    obtain rfl : suf = [] := List.length_eq_zero_iff.1 (by omega)
    have hle : pre.length = l.length := by rw [e]; simp
    rw [hle]
    exact right_end _ _ _ _ _
  | succ d ih =>
    intro suf pre hd e out st ho
    rcases Decidable.em (suf = []) with hs0 | hs0
    · subst hs0
      have hle : pre.length = l.length := by rw [e]; simp
      rw [hle]
      exact right_end _ _ _ _ _
    · have hpos := List.length_pos_iff.2 hs0
      have hi : (pre.length : Int) < (l.length : Int) := by rw [e, List.length_append]; omega
      have hp := out_ev (L : Int) l hl st 0 suf pre e
      have hgo := goP_out l.length L suf pre.length (rdO L out [] st) rfl rfl rfl (by rw [e, List.length_append])
      have hat := out_at (L : Int) suf
      have hml := outN_le (L : Int) suf
      have hm1 := hl.1
      obtain ⟨m, hm⟩ : ∃ m, (outN (L : Int) suf).1 = m := ⟨_, rfl⟩
      obtain ⟨bad, hbad⟩ : ∃ b, (outN (L : Int) suf).2 = b := ⟨_, rfl⟩
      rw [hm] at hp hgo hat hml
      rw [hbad] at hp hgo hat
      rw [hgo]
      have hol : out.length ≤ 1000000 := by omega
      cases bad with
      | true =>
        rw [outR, if_pos rfl] at hp
        rw [if_pos rfl]
        refine parse_bind hi hp (Ev.pos hol (Ev.pos (.inl (by show (0 : Int) < ((pre.length + m : Nat) : Int) + 1; omega)) ?_))
        exact wrong_end _ _ _ _ _ _ _ (by show (0 : Int) < ((pre.length + m : Nat) : Int) + 1; omega)
      | false =>
        rw [outR, if_neg (by decide)] at hp
        rw [if_neg (by decide)]
        have hsplit : suf = suf.take m ++ suf.drop m := (List.take_append_drop m suf).symm
        obtain ⟨a, ha⟩ : ∃ a, suf.take m = a := ⟨_, rfl⟩
        have hal : a.length = m := by rw [← ha, List.length_take]; omega
        rw [ha] at hsplit ⊢
        have e1 : l = (pre ++ a) ++ suf.drop m := (e.trans (congrArg (pre ++ ·) hsplit)).trans (List.append_assoc _ _ _).symm
        have hlen : (pre ++ a).length = pre.length + m := by rw [List.length_append, hal]
        have hta : (l.take (pre.length + m)).drop pre.length = a := by rw [e1, ← hlen, List.take_left, List.drop_left]
        rw [hta] at hp
        have haa := addT_len out a
        show Ev _ (finish l.length (goP l.length (suf.drop m) (pre.length + m) (rdO L out a st)))
        cases hr : suf.drop m with
        | nil =>
          have hle : pre.length + m = l.length := by rw [hr, List.append_nil] at e1; rw [← hlen, ← e1]
          refine parse_bind hi hp (Ev.pos hol (Ev.pos (.inr (by show ((pre.length + m : Nat) : Int) = _; rw [hle])) ?_))
          show Ev (fun k => parseF k l.length l (L : Int) ((pre.length + m : Nat) : Int) st 0 (addT out a)) _
          rw [hle, goP, finish]
          rw [if_neg (show ¬ (rdO L out a st).conf = true by simp [rdO]), flush_addT]
          exact right_end _ _ _ _ _
        | cons s r =>
          have hk := hat s r rfl hr
          rw [hr] at e1
          have hlt : pre.length + m < l.length := by rw [e1, List.length_append, hlen]; simp
          have hrl : m + (r.length + 1) = suf.length := by
            have := congrArg List.length hsplit
            rw [hr, List.length_append, List.length_cons, hal] at this
            omega
          have hfit := fits_ev L hL2 l st 0 60 ⟨#[32, 49]⟩ (by decide) s r (pre ++ a) e1
          rw [hlen] at hfit
          rw [goP, begins L _ _ out a st s hk]
          refine parse_bind hi hp (Ev.pos hol (Ev.neg (show ¬ ((0 : Int) > 0 ∨ ((pre.length + m : Nat) : Int) = (l.length : Int)) by omega) (Ev.bind hfit ?_)))
          by_cases hf : fitC s L 60 ⟨#[32, 49]⟩ = 1
          · rw [if_pos hf]
            refine Ev.pos hf ?_
            have e2 : l = ((pre ++ a) ++ [s]) ++ r := by rw [e1]; simp
            have hl2 : ((pre ++ a) ++ [s]).length = pre.length + m + 1 := by rw [List.length_append, hlen]; rfl
            have hwr : wrap64 (((pre.length + m : Nat) : Int) + 1) = (((pre ++ a) ++ [s]).length : Int) := by
              rw [wrap_nat _ (by unfold M; omega), hl2]
            obtain ⟨res, hres, hsim⟩ := sides_sim L hL1 hL2 l hl (addT out a) r.length r ((pre ++ a) ++ [s]) (Nat.le_refl _) e2 [] [] false st (fun h => by cases h) (by decide)
            refine Ev.bind (a := res) (by rw [← hwr] at hres; exact hres) ?_
            simp only
            rw [← hl2]
            rcases hsim with ⟨er, h1, h2⟩ | ⟨τ, h1, h2, h3⟩ | ⟨p2, s2, t2, b2, d2, h1, h2, h3, h4⟩
            · rw [h1, finish, ← h2]
              exact wrong_end _ _ _ _ _ _ _ (by omega)
            · rw [h1, finish, if_pos h2, ← h3]
              exact wrong_end _ _ _ _ _ _ _ (by omega)
            · rw [h4, h3]
              exact ih s2 p2 (by omega) h1 _ t2 (by rw [List.length_append]; simp only [List.length_cons, List.length_nil]; omega)
          · rw [if_neg hf]
            refine Ev.neg hf (Ev.bind (a := (l, (L : Int), ((pre.length + m : Nat) : Int), st, wrap64 (((pre.length + m : Nat) : Int) + 1))) ⟨0, fun _ _ => rfl⟩ ?_)
            simp only
            rw [wrap_nat _ (by unfold M; omega)]
            exact wrong_end _ _ _ _ _ _ _ (by omega)
theorem parse_ref (l : List ByteArray) (hl : FL l) (K : Int) (hK1 : 1 ≤ K) (hK2 : K ≤ 4096) : Ev (fun k => parseF k l.length l K 0 0 0 []) (parseP l K) := by
  obtain ⟨L, rfl⟩ : ∃ L : Nat, K = (L : Int) := ⟨K.toNat, by omega⟩
  have h := parse_sim L (by omega) (by omega) l hl l.length l [] (Nat.le_refl _) rfl [] 0 (by have := hl.1; simp; omega)
  have e : parseP l (L : Int) = finish l.length (goP l.length l 0 (rdO L [] [] 0)) := by
    rw [parseP, if_neg (by omega), Int.toNat_natCast, show Unmark.start L = rdO L [] [] 0 from rfl]
    cases goP l.length l 0 (rdO L [] [] 0) <;> rfl
  rw [e]
  exact h
end Go.Proofs.YtcnjbmdnnhbfkaaDoor.Plain

/- sennitref13.Parse: its contract, in the form of a printed one without rounds: it tells what the program's reader tells. -/
namespace Go.Proofs.YtcnjbmdnnhbfkaaDoor.Ref13
open Go.RowKit Go.Proofs.YtcnjbmdnnhbfkaaDoor.XD Go.Proofs.YtcnjbmdnnhbfkaaDoor.XQ Go.Proofs.YtcnjbmdnnhbfkaaDoorW.PrintWords Go.Proofs.YtcnjbmdnnhbfkaaDoorW.PrintLast Go.Proofs.YtcnjbmdnnhbfkaaDoorW.PrintMore
set_option maxHeartbeats 1600000 in
set_option maxRecDepth 100000 in
theorem parse_size (P : Nat → Prop) (A : Option Addr) (c : Nat) (l : List ByteArray) (K : Int) (w : World) (h : K < 1 ∨ K > 4096) :
    Calls Tryd.prog 10 #[.slice A l.length c, .int .i64 K] w (POut w P ([], 0, 0, 1)) := by
  by_cases h1 : K < 1
  · have k1 : decide (K < 1) = true := decide_eq_true h1
    clear h
    go_enter Tryd.func10, Tryd.ntmps10
    go_wp2
    ((try simp only [Exit.inBlock, Exit.then]); refine bodyPost_ret (Unmark.results_tmp4 rfl _ _ _) rfl ?_)
    exact ⟨_, rfl, Kd.V_nil _ _ _ _ _, Below.refl _ _⟩
  · have h2 : 4096 < K := by omega
    have k1 : decide (K < 1) = false := decide_eq_false h1
    replace h1 : 1 ≤ K := by omega
    have k2 : decide (K > 4096) = true := decide_eq_true h2
    clear h
    go_enter Tryd.func10, Tryd.ntmps10
    go_wp2
    ((try simp only [Exit.inBlock, Exit.then]); refine bodyPost_ret (Unmark.results_tmp4 rfl _ _ _) rfl ?_)
    exact ⟨_, rfl, Kd.V_nil _ _ _ _ _, Below.refl _ _⟩
def sennitref13_Parse.f (l : List ByteArray) (K : Int) : Option (List S37 × Int × Int × Int) := if l.length ≤ 100000 ∧ ∀ s ∈ l, s.size ≤ 1000000 then some (Unmark.parseP l K) else none
theorem sennitref13_Parse.calls (P0_ : Nat → Prop) (A0 : Option Addr) (c0 : Nat) (l0 : List ByteArray) (a1 : Int) (r0 : List S37) (r1 r2 r3 : Int) (w : World) (hs0 : Kd.V Kd.string 9 w w.heap.size (fun k_ => P0_ k_) (.slice A0 l0.length c0) l0) (h : sennitref13_Parse.f l0 a1 = some (r0, r1, r2, r3)) :
    Calls Tryd.prog 10 #[.slice A0 l0.length c0, .int .i64 a1] w fun e w' => ∃ v0_ : Value, e = .returned (.tuple #[v0_, .int .i64 r1, .int .i64 r2, .int .i64 r3]) ∧ Kd.V k37 37 w' w.heap.size (fun k_ => (P0_ k_ ∨ w.heap.size ≤ k_)) v0_ r0 ∧ Below w.heap.size w w' := by
  unfold sennitref13_Parse.f at h
  split at h
  · rename_i hl
    have e := Option.some.inj h
    by_cases hk : a1 < 1 ∨ a1 > 4096
    · have := parse_size P0_ A0 c0 l0 a1 w hk
      rw [show (([], 0, 0, 1) : List S37 × Int × Int × Int) = (r0, r1, r2, r3) by rw [← e, Unmark.parseP, if_pos hk]] at this
      exact this
    · obtain ⟨k, hk2⟩ := Plain.parse_ref l0 hl a1 (by omega) (by omega)
      have := parse_any k P0_ A0 c0 l0 a1 _ w hs0 (by omega) (by omega) (hk2 k (Nat.le_refl _))
      rw [e] at this
      exact this
  · cases h
#print axioms sennitref13_Parse.calls
end Go.Proofs.YtcnjbmdnnhbfkaaDoor.Ref13
