/- The plain law of UnmarkBack. -/
import Derived.Test.YtcnjbmdnnhbfkaaGreatDoorPlRd
import Derived.Test.YtcnjbmdnnhbfkaaGreatDoorPlBare
import Derived.Test.YtcnjbmdnnhbfkaaGreatDoorXD31
namespace Go.Proofs.YtcnjbmdnnhbfkaaGreatDoor.Plain
open Go.RowKit Go.Proofs.YtcnjbmdnnhbfkaaGreatDoor.XD Go.Proofs.YtcnjbmdnnhbfkaaGreatDoor.Mark Go.Proofs.YtcnjbmdnnhbfkaaGreatDoor.Ref Go.Proofs.YtcnjbmdnnhbfkaaGreatDoorW.PrintWords Go.Proofs.YtcnjbmdnnhbfkaaGreatDoorW.PrintMore
/-! ### what normal pieces are like -/
structure Nice (l : List Mark.Piece) : Prop where
 conf : ∀ p ∈ l, p.f0 = true → p.f1 = []
 text : ∀ (j : Nat) p, l[j]? = some p → p.f0 = false → p = ⟨false, p.f1, [], []⟩ ∧ 0 < p.f1.length ∧ ∀ q, l[j + 1]? = some q → q.f0 = true
theorem nice_put {out : List Mark.Piece} {x : Mark.Piece} (h : Nice out) : Nice (putR out x) := by
 have snoc : ∀ z : Mark.Piece, (z.f0 = true → z.f1 = []) → (z.f0 = false → z = ⟨false, z.f1, [], []⟩ ∧ 0 < z.f1.length) → (z.f0 = false → ∀ y, out.getLast? = some y → y.f0 = true) → Nice (out ++ [z]) := fun z h1 h2 h3 => by
  refine ⟨fun p hp hf => ?_, fun j p hj hf => ?_⟩
  ·rcases List.mem_append.1 hp with hp | hp
   ·exact h.conf p hp hf
   ·rw [List.mem_singleton] at hp; subst hp; exact h1 hf
  ·rcases Nat.lt_trichotomy j out.length with hlt | rfl | hgt
   ·rw [List.getElem?_append_left hlt] at hj
    obtain ⟨a, b, c⟩ := h.text j p hj hf
    refine ⟨a, b, fun q hq => ?_⟩
    rcases Nat.lt_or_ge (j + 1) out.length with h4 | h4
    ·rw [List.getElem?_append_left h4] at hq
     exact c q hq
    ·have e : j + 1 = out.length := by omega
     rw [e, List.getElem?_append_right (Nat.le_refl _), Nat.sub_self] at hq
     injection hq with hq
     subst hq
     cases hz : z.f0 with
     | true => rfl
     | false =>
      have hl : out.getLast? = some p := by rw [List.getLast?_eq_getElem?, show out.length - 1 = j by omega]; exact hj
      have := h3 hz p hl
      rw [hf] at this; cases this
   ·rw [List.getElem?_append_right (Nat.le_refl _), Nat.sub_self] at hj
    injection hj with hj
    subst hj
    refine ⟨(h2 hf).1, (h2 hf).2, fun q hq => ?_⟩
    rw [List.getElem?_append_right (by omega), show out.length + 1 - out.length = 1 by omega] at hq
    simp at hq
   ·rw [List.getElem?_append_right (by omega)] at hj
    have : ([z] : List Mark.Piece)[j - out.length]? = none := List.getElem?_eq_none (by simp; omega)
    rw [this] at hj; cases hj
 unfold putR
 split
 ·exact snoc _ (fun _ => rfl) (fun e => (by cases e)) (fun e => (by cases e))
 ·split
  ·exact h
  ·rename_i hne
   have hpos : 0 < x.f1.length := by omega
   split
   ·rename_i hn
    exact snoc _ (fun e => (by cases e)) (fun _ => ⟨rfl, hpos⟩) (fun _ y hy => by rw [hn] at hy; cases hy)
   ·rename_i y hy
    split
    ·rename_i hyt
     exact snoc _ (fun e => (by cases e)) (fun _ => ⟨rfl, hpos⟩) (fun _ z hz => by rw [hy] at hz; injection hz with hz; subst hz; exact hyt)
    ·rename_i hyf
     have hyf : y.f0 = false := by simpa using hyf
     have hl : out[out.length - 1]? = some y := by rw [← List.getLast?_eq_getElem?]; exact hy
     have hlt : out.length - 1 < out.length := (List.getElem?_eq_some_iff.1 hl).1
     obtain ⟨a, b, -⟩ := h.text _ y hl hyf
     have e2 : y.f2 = [] ∧ y.f3 = [] := by rw [a]; exact ⟨rfl, rfl⟩
     refine ⟨fun p hp hf => ?_, fun j p hj hf => ?_⟩
     ·rcases List.mem_or_eq_of_mem_set hp with hp | rfl
      ·exact h.conf p hp hf
      ·rw [hyf] at hf; cases hf
     ·rcases Nat.lt_trichotomy j (out.length - 1) with h1 | rfl | h1
      ·rw [List.getElem?_set_ne (by omega)] at hj
       obtain ⟨c1, c2, c3⟩ := h.text j p hj hf
       refine ⟨c1, c2, fun q hq => ?_⟩
       by_cases h2 : j + 1 = out.length - 1
       ·have := c3 y (by rw [h2]; exact hl)
        rw [hyf] at this; cases this
       ·rw [List.getElem?_set_ne (by omega)] at hq
        exact c3 q hq
      ·rw [List.getElem?_set_self hlt] at hj
       injection hj with hj
       subst hj
       refine ⟨by rw [hyf, e2.1, e2.2], by rw [List.length_append]; omega, fun q hq => ?_⟩
       have := (List.getElem?_eq_some_iff.1 hq).1
       rw [List.length_set] at this
       omega
      ·have := (List.getElem?_eq_some_iff.1 hj).1
       rw [List.length_set] at this
       omega
theorem norm_nice (xs : List Mark.Piece) : Nice (norm xs) := by
 have : ∀ (ys : List Mark.Piece) out, Nice out → Nice (ys.foldl putR out) := by
  intro ys
  induction ys with
  | nil => intro out h; exact h
  | cons x xs ih => intro out h; exact ih _ (nice_put h)
 exact this xs [] ⟨fun p hp => by simp at hp, fun j p hj => by simp at hj⟩
theorem nice_adj : ∀ (l : List Mark.Piece), Nice l → Adj l
 | [], _ => trivial
 | p :: l, h => by
  refine ⟨fun hf => ?_, nice_adj l ⟨fun q hq => h.conf q (by simp [hq]), fun j q hj hf => ?_⟩⟩
  ·obtain ⟨a, b, c⟩ := h.text 0 p rfl hf
   exact ⟨a, b, fun q hq => c q (by rw [List.head?_eq_getElem?] at hq; simpa using hq)⟩
  ·obtain ⟨a, b, c⟩ := h.text (j + 1) q (by simpa using hj) hf
   exact ⟨a, b, fun q2 hq => c q2 (by simpa using hq)⟩
theorem want_of {l : List Mark.Piece} (hN : Nice l) (st : Int) : l.map (wantP st) = if st = 1 then Law.bare l else l := by
 by_cases hs : st = 1
 ·rw [if_pos hs, Law.bare]
  refine List.map_congr_left fun p hp => ?_
  unfold wantP Law.bareP
  cases hf : p.f0 with
  | true => rw [if_pos rfl, if_neg (fun h => h hs), hN.conf p hp hf]
  | false =>
   rw [if_neg (by decide)]
   obtain ⟨j, hj, e⟩ := List.mem_iff_getElem.1 hp
   obtain ⟨a, -, -⟩ := hN.text j p (by rw [List.getElem?_eq_getElem hj, e]) hf
   rw [a]
 ·rw [if_neg hs]
  conv => rhs; rw [← List.map_id l]
  refine List.map_congr_left fun p hp => ?_
  unfold wantP
  cases hf : p.f0 with
  | true =>
   rw [if_pos rfl, if_pos hs]
   have := hN.conf p hp hf
   cases p
   simp only at hf this ⊢
   rw [hf, this]; rfl
  | false => rw [if_neg (by decide)]; rfl
theorem style_ev (l : List Mark.Piece) (hl : l.length ≤ 20000) (st : Int) : Ev (fun k => sennitlaw13_style.f k l st) (if l.any (fun p => p.f0) = true then starS st else 1) := by
 have yes : Ev (fun k => sennitlaw13_style.j0 k true) 1 := Ev.step (fun k => by simp only [sennitlaw13_style.j0]; rw [if_pos trivial]) (Ev.now _)
 have no : Ev (fun k => sennitlaw13_style.j0 k false) 2 := Ev.step (fun k => by simp only [sennitlaw13_style.j0]; rw [if_neg (by decide)]) (Ev.now _)
 by_cases hs : st = 1
 ·have e : (if l.any (fun p => p.f0) = true then starS st else 1) = 1 := by
   have e0 : starS st = 1 := by rw [starS, if_neg (fun h => h hs)]
   rw [e0]; split <;> rfl
  rw [e]
  exact Ev.pos hs yes
 ·obtain ⟨b, hb, hq⟩ := clean_ev l hl
  rw [starS, if_pos hs]
  refine Ev.neg hs (Ev.bind hb ?_)
  cases b with
  | true =>
   have hn : l.any (fun p => p.f0) = false := List.any_eq_false.2 fun p hp => by rw [hq.1 rfl p hp]; decide
   rw [hn, if_neg (by decide)]
   exact yes
  | false =>
   have hn : l.any (fun p => p.f0) = true := by
    cases ha : l.any (fun p => p.f0) with
    | true => rfl
    | false =>
     have : ∀ p ∈ l, p.f0 = false := fun p hp => by simpa using List.any_eq_false.1 ha p hp
     exact absurd (hq.2 this) (by decide)
   rw [hn, if_pos rfl]
   exact no
theorem sames_ev (a b : List Mark.Piece) (h : a = b) : Ev (fun _ => Ref.sennitref07_Same.f a b) true := ⟨0, fun _ _ => by unfold Ref.sennitref07_Same.f; rw [(Law.samesB_iff a b).2 h]⟩
theorem any_bare (l : List Mark.Piece) : (Law.bare l).any (fun p => p.f0) = l.any (fun p => p.f0) := by
 rw [Law.bare, List.any_map]; rfl
theorem UnmarkBack (l : List Mark.Piece) (st lg : Int) (h : l.length ≤ M ∧ ∀ p ∈ l, InP p) (_ : (Lit.int .i64 st).wf = true) (_ : (Lit.int .i64 lg).wf = true) : ∃ k, sennitlaw13_UnmarkBack.f k l st lg = some true := by
 refine Ev.rounds (g := fun k => sennitlaw13_UnmarkBack.f k l st lg) ?_
 refine Ev.bind (a := true) ⟨0, fun _ _ => sennitlaw13_awake_true⟩ ?_
 obtain ⟨b, hb, hq⟩ := may12_ev l st lg h.1 (len_in h.2)
 refine Ev.bind hb ?_
 cases b with
 | false => exact Ev.neg (by decide) (Ev.now _)
 | true =>
  refine Ev.pos rfl ?_
  obtain ⟨⟨f1, f2⟩, h40, hw⟩ := hq rfl
  obtain ⟨o1, o2⟩ := few_okay f1 f2
  obtain ⟨⟨h1, h2, h3, h4, h5⟩, ⟨h6, h7⟩, h8⟩ := (Law.wrong_iff _ _ _ _).1 hw
  have hsm : smallOf l st = l ∨ smallOf l st = zeal l := by
   unfold smallOf
   split
   ·exact .inr rfl
   ·exact .inl rfl
  have hfit := (Law.fits_ok h3).1 h8
  have hcr := (Law.crowd_iff _).1 h5
  have facts : Okay (smallOf l st) ∧ (∀ p ∈ smallOf l st, Law.Conf Law.FewSides p) ∧ (∀ p ∈ smallOf l st, ∀ t ∈ textsL p, ∀ s ∈ t, (Size.runN s : Int) < lg) ∧ (∀ p ∈ smallOf l st, ∀ t ∈ textsL p, ∀ s ∈ t, s.size ≤ 100) := by
   rcases hsm with e | e <;> rw [e]
   ·exact ⟨o1, hcr, hfit, few_texts f2⟩
   ·exact ⟨o2, Law.zeal_conf hcr, Law.zeal_all hfit, Law.zeal_all (few_texts f2)⟩
  obtain ⟨oS, cS, rS, zS⟩ := facts
  obtain ⟨n1, n2, n3⟩ := (odd_iff _).1 h7
  have nice : Nice (smallOf l st) := by rw [← n1]; exact norm_nice _
  obtain ⟨L, hL⟩ : ∃ L : Nat, lg = (L : Int) := ⟨lg.toNat, by omega⟩
  subst hL
  have tx : ∀ p ∈ smallOf l st, Tx (L : Int) p := fun p hp => ⟨fun t ht => n2 t (by rw [lists, List.mem_flatMap]; exact ⟨p, hp, ht⟩), rS p hp, zS p hp⟩
  have txc : ∀ p ∈ smallOf l st, Tx (L : Int) p ∧ Law.Conf Law.FewSides p := fun p hp => ⟨tx p hp, cS p hp⟩
  obtain ⟨-, -, g3⟩ := page_news (st := st) (n := L) ⟨by omega, by omega⟩ rfl (smallOf l st) [] txc n3 (fun s hs => by simp at hs)
  have hpar := parse_page (by omega) (by omega) st (smallOf l st) txc n3 (nice_adj _ nice)
  rw [want_of nice] at hpar
  have hpr : printL l st (L : Int) = (pageTo st L (smallOf l st), 0) := by rw [printL, if_pos hw, Int.toNat_natCast]
  have hlen : (pageTo st L (smallOf l st)).length ≤ 100000 := by
   have q := pageTo_len st L (smallOf l st) (smallOf l st).length
   rw [List.take_length] at q
   have := oS.1
   omega
  have hpf : Unmark.unmark_Parse.f (pageTo st L (smallOf l st)) (L : Int) = some (Unmark.parseP (pageTo st L (smallOf l st)) (L : Int)) := if_pos ⟨hlen, fun s hs => by have := g3 s hs; omega⟩
  refine Ev.bind (print_ev l st (L : Int) o1) ?_
  rw [hpr]
  refine Ev.bind (a := Unmark.parseP (pageTo st L (smallOf l st)) (L : Int)) ⟨0, fun _ _ => hpf⟩ ?_
  rw [hpar]
  have last : ∀ want : List Mark.Piece, want.length ≤ 20000 → (if st = 1 then Law.bare (smallOf l st) else smallOf l st) = want → (smallOf l st).any (fun p => p.f0) = want.any (fun p => p.f0) →
    Ev (fun k => sennitlaw13_UnmarkBack.j1 k st true (if st = 1 then Law.bare (smallOf l st) else smallOf l st) (if (smallOf l st).any (fun p => p.f0) = true then starS st else 1) 0 0 want) true := fun want hwl e1 e2 => by
   refine Ev.step (fun k => by simp only [sennitlaw13_UnmarkBack.j1]; rw [if_pos trivial, if_pos trivial, if_pos trivial]) ?_
   refine Ev.bind (sames_ev _ _ e1) (Ev.pos rfl (Ev.bind (style_ev want hwl st) ?_))
   rw [e2, beq_self_eq_true]
   exact Ev.now _
  by_cases hs1 : st = 1
  ·have es : smallOf l st = l := if_neg (by omega)
   refine Ev.pos hs1 (Ev.bind (bare_ev l o1.1.1) ?_)
   refine Ev.step (fun k => by simp only [sennitlaw13_UnmarkBack.j0]; rw [if_neg (by omega)]) ?_
   exact last (Law.bare l) (by have := o1.1.1; simpa [Law.bare] using this) (by rw [if_pos hs1, es]) (by rw [es, any_bare])
  ·refine Ev.neg hs1 ?_
   by_cases hs3 : st = 3
   ·refine Ev.step (fun k => by simp only [sennitlaw13_UnmarkBack.j0]; rw [if_pos hs3]) (Ev.bind (zeal_ev l o1) ?_)
    have es : smallOf l st = zeal l := if_pos hs3
    exact last (zeal l) o2.1.1 (by rw [if_neg hs1, es]) (by rw [es])
   ·refine Ev.step (fun k => by simp only [sennitlaw13_UnmarkBack.j0]; rw [if_neg hs3]) ?_
    have es : smallOf l st = l := if_neg hs3
    exact last l o1.1.1 (by rw [if_neg hs1, es]) (by rw [es])
#print axioms UnmarkBack
end Go.Proofs.YtcnjbmdnnhbfkaaGreatDoor.Plain
