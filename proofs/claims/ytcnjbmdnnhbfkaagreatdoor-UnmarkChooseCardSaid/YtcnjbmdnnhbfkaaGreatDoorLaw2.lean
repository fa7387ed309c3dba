/- What mark.Print tells, in plain Lean: styles. -/
import Derived.Test.YtcnjbmdnnhbfkaaGreatDoorLaw1
namespace Go.Proofs.YtcnjbmdnnhbfkaaGreatDoor.Law
open Go.RowKit Go.Proofs.YtcnjbmdnnhbfkaaGreatDoor.XD Go.Proofs.YtcnjbmdnnhbfkaaGreatDoor.Mark
/-! ### pieces without a conflict -/
def oneT (t : List ByteArray) : List Piece := if t.length = 0 then [] else [⟨false, t, [], []⟩]
theorem oneT_put (t : List ByteArray) (x : Piece) (hx : x.f0 = false) : putR (oneT t) x = oneT (t ++ x.f1) := by
 unfold putR oneT
 rw [if_neg (by rw [hx]; decide)]
 by_cases h1 : x.f1.length = 0
 ·rw [if_pos h1, List.length_eq_zero_iff.1 h1, List.append_nil]
 ·rw [if_neg h1]
  rw [if_neg (show ¬ (t ++ x.f1).length = 0 by rw [List.length_append]; omega)]
  by_cases ht : t.length = 0
  ·rw [if_pos ht, List.length_eq_zero_iff.1 ht, List.nil_append]; rfl
  ·rw [if_neg ht]; rfl
def texts (l : List Piece) : List ByteArray := (l.map fun p => p.f1).flatten
theorem norm_clean (l : List Piece) (h : ∀ p ∈ l, p.f0 = false) : norm l = oneT (texts l) := by
 have : ∀ (ys : List Piece) t, (∀ p ∈ ys, p.f0 = false) → ys.foldl putR (oneT t) = oneT (t ++ texts ys) := by
  intro ys
  induction ys with
  | nil => intro t _; simp [texts]
  | cons x xs ih =>
   intro t hx
   rw [List.foldl_cons, oneT_put t x (hx x (by simp)), ih _ (fun p hp => hx p (by simp [hp]))]
   simp [texts]
 have h0 := this l [] h
 simpa [oneT, norm] using h0
theorem clean_is {l : List Piece} (hn : norm l = l) (h : ∀ p ∈ l, p.f0 = false) : l = oneT (texts l) := by
 rw [← norm_clean l h, hn]
theorem zeal_clean {l : List Piece} (hn : norm l = l) (h : ∀ p ∈ l, p.f0 = false) : zeal l = l := by
 have e := clean_is hn h
 generalize texts l = t at e
 subst e
 unfold oneT
 by_cases ht : t.length = 0
 ·rw [if_pos ht]; rfl
 ·rw [if_neg ht]
  have : norm [(⟨false, t, [], []⟩ : Piece)] = [⟨false, t, [], []⟩] := by
   have := norm_clean [(⟨false, t, [], []⟩ : Piece)] (by simp)
   rw [this]
   simp [texts, oneT, ht]
  rw [zeal, List.flatMap_cons, List.flatMap_nil, List.append_nil, trim, if_pos (.inl rfl), this, this]
theorem page_clean (st : Int) (n : Nat) (l : List Piece) (h : ∀ p ∈ l, p.f0 = false) : pageTo st n l = texts l := by
 have : ∀ (ys : List Piece) out, (∀ p ∈ ys, p.f0 = false) → ys.foldl (pageOne st n) out = out ++ texts ys := by
  intro ys
  induction ys with
  | nil => intro out _; simp [texts]
  | cons x xs ih =>
   intro out hx
   rw [List.foldl_cons, ih _ (fun p hp => hx p (by simp [hp])), pageOne, if_neg (by rw [hx x (by simp)]; decide)]
   simp [texts]
 have h0 := this l [] h
 simpa [pageTo] using h0
theorem odd_norm {l : List Piece} (h : oddB l = false) : norm l = l := by
 rw [oddB, Bool.or_eq_false_iff, Bool.not_eq_false'] at h
 exact ((samesB_iff _ _).1 h.1).symm
/-! ### pieces without their bases -/
def bareP (p : Piece) : Piece := ⟨p.f0, p.f1, [], p.f3⟩
def bare (l : List Piece) : List Piece := l.map bareP
theorem putR_bare (out : List Piece) (x : Piece) : putR (bare out) (bareP x) = bare (putR out x) := by
 unfold putR
 by_cases hf : x.f0 = true
 ·rw [if_pos hf, if_pos (show (bareP x).f0 = true from hf)]
  simp [bare, bareP]
 ·rw [if_neg hf, if_neg (show ¬ (bareP x).f0 = true from hf)]
  by_cases h1 : x.f1.length = 0
  ·rw [if_pos h1, if_pos (show (bareP x).f1.length = 0 from h1)]
  ·rw [if_neg h1, if_neg (show ¬ (bareP x).f1.length = 0 from h1)]
   have e : (bare out).getLast? = out.getLast?.map bareP := by rw [bare, List.getLast?_map]
   rw [e]
   cases hl : out.getLast? with
   | none => simp [bare, bareP]
   | some y =>
    simp only [Option.map_some]
    by_cases hy : y.f0 = true
    ·rw [if_pos hy, if_pos (show (bareP y).f0 = true from hy)]
     simp [bare, bareP]
    ·rw [if_neg hy, if_neg (show ¬ (bareP y).f0 = true from hy)]
     simp [bare, List.map_set, bareP]
theorem norm_bare (l : List Piece) : norm (bare l) = bare (norm l) := by
 have : ∀ (ys : List Piece) out, (bare ys).foldl putR (bare out) = bare (ys.foldl putR out) := by
  intro ys
  induction ys with
  | nil => intro out; rfl
  | cons x xs ih =>
   intro out
   show (bare xs).foldl putR (putR (bare out) (bareP x)) = _
   rw [putR_bare, ih, List.foldl_cons]
 exact this l []
theorem bad_bare {l : List Piece} (h : badTo l l.length = false) : badTo (bare l) (bare l).length = false := by
 have hl : (bare l).length = l.length := by simp [bare]
 rw [hl]
 rw [badTo, List.any_eq_false] at h ⊢
 intro i hi
 have h2 := h i hi
 rw [List.mem_range] at hi
 have e : (bare l).getD i z36 = bareP (l.getD i z36) := by
  rw [List.getD_eq_getElem?_getD, List.getD_eq_getElem?_getD, bare, List.getElem?_map, List.getElem?_eq_getElem hi]; rfl
 rw [e, hl]
 generalize l.getD i z36 = p at h2 ⊢
 simp only [badAt, textsL, bareP, List.any_append, List.any_cons, List.any_nil, Bool.or_eq_true, not_or, Bool.or_false, Bool.not_eq_true] at h2 ⊢
 refine ⟨⟨⟨h2.1.1.1, rfl⟩, h2.1.2⟩, h2.2⟩
theorem odd_bare {l : List Piece} (h : oddB l = false) : oddB (bare l) = false := by
 have hn := odd_norm h
 rw [oddB, Bool.or_eq_false_iff] at h ⊢
 refine ⟨?_, bad_bare h.2⟩
 rw [Bool.not_eq_false', samesB_iff, norm_bare, hn]
theorem bare_wrong {l : List Piece} {lg : Int} (h : wrongN l l 1 lg = 0) : wrongN (bare l) (bare l) 1 lg = 0 := by
 obtain ⟨⟨h1, h2, h3, h4, h5⟩, ⟨h6, -⟩, h8⟩ := (wrong_iff _ _ _ _).1 h
 refine (wrong_iff _ _ _ _).2 ⟨⟨h1, h2, h3, h4, ?_⟩, ⟨odd_bare h6, odd_bare h6⟩, (fits_ok h3).2 ?_⟩
 ·rw [← h5, bare, List.any_map]; rfl
 ·intro p hp
  obtain ⟨q, hq, rfl⟩ := List.mem_map.1 hp
  have := texts_ok.1 ((fits_ok h3).1 h8 q hq)
  exact texts_ok.2 ⟨this.1, fun s hs => by simp [bareP] at hs, this.2.2⟩
theorem page_bare (n : Nat) (l : List Piece) : pageTo 1 n (bare l) = pageTo 1 n l := by
 have h1 : ∀ p : Piece, (oneSide (bareP p) 1 n : Bool × List ByteArray → Nat → Bool × List ByteArray) = oneSide p 1 n := by
  intro p
  funext st i
  simp [oneSide, bareP]
 have h2 : ∀ (out : List ByteArray) (p : Piece), pageOne 1 n out (bareP p) = pageOne 1 n out p := by
  intro out p
  rw [pageOne, pageOne, conflictL, conflictL, sidesTo, sidesTo, h1]; rfl
 have : ∀ (ys : List Piece) out, (bare ys).foldl (pageOne 1 n) out = ys.foldl (pageOne 1 n) out := by
  intro ys
  induction ys with
  | nil => intro out; rfl
  | cons x xs ih =>
   intro out
   show (bare xs).foldl (pageOne 1 n) (pageOne 1 n out (bareP x)) = _
   rw [h2, ih, List.foldl_cons]
 exact this l []
/-! ### how long it is -/
def baseN (st : Int) (p : Piece) : Nat := if st ≠ 1 ∧ 0 < p.f3.length then 1 + p.f2.length else 0
theorem sidesTo_is (p : Piece) (st : Int) (n : Nat) (out : List ByteArray) (k : Nat) (hk : k ≤ p.f3.length) : (sidesTo p st n out k).2.length = out.length + k + (p.f3.take k).flatten.length + (if st ≠ 1 ∧ 0 < k then 1 + p.f2.length else 0) := by
 induction k with
 | zero => simp [sidesTo]
 | succ k ih =>
  have ih := ih (by omega)
  have hx : p.f3[k]? = some (p.f3.getD k []) := by rw [List.getD_eq_getElem?_getD, List.getElem?_eq_getElem (by omega)]; rfl
  rw [sidesTo_succ, flat_snoc hx, List.length_append, oneSide]
  generalize p.f3.getD k [] = s
  by_cases hs : st = 1
  ·rw [if_neg (fun h => h.2 hs), sideA_len, ih, if_neg (fun h => h.1 hs), if_neg (fun h => h.1 hs)]
   omega
  ·by_cases h0 : k = 0
   ·rw [if_pos ⟨h0, hs⟩, baseA_len, sideA_len, ih, if_neg (fun h => by omega), if_pos ⟨hs, by omega⟩]
    omega
   ·rw [if_neg (fun h => h0 h.1), sideA_len, ih, if_pos ⟨hs, by omega⟩, if_pos ⟨hs, by omega⟩]
    omega
def lenOne (st : Int) (p : Piece) : Nat := if p.f0 = true then p.f3.length + 1 + p.f3.flatten.length + baseN st p else p.f1.length
theorem pageOne_is (st : Int) (n : Nat) (out : List ByteArray) (p : Piece) : (pageOne st n out p).length = out.length + lenOne st p := by
 unfold pageOne lenOne
 by_cases hf : p.f0 = true
 ·rw [if_pos hf, if_pos hf, conflictL, List.length_append, List.length_singleton, sidesTo_is p st n out _ (Nat.le_refl _), List.take_length, baseN]
  omega
 ·rw [if_neg hf, if_neg hf, List.length_append]
def lens (st : Int) (l : List Piece) : Nat := (l.map (lenOne st)).sum
theorem page_is (st : Int) (n : Nat) (l : List Piece) : (pageTo st n l).length = lens st l := by
 have : ∀ (ys : List Piece) out, (ys.foldl (pageOne st n) out).length = out.length + lens st ys := by
  intro ys
  induction ys with
  | nil => intro out; simp [lens]
  | cons x xs ih =>
   intro out
   rw [List.foldl_cons, ih, pageOne_is]
   simp [lens]
   omega
 simpa [pageTo] using this l []
theorem lens_more {l : List Piece} (hc : ∀ p ∈ l, Conf FewSides p) (h : ∃ p ∈ l, p.f0 = true) : lens 1 l < lens 2 l := by
 have le : ∀ p : Piece, lenOne 1 p ≤ lenOne 2 p := fun p => by
  unfold lenOne baseN
  split
  ·rw [if_neg (fun h => h.1 rfl)]; omega
  ·exact Nat.le_refl _
 have les : ∀ ys : List Piece, lens 1 ys ≤ lens 2 ys := by
  intro ys
  induction ys with
  | nil => exact Nat.le_refl _
  | cons x xs ih =>
   have := le x
   simp only [lens, List.map_cons, List.sum_cons] at ih ⊢
   omega
 obtain ⟨p, hp, hf⟩ := h
 obtain ⟨a, b, rfl⟩ := List.append_of_mem hp
 have h1 := les a
 have h2 := les b
 have h3 := (hc p hp hf).1
 have h4 : lenOne 1 p < lenOne 2 p := by
  unfold lenOne baseN
  rw [if_pos hf, if_pos hf, if_neg (fun h => h.1 rfl), if_pos ⟨by decide, by omega⟩]
  omega
 simp only [lens, List.map_append, List.map_cons, List.sum_append, List.sum_cons] at h1 h2 ⊢
 omega
theorem styles_clean {l : List Piece} {lg : Int} (h : wrongN l l 1 lg = 0) (hc : ∀ p ∈ l, p.f0 = false) : printL l 1 lg = (texts l, 0) ∧ printL l 2 lg = (texts l, 0) ∧ printL l 3 lg = (texts l, 0) := by
 have hn := odd_norm ((wrong_iff _ _ _ _).1 h).2.1.1
 have hz := zeal_clean hn hc
 have ok : ∀ st : Int, 1 ≤ st → st ≤ 3 → wrongN l l st lg = 0 := fun st h1 h2 => by
  obtain ⟨⟨-, -, h3, h4, h5⟩, h6, h8⟩ := (wrong_iff _ _ _ _).1 h
  exact (wrong_iff _ _ _ _).2 ⟨⟨h1, h2, h3, h4, h5⟩, h6, h8⟩
 refine ⟨?_, ?_, ?_⟩
 ·rw [printL, smallOf, if_neg (show ¬ (1 : Int) = 3 by decide), if_pos (ok 1 (by decide) (by decide)), page_clean _ _ _ hc]
 ·rw [printL, smallOf, if_neg (show ¬ (2 : Int) = 3 by decide), if_pos (ok 2 (by decide) (by decide)), page_clean _ _ _ hc]
 ·rw [printL, smallOf, if_pos rfl, hz, if_pos (ok 3 (by decide) (by decide)), page_clean _ _ _ hc]
theorem styles_bare {l : List Piece} {lg : Int} (h : wrongN l l 1 lg = 0) (hc : ∃ p ∈ l, p.f0 = true) : printL l 1 lg = (pageTo 1 lg.toNat l, 0) ∧ printL (bare l) 1 lg = (pageTo 1 lg.toNat l, 0) ∧ (printL l 1 lg).1.length < (printL l 2 lg).1.length := by
 have h1 : printL l 1 lg = (pageTo 1 lg.toNat l, 0) := by rw [printL, smallOf, if_neg (show ¬ (1 : Int) = 3 by decide), if_pos h]
 have h2 : printL l 2 lg = (pageTo 2 lg.toNat l, 0) := by
  rw [printL, smallOf, if_neg (show ¬ (2 : Int) = 3 by decide), if_pos]
  obtain ⟨⟨-, -, h3, h4, h5⟩, h6, h8⟩ := (wrong_iff _ _ _ _).1 h
  exact (wrong_iff _ _ _ _).2 ⟨⟨by decide, by decide, h3, h4, h5⟩, h6, h8⟩
 refine ⟨h1, by rw [printL, smallOf, if_neg (show ¬ (1 : Int) = 3 by decide), if_pos (bare_wrong h), page_bare], ?_⟩
 rw [h1, h2]
 show (pageTo 1 _ l).length < (pageTo 2 _ l).length
 rw [page_is, page_is]
 exact lens_more ((crowd_iff _).1 ((wrong_iff _ _ _ _).1 h).1.2.2.2.2) hc
#print axioms styles_clean
#print axioms styles_bare
end Go.Proofs.YtcnjbmdnnhbfkaaGreatDoor.Law
