/- What mark.Print tells, in plain Lean: what forbids pieces, the zealous style, marks of the automatic size. -/
import Derived.Test.YtcnjbmdnnhbfkaaGreatDoorMk2
namespace Go.Proofs.YtcnjbmdnnhbfkaaGreatDoor.Law
open Go.RowKit Go.Proofs.YtcnjbmdnnhbfkaaGreatDoor.XD Go.Proofs.YtcnjbmdnnhbfkaaGreatDoor.Mark
theorem eqBy_iff {α : Type} (q : α → α → Bool) (hq : ∀ x y, q x y = true ↔ x = y) : ∀ xs ys : List α, eqBy q xs ys = true ↔ xs = ys := by
 intro xs
 induction xs with
 | nil => intro ys; cases ys <;> simp [eqBy]
 | cons x xs ih =>
  intro ys
  cases ys with
  | nil => simp [eqBy]
  | cons y ys =>
   have := ih ys
   simp only [eqBy, Bool.and_eq_true, decide_eq_true_eq] at this
   simp only [eqBy, List.length_cons, List.zip_cons_cons, List.all_cons, Bool.and_eq_true, decide_eq_true_eq, List.cons.injEq, hq, Nat.add_right_cancel_iff]
   rw [← this]
   constructor
   ·rintro ⟨a, b, c⟩; exact ⟨b, a, c⟩
   ·rintro ⟨b, a, c⟩; exact ⟨a, b, c⟩
theorem bytes_inj {a b : ByteArray} : a.toList = b.toList ↔ a = b := by
 rw [ByteArray.toList_eq, ByteArray.toList_eq]
 exact ⟨fun h => ByteArray.ext (Array.ext' h), fun h => by rw [h]⟩
theorem eqL_iff (xs ys : List ByteArray) : eqL xs ys = true ↔ xs = ys := eqBy_iff _ (fun a b => by rw [beq_iff_eq, bytes_inj]) xs ys
theorem sameB_iff (x y : Piece) : sameB x y = true ↔ x = y := by
 cases x; cases y
 simp only [sameB, Bool.and_eq_true, beq_iff_eq, eqL_iff, eqBy_iff eqL eqL_iff, S36.mk.injEq, and_assoc]
theorem samesB_iff (xs ys : List Piece) : eqBy sameB xs ys = true ↔ xs = ys := eqBy_iff _ sameB_iff xs ys
theorem lng_lt (l : List ByteArray) (n : Nat) : lng l < n ↔ 0 < n ∧ ∀ s ∈ l, Size.runN s < n := by
 have : ∀ (xs : List ByteArray) (m : Nat), xs.foldl (fun m s => max m (Size.runN s)) m < n ↔ m < n ∧ ∀ s ∈ xs, Size.runN s < n := by
  intro xs
  induction xs with
  | nil => intro m; simp
  | cons x xs ih =>
   intro m
   rw [List.foldl_cons, ih, Nat.max_lt, and_assoc, List.forall_mem_cons]
 exact this l 0
theorem fits_iff (n : Int) (ls : List (List ByteArray)) : fitsB n ls = true ↔ 1 ≤ n ∧ ∀ s ∈ ls.flatten, (Size.runN s : Int) < n := by
 rw [fitsB, Bool.and_eq_true, decide_eq_true_eq, decide_eq_true_eq]
 refine and_congr_right fun h => ?_
 obtain ⟨m, rfl⟩ : ∃ m : Nat, n = (m : Int) := ⟨n.toNat, by omega⟩
 have := lng_lt ls.flatten m
 simp only [Int.ofNat_lt]
 exact this.trans ⟨fun h => h.2, fun h2 => ⟨by omega, h2⟩⟩
theorem wrong_iff (l small : List Piece) (st lg : Int) : wrongN l small st lg = 0 ↔ (1 ≤ st ∧ st ≤ 3 ∧ 1 ≤ lg ∧ lg ≤ 4096 ∧ l.any crowd = false) ∧ (oddB l = false ∧ oddB small = false) ∧ fitsB lg (lists l) = true := by
 unfold wrongN
 split
 ·rename_i h
  refine ⟨fun e => absurd e (by decide), fun ⟨h1, _⟩ => ?_⟩
  rcases h with h | h | h | h | h
  ·omega
  ·omega
  ·omega
  ·omega
  ·rw [h] at h1; exact absurd h1.2.2.2.2 (by decide)
 ·rename_i h
  simp only [not_or] at h
  have h0 : (1 ≤ st ∧ st ≤ 3 ∧ 1 ≤ lg ∧ lg ≤ 4096 ∧ l.any crowd = false) := ⟨by omega, by omega, by omega, by omega, by simpa using h.2.2.2.2⟩
  split
  ·rename_i h2
   rw [Bool.or_eq_true] at h2
   refine ⟨fun e => absurd e (by decide), fun ⟨_, h3, _⟩ => ?_⟩
   rcases h2 with h2 | h2 <;> rw [h2] at h3
   ·exact absurd h3.1 (by decide)
   ·exact absurd h3.2 (by decide)
  ·rename_i h2
   rw [Bool.or_eq_true, not_or, Bool.not_eq_true, Bool.not_eq_true] at h2
   split
   ·rename_i h4; exact ⟨fun _ => ⟨h0, h2, h4⟩, fun _ => rfl⟩
   ·rename_i h4; exact ⟨fun e => absurd e (by decide), fun h => absurd h.2.2 h4⟩
theorem mem_lists {l : List Piece} {s : ByteArray} : s ∈ (lists l).flatten ↔ ∃ p ∈ l, ∃ t ∈ textsL p, s ∈ t := by
 rw [List.mem_flatten]
 constructor
 ·rintro ⟨t, ht, hs⟩
  rw [lists, List.mem_flatMap] at ht
  obtain ⟨p, hp, ht⟩ := ht
  exact ⟨p, hp, t, ht, hs⟩
 ·rintro ⟨p, hp, t, ht, hs⟩
  exact ⟨t, by rw [lists, List.mem_flatMap]; exact ⟨p, hp, ht⟩, hs⟩
/-! ### conflicts stay as they are -/
def Conf (D : List ByteArray → List (List ByteArray) → Prop) (p : Piece) : Prop := p.f0 = true → D p.f2 p.f3
theorem putR_conf {D : List ByteArray → List (List ByteArray) → Prop} {out : List Piece} {x : Piece} (h : ∀ p ∈ out, Conf D p) (hx : Conf D x) : ∀ p ∈ putR out x, Conf D p := by
 have text : ∀ t : List ByteArray, ∀ p ∈ out ++ [(⟨false, t, [], []⟩ : Piece)], Conf D p := fun t p hp => by
  rcases List.mem_append.1 hp with hp | hp
  ·exact h p hp
  ·rw [List.mem_singleton] at hp
   subst hp
   intro e; cases e
 unfold putR
 split
 ·intro p hp
  rcases List.mem_append.1 hp with hp | hp
  ·exact h p hp
  ·rw [List.mem_singleton] at hp
   subst hp
   exact fun _ => hx (by assumption)
 ·split
  ·exact h
  ·split
   ·exact text _
   ·rename_i y hy
    split
    ·exact text _
    ·rename_i hyf
     intro p hp
     rcases List.mem_or_eq_of_mem_set hp with hp | rfl
     ·exact h p hp
     ·exact fun e => absurd e hyf
theorem norm_conf {D : List ByteArray → List (List ByteArray) → Prop} {xs : List Piece} (h : ∀ p ∈ xs, Conf D p) : ∀ p ∈ norm xs, Conf D p := by
 have : ∀ (ys : List Piece) out, (∀ p ∈ out, Conf D p) → (∀ p ∈ ys, Conf D p) → ∀ p ∈ ys.foldl putR out, Conf D p := by
  intro ys
  induction ys with
  | nil => intro out h _; exact h
  | cons x xs ih => intro out h hx; exact ih _ (putR_conf h (hx x (by simp))) (fun p hp => hx p (by simp [hp]))
 exact this xs [] (fun p hp => by simp at hp) h
def FewSides (_ : List ByteArray) (s : List (List ByteArray)) : Prop := 1 ≤ s.length ∧ s.length ≤ 16
theorem crowd_iff (l : List Piece) : l.any crowd = false ↔ ∀ p ∈ l, Conf FewSides p := by
 rw [List.any_eq_false]
 refine forall_congr' fun p => forall_congr' fun _ => ?_
 unfold crowd Conf FewSides
 cases hf : p.f0 with
 | false => simp
 | true =>
  rw [Bool.true_and, Bool.or_eq_true, decide_eq_true_eq, decide_eq_true_eq]
  exact ⟨fun h _ => ⟨by omega, by omega⟩, fun h => by have := h rfl; omega⟩
theorem trim_conf {p : Piece} (h : Conf FewSides p) : ∀ q ∈ trim p, Conf FewSides q := by
 have text : ∀ t : List ByteArray, Conf FewSides (⟨false, t, [], []⟩ : Piece) := fun t e => by cases e
 unfold trim
 split
 ·exact norm_conf (fun q hq => by rw [List.mem_singleton] at hq; subst hq; exact h)
 ·rename_i hn
  have hf : p.f0 = true := by
   cases hq : p.f0 with
   | true => rfl
   | false => exact absurd (.inl hq) hn
  have hM : Conf FewSides (midP p) := fun _ => by
   have : (midP p).f3.length = p.f3.length := by rw [midP]; simp only [cutL_length, rest]
   rw [FewSides, this]; exact h hf
  unfold trimC
  split
  ·refine norm_conf (fun q hq => ?_)
   simp only [List.mem_cons, List.not_mem_nil, or_false] at hq
   rcases hq with rfl | rfl | rfl
   ·exact text _
   ·exact hM
   ·exact text _
  ·refine norm_conf (fun q hq => ?_)
   simp only [List.mem_cons, List.not_mem_nil, or_false] at hq
   subst hq
   exact text _
theorem zeal_conf {l : List Piece} (h : ∀ p ∈ l, Conf FewSides p) : ∀ p ∈ zeal l, Conf FewSides p := by
 refine norm_conf (fun q hq => ?_)
 rw [List.mem_flatMap] at hq
 obtain ⟨p, hp, hq⟩ := hq
 exact trim_conf (h p hp) q hq
/-! ### the zealous style -/
theorem fits_ok {l : List Piece} {lg : Int} (h1 : 1 ≤ lg) : fitsB lg (lists l) = true ↔ ∀ p ∈ l, ∀ t ∈ textsL p, ∀ s ∈ t, (Size.runN s : Int) < lg := by
 rw [fits_iff]
 exact ⟨fun h p hp t ht s hs => h.2 s (mem_lists.2 ⟨p, hp, t, ht, hs⟩), fun h => ⟨h1, fun s hs => by obtain ⟨p, hp, t, ht, hs⟩ := mem_lists.1 hs; exact h p hp t ht s hs⟩⟩
theorem texts_ok {Q : ByteArray → Prop} {p : Piece} : (∀ t ∈ textsL p, ∀ s ∈ t, Q s) ↔ ((∀ s ∈ p.f1, Q s) ∧ (∀ s ∈ p.f2, Q s) ∧ ∀ t ∈ p.f3, ∀ s ∈ t, Q s) := by
 constructor
 ·intro h
  exact ⟨fun s hs => h p.f1 (by simp [textsL]) s hs, fun s hs => h p.f2 (by simp [textsL]) s hs, fun t ht s hs => h t (by simp [textsL, ht]) s hs⟩
 ·rintro ⟨h1, h2, h3⟩ t ht s hs
  simp only [textsL, List.mem_append, List.mem_cons, List.not_mem_nil, or_false] at ht
  rcases ht with (rfl | rfl) | ht
  ·exact h1 s hs
  ·exact h2 s hs
  ·exact h3 t ht s hs
theorem zeal_all {Q : ByteArray → Prop} {l : List Piece} (h : ∀ p ∈ l, ∀ t ∈ textsL p, ∀ s ∈ t, Q s) : ∀ p ∈ zeal l, ∀ t ∈ textsL p, ∀ s ∈ t, Q s := by
 intro p hp
 have hm : ∀ q ∈ l, q.f3.length ≤ tot l := fun q hq => by have := tot_mem hq; simp only [szP] at this; omega
 exact texts_ok.2 (zeal_ok (m := tot l) (fun q hq => ⟨fun _ => hm q hq, texts_ok.1 (h q hq)⟩) p hp).2
theorem one_style (p : Piece) (s t : Int) (hs : s ≠ 1) (ht : t ≠ 1) (n : Nat) (st : Bool × List ByteArray) (i : Nat) : oneSide p s n st i = oneSide p t n st i := by simp [oneSide, hs, ht]
theorem page_style (s t : Int) (hs : s ≠ 1) (ht : t ≠ 1) (n : Nat) (l : List Piece) : pageTo s n l = pageTo t n l := by
 have : (pageOne s n : List ByteArray → Piece → List ByteArray) = pageOne t n := by
  funext out p
  have e : (oneSide p s n : Bool × List ByteArray → Nat → Bool × List ByteArray) = oneSide p t n := by
   funext st i
   exact one_style p s t hs ht n st i
  rw [pageOne, pageOne, conflictL, conflictL, sidesTo, sidesTo, e]
 rw [pageTo, pageTo, this]
theorem zeal_wrong {l : List Piece} {lg : Int} (h : wrongN l (zeal l) 3 lg = 0) : wrongN (zeal l) (zeal l) 2 lg = 0 := by
 obtain ⟨⟨-, -, h3, h4, h5⟩, ⟨-, h7⟩, h8⟩ := (wrong_iff _ _ _ _).1 h
 refine (wrong_iff _ _ _ _).2 ⟨⟨by decide, by decide, h3, h4, (crowd_iff _).2 (zeal_conf ((crowd_iff _).1 h5))⟩, ⟨h7, h7⟩, (fits_ok h3).2 (zeal_all ((fits_ok h3).1 h8))⟩
theorem zeal_print {l : List Piece} {lg : Int} (h : wrongN l (zeal l) 3 lg = 0) : printL l 3 lg = (pageTo 2 lg.toNat (zeal l), 0) ∧ printL (zeal l) 2 lg = (pageTo 2 lg.toNat (zeal l), 0) := by
 have h2 := zeal_wrong h
 constructor
 ·rw [printL, smallOf, if_pos rfl, if_pos h, page_style 3 2 (by decide) (by decide)]
 ·rw [printL, smallOf, if_neg (show ¬ (2 : Int) = 3 by decide), if_pos h2]
theorem size_print {l : List Piece} {st : Int} (h : wrongN l (smallOf l st) st 40 = 0) : let n : Int := max 7 ((lng (lists l).flatten : Int) + 1); wrongN l (smallOf l st) st n = 0 ∧ (n = 7 ∨ wrongN l (smallOf l st) st (n - 1) = 6) := by
 obtain ⟨⟨h1, h2, -, -, h5⟩, ⟨h6, h7⟩, h8⟩ := (wrong_iff _ _ _ _).1 h
 rw [fitsB, Bool.and_eq_true, decide_eq_true_eq, decide_eq_true_eq] at h8
 intro n
 have hn : n = max 7 ((lng (lists l).flatten : Int) + 1) := rfl
 refine ⟨(wrong_iff _ _ _ _).2 ⟨⟨h1, h2, by omega, by omega, h5⟩, ⟨h6, h7⟩, by rw [fitsB, Bool.and_eq_true, decide_eq_true_eq, decide_eq_true_eq]; omega⟩, ?_⟩
 by_cases h9 : n = 7
 ·exact .inl h9
 ·refine .inr ?_
  unfold wrongN
  rw [if_neg (by rw [h5]; simp only [not_or]; exact ⟨by omega, by omega, by omega, by omega, by decide⟩), h6, h7, if_neg (by decide), if_neg (by rw [fitsB, Bool.and_eq_true, decide_eq_true_eq, decide_eq_true_eq]; omega)]
#print axioms zeal_print
#print axioms size_print
end Go.Proofs.YtcnjbmdnnhbfkaaGreatDoor.Law
