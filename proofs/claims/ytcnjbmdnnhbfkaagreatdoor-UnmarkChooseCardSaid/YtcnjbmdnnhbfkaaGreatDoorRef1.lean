import Derived.Test.YtcnjbmdnnhbfkaaGreatDoorXRm
import Derived.Test.YtcnjbmdnnhbfkaaGreatDoorMk2
/- The reference's small functions (GreatDoor, printed apart: rprint.sh): what they come to. -/
namespace Go.Proofs.YtcnjbmdnnhbfkaaGreatDoor.Ref
open Go.RowKit Go.Proofs.YtcnjbmdnnhbfkaaGreatDoor.XD Go.Proofs.YtcnjbmdnnhbfkaaGreatDoor.XR Go.Proofs.YtcnjbmdnnhbfkaaGreatDoorW.PrintWords Go.Proofs.YtcnjbmdnnhbfkaaGreatDoorW.PrintMore
abbrev M : Nat := 9223372036854775807
theorem wrap_nat (i : Nat) (h : i + 1 ≤ M) : wrap64 ((i : Int) + 1) = ((i + 1 : Nat) : Int) := by
 unfold M at h
 unfold wrap64
 omega
theorem pos {α : Type} {c : Prop} [Decidable c] {f g : Nat → Option α} {r : α} (hc : c) (h : Ev f r) : Ev (fun k => if c then f k else g k) r := Ev.congr (fun _ => if_pos hc) h
theorem neg {α : Type} {c : Prop} [Decidable c] {f g : Nat → Option α} {r : α} (hc : ¬ c) (h : Ev g r) : Ev (fun k => if c then f k else g k) r := Ev.congr (fun _ => if_neg hc) h
theorem toList_inj {a b : ByteArray} : a.toList = b.toList ↔ a = b := by
 rw [ByteArray.toList_eq, ByteArray.toList_eq]
 exact ⟨fun h => ByteArray.ext (Array.ext' h), fun h => by rw [h]⟩
theorem drop_eq {α : Type} (a b : List α) (i : Nat) (ha : i < a.length) (hb : i < b.length) : (a.drop i = b.drop i) ↔ (a[i] = b[i] ∧ a.drop (i + 1) = b.drop (i + 1)) := by
 rw [List.drop_eq_getElem_cons ha, List.drop_eq_getElem_cons hb, List.cons.injEq]
theorem same_l0 (a b : List ByteArray) (hl : a.length = b.length) (hm : a.length ≤ M) : ∀ (d i : Nat), i + d = a.length → Ev (fun k => sennitref01_Same.l0 k a b (i : Int)) (decide (a.drop i = b.drop i))
 | 0, i, h => by
  rw [decide_eq_true (by rw [List.drop_eq_nil_of_le (by omega), List.drop_eq_nil_of_le (by omega)])]
  exact Ev.step (fun k => by simp only [sennitref01_Same.l0]; rw [if_neg (by omega)]) (Ev.now _)
 | d + 1, i, h => by
  have ha : i < a.length := by omega
  have hb : i < b.length := by omega
  have ea : rdOf ByteArray.empty a (i : Int) = a[i] := by simp [rdOf, List.getD_eq_getElem?_getD, ha]
  have eb : rdOf ByteArray.empty b (i : Int) = b[i] := by simp [rdOf, List.getD_eq_getElem?_getD, hb]
  by_cases he : a[i] = b[i]
  ·refine Ev.step (fun k => by simp only [sennitref01_Same.l0]; rw [if_pos (by omega), if_pos (by omega), if_pos (by omega), ea, eb, if_pos (toList_inj.2 he)]) ?_
   rw [wrap_nat _ (by omega), show decide (a.drop i = b.drop i) = decide (a.drop (i + 1) = b.drop (i + 1)) from decide_eq_decide.2 ((drop_eq a b i ha hb).trans ⟨fun h => h.2, fun h => ⟨he, h⟩⟩)]
   exact same_l0 a b hl hm d (i + 1) (by omega)
  ·refine Ev.step (fun k => by simp only [sennitref01_Same.l0]; rw [if_pos (by omega), if_pos (by omega), if_pos (by omega), ea, eb, if_neg (fun e => he (toList_inj.1 e))]) ?_
   rw [decide_eq_false (fun e => he ((drop_eq a b i ha hb).1 e).1)]
   exact Ev.now _
theorem same_ev (a b : List ByteArray) (hm : a.length ≤ M) : Ev (fun k => sennitref01_Same.f k a b) (decide (a = b)) := by
 by_cases hl : a.length = b.length
 ·refine pos (by omega) ?_
  have := same_l0 a b hl hm a.length 0 (by omega)
  simpa using this
 ·refine neg (by omega) ?_
  rw [decide_eq_false (fun e => hl (by rw [e]))]
  exact Ev.now _
theorem all_l0 (a b : List (List ByteArray)) (hl : a.length = b.length) (hm : a.length ≤ M) (hx : ∀ x ∈ a, x.length ≤ M) : ∀ (d i : Nat), i + d = a.length → Ev (fun k => sennitref06_All.l0 k a b (i : Int)) (decide (a.drop i = b.drop i))
 | 0, i, h => by
  rw [decide_eq_true (by rw [List.drop_eq_nil_of_le (by omega), List.drop_eq_nil_of_le (by omega)])]
  exact Ev.step (fun k => by simp only [sennitref06_All.l0]; rw [if_neg (by omega)]) (Ev.now _)
 | d + 1, i, h => by
  have ha : i < a.length := by omega
  have hb : i < b.length := by omega
  have ea : rd_L2 a (i : Int) = a[i] := by simp [rd_L2, List.getD_eq_getElem?_getD, ha]
  have eb : rd_L2 b (i : Int) = b[i] := by simp [rd_L2, List.getD_eq_getElem?_getD, hb]
  refine Ev.step (fun k => by simp only [sennitref06_All.l0]; rw [if_pos (by omega), if_pos (by omega), if_pos (by omega), ea, eb]) ?_
  refine Ev.bind (same_ev _ _ (hx _ (List.getElem_mem ha))) ?_
  by_cases he : a[i] = b[i]
  ·rw [show decide (a.drop i = b.drop i) = decide (a.drop (i + 1) = b.drop (i + 1)) from decide_eq_decide.2 ((drop_eq a b i ha hb).trans ⟨fun h => h.2, fun h => ⟨he, h⟩⟩)]
   refine pos (by simp [he]) ?_
   rw [wrap_nat _ (by omega)]
   exact all_l0 a b hl hm hx d (i + 1) (by omega)
  ·rw [decide_eq_false (fun e => he ((drop_eq a b i ha hb).1 e).1)]
   exact neg (by simp [he]) (Ev.now _)
theorem all_ev (a b : List (List ByteArray)) (hm : a.length ≤ M) (hx : ∀ x ∈ a, x.length ≤ M) : Ev (fun k => sennitref06_All.f k a b) (decide (a = b)) := by
 by_cases hl : a.length = b.length
 ·refine pos (by omega) ?_
  have := all_l0 a b hl hm hx a.length 0 (by omega)
  simpa using this
 ·refine neg (by omega) ?_
  rw [decide_eq_false (fun e => hl (by rw [e]))]
  exact Ev.now _
#print axioms all_ev
end Go.Proofs.YtcnjbmdnnhbfkaaGreatDoor.Ref
/- The reference's Normal is the program's. -/
namespace Go.Proofs.YtcnjbmdnnhbfkaaGreatDoor.Ref
open Go.RowKit Go.Proofs.YtcnjbmdnnhbfkaaGreatDoor.XD Go.Proofs.YtcnjbmdnnhbfkaaGreatDoor.XR Go.Proofs.YtcnjbmdnnhbfkaaGreatDoorW.PrintWords Go.Proofs.YtcnjbmdnnhbfkaaGreatDoorW.PrintMore
abbrev Piece := S36
def withT (out : List Piece) (t : List ByteArray) : List Piece := if t.length = 0 then out else out ++ [⟨false, t, [], []⟩]
def NoT (out : List Piece) : Prop := ∀ y, out.getLast? = some y → y.f0 = true
theorem putR_text (out : List Piece) (t : List ByteArray) (x : Piece) (hn : NoT out) (hx : x.f0 = false) : Mark.putR (withT out t) x = withT out (t ++ x.f1) := by
 unfold Mark.putR
 rw [if_neg (by rw [hx]; decide)]
 unfold withT
 by_cases h1 : x.f1.length = 0
 ·rw [if_pos h1, List.length_eq_zero_iff.1 h1, List.append_nil]
 ·rw [if_neg h1]
  rw [if_neg (show ¬ (t ++ x.f1).length = 0 by rw [List.length_append]; omega)]
  by_cases ht : t.length = 0
  ·rw [if_pos ht, List.length_eq_zero_iff.1 ht, List.nil_append]
   cases hg : out.getLast? with
   | none => rfl
   | some y => simp only [hn y hg, if_true]
  ·rw [if_neg ht, List.getLast?_concat]
   simp
theorem noT_conf (out : List Piece) (x : Piece) (hx : x.f0 = true) : NoT (out ++ [x]) := by
 intro y hy
 rw [List.getLast?_concat] at hy
 injection hy with hy
 rw [← hy]; exact hx
theorem rd_at (l : List Piece) (i : Nat) (h : i < l.length) : rd_T36 l (i : Int) = l[i] := by simp [rd_T36, List.getD_eq_getElem?_getD, h]
theorem normal_l (l : List Piece) (hm : l.length ≤ 1000000) (hw : Mark.wt l ≤ 1000000) : ∀ (d i : Nat), i + d = l.length →
  (∀ out : List Piece, out.length ≤ 2 * i → NoT out → Ev (fun k => sennitref07_Normal.l0 k l out (i : Int)) ((l.drop i).foldl Mark.putR out)) ∧
  (∀ (out : List Piece) (t : List ByteArray), out.length ≤ 2 * i → t.length + Mark.wt (l.drop i) ≤ 1000000 → NoT out → Ev (fun k => sennitref07_Normal.l1 k l out (i : Int) t) ((l.drop i).foldl Mark.putR (withT out t)))
 | 0, i, h => by
  rw [List.drop_eq_nil_of_le (by omega)]
  have z : ∀ out : List Piece, Ev (fun k => sennitref07_Normal.l0 k l out (i : Int)) out := fun out => Ev.step (fun k => by simp only [sennitref07_Normal.l0]; rw [if_neg (by omega)]) (Ev.now _)
  refine ⟨fun out _ _ => z out, fun out t ho _ _ => ?_⟩
  refine Ev.step (fun k => by simp only [sennitref07_Normal.l1]; rw [if_neg (by omega)]) ?_
  refine Ev.step (fun k => by simp only [sennitref07_Normal.j2]; rw [if_neg (by decide)]) ?_
  unfold withT
  by_cases ht : t.length = 0
  ·rw [if_pos ht]
   exact neg (by omega) (z out)
  ·rw [if_neg ht]
   exact pos (by omega) (pos (by omega) (z _))
 | d + 1, i, h => by
  have hi : i < l.length := by omega
  obtain ⟨ih0, ih1⟩ := normal_l l hm hw d (i + 1) (by omega)
  rw [List.drop_eq_getElem_cons hi]
  simp only [List.foldl_cons]
  obtain ⟨x, hx⟩ : ∃ x, l[i] = x := ⟨_, rfl⟩
  have hrd := rd_at l i hi
  rw [hx] at hrd ⊢
  have conf : x.f0 = true → ∀ out : List Piece, out.length ≤ 2 * i + 1 → Ev (fun k => sennitref07_Normal.l0 k l out (i : Int)) ((l.drop (i + 1)).foldl Mark.putR (Mark.putR out x)) := fun hf out ho => by
   refine Ev.step (fun k => by simp only [sennitref07_Normal.l0]; rw [if_pos (by omega), if_pos (by omega), hrd, if_pos hf, if_pos (by omega)]) ?_
   rw [wrap_nat _ (by unfold M; omega), show Mark.putR out x = out ++ [⟨true, [], x.f2, x.f3⟩] by rw [Mark.putR, if_pos hf]]
   exact ih0 _ (by rw [List.length_append, List.length_singleton]; omega) (noT_conf _ _ rfl)
  have one : ∀ (out : List Piece) (t : List ByteArray), out.length ≤ 2 * i → t.length + (x.f1.length + Mark.wt (l.drop (i + 1))) ≤ 1000000 → NoT out → Ev (fun k => sennitref07_Normal.l1 k l out (i : Int) t) ((l.drop (i + 1)).foldl Mark.putR (Mark.putR (withT out t) x)) := fun out t ho ht hn => by
   refine Ev.step (fun k => by simp only [sennitref07_Normal.l1]; rw [if_pos (by omega), if_pos (by omega), hrd]) ?_
   cases hf : x.f0 with
   | false =>
    refine Ev.step (fun k => by simp only [sennitref07_Normal.j2]; rw [if_pos (by decide), if_pos (by omega), if_pos (by omega), hrd, if_pos (by omega)]) ?_
    rw [wrap_nat _ (by unfold M; omega), putR_text out t x hn hf]
    exact ih1 out (t ++ x.f1) (by omega) (by rw [List.length_append]; omega) hn
   | true =>
    refine Ev.step (fun k => by simp only [sennitref07_Normal.j2]; rw [if_neg (by decide)]) ?_
    unfold withT
    by_cases h0 : t.length = 0
    ·rw [if_pos h0]
     exact neg (by omega) (conf hf out (by omega))
    ·rw [if_neg h0]
     exact pos (by omega) (pos (by omega) (conf hf _ (by rw [List.length_append, List.length_singleton]; omega)))
  have hwd : Mark.wt (x :: l.drop (i + 1)) = x.f1.length + Mark.wt (l.drop (i + 1)) := by simp [Mark.wt]
  have hle : Mark.wt (l.drop i) ≤ Mark.wt l := by
   have : Mark.wt l = Mark.wt (l.take i) + Mark.wt (l.drop i) := by
    conv => lhs; rw [← List.take_append_drop i l]
    rw [Mark.wt, List.map_append, List.sum_append]
    rfl
   omega
  rw [List.drop_eq_getElem_cons hi, hx] at hle
  refine ⟨fun out ho hn => ?_, fun out t ho ht hn => one out t ho (by rw [← hwd]; exact ht) hn⟩
  cases hf : x.f0 with
  | true => exact conf hf out (by omega)
  | false =>
   refine Ev.step (fun k => by simp only [sennitref07_Normal.l0]; rw [if_pos (by omega), if_pos (by omega), hrd, if_neg (by rw [hf]; decide)]) ?_
   have := one out [] ho (by rw [hwd] at hle; simp; omega) hn
   rwa [show withT out [] = out from rfl] at this
theorem normal_ev (l : List Piece) (hm : l.length ≤ 1000000) (hw : Mark.wt l ≤ 1000000) : Ev (fun k => sennitref07_Normal.f k l) (Mark.norm l) := by
 have := (normal_l l hm hw l.length 0 (by omega)).1 [] (by simp) (fun y hy => by cases hy)
 rw [List.drop_zero] at this
 exact this
#print axioms normal_ev
end Go.Proofs.YtcnjbmdnnhbfkaaGreatDoor.Ref
/- The reference's begins and ends, and the program's count of what is alike. -/
namespace Go.Proofs.YtcnjbmdnnhbfkaaGreatDoor.Ref
open Go.RowKit Go.Proofs.YtcnjbmdnnhbfkaaGreatDoor.XD Go.Proofs.YtcnjbmdnnhbfkaaGreatDoor.Mark
def begB (l : List (List ByteArray)) (m : Nat) (x : List ByteArray) : Bool := decide (m ≤ x.length) && decide (x.take m = (l.headD []).take m)
def endB (l : List (List ByteArray)) (m : Nat) (x : List ByteArray) : Bool := decide (m ≤ x.length) && decide (x.drop (x.length - m) = (l.headD []).drop ((l.headD []).length - m))
def beginsB (l : List (List ByteArray)) (m : Nat) : Bool := l.all (begB l m)
def endsB (l : List (List ByteArray)) (m : Nat) : Bool := l.all (endB l m)
theorem fold_least (m : Nat) (l : List (List ByteArray)) : ∀ z, m ≤ z → (∀ x ∈ l, m ≤ x.length) → m ≤ l.foldl (fun m k => min m k.length) z := by
 induction l with
 | nil => intro z hz _; exact hz
 | cons x l ih => intro z hz h; exact ih _ (Nat.le_min.2 ⟨hz, h x (by simp)⟩) (fun y hy => h y (by simp [hy]))
theorem le_least {l : List (List ByteArray)} {m : Nat} (hl : 0 < l.length) : m ≤ least l ↔ ∀ x ∈ l, m ≤ x.length :=
 ⟨fun h _ hx => Nat.le_trans h (least_le hx), fun h => fold_least m l _ (h _ (headD_mem hl)) h⟩
theorem good_iff {f : List ByteArray → Nat → ByteArray} {l : List (List ByteArray)} {j : Nat} : good f l j = true ↔ ∀ x ∈ l, f x j = f (l.headD []) j := by
 unfold good
 rw [Bool.not_eq_true', List.any_eq_false]
 refine forall_congr' fun _ => forall_congr' fun _ => ?_
 rw [Bool.not_eq_true', Bool.not_eq_false, beq_iff_eq, toList_inj]
theorem take_iff {x y : List ByteArray} {m : Nat} (hx : m ≤ x.length) (hy : m ≤ y.length) : x.take m = y.take m ↔ ∀ j, j < m → atA x j = atA y j := by
 constructor
 ·intro h j hj
  have : (x.take m)[j]? = (y.take m)[j]? := by rw [h]
  rw [List.getElem?_take, List.getElem?_take, if_pos hj, if_pos hj] at this
  rw [atA, atA, List.getD_eq_getElem?_getD, List.getD_eq_getElem?_getD, this]
 ·intro h
  refine List.ext_getElem (by rw [List.length_take, List.length_take]; omega) (fun j h1 h2 => ?_)
  rw [List.length_take] at h1
  have := h j (by omega)
  rw [atA, atA, List.getD_eq_getElem?_getD, List.getD_eq_getElem?_getD, List.getElem?_eq_getElem (show j < x.length by omega), List.getElem?_eq_getElem (show j < y.length by omega)] at this
  rw [List.getElem_take, List.getElem_take]
  exact this
theorem atB_get {x : List ByteArray} {j : Nat} (hj : j < x.length) : atB x j = x[x.length - 1 - j]'(by omega) := by
 rw [atB, List.getD_eq_getElem?_getD, List.getElem?_eq_getElem (show x.length - 1 - j < x.length by omega)]; rfl
theorem drop_iff {x y : List ByteArray} {m : Nat} (hx : m ≤ x.length) (hy : m ≤ y.length) : x.drop (x.length - m) = y.drop (y.length - m) ↔ ∀ j, j < m → atB x j = atB y j := by
 constructor
 ·intro h j hj
  have : (x.drop (x.length - m))[m - 1 - j]? = (y.drop (y.length - m))[m - 1 - j]? := by rw [h]
  rw [List.getElem?_drop, List.getElem?_drop, show x.length - m + (m - 1 - j) = x.length - 1 - j by omega, show y.length - m + (m - 1 - j) = y.length - 1 - j by omega] at this
  rw [atB, atB, List.getD_eq_getElem?_getD, List.getD_eq_getElem?_getD, this]
 ·intro h
  refine List.ext_getElem (by rw [List.length_drop, List.length_drop]; omega) (fun j h1 h2 => ?_)
  rw [List.length_drop] at h1
  have := h (m - 1 - j) (by omega)
  rw [atB_get (by omega), atB_get (by omega)] at this
  rw [List.getElem_drop, List.getElem_drop]
  have e1 : x.length - 1 - (m - 1 - j) = x.length - m + j := by omega
  have e2 : y.length - 1 - (m - 1 - j) = y.length - m + j := by omega
  simp only [e1, e2] at this
  exact this
theorem begins_iff {l : List (List ByteArray)} {m : Nat} (hl : 0 < l.length) : beginsB l m = true ↔ m ≤ least l ∧ ∀ j, j < m → good atA l j = true := by
 rw [beginsB, List.all_eq_true]
 constructor
 ·intro h
  have h1 : ∀ x ∈ l, m ≤ x.length := fun x hx => by have := h x hx; simp only [begB, Bool.and_eq_true, decide_eq_true_eq] at this; exact this.1
  refine ⟨(le_least hl).2 h1, fun j hj => good_iff.2 fun x hx => ?_⟩
  have := h x hx
  simp only [begB, Bool.and_eq_true, decide_eq_true_eq] at this
  exact (take_iff this.1 (h1 _ (headD_mem hl))).1 this.2 j hj
 ·rintro ⟨h1, h2⟩ x hx
  have hm := (le_least hl).1 h1
  simp only [begB, Bool.and_eq_true, decide_eq_true_eq]
  exact ⟨hm x hx, (take_iff (hm x hx) (hm _ (headD_mem hl))).2 fun j hj => good_iff.1 (h2 j hj) x hx⟩
theorem ends_iff {l : List (List ByteArray)} {m : Nat} (hl : 0 < l.length) : endsB l m = true ↔ m ≤ least l ∧ ∀ j, j < m → good atB l j = true := by
 rw [endsB, List.all_eq_true]
 constructor
 ·intro h
  have h1 : ∀ x ∈ l, m ≤ x.length := fun x hx => by have := h x hx; simp only [endB, Bool.and_eq_true, decide_eq_true_eq] at this; exact this.1
  refine ⟨(le_least hl).2 h1, fun j hj => good_iff.2 fun x hx => ?_⟩
  have := h x hx
  simp only [endB, Bool.and_eq_true, decide_eq_true_eq] at this
  exact (drop_iff this.1 (h1 _ (headD_mem hl))).1 this.2 j hj
 ·rintro ⟨h1, h2⟩ x hx
  have hm := (le_least hl).1 h1
  simp only [endB, Bool.and_eq_true, decide_eq_true_eq]
  exact ⟨hm x hx, (drop_iff (hm x hx) (hm _ (headD_mem hl))).2 fun j hj => good_iff.1 (h2 j hj) x hx⟩
theorem alike_stop {f : List ByteArray → Nat → ByteArray} {l : List (List ByteArray)} {a : Nat} (h : a ≤ least l ∧ ∀ j, j < a → good f l j = true) (hs : ¬ (a + 1 ≤ least l ∧ ∀ j, j < a + 1 → good f l j = true)) : alike f l = a := by
 refine takeWhile_range _ _ _ h.1 h.2 ?_
 by_cases h1 : a = least l
 ·exact .inl h1
 ·refine .inr ?_
  cases hg : good f l a with
  | false => rfl
  | true =>
   refine absurd ⟨by omega, fun j hj => ?_⟩ hs
   rcases Nat.lt_succ_iff_lt_or_eq.1 hj with hj | rfl
   ·exact h.2 j hj
   ·exact hg
theorem begins_stop {l : List (List ByteArray)} {a : Nat} (hl : 0 < l.length) (h : beginsB l a = true) (hs : ¬ (a < (l.headD []).length ∧ beginsB l (a + 1) = true)) : alike atA l = a := by
 refine alike_stop ((begins_iff hl).1 h) fun hq => hs ⟨?_, (begins_iff hl).2 hq⟩
 have := (le_least hl).1 hq.1 _ (headD_mem hl)
 omega
theorem ends_stop {l : List (List ByteArray)} {a : Nat} (hl : 0 < l.length) (h : endsB l a = true) (hs : ¬ (a < (l.headD []).length ∧ endsB l (a + 1) = true)) : alike atB l = a := by
 refine alike_stop ((ends_iff hl).1 h) fun hq => hs ⟨?_, (ends_iff hl).2 hq⟩
 have := (le_least hl).1 hq.1 _ (headD_mem hl)
 omega
theorem begins_zero (l : List (List ByteArray)) : beginsB l 0 = true := by
 rw [beginsB, List.all_eq_true]
 intro x _
 simp [begB]
theorem ends_zero (l : List (List ByteArray)) : endsB l 0 = true := by
 rw [endsB, List.all_eq_true]
 intro x _
 simp [endB]
#print axioms begins_stop
#print axioms ends_stop
end Go.Proofs.YtcnjbmdnnhbfkaaGreatDoor.Ref
/- The reference's begins and ends: what they compute. -/
namespace Go.Proofs.YtcnjbmdnnhbfkaaGreatDoor.Ref
open Go.RowKit Go.Proofs.YtcnjbmdnnhbfkaaGreatDoor.XD Go.Proofs.YtcnjbmdnnhbfkaaGreatDoor.XR Go.Proofs.YtcnjbmdnnhbfkaaGreatDoor.Mark Go.Proofs.YtcnjbmdnnhbfkaaGreatDoorW.PrintWords Go.Proofs.YtcnjbmdnnhbfkaaGreatDoorW.PrintMore
theorem rd_get {l : List (List ByteArray)} {i : Nat} (h : i < l.length) : rd_L2 l (i : Int) = l[i] := by simp [rd_L2, List.getD_eq_getElem?_getD, h]
theorem rd_head {l : List (List ByteArray)} : rd_L2 l 0 = l.headD [] := by cases l <;> simp [rd_L2]
theorem head_zero {l : List (List ByteArray)} (h : 0 < l.length) : l[0] = l.headD [] := by
 cases l with
 | nil => simp at h
 | cons x l => rfl
theorem begins_l0 (l : List (List ByteArray)) (m : Nat) (hM : l.length ≤ M) (hx : ∀ x ∈ l, x.length ≤ M) : ∀ (d i : Nat), i + d = l.length → (0 < i → m ≤ (l.headD []).length) → Ev (fun k => sennitref10_begins.l0 k l (m : Int) (i : Int)) ((l.drop i).all (begB l m))
 | 0, i, h, _ => by
  rw [List.drop_eq_nil_of_le (by omega), List.all_nil]
  exact Ev.step (fun k => by simp only [sennitref10_begins.l0]; rw [if_neg (by omega)]) (Ev.now _)
 | d + 1, i, h, hh => by
  have hi : i < l.length := by omega
  have hxi := hx _ (List.getElem_mem hi)
  rw [List.drop_eq_getElem_cons hi, List.all_cons]
  have e := rd_get hi
  have e0 : rd_L2 l 0 = l.headD [] := rd_head
  by_cases h1 : m ≤ l[i].length
  ·have h0 : m ≤ (l.headD []).length := by
    rcases Nat.eq_zero_or_pos i with rfl | hp
    ·rw [← head_zero hi]; exact h1
    ·exact hh hp
   generalize l[i] = x at e h1 hxi ⊢
   refine Ev.step (fun k => by simp only [sennitref10_begins.l0]; rw [if_pos (by omega), if_pos (by omega), e, if_neg (by omega), if_pos (by omega), if_pos (by omega), if_pos (by omega), e0, if_pos (by omega), Int.toNat_natCast]) ?_
   refine Ev.bind (same_ev _ _ (by rw [List.length_take]; omega)) ?_
   have eb : begB l m x = decide (x.take m = (l.headD []).take m) := by rw [begB, decide_eq_true h1, Bool.true_and]
   rw [eb]
   cases decide (x.take m = (l.headD []).take m)
   ·rw [Bool.false_and]
    exact Ev.step (fun k => by simp only [sennitref10_begins.j1]; rw [if_pos (by decide)]) (Ev.now _)
   ·rw [Bool.true_and]
    refine Ev.step (fun k => by simp only [sennitref10_begins.j1]; rw [if_neg (by decide), wrap_nat _ (by omega)]) ?_
    exact begins_l0 l m hM hx d (i + 1) (by omega) (fun _ => h0)
  ·generalize l[i] = x at e h1 hxi ⊢
   have eb : begB l m x = false := by rw [begB, decide_eq_false h1, Bool.false_and]
   rw [eb, Bool.false_and]
   refine Ev.step (fun k => by simp only [sennitref10_begins.l0]; rw [if_pos (by omega), if_pos (by omega), e, if_pos (by omega)]) ?_
   exact Ev.step (fun k => by simp only [sennitref10_begins.j1]; rw [if_pos trivial]) (Ev.now _)
theorem begins_ev (l : List (List ByteArray)) (m : Nat) (hM : l.length ≤ M) (hx : ∀ x ∈ l, x.length ≤ M) : Ev (fun k => sennitref10_begins.f k l (m : Int)) (beginsB l m) := begins_l0 l m hM hx l.length 0 (by omega) (fun h => by omega)
theorem ends_l0 (l : List (List ByteArray)) (m : Nat) (hM : l.length ≤ M) (hx : ∀ x ∈ l, x.length ≤ M) : ∀ (d i : Nat), i + d = l.length → (0 < i → m ≤ (l.headD []).length) → Ev (fun k => sennitref10_ends.l0 k l (m : Int) (i : Int)) ((l.drop i).all (endB l m))
 | 0, i, h, _ => by
  rw [List.drop_eq_nil_of_le (by omega), List.all_nil]
  exact Ev.step (fun k => by simp only [sennitref10_ends.l0]; rw [if_neg (by omega)]) (Ev.now _)
 | d + 1, i, h, hh => by
  have hi : i < l.length := by omega
  have hxi := hx _ (List.getElem_mem hi)
  rw [List.drop_eq_getElem_cons hi, List.all_cons]
  have e := rd_get hi
  have e0 : rd_L2 l 0 = l.headD [] := rd_head
  have hx0 : (l.headD []).length ≤ M := hx _ (headD_mem (by omega))
  by_cases h1 : m ≤ l[i].length
  ·have h0 : m ≤ (l.headD []).length := by
    rcases Nat.eq_zero_or_pos i with rfl | hp
    ·rw [← head_zero hi]; exact h1
    ·exact hh hp
   generalize l[i] = x at e h1 hxi ⊢
   have w1 : wrap64 ((x.length : Int) - (m : Int)) = ((x.length - m : Nat) : Int) := by unfold M at hxi; unfold wrap64; omega
   have w2 : wrap64 (((l.headD []).length : Int) - (m : Int)) = (((l.headD []).length - m : Nat) : Int) := by unfold M at hx0; unfold wrap64; omega
   refine Ev.step (fun k => by simp only [sennitref10_ends.l0]; rw [if_pos (by omega), if_pos (by omega), e, if_neg (by omega), w1, if_pos (by omega), if_pos (by omega), if_pos (by omega), e0, w2, if_pos (by omega), if_pos (by omega), Int.toNat_natCast, Int.toNat_natCast]) ?_
   refine Ev.bind (same_ev _ _ (by rw [List.length_drop]; omega)) ?_
   have eb : endB l m x = decide (x.drop (x.length - m) = (l.headD []).drop ((l.headD []).length - m)) := by rw [endB, decide_eq_true h1, Bool.true_and]
   rw [eb]
   cases decide (x.drop (x.length - m) = (l.headD []).drop ((l.headD []).length - m))
   ·rw [Bool.false_and]
    exact Ev.step (fun k => by simp only [sennitref10_ends.j1]; rw [if_pos (by decide)]) (Ev.now _)
   ·rw [Bool.true_and]
    refine Ev.step (fun k => by simp only [sennitref10_ends.j1]; rw [if_neg (by decide), wrap_nat _ (by omega)]) ?_
    exact ends_l0 l m hM hx d (i + 1) (by omega) (fun _ => h0)
  ·generalize l[i] = x at e h1 hxi ⊢
   have eb : endB l m x = false := by rw [endB, decide_eq_false h1, Bool.false_and]
   rw [eb, Bool.false_and]
   refine Ev.step (fun k => by simp only [sennitref10_ends.l0]; rw [if_pos (by omega), if_pos (by omega), e, if_pos (by omega)]) ?_
   exact Ev.step (fun k => by simp only [sennitref10_ends.j1]; rw [if_pos trivial]) (Ev.now _)
theorem ends_ev (l : List (List ByteArray)) (m : Nat) (hM : l.length ≤ M) (hx : ∀ x ∈ l, x.length ≤ M) : Ev (fun k => sennitref10_ends.f k l (m : Int)) (endsB l m) := ends_l0 l m hM hx l.length 0 (by omega) (fun h => by omega)
theorem lens_max {w : World} {A : Option Addr} {n : Nat} {l : List (List ByteArray)} (h : Kd.C (Kd.slice 9 Kd.string) w A n l) : ∀ x ∈ l, x.length ≤ M := by
 intro x hx
 obtain ⟨j, hj, e⟩ := List.mem_iff_getElem.1 hx
 obtain ⟨ad, A0, c0, -, -, -, hC⟩ := elemL h (show l[j]? = some x by rw [List.getElem?_eq_getElem hj, e])
 exact Kd.C_max hC
theorem begins_calls (w : World) (A : Option Addr) (c : Nat) (l : List (List ByteArray)) (m : Nat) (hl : Kd.C (Kd.slice 9 Kd.string) w A l.length l) (hc : l.length ≤ c) :
  Calls Tryz.prog 65 #[.slice A l.length c, .int .i64 (m : Int)] w fun e w' => e = .returned (.bool (beginsB l m)) ∧ Below w.heap.size w w' := by
 obtain ⟨k, hk⟩ := begins_ev l m (Kd.C_max hl) (lens_max hl)
 exact sennitref10_begins.calls k A c l _ _ w hl hc (hk k (Nat.le_refl _))
theorem ends_calls (w : World) (A : Option Addr) (c : Nat) (l : List (List ByteArray)) (m : Nat) (hl : Kd.C (Kd.slice 9 Kd.string) w A l.length l) (hc : l.length ≤ c) :
  Calls Tryz.prog 66 #[.slice A l.length c, .int .i64 (m : Int)] w fun e w' => e = .returned (.bool (endsB l m)) ∧ Below w.heap.size w w' := by
 obtain ⟨k, hk⟩ := ends_ev l m (Kd.C_max hl) (lens_max hl)
 exact sennitref10_ends.calls k A c l _ _ w hl hc (hk k (Nat.le_refl _))
#print axioms begins_calls
#print axioms ends_calls
end Go.Proofs.YtcnjbmdnnhbfkaaGreatDoor.Ref
