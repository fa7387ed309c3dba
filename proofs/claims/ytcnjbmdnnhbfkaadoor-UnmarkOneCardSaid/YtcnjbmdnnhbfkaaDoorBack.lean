import Derived.Test.YtcnjbmdnnhbfkaaDoorReader
import Derived.Test.YtcnjbmdnnhbfkaaDoorMk2
/- Lines and marks, read and printed again: plain facts. -/
namespace Go.Proofs.YtcnjbmdnnhbfkaaDoor.Back
open Go.RowKit Go.Proofs.YtcnjbmdnnhbfkaaDoor.XD Go.Proofs.YtcnjbmdnnhbfkaaDoor.Size Go.Proofs.YtcnjbmdnnhbfkaaDoor.Unmark Go.Proofs.YtcnjbmdnnhbfkaaDoorW.PrintWords Go.Proofs.YtcnjbmdnnhbfkaaDoorW.PrintMore

theorem bytes_eq {a b : ByteArray} (h : a.data.toList = b.data.toList) : a = b := by
  apply ByteArray.ext
  exact Array.ext' h
theorem eqS_eq {a b : ByteArray} (h : eqS a b = true) : a = b := by
  unfold eqS at h
  rw [beq_iff_eq, ByteArray.toList_eq, ByteArray.toList_eq] at h
  exact bytes_eq h
theorem size_len (s : ByteArray) : s.data.toList.length = s.size := rfl

/-! ### lines -/
theorem indexByte_none (a : List UInt8) (h : (10 : UInt8) ∉ a) : Lib.indexByte a 10 = -1 := by
  induction a with
  | nil => rfl
  | cons b a ih =>
    simp only [List.mem_cons, not_or] at h
    rw [Lib.indexByte, ih h.2]
    have : (b == 10) = false := by simpa using fun e => h.1 e.symm
    simp [this]
theorem indexByte_end (a : List UInt8) (h : (10 : UInt8) ∉ a) : Lib.indexByte (a ++ [10]) 10 = a.length := by
  induction a with
  | nil => rfl
  | cons b a ih =>
    simp only [List.mem_cons, not_or] at h
    rw [List.cons_append, Lib.indexByte, ih h.2]
    have : (b == 10) = false := by simpa using fun e => h.1 e.symm
    rw [this]
    simp
theorem indexByte_in (a b : List UInt8) (h : (10 : UInt8) ∈ a) : 0 ≤ Lib.indexByte (a ++ b) 10 ∧ Lib.indexByte (a ++ b) 10 < a.length := by
  induction a with
  | nil => cases h
  | cons x a ih =>
    rw [List.cons_append, Lib.indexByte]
    by_cases hx : x = 10
    · simp [hx]
    · have : (x == 10) = false := by simpa using hx
      have h := ih ((List.mem_cons.1 h).resolve_left (fun e => hx e.symm))
      rw [this]
      have h2 : (Lib.indexByte (a ++ b) 10 == -1) = false := by rw [beq_eq_false_iff_ne]; omega
      simp only [h2, Bool.false_eq_true, if_false, List.length_cons]
      omega
theorem suffix_end (a : List UInt8) : Lib.hasSuffix (a ++ [10]) [10] = true := by
  unfold Lib.hasSuffix
  rw [List.isSuffixOf_iff_suffix]
  exact ⟨a, rfl⟩
theorem suffix_none (a : List UInt8) (h : (10 : UInt8) ∉ a) : Lib.hasSuffix a [10] = false := by
  unfold Lib.hasSuffix
  rw [Bool.eq_false_iff]
  intro e
  rw [List.isSuffixOf_iff_suffix] at e
  obtain ⟨t, rfl⟩ := e
  exact h (by simp)
/-- A text that ends in its one line feed. -/
def Ended (s : ByteArray) : Prop := ∃ a : List UInt8, s.data.toList = a ++ [10] ∧ (10 : UInt8) ∉ a
theorem ended_of {s : ByteArray} (h1 : oneMay s = true) (h2 : oneOpen s = false) : Ended s := by
  unfold oneOpen Lib.hasSuffix at h2
  simp only [Bool.not_eq_false'] at h2
  rw [List.isSuffixOf_iff_suffix] at h2
  obtain ⟨a, ha⟩ := h2
  refine ⟨a, ha.symm, fun hin => ?_⟩
  have hz := size_len s
  have := indexByte_in a [10] hin
  rw [ha] at this
  unfold oneMay at h1
  rw [← ha] at hz
  simp only [List.length_append, List.length_singleton] at hz
  rw [if_neg (by omega)] at h1
  simp only [decide_eq_true_eq] at h1
  omega
theorem Ended.size {s : ByteArray} (h : Ended s) : 1 ≤ s.size := by
  obtain ⟨a, e, -⟩ := h
  rw [← size_len, e]; simp
theorem Ended.at {s : ByteArray} (h : Ended s) : (∀ b, Mark.mayAt s b = true) ∧ Mark.openS s = false := by
  obtain ⟨a, e, hn⟩ := h
  have hl : s.size = a.length + 1 := by rw [← size_len, e]; simp
  unfold Mark.mayAt Mark.openS Mark.ix
  rw [e, indexByte_end a hn, suffix_end]
  refine ⟨fun b => ?_, rfl⟩
  rw [if_neg (by omega)]
  simp
  omega
theorem may_one {s : ByteArray} (h : oneMay s = true) : Mark.mayAt s true = true := by
  unfold oneMay at h
  unfold Mark.mayAt Mark.ix
  simpa using h
theorem takeWhile_app {α : Type} (p : α → Bool) (a b : List α) : (a.takeWhile p).length ≤ ((a ++ b).takeWhile p).length := by
  induction a with
  | nil => simp
  | cons x a ih =>
    simp only [List.cons_append, List.takeWhile_cons]
    split
    · simp only [List.length_cons]; omega
    · simp
/-- The line, its line feed taken off. -/
theorem trim_facts {s : ByteArray} (h : Ended s) (h2 : 2 ≤ s.size) : trimB s ++ Mark.nl = s ∧ Mark.openS (trimB s) = true ∧ Mark.mayAt (trimB s) true = true ∧ (trimB s).size ≤ s.size ∧ Size.runN (trimB s) ≤ Size.runN s := by
  obtain ⟨a, e, hn⟩ := h
  have hl : s.size = a.length + 1 := by rw [← size_len, e]; simp
  have ht : (trimB s).data.toList = a := by
    show Lib.trimSuffix s.data.toList [10] = a
    unfold Lib.trimSuffix
    rw [e, suffix_end, if_pos rfl]
    simp
  have hz : (trimB s).size = a.length := by rw [← size_len, ht]
  refine ⟨?_, ?_, ?_, by omega, ?_⟩
  · apply bytes_eq
    rw [ByteArray.data_append, Array.toList_append, ht, e]
    rfl
  · unfold Mark.openS; rw [ht, suffix_none a hn]; rfl
  · unfold Mark.mayAt Mark.ix
    rw [ht, indexByte_none a hn, if_pos (by decide), hz]
    simp
    omega
  · have hlead : ∀ c, Size.lead c (trimB s) ≤ Size.lead c s ∧ (0 < Size.lead c s → 0 < Size.lead c (trimB s)) := by
      intro c
      unfold Size.lead
      rw [ht, e]
      refine ⟨takeWhile_app _ _ _, ?_⟩
      cases a with
      | nil => simp at hl; omega
      | cons x a =>
        simp only [List.cons_append, List.takeWhile_cons]
        split <;> simp
    have h0 := hlead 60; have h1 := hlead 124; have h2 := hlead 61; have h3 := hlead 62
    unfold Size.runN
    repeat' split
    all_goals omega
theorem mayL_of {l : List ByteArray} (h : ∀ (j : Nat) s, l[j]? = some s → Ended s ∨ (j + 1 = l.length ∧ Mark.mayAt s true = true)) : Mark.mayL l = true := by
  refine Mark.mayL_yes (fun j s hj => ?_)
  rcases h j s hj with h | ⟨h1, h2⟩
  · exact h.at.1 _
  · rw [decide_eq_true h1]; exact h2
theorem mayL_ended {l : List ByteArray} (h : ∀ s ∈ l, Ended s) : Mark.mayL l = true := mayL_of (fun _ s hj => .inl (h s (List.mem_of_getElem? hj)))
theorem mayL_snoc {l : List ByteArray} {x : ByteArray} (h : ∀ s ∈ l, Ended s) (hx : Mark.mayAt x true = true) : Mark.mayL (l ++ [x]) = true := mayL_of (fun j s hj => by
  by_cases hlt : j < l.length
  · rw [List.getElem?_append_left hlt] at hj
    exact .inl (h s (List.mem_of_getElem? hj))
  · have hj2 := (List.getElem?_eq_some_iff.1 hj).1
    simp only [List.length_append, List.length_singleton] at hj2
    obtain rfl : j = l.length := by omega
    simp only [List.getElem?_append_right (Nat.le_refl _), Nat.sub_self, List.getElem?_cons_zero, Option.some.injEq] at hj
    subst hj
    exact .inr ⟨by simp, hx⟩)
theorem lastS_snoc (l : List ByteArray) (x : ByteArray) : Mark.lastS (l ++ [x]) = x := by simp [Mark.lastS]
theorem openL_snoc (l : List ByteArray) (x : ByteArray) : Mark.openL (l ++ [x]) = Mark.openS x := by rw [Mark.openL, lastS_snoc]; simp
theorem openL_ended {l : List ByteArray} (h : ∀ s ∈ l, Ended s) : Mark.openL l = false := by
  rcases List.eq_nil_or_concat l with rfl | ⟨ini, x, rfl⟩
  · rfl
  · rw [List.concat_eq_append] at h ⊢
    rw [openL_snoc]
    exact (h x (by simp)).at.2
/-- How long a line may be, and its marks. -/
def Sz (n : Nat) (s : ByteArray) : Prop := s.size ≤ 100 ∧ Size.runN s < n
/-- A part that has ended: what is printed of it is what was read. -/
theorem part_ended {n : Nat} {part P : List ByteArray} {op : Bool} (hE : ∀ s ∈ part, Ended s ∧ Sz n s) (h : Unmark.ended part op = some P) :
    Mark.openL P = op ∧ Mark.ended P = part ∧ Mark.mayL P = true ∧ P.length = part.length ∧ ∀ s ∈ P, Sz n s := by
  unfold Unmark.ended at h
  split at h
  · rename_i ho
    injection h with h
    subst h
    have h1 := openL_ended (fun s hs => (hE s hs).1)
    exact ⟨by rw [h1, ho], by rw [Mark.ended, if_neg (by rw [h1]; decide)], mayL_ended (fun s hs => (hE s hs).1), rfl, fun s hs => (hE s hs).2⟩
  · rename_i ho
    have ho : op = true := by cases op <;> simp_all
    split at h
    · cases h
    · rename_i hne
      split at h
      · cases h
      · rename_i h2
        injection h with h
        rcases List.eq_nil_or_concat part with hp | ⟨ini, x, hp⟩
        · rw [hp] at hne; exact absurd rfl hne
        · rw [List.concat_eq_append] at hp
          have hx : lastOf part = x := by rw [hp]; simp [lastOf, rdOf]
          have hpl : part.length - 1 = ini.length := by rw [hp]; simp
          rw [hx] at h h2
          rw [hpl, hp, List.set_append_right _ _ (Nat.le_refl _), Nat.sub_self, List.set_cons_zero] at h
          subst h
          have hxE := hE x (by rw [hp]; simp)
          obtain ⟨t1, t2, t3, t4, t5⟩ := trim_facts hxE.1 (by omega)
          have hopen : Mark.openL (ini ++ [trimB x]) = true := by rw [openL_snoc, t2]
          refine ⟨by rw [hopen, ho], ?_, mayL_snoc (fun s hs => (hE s (by rw [hp]; simp [hs])).1) t3, by rw [hp]; simp, fun s hs => ?_⟩
          · rw [Mark.ended, if_pos hopen, lastS_snoc, t1]
            rw [hp]
            simp
          · rcases List.mem_append.1 hs with hs | hs
            · exact (hE s (by rw [hp]; simp [hs])).2
            · rw [List.mem_singleton] at hs
              subst hs
              have := hxE.2
              exact ⟨by have := this.1; omega, by have := this.2; omega⟩

/-! ### marks -/
theorem rep_same (c : UInt8) (n : Nat) : repB ⟨#[c]⟩ n = Mark.repS c n := rfl
theorem mkM_plain (c : UInt8) (n : Nat) (label : ByteArray) : mkM ⟨#[c]⟩ n ⟨#[]⟩ label = Mark.markS c n false label := by
  rw [mkM, Mark.markS, if_neg (by decide), rep_same]
  apply bytes_eq
  simp [ByteArray.data_append, Unmark.nl, Mark.nl]
theorem mkM_bang (c : UInt8) (n : Nat) (label : ByteArray) : mkM ⟨#[c]⟩ n bang label = Mark.markS c n true label := by
  rw [mkM, Mark.markS, if_pos rfl, rep_same]
  rfl
theorem markS_list (c : UInt8) (n : Nat) (op : Bool) (label : ByteArray) : (Mark.markS c n op label).data.toList = List.replicate n c ++ (if op = true then [33] else []) ++ label.data.toList ++ [10] := by
  have hr : (Mark.repS c n).data.toList = List.replicate n c := by
    show Lib.repeatL [c] n = _
    induction n with
    | zero => rfl
    | succ n ih => rw [Lib.repeatL, ih]; rfl
  unfold Mark.markS
  split
  · simp only [ByteArray.data_append, Array.toList_append, hr]
    rfl
  · simp only [ByteArray.data_append, Array.toList_append, hr]
    simp
    rfl
theorem is_mark {σ : Rd} {s : ByteArray} {c : UInt8} {label : ByteArray} (h : isOk σ s c label = true) : s = Mark.markS c σ.long (isOp σ s c label) label := by
  unfold isOk isOp at *
  rw [mkM_plain, mkM_bang] at h
  rw [mkM_bang]
  cases hb : eqS s (Mark.markS c σ.long true label) with
  | true => exact eqS_eq hb
  | false =>
    rw [hb, Bool.or_false] at h
    exact eqS_eq h
theorem not_other {σ : Rd} {s : ByteArray} {c d : UInt8} {label label' : ByteArray} (h : isOk σ s c label = true) (hl : 1 ≤ σ.long) (hcd : c ≠ d) : isOp σ s d label' = false := by
  have h1 := is_mark h
  cases hb : isOp σ s d label' with
  | false => rfl
  | true =>
    unfold isOp at hb
    rw [mkM_bang] at hb
    have h2 := eqS_eq hb
    have e : (Mark.markS c σ.long (isOp σ s c label) label).data.toList = (Mark.markS d σ.long true label').data.toList := by rw [← h1, ← h2]
    rw [markS_list, markS_list] at e
    obtain ⟨k, hk⟩ : ∃ k, σ.long = k + 1 := ⟨σ.long - 1, by omega⟩
    rw [hk] at e
    simp only [List.replicate_succ, List.cons_append, List.cons.injEq] at e
    exact absurd e.1 hcd
theorem not_open {σ : Rd} {s : ByteArray} {d : UInt8} {label : ByteArray} (h : isOk σ s d label = false) : isOp σ s d label = false := by
  unfold isOk at h
  unfold isOp
  simp only [Bool.or_eq_false_iff] at h
  exact h.2
theorem first_mark {n : Nat} {s : ByteArray} (h : eqS s (repB ⟨#[60]⟩ n ++ ⟨#[32, 49, 10]⟩) = true) : s = Mark.markS 60 n false (Mark.label 1) := by
  rw [eqS_eq h]
  apply bytes_eq
  rw [markS_list, ByteArray.data_append, Array.toList_append]
  have hr : (repB ⟨#[60]⟩ n).data.toList = List.replicate n 60 := by
    clear h
    show Lib.repeatL [60] n = _
    induction n with
    | zero => rfl
    | succ n ih => rw [Lib.repeatL, ih]; rfl
  have hl : (Mark.label 1).data.toList = [32, 49] := by decide +kernel
  rw [hr, hl]
  simp

#print axioms part_ended
end Go.Proofs.YtcnjbmdnnhbfkaaDoor.Back

/- What the reader holds, printed again: what was read. -/
namespace Go.Proofs.YtcnjbmdnnhbfkaaDoor.Back
open Go.RowKit Go.Proofs.YtcnjbmdnnhbfkaaDoor.XD Go.Proofs.YtcnjbmdnnhbfkaaDoor.Size Go.Proofs.YtcnjbmdnnhbfkaaDoor.Unmark Go.Proofs.YtcnjbmdnnhbfkaaDoorW.PrintWords Go.Proofs.YtcnjbmdnnhbfkaaDoorW.PrintMore

theorem sidesTo_congr {p q : Piece} (t : Int) (n : Nat) (O : List ByteArray) (h2 : p.f2 = q.f2) : ∀ k, (∀ i, i < k → p.f3.getD i [] = q.f3.getD i []) → Mark.sidesTo p t n O k = Mark.sidesTo q t n O k
  | 0, _ => rfl
  | k + 1, h => by
    rw [Mark.sidesTo_succ, Mark.sidesTo_succ, sidesTo_congr t n O h2 k (fun i hi => h i (by omega))]
    unfold Mark.oneSide
    rw [h k (by omega), h2]
theorem sidesTo_one (p : Piece) (t : Int) (n : Nat) (O : List ByteArray) : Mark.sidesTo p t n O 1 = Mark.oneSide p t n (false, O) 0 := rfl

/-- What stands ahead of the part that is read, in a conflict. -/
def pre (t : Int) (n : Nat) (σ : Rd) : Bool × List ByteArray :=
  if σ.inb = true then Mark.sideA n (false, Mark.pageTo t n σ.out) 0 (σ.sides.getD 0 []) else Mark.sidesTo ⟨true, [], σ.base, σ.sides⟩ t n (Mark.pageTo t n σ.out) σ.sides.length
/-- The mark ahead of it. -/
def cur (t : Int) (n : Nat) (σ : Rd) : ByteArray :=
  if σ.inb = true then Mark.markS 124 n (pre t n σ).1 Mark.baseB else Mark.markS (if σ.sides.length = 0 then 60 else 61) n (pre t n σ).1 (Mark.label (σ.sides.length + 1))
/-- All that was read, printed again in a style. -/
def back (t : Int) (n : Nat) (σ : Rd) : List ByteArray := if σ.conf = true then (pre t n σ).2 ++ [cur t n σ] ++ σ.part else Mark.pageTo t n σ.out ++ σ.text

theorem end_pre {t : Int} {n : Nat} {σ τ : Rd} {op : Bool} (hE : ∀ s ∈ σ.part, Ended s ∧ Sz n s) (h : endP σ op = some τ) (h1 : σ.inb = true → t ≠ 1 ∧ σ.sides.length = 1) (h2 : σ.inb = false → σ.sides.length = 0 → t = 1) :
    pre t n τ = (op, (pre t n σ).2 ++ [cur t n σ] ++ σ.part) := by
  unfold endP at h
  obtain ⟨P, hP, rfl⟩ := Option.map_eq_some_iff.1 h
  obtain ⟨e1, e2, -, -, -⟩ := part_ended hE hP
  cases hb : σ.inb with
  | true =>
    obtain ⟨ht, hl⟩ := h1 hb
    have e : pre t n (putPart σ P) = Mark.sidesTo ⟨true, [], P, σ.sides⟩ t n (Mark.pageTo t n σ.out) σ.sides.length := by
      unfold pre putPart
      simp only [hb, if_true]
      rw [if_neg (by decide)]
    rw [e, hl, sidesTo_one, Mark.oneSide, if_pos ⟨rfl, ht⟩]
    unfold cur pre
    simp only [hb, if_true]
    rw [Mark.baseA, e1, e2]
  | false =>
    have e : pre t n (putPart σ P) = Mark.sidesTo ⟨true, [], σ.base, σ.sides ++ [P]⟩ t n (Mark.pageTo t n σ.out) (σ.sides.length + 1) := by
      unfold pre putPart
      simp only [hb, Bool.false_eq_true, if_false, List.length_append, List.length_singleton]
    rw [e, Mark.sidesTo_succ, sidesTo_congr (p := ⟨true, [], σ.base, σ.sides ++ [P]⟩) (q := ⟨true, [], σ.base, σ.sides⟩) t n _ rfl σ.sides.length (fun i hi => by
      show (σ.sides ++ [P]).getD i [] = σ.sides.getD i []
      rw [List.getD_eq_getElem?_getD, List.getD_eq_getElem?_getD, List.getElem?_append_left hi]), Mark.oneSide, if_neg (fun h => h.2 (h2 hb h.1))]
    have eg : (σ.sides ++ [P]).getD σ.sides.length [] = P := by rw [List.getD_eq_getElem?_getD]; simp
    unfold cur pre
    simp only [hb, Bool.false_eq_true, if_false]
    rw [Mark.sideA, eg, e1, e2]
theorem begin_pre {t : Int} {n : Nat} {σ τ : Rd} {op : Bool} (hE : ∀ s ∈ σ.part, Ended s ∧ Sz n s) (h : endP σ op = some τ) (h1 : σ.inb = false) (h2 : σ.sides = []) :
    pre t n { τ with inb := true, style := 2 } = (op, (pre t n σ).2 ++ [cur t n σ] ++ σ.part) := by
  unfold endP at h
  obtain ⟨P, hP, rfl⟩ := Option.map_eq_some_iff.1 h
  obtain ⟨e1, e2, -, -, -⟩ := part_ended hE hP
  have e : pre t n { putPart σ P with inb := true, style := 2 } = Mark.sideA n (false, Mark.pageTo t n σ.out) 0 P := by
    unfold pre putPart
    simp only [h1, Bool.false_eq_true, if_false, if_true, h2]
    rfl
  rw [e]
  unfold cur pre
  simp only [h1, Bool.false_eq_true, if_false, h2]
  rw [Mark.sideA, e1, e2]
  rfl

theorem pageTo_snoc (t : Int) (n : Nat) (l : List Piece) (x : Piece) : Mark.pageTo t n (l ++ [x]) = Mark.pageOne t n (Mark.pageTo t n l) x := by
  rw [Mark.pageTo, Mark.pageTo, List.foldl_append]; rfl
theorem norm_snoc (l : List Piece) (x : Piece) (h : Mark.norm l = l) : Mark.norm (l ++ [x]) = Mark.putR l x := by
  rw [Mark.norm, List.foldl_append]
  show Mark.putR (Mark.norm l) x = _
  rw [h]

/-- A piece as the reader makes them. -/
structure FineO (n : Nat) (p : Piece) : Prop where
  text : p.f0 = false → 0 < p.f1.length ∧ p.f2 = [] ∧ p.f3 = [] ∧ Mark.openL p.f1 = false
  conf : p.f0 = true → p.f1 = [] ∧ 1 ≤ p.f3.length ∧ p.f3.length ≤ 16
  all : ∀ t ∈ Mark.textsL p, Mark.mayL t = true ∧ ∀ s ∈ t, Sz n s

/-- What holds of the reader behind i of N lines. -/
structure Inv (N n i : Nat) (σ : Rd) : Prop where
  long : σ.long = n
  innc : σ.inn = σ.conf
  style : σ.style = 0 ∨ σ.style = 1 ∨ σ.style = 2
  text : σ.conf = true → σ.text = []
  idle : σ.conf = false → σ.part = [] ∧ σ.inb = false ∧ σ.sides = [] ∧ σ.base = []
  inb : σ.inb = true → σ.style = 2 ∧ σ.sides.length = 1
  few : σ.conf = true → sidesN σ ≤ 16
  fine : ∀ p ∈ σ.out, FineO n p
  norm : Mark.norm σ.out = σ.out
  lastc : σ.conf = false → ∀ y, σ.out.getLast? = some y → y.f0 = true
  lines : (∀ s ∈ σ.text, Ended s ∧ Sz n s) ∨ (i = N ∧ (∀ s ∈ σ.text, Sz n s) ∧ Mark.mayL σ.text = true)
  part : ∀ s ∈ σ.part, Ended s ∧ Sz n s
  lists : ∀ t ∈ σ.base :: σ.sides, Mark.mayL t = true ∧ ∀ s ∈ t, Sz n s
  size : Mark.tot σ.out + σ.text.length + σ.base.length + σ.sides.length + σ.sides.flatten.length + σ.part.length ≤ i

theorem mayL_nil : Mark.mayL [] = true := rfl
theorem inv_start (N n : Nat) : Inv N n 0 (Unmark.start n) where
  long := rfl
  innc := rfl
  style := .inl rfl
  text := fun h => by cases h
  idle := fun _ => ⟨rfl, rfl, rfl, rfl⟩
  inb := fun h => by cases h
  few := fun h => by cases h
  fine := fun p h => by cases h
  norm := rfl
  lastc := fun _ y h => by cases h
  lines := .inl (fun s h => by cases h)
  part := fun s h => by cases h
  lists := fun t h => by
    have : t = [] := by simpa [Unmark.start] using h
    subst this
    exact ⟨mayL_nil, fun s h => by cases h⟩
  size := by simp [Unmark.start, Mark.tot]
theorem back_start (t : Int) (n : Nat) : back t n (Unmark.start n) = [] := rfl

/-- The texts ahead become a piece. -/
theorem flush_facts {N n i : Nat} {σ : Rd} (h : Inv N n i σ) (hc : σ.conf = false) (ht : ∀ s ∈ σ.text, Ended s ∧ Sz n s) :
    (∀ p ∈ (flush σ).out, FineO n p) ∧ Mark.norm (flush σ).out = (flush σ).out ∧ Mark.tot (flush σ).out = Mark.tot σ.out + σ.text.length ∧ (flush σ).text = [] ∧ (∀ t, Mark.pageTo t n (flush σ).out = Mark.pageTo t n σ.out ++ σ.text) := by
  unfold flush
  by_cases hl : 0 < σ.text.length
  · rw [if_pos hl]
    have hop := openL_ended (fun s hs => (ht s hs).1)
    refine ⟨fun p hp => ?_, ?_, ?_, rfl, fun t => ?_⟩
    · rcases List.mem_append.1 hp with hp | hp
      · exact h.fine p hp
      · rw [List.mem_singleton] at hp
        subst hp
        refine ⟨fun _ => ⟨hl, rfl, rfl, hop⟩, fun e => (by cases e), fun t htm => ?_⟩
        simp only [Mark.textsL, List.append_nil, List.mem_cons, List.not_mem_nil, or_false] at htm
        rcases htm with rfl | rfl
        · exact ⟨mayL_ended (fun s hs => (ht s hs).1), fun s hs => (ht s hs).2⟩
        · exact ⟨mayL_nil, fun s hs => by cases hs⟩
    · show Mark.norm (σ.out ++ [⟨false, σ.text, [], []⟩]) = _
      rw [norm_snoc _ _ h.norm, Mark.putR, if_neg (by simp), if_neg (by show ¬ σ.text.length = 0; omega)]
      cases hg : σ.out.getLast? with
      | none => rfl
      | some y => simp only [h.lastc hc y hg, if_true]
    · show Mark.tot (σ.out ++ [⟨false, σ.text, [], []⟩]) = _
      rw [Mark.tot_append]
      simp [Mark.tot, Mark.szP]
    · show Mark.pageTo t n (σ.out ++ [⟨false, σ.text, [], []⟩]) = _
      rw [pageTo_snoc, Mark.pageOne, if_neg (by simp)]
  · rw [if_neg hl]
    have h0 : σ.text = [] := List.length_eq_zero_iff.1 (by omega)
    exact ⟨h.fine, h.norm, by rw [h0]; rfl, rfl, fun t => by rw [h0, List.append_nil]⟩

theorem line_facts {N i : Nat} {σ : Rd} {s : ByteArray} (h : lineOk N i σ s = true) : oneMay s = true ∧ (Ended s ∨ (i + 1 = N ∧ σ.conf = false)) := by
  unfold lineOk at h
  simp only [Bool.and_eq_true, Bool.or_eq_true, Bool.not_eq_true', decide_eq_true_eq] at h
  refine ⟨h.1, ?_⟩
  rcases h.2 with h2 | h2
  · exact .inl (ended_of h.1 h2)
  · exact .inr ⟨by have := h2.1; omega, h2.2⟩

/-- Outside of a conflict. -/
theorem step_out {N n i : Nat} {σ τ : Rd} {s : ByteArray} (h : Inv N n i σ) (hc : σ.conf = false) (hi : i < N) (hs : s.size ≤ 100) (ho : lineOk N i σ s = true) (hf : outside σ s (markOf σ s) = some τ) :
    Inv N n (i + 1) τ ∧ ∀ t : Int, (t = 1 ∨ t = 2) → (τ.style = 0 ∨ τ.style = t) → (σ.style = 0 ∨ σ.style = t) ∧ back t n τ = back t n σ ++ [s] := by
  obtain ⟨hp, hb, hsd, hba⟩ := h.idle hc
  have ht : ∀ s ∈ σ.text, Ended s ∧ Sz n s := h.lines.resolve_right (fun x => by have := x.1; omega)
  obtain ⟨hm1, hm2⟩ := line_facts ho
  have hsz := h.size
  unfold outside at hf
  split at hf
  · rename_i hmk
    injection hf with hf
    subst hf
    have hr : Sz n s := ⟨hs, by
      unfold markOf at hmk
      rw [h.long] at hmk
      simp only [decide_eq_false_iff_not] at hmk
      omega⟩
    refine ⟨{ h with text := fun e => (by rw [hc] at e; cases e), lines := ?_, size := ?_ }, fun t _ hts => ⟨hts, ?_⟩⟩
    · rcases hm2 with hE | ⟨hN, -⟩
      · refine .inl (fun x hx => ?_)
        rcases List.mem_append.1 hx with hx | hx
        · exact ht x hx
        · rw [List.mem_singleton] at hx
          subst hx
          exact ⟨hE, hr⟩
      · refine .inr ⟨hN, fun x hx => ?_, mayL_snoc (fun s hs => (ht s hs).1) (may_one hm1)⟩
        rcases List.mem_append.1 hx with hx | hx
        · exact (ht x hx).2
        · rw [List.mem_singleton] at hx
          subst hx
          exact hr
    · simp only [List.length_append, List.length_singleton]
      omega
    · unfold back
      simp only [hc, Bool.false_eq_true, if_false, List.append_assoc]
  · split at hf
    · cases hf
    · rename_i hq
      injection hf with hf
      subst hf
      have hq : eqS s (repB ⟨#[60]⟩ σ.long ++ ⟨#[32, 49, 10]⟩) = true := by simpa using hq
      rw [h.long] at hq
      have hsm := first_mark hq
      obtain ⟨f1, f2, f3, f4, f5⟩ := flush_facts h hc ht
      have fp : (flush σ).part = σ.part ∧ (flush σ).inb = σ.inb ∧ (flush σ).style = σ.style ∧ (flush σ).long = σ.long := by unfold flush; split <;> exact ⟨rfl, rfl, rfl, rfl⟩
      refine ⟨{ long := fp.2.2.2.trans h.long, innc := rfl, style := by show (flush σ).style = 0 ∨ _; rw [fp.2.2.1]; exact h.style, text := fun _ => f4, idle := fun e => (by cases e), inb := fun e => ?_, few := fun _ => ?_, fine := f1, norm := f2, lastc := fun e => (by cases e), lines := .inl ?_, part := ?_, lists := ?_, size := ?_ }, fun t _ hts => ⟨?_, ?_⟩⟩
      · replace e : (flush σ).inb = true := e
        rw [fp.2.1, hb] at e
        cases e
      · show ([] : List (List ByteArray)).length + (if (flush σ).inb = true then 0 else 1) ≤ 16
        split <;> simp
      · intro x hx
        replace hx : x ∈ (flush σ).text := hx
        rw [f4] at hx
        cases hx
      · intro x hx
        replace hx : x ∈ (flush σ).part := hx
        rw [fp.1, hp] at hx
        cases hx
      · intro t htm
        have : t = [] := by simpa using htm
        subst this
        exact ⟨mayL_nil, fun s h => by cases h⟩
      · show Mark.tot (flush σ).out + (flush σ).text.length + 0 + 0 + 0 + (flush σ).part.length ≤ i + 1
        rw [f3, f4, fp.1, hp]
        simp only [List.length_nil]
        omega
      · replace hts : (flush σ).style = 0 ∨ (flush σ).style = t := hts
        rw [fp.2.2.1] at hts
        exact hts
      · unfold back cur pre
        simp only [hc, fp.1, hp, fp.2.1, hb, Bool.false_eq_true, if_false, if_true, List.length_nil, List.append_nil]
        rw [hsm, ← f5 t]
        rfl

/-- A part has ended. -/
theorem end_inv {n : Nat} {σ τ : Rd} {op : Bool} (hE : ∀ s ∈ σ.part, Ended s ∧ Sz n s) (hL : ∀ t ∈ σ.base :: σ.sides, Mark.mayL t = true ∧ ∀ s ∈ t, Sz n s) (h : endP σ op = some τ) :
    τ.long = σ.long ∧ τ.inn = σ.inn ∧ τ.conf = σ.conf ∧ τ.style = σ.style ∧ τ.text = σ.text ∧ τ.out = σ.out ∧ τ.part = [] ∧ τ.inb = false ∧ τ.sides.length = sidesN σ ∧ (∀ t ∈ τ.base :: τ.sides, Mark.mayL t = true ∧ ∀ s ∈ t, Sz n s) ∧
      τ.base.length + τ.sides.length + τ.sides.flatten.length ≤ σ.base.length + σ.sides.length + σ.sides.flatten.length + σ.part.length + 1 := by
  unfold endP at h
  obtain ⟨P, hP, rfl⟩ := Option.map_eq_some_iff.1 h
  obtain ⟨-, -, e3, e4, e5⟩ := part_ended hE hP
  unfold putPart
  cases hb : σ.inb with
  | true =>
    refine ⟨rfl, rfl, rfl, rfl, rfl, rfl, rfl, rfl, by simp [sidesN, hb], fun t ht => ?_, by simp; omega⟩
    rcases List.mem_cons.1 ht with rfl | ht
    · exact ⟨e3, e5⟩
    · exact hL t (by simp only [if_true] at ht; simp [ht])
  | false =>
    refine ⟨rfl, rfl, rfl, rfl, rfl, rfl, rfl, rfl, by simp [sidesN, hb], fun t ht => ?_, by simp; omega⟩
    simp only [Bool.false_eq_true, if_false, List.mem_cons, List.mem_append, List.not_mem_nil, or_false] at ht
    rcases ht with rfl | ht | rfl
    · exact hL _ (by simp)
    · exact hL t (by simp [ht])
    · exact ⟨e3, e5⟩

#print axioms end_inv
end Go.Proofs.YtcnjbmdnnhbfkaaDoor.Back

/- A conflict read, and all: what is printed of what was read. -/
namespace Go.Proofs.YtcnjbmdnnhbfkaaDoor.Back
open Go.RowKit Go.Proofs.YtcnjbmdnnhbfkaaDoor.XD Go.Proofs.YtcnjbmdnnhbfkaaDoor.Size Go.Proofs.YtcnjbmdnnhbfkaaDoor.Unmark Go.Proofs.YtcnjbmdnnhbfkaaDoorW.PrintWords Go.Proofs.YtcnjbmdnnhbfkaaDoorW.PrintMore

/-- In a conflict. -/
theorem step_in {N n i : Nat} {σ τ : Rd} {s : ByteArray} (h : Inv N n i σ) (hc : σ.conf = true) (hn : 1 ≤ n) (hs : s.size ≤ 100) (ho : lineOk N i σ s = true) (hf : insideP σ s (markOf σ s) = some τ) :
    Inv N n (i + 1) τ ∧ ∀ t : Int, (t = 1 ∨ t = 2) → (τ.style = 0 ∨ τ.style = t) → (σ.style = 0 ∨ σ.style = t) ∧ back t n τ = back t n σ ++ [s] := by
  have hte := h.text hc
  obtain ⟨hm1, hm2⟩ := line_facts ho
  have hE : Ended s := hm2.resolve_right (fun x => by rw [hc] at x; cases x.2)
  have hsz := h.size
  have hbk : ∀ t, back t n σ = (pre t n σ).2 ++ [cur t n σ] ++ σ.part := fun t => by unfold back; rw [if_pos hc]
  have hln : 1 ≤ σ.long := by rw [h.long]; exact hn
  unfold insideP at hf
  split at hf
  · rename_i hmk
    injection hf with hf
    subst hf
    have hr : Sz n s := ⟨hs, by
      unfold markOf at hmk
      rw [h.long] at hmk
      simp only [decide_eq_false_iff_not] at hmk
      omega⟩
    refine ⟨{ h with idle := fun e => (by rw [show σ.conf = false from e] at hc; cases hc), lines := .inl (fun x hx => by rw [show σ.text = [] from hte] at hx; cases hx), part := fun x hx => ?_, size := ?_ }, fun t _ hts => ⟨hts, ?_⟩⟩
    · rcases List.mem_append.1 hx with hx | hx
      · exact h.part x hx
      · rw [List.mem_singleton] at hx
        subst hx
        exact ⟨hE, hr⟩
    · simp only [List.length_append, List.length_singleton]
      omega
    · rw [hbk t, show back t n { σ with part := σ.part ++ [s] } = (pre t n σ).2 ++ [cur t n σ] ++ (σ.part ++ [s]) by unfold back; rw [if_pos hc]; rfl, List.append_assoc, List.append_assoc, List.append_assoc]
  · split at hf
    · rename_i hb
      -- the base begins
      unfold beginP at hf
      split at hf
      · cases hf
      · rename_i h0
        split at hf
        · cases hf
        · rename_i h1
          obtain ⟨ρ, hρ, rfl⟩ := Option.map_eq_some_iff.1 hf
          have hsd : σ.sides = [] := List.length_eq_zero_iff.1 (by omega)
          have hib : σ.inb = false := by
            cases hq : σ.inb with
            | false => rfl
            | true => have := (h.inb hq).2; omega
          obtain ⟨a1, a2, a3, a4, a5, a6, a7, a8, a9, a10, a11⟩ := end_inv h.part h.lists hρ
          have hsN : sidesN σ = 1 := by simp [sidesN, hsd, hib]
          rw [hsN] at a9
          refine ⟨{ long := a1.trans h.long, innc := (a2.trans h.innc).trans a3.symm, style := .inr (.inr rfl), text := fun _ => a5.trans hte, idle := fun e => (by rw [show ρ.conf = false from e] at a3; rw [← a3] at hc; cases hc), inb := fun _ => ⟨rfl, a9⟩, few := fun _ => ?_, fine := by show ∀ p ∈ ρ.out, _; rw [a6]; exact h.fine, norm := by show Mark.norm ρ.out = ρ.out; rw [a6]; exact h.norm, lastc := fun e => (by rw [show ρ.conf = false from e] at a3; rw [← a3] at hc; cases hc), lines := .inl (fun x hx => by rw [show ρ.text = [] from a5.trans hte] at hx; cases hx), part := fun x hx => (by rw [show ρ.part = [] from a7] at hx; cases hx), lists := a10, size := ?_ }, fun t _ hts => ⟨?_, ?_⟩⟩
          · show ρ.sides.length + (if true = true then 0 else 1) ≤ 16
            rw [a9]; decide
          · show Mark.tot ρ.out + ρ.text.length + ρ.base.length + ρ.sides.length + ρ.sides.flatten.length + ρ.part.length ≤ i + 1
            rw [a5, a6, a7]
            simp only [List.length_nil]
            omega
          · rcases h.style with h2 | h2 | h2
            · exact .inl h2
            · exact absurd h2 h1
            · rcases hts with h3 | h3
              · exact absurd (show (2 : Int) = 0 from h3) (by decide)
              · exact .inr (by rw [h2]; exact h3)
          · have hp := begin_pre (t := t) (n := n) h.part hρ hib hsd
            have hsm := is_mark hb
            rw [h.long] at hsm
            rw [hbk t]
            unfold back
            rw [if_pos (show ({ ρ with inb := true, style := 2 } : Rd).conf = true from a3.trans hc)]
            unfold cur
            rw [if_pos (show ({ ρ with inb := true, style := 2 } : Rd).inb = true from rfl), hp, show ({ ρ with inb := true, style := 2 } : Rd).part = [] from a7, List.append_nil]
            show _ ++ [Mark.markS 124 n (isOp σ s 124 baseL) Mark.baseB] = _
            rw [show Mark.markS 124 n (isOp σ s 124 baseL) Mark.baseB = s from hsm.symm]
            rfl
    · split at hf
      · cases hf
      · rename_i hnb hbars
        obtain ⟨ρ, hρ, rfl⟩ := Option.map_eq_some_iff.1 hf
        obtain ⟨a1, a2, a3, a4, a5, a6, a7, a8, a9, a10, a11⟩ := end_inv h.part h.lists hρ
        have hfew := h.few hc
        have hone : 1 ≤ sidesN σ := by
          unfold sidesN
          cases hq : σ.inb with
          | false => simp
          | true => have := (h.inb hq).2; simp; omega
        unfold bars at hbars
        simp only [Bool.not_eq_true, Bool.or_eq_false_iff, Bool.and_eq_false_iff, Bool.not_eq_false', decide_eq_false_iff_not] at hbars
        obtain ⟨⟨hb1, hb2⟩, hb3⟩ := hbars
        -- the style that comes of it
        have hsty : ∀ t : Int, (t = 1 ∨ t = 2) → ((if decide (σ.sides.length = 0) = true then (1 : Int) else σ.style) = 0 ∨ (if decide (σ.sides.length = 0) = true then (1 : Int) else σ.style) = t) →
            (σ.style = 0 ∨ σ.style = t) ∧ pre t n ρ = (isOp σ s 61 (numL (sidesN σ + 1)) || isOp σ s 62 ⟨#[]⟩, back t n σ) := by
          intro t ht hts
          have g : (σ.style = 0 ∨ σ.style = t) ∧ (σ.sides.length = 0 → t = 1) := by
            by_cases h0 : σ.sides.length = 0
            · rw [if_pos (by simpa using h0)] at hts
              have ht1 : t = 1 := by rcases hts with h3 | h3 <;> omega
              refine ⟨?_, fun _ => ht1⟩
              rcases h.style with h2 | h2 | h2
              · exact .inl h2
              · exact .inr (by omega)
              · rcases hb3 with h3 | h3
                · exact absurd h0 h3
                · exact absurd h2 h3
            · rw [if_neg (by simpa using h0)] at hts
              exact ⟨hts, fun x => absurd x h0⟩
          refine ⟨g.1, ?_⟩
          rw [hbk t]
          refine end_pre h.part hρ (fun hq => ⟨?_, (h.inb hq).2⟩) (fun _ => g.2)
          have h2 := (h.inb hq).1
          rcases g.1 with h3 | h3 <;> omega
        have hst' : ∀ c : Bool, (if c = true then ({ ρ with style := 1 } : Rd) else ρ).style = 0 ∨ (if c = true then ({ ρ with style := 1 } : Rd) else ρ).style = 1 ∨ (if c = true then ({ ρ with style := 1 } : Rd) else ρ).style = 2 := by
          intro c
          cases c
          · show ρ.style = 0 ∨ ρ.style = 1 ∨ ρ.style = 2
            rw [a4]; exact h.style
          · exact .inr (.inl rfl)
        cases hl : isOk σ s 62 ⟨#[]⟩ with
        | true =>
          -- the conflict is closed
          have hop : (isOp σ s 61 (numL (sidesN σ + 1)) || isOp σ s 62 ⟨#[]⟩) = isOp σ s 62 ⟨#[]⟩ := by rw [not_other hl hln (by decide)]; rfl
          rw [hop] at hsty
          have hsm := is_mark hl
          rw [h.long] at hsm
          have hconf : ρ.conf = true := a3.trans hc
          have hpf : FineO n ⟨ρ.conf, [], ρ.base, ρ.sides⟩ := by
            refine ⟨fun e => (by rw [show ρ.conf = false from e] at hconf; cases hconf), fun _ => ⟨rfl, ?_, ?_⟩, fun t ht => ?_⟩
            · show 1 ≤ ρ.sides.length
              omega
            · show ρ.sides.length ≤ 16
              omega
            · simp only [Mark.textsL, List.mem_append, List.mem_cons, List.not_mem_nil, or_false] at ht
              rcases ht with (rfl | rfl) | ht
              · exact ⟨mayL_nil, fun s h => by cases h⟩
              · exact a10 _ (by simp)
              · exact a10 t (by simp [ht])
          have hcl : ∀ (f : Bool), Inv N n (i + 1) (close (if f = true then ({ ρ with style := 1 } : Rd) else ρ)) ∧ (∀ t, back t n (close (if f = true then ({ ρ with style := 1 } : Rd) else ρ)) = Mark.pageOne t n (Mark.pageTo t n ρ.out) ⟨ρ.conf, [], ρ.base, ρ.sides⟩) := by
            intro f
            obtain ⟨κ, hκ⟩ : ∃ κ, (if f = true then ({ ρ with style := 1 } : Rd) else ρ) = κ := ⟨_, rfl⟩
            have hk : κ.long = ρ.long ∧ κ.out = ρ.out ∧ κ.text = ρ.text ∧ κ.conf = ρ.conf ∧ κ.base = ρ.base ∧ κ.sides = ρ.sides ∧ κ.part = ρ.part ∧ κ.inb = ρ.inb := by
              rw [← hκ]
              cases f <;> exact ⟨rfl, rfl, rfl, rfl, rfl, rfl, rfl, rfl⟩
            have hks := hst' f
            rw [hκ] at hks ⊢
            obtain ⟨k1, k2, k3, k4, k5, k6, k7, k8⟩ := hk
            have ec : close κ = { κ with out := ρ.out ++ [⟨ρ.conf, [], ρ.base, ρ.sides⟩], conf := false, base := [], sides := [], inn := false } := by rw [close, k2, k4, k5, k6]
            rw [ec]
            refine ⟨{ long := (k1.trans a1).trans h.long, innc := rfl, style := hks, text := fun e => (by cases e), idle := fun _ => ⟨k7.trans a7, k8.trans a8, rfl, rfl⟩, inb := fun e => ?_, few := fun e => (by cases e), fine := ?_, norm := ?_, lastc := ?_, lines := .inl ?_, part := ?_, lists := ?_, size := ?_ }, fun t => ?_⟩
            · replace e : κ.inb = true := e
              rw [k8, a8] at e
              cases e
            · intro p hp
              rcases List.mem_append.1 hp with hp | hp
              · rw [a6] at hp; exact h.fine p hp
              · rw [List.mem_singleton] at hp
                subst hp
                exact hpf
            · show Mark.norm (ρ.out ++ [⟨ρ.conf, [], ρ.base, ρ.sides⟩]) = _
              rw [norm_snoc _ _ (by rw [a6]; exact h.norm), Mark.putR, if_pos (by exact hconf), hconf]
            · intro _ y hy
              replace hy : (ρ.out ++ [(⟨ρ.conf, [], ρ.base, ρ.sides⟩ : Piece)]).getLast? = some y := hy
              rw [List.getLast?_concat] at hy
              injection hy with hy
              subst hy
              exact hconf
            · intro x hx
              rw [show κ.text = [] from k3.trans (a5.trans hte)] at hx
              cases hx
            · intro x hx
              rw [show κ.part = [] from k7.trans a7] at hx
              cases hx
            · intro t htm
              have : t = [] := by simpa using htm
              subst this
              exact ⟨mayL_nil, fun s h => by cases h⟩
            · show Mark.tot (ρ.out ++ [⟨ρ.conf, [], ρ.base, ρ.sides⟩]) + κ.text.length + 0 + 0 + 0 + κ.part.length ≤ i + 1
              rw [k3, k7, a5, a7, hte, Mark.tot_append, a6, show Mark.tot [(⟨ρ.conf, [], ρ.base, ρ.sides⟩ : Piece)] = ρ.base.length + ρ.sides.length + ρ.sides.flatten.length by simp [Mark.tot, Mark.szP]]
              simp only [List.length_nil]
              omega
            · unfold back
              rw [if_neg (by simp)]
              show Mark.pageTo t n (ρ.out ++ [⟨ρ.conf, [], ρ.base, ρ.sides⟩]) ++ κ.text = _
              rw [show κ.text = [] from k3.trans (a5.trans hte), List.append_nil, pageTo_snoc]
          unfold after
          rw [if_pos rfl]
          refine ⟨(hcl _).1, fun t ht hts => ?_⟩
          have hts' : (if decide (σ.sides.length = 0) = true then (1 : Int) else σ.style) = 0 ∨ (if decide (σ.sides.length = 0) = true then (1 : Int) else σ.style) = t := by
            rw [← a4]
            cases hd : decide (σ.sides.length = 0) <;> rw [hd] at hts <;> exact hts
          obtain ⟨g1, g2⟩ := hsty t ht hts'
          refine ⟨g1, ?_⟩
          rw [(hcl _).2 t, Mark.pageOne, if_pos (by exact hconf), Mark.conflictL]
          unfold pre at g2
          rw [if_neg (by rw [a8]; decide)] at g2
          have eq1 : Mark.sidesTo ⟨ρ.conf, [], ρ.base, ρ.sides⟩ t n (Mark.pageTo t n ρ.out) ρ.sides.length = (isOp σ s 62 ⟨#[]⟩, back t n σ) := by
            rw [hconf]; exact g2
          rw [show (⟨ρ.conf, [], ρ.base, ρ.sides⟩ : Piece).f3.length = ρ.sides.length from rfl, eq1]
          show back t n σ ++ [Mark.markS 62 n (isOp σ s 62 ⟨#[]⟩) ⟨#[]⟩] = _
          rw [← hsm]
        | false =>
          -- a further side
          have hfur : isOk σ s 61 (numL (sidesN σ + 1)) = true := by
            rcases hb1 with h3 | h3
            · exact h3
            · rw [hl] at h3; cases h3
          have hop : (isOp σ s 61 (numL (sidesN σ + 1)) || isOp σ s 62 ⟨#[]⟩) = isOp σ s 61 (numL (sidesN σ + 1)) := by rw [not_open hl, Bool.or_false]
          rw [hop] at hsty
          have hsm := is_mark hfur
          rw [h.long] at hsm
          have h16 : sidesN σ < 16 := by
            rcases hb2 with h3 | h3
            · rw [hfur] at h3; cases h3
            · omega
          have hcl : ∀ (f : Bool), Inv N n (i + 1) (if f = true then ({ ρ with style := 1 } : Rd) else ρ) ∧ (∀ t, back t n (if f = true then ({ ρ with style := 1 } : Rd) else ρ) = (pre t n ρ).2 ++ [Mark.markS 61 n (pre t n ρ).1 (Mark.label (sidesN σ + 1))]) := by
            intro f
            have hks := hst' f
            have hbt : ∀ t, back t n ρ = (pre t n ρ).2 ++ [Mark.markS 61 n (pre t n ρ).1 (Mark.label (sidesN σ + 1))] := by
              intro t
              unfold back
              rw [if_pos (a3.trans hc), a7, List.append_nil]
              unfold cur
              rw [if_neg (by rw [a8]; decide), if_neg (by omega), a9]
            have hI : ∀ c : Int, (c = 0 ∨ c = 1 ∨ c = 2) → Inv N n (i + 1) { ρ with style := c } := fun c hcs => { long := a1.trans h.long, innc := (a2.trans h.innc).trans a3.symm, style := hcs, text := fun _ => a5.trans hte, idle := fun e => (by rw [show ρ.conf = false from e] at a3; rw [← a3] at hc; cases hc), inb := fun e => (by rw [show ρ.inb = true from e] at a8; cases a8), few := fun _ => (by show ρ.sides.length + (if ρ.inb = true then 0 else 1) ≤ 16; rw [a9, a8]; simp; omega), fine := (by show ∀ p ∈ ρ.out, _; rw [a6]; exact h.fine), norm := (by show Mark.norm ρ.out = ρ.out; rw [a6]; exact h.norm), lastc := fun e => (by rw [show ρ.conf = false from e] at a3; rw [← a3] at hc; cases hc), lines := .inl (fun x hx => by rw [show ρ.text = [] from a5.trans hte] at hx; cases hx), part := fun x hx => (by rw [show ρ.part = [] from a7] at hx; cases hx), lists := a10, size := (by
              show Mark.tot ρ.out + ρ.text.length + ρ.base.length + ρ.sides.length + ρ.sides.flatten.length + ρ.part.length ≤ i + 1
              rw [a5, a6, a7]
              simp only [List.length_nil]
              omega) }
            cases f
            · exact ⟨hI ρ.style (by rw [a4]; exact h.style), hbt⟩
            · exact ⟨hI 1 (.inr (.inl rfl)), hbt⟩
          unfold after
          rw [if_neg (by decide)]
          refine ⟨(hcl _).1, fun t ht hts => ?_⟩
          have hts' : (if decide (σ.sides.length = 0) = true then (1 : Int) else σ.style) = 0 ∨ (if decide (σ.sides.length = 0) = true then (1 : Int) else σ.style) = t := by
            rw [← a4]
            cases hd : decide (σ.sides.length = 0) <;> rw [hd] at hts <;> exact hts
          obtain ⟨g1, g2⟩ := hsty t ht hts'
          refine ⟨g1, ?_⟩
          rw [(hcl _).2 t, g2]
          show back t n σ ++ [Mark.markS 61 n (isOp σ s 61 (numL (sidesN σ + 1))) (Mark.label (sidesN σ + 1))] = _
          rw [show Mark.markS 61 n (isOp σ s 61 (numL (sidesN σ + 1))) (Mark.label (sidesN σ + 1)) = s from hsm.symm]

#print axioms step_in
end Go.Proofs.YtcnjbmdnnhbfkaaDoor.Back

/- What was read of texts is printed just as it was. -/
namespace Go.Proofs.YtcnjbmdnnhbfkaaDoor.Back
open Go.RowKit Go.Proofs.YtcnjbmdnnhbfkaaDoor.XD Go.Proofs.YtcnjbmdnnhbfkaaDoor.Size Go.Proofs.YtcnjbmdnnhbfkaaDoor.Unmark Go.Proofs.YtcnjbmdnnhbfkaaDoorW.PrintWords Go.Proofs.YtcnjbmdnnhbfkaaDoorW.PrintMore

theorem go_back (N n : Nat) (hn : 1 ≤ n) : ∀ (l : List ByteArray) (i : Nat) (σ τ : Rd), (∀ s ∈ l, s.size ≤ 100) → i + l.length = N → Inv N n i σ → goP N l i σ = .ok τ →
    Inv N n N τ ∧ ∀ t : Int, (t = 1 ∨ t = 2) → (τ.style = 0 ∨ τ.style = t) → (σ.style = 0 ∨ σ.style = t) ∧ back t n τ = back t n σ ++ l
  | [], i, σ, τ, _, hi, h, hg => by
    simp only [goP] at hg
    obtain rfl := Except.ok.inj hg
    simp at hi
    subst hi
    exact ⟨h, fun t _ ht => ⟨ht, by simp⟩⟩
  | s :: l, i, σ, τ, hs, hi, h, hg => by
    simp only [List.length_cons] at hi
    simp only [goP] at hg
    cases hf : feed1 N i σ s with
    | none => rw [hf] at hg; cases hg
    | some ρ =>
      rw [hf] at hg
      have hstep : Inv N n (i + 1) ρ ∧ ∀ t : Int, (t = 1 ∨ t = 2) → (ρ.style = 0 ∨ ρ.style = t) → (σ.style = 0 ∨ σ.style = t) ∧ back t n ρ = back t n σ ++ [s] := by
        unfold feed1 at hf
        split at hf
        · rename_i ho
          rw [h.innc] at hf
          cases hc : σ.conf with
          | true =>
            rw [hc, if_pos rfl] at hf
            exact step_in h hc hn (hs s (by simp)) ho hf
          | false =>
            rw [hc, if_neg (by decide)] at hf
            exact step_out h hc (by omega) (hs s (by simp)) ho hf
        · cases hf
      obtain ⟨r1, r2⟩ := go_back N n hn l (i + 1) ρ τ (fun x hx => hs x (by simp [hx])) (by omega) hstep.1 hg
      refine ⟨r1, fun t ht hts => ?_⟩
      obtain ⟨q1, q2⟩ := r2 t ht hts
      obtain ⟨q3, q4⟩ := hstep.2 t ht q1
      exact ⟨q3, by rw [q2, q4, List.append_assoc]; rfl⟩

theorem eqBy_refl {α : Type} (q : α → α → Bool) (hq : ∀ x, q x x = true) (xs : List α) : Mark.eqBy q xs xs = true := Mark.eqBy_all q rfl (fun j x y hx hy => by
  rw [hx] at hy
  injection hy with hy
  subst hy
  exact hq x)
theorem eqL_refl (xs : List ByteArray) : Mark.eqL xs xs = true := eqBy_refl _ (fun x => by simp) xs
theorem sameB_refl (p : Piece) : Mark.sameB p p = true := by
  unfold Mark.sameB
  rw [eqL_refl, eqL_refl, eqBy_refl _ eqL_refl]
  simp
theorem lng_lt {l : List ByteArray} {n : Nat} (hn : 1 ≤ n) (h : ∀ s ∈ l, Size.runN s < n) : Mark.lng l < n := by
  have : ∀ (xs : List ByteArray) (m : Nat), m < n → (∀ s ∈ xs, Size.runN s < n) → xs.foldl (fun m s => max m (Size.runN s)) m < n := by
    intro xs
    induction xs with
    | nil => intro m hm _; exact hm
    | cons x xs ih => intro m hm hx; exact ih _ (Nat.max_lt.2 ⟨hm, hx x (by simp)⟩) (fun s hs => hx s (by simp [hs]))
  exact this l 0 (by omega) h
theorem any_false {α : Type} {l : List α} {p : α → Bool} (h : ∀ x ∈ l, p x = false) : l.any p = false := List.any_eq_false.2 (fun x hx => by rw [h x hx]; decide)

/-- Pieces that are as they must be are printed. -/
theorem wrong_none {n : Nat} {t : Int} {l : List Piece} (ht : t = 1 ∨ t = 2) (hn : 1 ≤ n) (hn2 : n ≤ 4096) (hnorm : Mark.norm l = l) (hall : ∀ p ∈ l, (p.f0 = true → 1 ≤ p.f3.length ∧ p.f3.length ≤ 16) ∧ ∀ t ∈ Mark.textsL p, Mark.mayL t = true ∧ ∀ s ∈ t, Sz n s)
    (hop : ∀ (i : Nat) p, i + 1 < l.length → l[i]? = some p → Mark.openL p.f1 = false) : Mark.wrongN l l t (n : Int) = 0 := by
  have hcr : l.any Mark.crowd = false := any_false (fun p hp => by
    unfold Mark.crowd
    cases hf : p.f0 with
    | false => rfl
    | true =>
      have := (hall p hp).1 hf
      rw [Bool.true_and, decide_eq_false (by omega), decide_eq_false (by omega), Bool.or_false])
  have hodd : Mark.oddB l = false := by
    unfold Mark.oddB
    rw [hnorm, eqBy_refl _ sameB_refl, Bool.not_true, Bool.false_or]
    unfold Mark.badTo
    refine any_false (fun i hi => ?_)
    have hlt := List.mem_range.1 hi
    have hx : l[i]? = some l[i] := List.getElem?_eq_getElem hlt
    rw [List.getD_eq_getElem?_getD, hx]
    show Mark.badAt l.length i l[i] = false
    unfold Mark.badAt
    rw [any_false (fun t ht => by rw [((hall _ (List.getElem_mem hlt)).2 t ht).1]; rfl), Bool.false_or]
    by_cases h2 : i + 1 < l.length
    · rw [hop i _ h2 hx, Bool.and_false]
    · rw [decide_eq_false h2, Bool.false_and]
  have hfit : Mark.fitsB (n : Int) (Mark.lists l) = true := by
    unfold Mark.fitsB
    have := lng_lt (l := (Mark.lists l).flatten) hn (fun s hs => by
      rw [List.mem_flatten] at hs
      obtain ⟨tt, htt, hst⟩ := hs
      rw [Mark.lists, List.mem_flatMap] at htt
      obtain ⟨p, hp, htp⟩ := htt
      exact (((hall p hp).2 tt htp).2 s hst).2)
    simp
    omega
  unfold Mark.wrongN
  rw [if_neg (by rw [hcr]; simp; omega), hodd, if_neg (by decide), hfit, if_pos rfl]

theorem len_tot {l : List Piece} (h : ∀ p ∈ l, 1 ≤ Mark.szP p) : l.length ≤ Mark.tot l := by
  induction l with
  | nil => simp [Mark.tot]
  | cons p l ih =>
    have h1 := ih (fun q hq => h q (by simp [hq]))
    have h2 := h p (by simp)
    simp only [Mark.tot, List.map_cons, List.sum_cons, List.length_cons] at h1 ⊢
    omega

/-- What is read of any texts is printed, in its style, just as it was. -/
theorem parse_back (l : List ByteArray) (n : Nat) (hn : 1 ≤ n) (hn2 : n ≤ 4096) (hs : ∀ s ∈ l, s.size ≤ 100) (he : (parseP l (n : Int)).2.2.2 = 0) :
    Mark.printL (parseP l (n : Int)).1 (parseP l (n : Int)).2.1 (n : Int) = (l, 0) ∧ (parseP l (n : Int)).2.2.1 = 0 ∧ (parseP l (n : Int)).1.length ≤ l.length ∧ Mark.tot (parseP l (n : Int)).1 ≤ l.length ∧ Mark.FineP (parseP l (n : Int)).1 := by
  have hk : ¬ ((n : Int) < 1 ∨ (n : Int) > 4096) := by omega
  cases hg : goP l.length l 0 (Unmark.start (n : Int).toNat) with
  | error i => rw [parse_error hk hg] at he; exact absurd (show (2 : Int) = 0 from he) (by decide)
  | ok σ =>
    cases hc : σ.conf with
    | true => rw [parse_open hk hg hc] at he; exact absurd (show (2 : Int) = 0 from he) (by decide)
    | false =>
      rw [parse_ok hk hg hc]
      rw [Int.toNat_natCast] at hg
      obtain ⟨hi, hb⟩ := go_back l.length n hn l 0 (Unmark.start n) σ hs (by omega) (inv_start _ n) hg
      obtain ⟨-, -, hsd, hba⟩ := hi.idle hc
      obtain ⟨t, htv, ht, hts⟩ : ∃ t : Int, max σ.style 1 = t ∧ (t = 1 ∨ t = 2) ∧ (σ.style = 0 ∨ σ.style = t) := ⟨_, rfl, by rcases hi.style with h | h | h <;> omega, by rcases hi.style with h | h | h <;> omega⟩
      rw [htv]
      have hback := (hb t ht hts).2
      rw [back_start, List.nil_append] at hback
      unfold back at hback
      rw [if_neg (by rw [hc]; decide)] at hback
      have hsz := hi.size
      -- the last text
      obtain ⟨P, hP⟩ : ∃ P, (flush σ).out = P := ⟨_, rfl⟩
      have main : (∀ p ∈ P, (p.f0 = true → 1 ≤ p.f3.length ∧ p.f3.length ≤ 16) ∧ (∀ t ∈ Mark.textsL p, Mark.mayL t = true ∧ ∀ s ∈ t, Sz n s) ∧ 1 ≤ Mark.szP p) ∧ Mark.norm P = P ∧ Mark.tot P ≤ l.length ∧ (∀ (i : Nat) p, i + 1 < P.length → P[i]? = some p → Mark.openL p.f1 = false) ∧ Mark.pageTo t n P = l := by
        have hfo : ∀ p ∈ σ.out, (p.f0 = true → 1 ≤ p.f3.length ∧ p.f3.length ≤ 16) ∧ (∀ t ∈ Mark.textsL p, Mark.mayL t = true ∧ ∀ s ∈ t, Sz n s) ∧ 1 ≤ Mark.szP p := fun p hp => by
          have hf := hi.fine p hp
          refine ⟨fun h => (hf.conf h).2, hf.all, ?_⟩
          cases hq : p.f0 with
          | true => have := hf.conf hq; simp only [Mark.szP]; omega
          | false => have := hf.text hq; simp only [Mark.szP]; omega
        have hoo : ∀ (i : Nat) p, σ.out[i]? = some p → Mark.openL p.f1 = false := fun i p hp => by
          have hf := hi.fine p (List.mem_of_getElem? hp)
          cases hq : p.f0 with
          | true => rw [(hf.conf hq).1]; rfl
          | false => exact (hf.text hq).2.2.2
        unfold flush at hP
        by_cases hl : 0 < σ.text.length
        · rw [if_pos hl] at hP
          replace hP : σ.out ++ [⟨false, σ.text, [], []⟩] = P := hP
          rw [← hP]
          have hmay : Mark.mayL σ.text = true ∧ ∀ s ∈ σ.text, Sz n s := by
            rcases hi.lines with h | h
            · exact ⟨mayL_ended (fun s hs => (h s hs).1), fun s hs => (h s hs).2⟩
            · exact ⟨h.2.2, h.2.1⟩
          refine ⟨fun p hp => ?_, ?_, ?_, fun i p hlt hp => ?_, ?_⟩
          · rcases List.mem_append.1 hp with hp | hp
            · exact hfo p hp
            · rw [List.mem_singleton] at hp
              subst hp
              refine ⟨fun e => (by cases e), fun t htm => ?_, by simp only [Mark.szP]; omega⟩
              simp only [Mark.textsL, List.append_nil, List.mem_cons, List.not_mem_nil, or_false] at htm
              rcases htm with rfl | rfl
              · exact hmay
              · exact ⟨mayL_nil, fun s h => by cases h⟩
          · rw [norm_snoc _ _ hi.norm, Mark.putR, if_neg (by simp), if_neg (by show ¬ σ.text.length = 0; omega)]
            cases hgl : σ.out.getLast? with
            | none => rfl
            | some y => simp only [hi.lastc hc y hgl, if_true]
          · rw [Mark.tot_append, show Mark.tot [(⟨false, σ.text, [], []⟩ : Piece)] = σ.text.length by simp [Mark.tot, Mark.szP]]
            omega
          · simp only [List.length_append, List.length_singleton] at hlt
            rw [List.getElem?_append_left (by omega)] at hp
            exact hoo i p hp
          · rw [pageTo_snoc, Mark.pageOne, if_neg (by simp)]
            exact hback
        · rw [if_neg hl] at hP
          replace hP : σ.out = P := hP
          rw [← hP]
          have h0 : σ.text = [] := List.length_eq_zero_iff.1 (by omega)
          rw [h0, List.append_nil] at hback
          exact ⟨hfo, hi.norm, by omega, fun i p _ hp => hoo i p hp, hback⟩
      obtain ⟨m1, m2, m3, m4, m5⟩ := main
      show Mark.printL (flush σ).out t (n : Int) = (l, 0) ∧ (0 : Int) = 0 ∧ (flush σ).out.length ≤ l.length ∧ Mark.tot (flush σ).out ≤ l.length ∧ Mark.FineP (flush σ).out
      rw [hP]
      have hw := wrong_none ht hn hn2 m2 (fun p hp => ⟨(m1 p hp).1, (m1 p hp).2.1⟩) m4
      have hsm : Mark.smallOf P t = P := by rw [Mark.smallOf, if_neg (by rcases ht with h | h <;> omega)]
      refine ⟨?_, rfl, Nat.le_trans (len_tot (fun p hp => (m1 p hp).2.2)) m3, m3, fun p hp tt htt s hss => ?_⟩
      · rw [Mark.printL, hsm, if_pos hw, Int.toNat_natCast, m5]
      · have := (((m1 p hp).2.1 tt htt).2 s hss).1
        omega

#print axioms parse_back
end Go.Proofs.YtcnjbmdnnhbfkaaDoor.Back
