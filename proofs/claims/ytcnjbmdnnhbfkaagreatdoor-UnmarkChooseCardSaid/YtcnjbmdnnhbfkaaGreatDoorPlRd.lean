import Derived.Test.YtcnjbmdnnhbfkaaGreatDoorPlLin
import Derived.Test.YtcnjbmdnnhbfkaaGreatDoorReader
/- The reader over what was printed: a conflict. -/
namespace Go.Proofs.YtcnjbmdnnhbfkaaGreatDoor.Plain
open Go.RowKit Go.Proofs.YtcnjbmdnnhbfkaaGreatDoor.XD Go.Proofs.YtcnjbmdnnhbfkaaGreatDoor.Size Go.Proofs.YtcnjbmdnnhbfkaaGreatDoor.Mark Go.Proofs.YtcnjbmdnnhbfkaaGreatDoorW.PrintWords
theorem endL_feed {s : ByteArray} (h : EndL s) : Unmark.oneMay s = true ∧ Unmark.oneOpen s = false := by
 obtain ⟨a, e, hn⟩ := h
 have hi : Lib.indexByte s.data.toList 10 = a.length := by rw [e]; exact indexByte_mid a [] hn
 have hz : s.size = a.length + 1 := by rw [← size_list, e]; simp
 refine ⟨?_, ?_⟩
 ·unfold Unmark.oneMay
  rw [hi, if_neg (by omega), decide_eq_true_eq]
  omega
 ·have := openS_eq s
  rw [show Unmark.oneOpen s = openS s from rfl, this, e]
  simp
theorem line_end {N i : Nat} {σ : Unmark.Rd} {s : ByteArray} (h : EndL s) : Unmark.lineOk N i σ s = true := by
 obtain ⟨h1, h2⟩ := endL_feed h
 rw [Unmark.lineOk, h1, h2]; rfl
theorem trim_nl (s : ByteArray) : Unmark.trimB (s ++ nl) = s := by
 refine ByteArray.ext (Array.ext' ?_)
 show Lib.trimSuffix (s ++ nl).data.toList [10] = _
 rw [nl_list]
 unfold Lib.trimSuffix
 simp [Lib.hasSuffix]
theorem unended {l : List ByteArray} (h : mayL l = true) : Unmark.ended (Mark.ended l) (openL l) = some l := by
 unfold Unmark.ended Mark.ended
 cases ho : openL l with
 | false => rfl
 | true =>
  have ho2 := ho
  rw [openL, Bool.and_eq_true, decide_eq_true_eq] at ho2
  have hx : l[l.length - 1]? = some (lastS l) := by
   rw [lastS, List.getD_eq_getElem?_getD, List.getElem?_eq_getElem (show l.length - 1 < l.length by omega)]; rfl
  have hm := mayL_get h hx
  rw [decide_eq_true (by omega)] at hm
  have hsz : 0 < (lastS l).size := by
   rcases open_last hm with ⟨-, h1⟩ | ⟨h1, -⟩
   ·unfold mayAt at hm
    rw [show ix (lastS l) = -1 from indexByte_none _ h1, if_pos (by decide), Bool.and_true, decide_eq_true_eq] at hm
    exact hm
   ·rw [ho2.2] at h1; cases h1
  have hlast : Unmark.lastOf (l.set (l.length - 1) (lastS l ++ nl)) = lastS l ++ nl := by
   rw [Unmark.lastOf, rdOf, Int.toNat_natCast, List.length_set, List.getD_eq_getElem?_getD, List.getElem?_set_self (by omega)]; rfl
  have h1 : nl.size = 1 := rfl
  rw [if_neg (by decide), if_pos rfl, if_neg (by rw [List.length_set]; omega), hlast, if_neg (by rw [ByteArray.size_append]; omega), trim_nl, List.length_set, List.set_set]
  congr 1
  obtain ⟨hlt, e⟩ := List.getElem?_eq_some_iff.1 hx
  rw [← e]
  exact List.set_getElem_self hlt
theorem mark_eqs (s : ByteArray) : Unmark.eqS s s = true := by rw [Unmark.eqS, beq_self_eq_true]
theorem eqs_eq {a b : ByteArray} (h : Unmark.eqS a b = true) : a = b := Law.bytes_inj.1 (beq_iff_eq.1 h)
theorem mkM_is (c : UInt8) (n : Nat) (op : Bool) (lb : ByteArray) : Unmark.mkM ⟨#[c]⟩ n (if op = true then Unmark.bang else ⟨#[]⟩) lb = markS c n op lb := by
 refine ByteArray.ext (Array.ext' ?_)
 rw [markS_list]
 have hr : (Unmark.repB ⟨#[c]⟩ n).data.toList = List.replicate n c := by
  show Lib.repeatL [c] n = _
  induction n with
  | zero => rfl
  | succ n ih => rw [Lib.repeatL, ih]; rfl
 unfold Unmark.mkM
 rw [ByteArray.data_append, Array.toList_append, ByteArray.data_append, Array.toList_append, ByteArray.data_append, Array.toList_append, hr]
 cases op <;> rfl
theorem mkM_plain (c : UInt8) (n : Nat) (lb : ByteArray) : Unmark.mkM ⟨#[c]⟩ n ⟨#[]⟩ lb = markS c n false lb := mkM_is c n false lb
theorem mkM_bang (c : UInt8) (n : Nat) (lb : ByteArray) : Unmark.mkM ⟨#[c]⟩ n Unmark.bang lb = markS c n true lb := mkM_is c n true lb
theorem mark_op (σ : Unmark.Rd) (c : UInt8) (op : Bool) (lb : ByteArray) : Unmark.isOk σ (markS c σ.long op lb) c lb = true ∧ Unmark.isOp σ (markS c σ.long op lb) c lb = op := by
 unfold Unmark.isOk Unmark.isOp
 rw [mkM_plain, mkM_bang]
 cases op with
 | true => rw [mark_eqs, Bool.or_true]; exact ⟨rfl, rfl⟩
 | false =>
  rw [mark_eqs, Bool.true_or]
  refine ⟨rfl, ?_⟩
  rw [Bool.eq_false_iff]
  intro e
  have h := congrArg (fun s : ByteArray => s.data.toList.length) (eqs_eq e)
  simp only [markS_list, List.length_append] at h
  simp at h
theorem mark_not (σ : Unmark.Rd) {c d : UInt8} (hcd : c ≠ d) (hn : 1 ≤ σ.long) (op : Bool) (lb lb' : ByteArray) : Unmark.isOk σ (markS c σ.long op lb) d lb' = false ∧ Unmark.isOp σ (markS c σ.long op lb) d lb' = false := by
 have key : ∀ op', Unmark.eqS (markS c σ.long op lb) (markS d σ.long op' lb') = false := fun op' => by
  rw [Bool.eq_false_iff]
  intro e
  have h := congrArg (fun s : ByteArray => s.data.toList.head?) (eqs_eq e)
  simp only [markS_list] at h
  obtain ⟨m, hm⟩ : ∃ m, σ.long = m + 1 := ⟨σ.long - 1, by omega⟩
  rw [hm] at h
  simp only [List.replicate_succ, List.cons_append, List.head?_cons, Option.some.injEq] at h
  exact hcd h
 unfold Unmark.isOk Unmark.isOp
 rw [mkM_plain, mkM_bang, key, key]
 exact ⟨rfl, rfl⟩
theorem label_num (i : Nat) : Unmark.numL i = label i := rfl
theorem first_line (n : Nat) : markS 60 n false (label 1) = Unmark.repB ⟨#[60]⟩ n ++ ⟨#[32, 49, 10]⟩ := by
 rw [← mkM_plain]
 refine ByteArray.ext (Array.ext' ?_)
 unfold Unmark.mkM
 rw [ByteArray.data_append, Array.toList_append, ByteArray.data_append, Array.toList_append, ByteArray.data_append, Array.toList_append, ByteArray.data_append, Array.toList_append, List.append_assoc, List.append_assoc]
 congr 1
 decide +kernel
/-! ### lines of a text, of a part -/
theorem go_text (N : Nat) : ∀ (l : List ByteArray) (i : Nat) (σ : Unmark.Rd), σ.inn = false → (∀ s ∈ l, EndL s ∧ Size.runN s < σ.long) → Unmark.goP N l i σ = .ok { σ with text := σ.text ++ l }
 | [], i, σ, _, _ => by simp [Unmark.goP]
 | s :: l, i, σ, hi, h => by
  obtain ⟨h1, h2⟩ := h s (by simp)
  have hm : Unmark.markOf σ s = false := by rw [Unmark.markOf, decide_eq_false_iff_not]; omega
  have hf : Unmark.feed1 N i σ s = some { σ with text := σ.text ++ [s] } := by
   rw [Unmark.feed1, if_pos (line_end h1), if_neg (by rw [hi]; decide), hm, Unmark.outside, if_pos rfl]
  rw [Unmark.goP, hf]
  have := go_text N l (i + 1) { σ with text := σ.text ++ [s] } hi (fun t ht => h t (by simp [ht]))
  simp only [this, List.append_assoc, List.singleton_append]
theorem go_part (N : Nat) : ∀ (l : List ByteArray) (i : Nat) (σ : Unmark.Rd), σ.inn = true → (∀ s ∈ l, EndL s ∧ Size.runN s < σ.long) → Unmark.goP N l i σ = .ok { σ with part := σ.part ++ l }
 | [], i, σ, _, _ => by simp [Unmark.goP]
 | s :: l, i, σ, hi, h => by
  obtain ⟨h1, h2⟩ := h s (by simp)
  have hm : Unmark.markOf σ s = false := by rw [Unmark.markOf, decide_eq_false_iff_not]; omega
  have hf : Unmark.feed1 N i σ s = some { σ with part := σ.part ++ [s] } := by
   rw [Unmark.feed1, if_pos (line_end h1), if_pos hi, hm, Unmark.insideP, if_pos rfl]
  rw [Unmark.goP, hf]
  have := go_part N l (i + 1) { σ with part := σ.part ++ [s] } hi (fun t ht => h t (by simp [ht]))
  simp only [this, List.append_assoc, List.singleton_append]
theorem go_mark (N : Nat) {s : ByteArray} {l : List ByteArray} {i : Nat} {σ τ : Unmark.Rd} (hi : σ.inn = true) (hE : EndL s) (hr : σ.long ≤ Size.runN s) (hf : Unmark.insideP σ s true = some τ) (hit : τ.inn = true) (hl : ∀ s ∈ l, EndL s ∧ Size.runN s < τ.long) :
  Unmark.goP N ([s] ++ l) i σ = .ok { τ with part := τ.part ++ l } := by
 have hm : Unmark.markOf σ s = true := by rw [Unmark.markOf, decide_eq_true_eq]; omega
 have hff : Unmark.feed1 N i σ s = some τ := by rw [Unmark.feed1, if_pos (line_end hE), if_pos hi, hm, hf]
 rw [List.singleton_append, Unmark.goP, hff]
 exact go_part N l (i + 1) τ hit hl
#print axioms unended
#print axioms mark_not
#print axioms go_mark
end Go.Proofs.YtcnjbmdnnhbfkaaGreatDoor.Plain
/- The reader over a printed conflict. -/
namespace Go.Proofs.YtcnjbmdnnhbfkaaGreatDoor.Plain
open Go.RowKit Go.Proofs.YtcnjbmdnnhbfkaaGreatDoor.XD Go.Proofs.YtcnjbmdnnhbfkaaGreatDoor.Size Go.Proofs.YtcnjbmdnnhbfkaaGreatDoor.Mark Go.Proofs.YtcnjbmdnnhbfkaaGreatDoorW.PrintWords
def outR (L : Nat) (O : List Mark.Piece) (T : List ByteArray) (S : Int) : Unmark.Rd := ⟨L, O, T, false, [], [], [], false, S, false⟩
def inR (L : Nat) (O : List Mark.Piece) (base : List ByteArray) (sides : List (List ByteArray)) (part : List ByteArray) (inb : Bool) (S : Int) : Unmark.Rd := ⟨L, O, [], true, base, sides, part, inb, S, true⟩
def flushO (O : List Mark.Piece) (T : List ByteArray) : List Mark.Piece := if 0 < T.length then O ++ [⟨false, T, [], []⟩] else O
theorem flush_out (L : Nat) (O : List Mark.Piece) (T : List ByteArray) (S : Int) : Unmark.flush (outR L O T S) = outR L (flushO O T) [] S := by
 unfold Unmark.flush flushO outR
 split <;> rfl
theorem go_first (N i L : Nat) (O : List Mark.Piece) (T : List ByteArray) (S : Int) (hL : 1 ≤ L) : Unmark.goP N [markS 60 L false (label 1)] i (outR L O T S) = .ok (inR L (flushO O T) [] [] [] false S) := by
 have hE : EndL (markS 60 L false (label 1)) := mark_end L false (by decide) (label_ten 1 (by decide)).1
 have hr := mark_run false (label 1) hL (c := 60) (by decide)
 have hm : Unmark.markOf (outR L O T S) (markS 60 L false (label 1)) = true := by
  rw [Unmark.markOf, decide_eq_true_eq]
  show (L : Int) ≤ _
  omega
 have he : Unmark.eqS (markS 60 L false (label 1)) (Unmark.repB ⟨#[60]⟩ L ++ ⟨#[32, 49, 10]⟩) = true := by rw [first_line, mark_eqs]
 have hf : Unmark.feed1 N i (outR L O T S) (markS 60 L false (label 1)) = some (inR L (flushO O T) [] [] [] false S) := by
  rw [Unmark.feed1, if_pos (line_end hE), show (outR L O T S).inn = false from rfl, if_neg (by decide), hm, Unmark.outside, if_neg (by decide)]
  rw [show (outR L O T S).long = L from rfl, he, if_neg (by decide), flush_out]
  rfl
 rw [Unmark.goP, hf]
 rfl
section
variable {L : Nat} {O : List Mark.Piece} {base : List ByteArray} {sides : List (List ByteArray)} {X : List ByteArray} {inb : Bool} {S : Int}
theorem end_in (hX : mayL X = true) : Unmark.endP (inR L O base sides (Mark.ended X) inb S) (openL X) = some (if inb = true then inR L O X sides [] false S else inR L O base (sides ++ [X]) [] false S) := by
 unfold Unmark.endP
 rw [show (inR L O base sides (Mark.ended X) inb S).part = Mark.ended X from rfl, unended hX, Option.map_some]
 cases inb <;> rfl
theorem in_base (hX : mayL X = true) (hS : S ≠ 1) : Unmark.insideP (inR L O [] [] (Mark.ended X) false S) (markS 124 L (openL X) baseB) true = some (inR L O [] [X] [] true 2) := by
 obtain ⟨h1, h2⟩ := mark_op (inR L O [] [] (Mark.ended X) false S) 124 (openL X) baseB
 rw [show (inR L O [] [] (Mark.ended X) false S).long = L from rfl] at h1 h2
 rw [Unmark.insideP, if_neg (by decide), show Unmark.baseL = baseB from rfl, if_pos h1, h2, Unmark.beginP, if_neg (by show ¬ 0 < 0; omega), if_neg (by show ¬ S = 1; exact hS), end_in hX]
 rfl
def numSides (sides : List (List ByteArray)) (inb : Bool) : Nat := sides.length + (if inb then 0 else 1)
theorem in_side (hL : 1 ≤ L) (hX : mayL X = true) (h16 : numSides sides inb < 16) (hS : sides.length = 0 → S ≠ 2) :
  Unmark.insideP (inR L O base sides (Mark.ended X) inb S) (markS 61 L (openL X) (label (numSides sides inb + 1))) true =
   some (if inb = true then inR L O X sides [] false (if sides.length = 0 then 1 else S) else inR L O base (sides ++ [X]) [] false (if sides.length = 0 then 1 else S)) := by
 obtain ⟨h1, h2⟩ := mark_op (inR L O base sides (Mark.ended X) inb S) 61 (openL X) (label (numSides sides inb + 1))
 have h3 := mark_not (inR L O base sides (Mark.ended X) inb S) (c := 61) (d := 124) (by decide) hL (openL X) (label (numSides sides inb + 1)) baseB
 have h4 := mark_not (inR L O base sides (Mark.ended X) inb S) (c := 61) (d := 62) (by decide) hL (openL X) (label (numSides sides inb + 1)) ⟨#[]⟩
 have hsn : Unmark.sidesN (inR L O base sides (Mark.ended X) inb S) = numSides sides inb := rfl
 rw [show (inR L O base sides (Mark.ended X) inb S).long = L from rfl] at h1 h2 h3 h4
 rw [Unmark.insideP, if_neg (by decide), show Unmark.baseL = baseB from rfl, h3.1, if_neg (by decide), hsn, label_num, h1, h2, h4.1, h4.2, Bool.or_false]
 have hb : Unmark.bars (inR L O base sides (Mark.ended X) inb S) true false = false := by
  rw [Unmark.bars, hsn, decide_eq_false (by omega)]
  show (false || false || (decide (sides.length = 0) && decide (S = 2))) = false
  by_cases h0 : sides.length = 0
  ·rw [decide_eq_false (hS h0)]; simp
  ·rw [decide_eq_false h0]; rfl
 rw [hb, if_neg (by decide), end_in hX, Option.map_some]
 show some (Unmark.after (decide (sides.length = 0)) false _) = _
 by_cases h0 : sides.length = 0
 ·rw [decide_eq_true h0, if_pos h0]
  cases inb <;> rfl
 ·rw [decide_eq_false h0, if_neg h0]
  cases inb <;> rfl
theorem in_end (hL : 1 ≤ L) (hX : mayL X = true) (hS : sides.length = 0 → S ≠ 2) :
  Unmark.insideP (inR L O base sides (Mark.ended X) inb S) (markS 62 L (openL X) ⟨#[]⟩) true =
   some (outR L (O ++ [if inb = true then ⟨true, [], X, sides⟩ else ⟨true, [], base, sides ++ [X]⟩]) [] (if sides.length = 0 then 1 else S)) := by
 obtain ⟨h1, h2⟩ := mark_op (inR L O base sides (Mark.ended X) inb S) 62 (openL X) ⟨#[]⟩
 have h3 := mark_not (inR L O base sides (Mark.ended X) inb S) (c := 62) (d := 124) (by decide) hL (openL X) ⟨#[]⟩ baseB
 have h4 := fun lb => mark_not (inR L O base sides (Mark.ended X) inb S) (c := 62) (d := 61) (by decide) hL (openL X) ⟨#[]⟩ lb
 rw [show (inR L O base sides (Mark.ended X) inb S).long = L from rfl] at h1 h2 h3 h4
 rw [Unmark.insideP, if_neg (by decide), show Unmark.baseL = baseB from rfl, h3.1, if_neg (by decide), (h4 _).1, (h4 _).2, h1, h2, Bool.false_or]
 have hb : Unmark.bars (inR L O base sides (Mark.ended X) inb S) false true = false := by
  rw [Unmark.bars]
  show (false || false || (decide (sides.length = 0) && decide (S = 2))) = false
  by_cases h0 : sides.length = 0
  ·rw [decide_eq_false (hS h0)]; simp
  ·rw [decide_eq_false h0]; rfl
 rw [hb, if_neg (by decide), end_in hX, Option.map_some]
 show some (Unmark.after (decide (sides.length = 0)) true _) = _
 by_cases h0 : sides.length = 0
 ·rw [decide_eq_true h0, if_pos h0]
  cases inb <;> rfl
 ·rw [decide_eq_false h0, if_neg h0]
  cases inb <;> rfl
end
#print axioms in_base
#print axioms in_side
#print axioms in_end
end Go.Proofs.YtcnjbmdnnhbfkaaGreatDoor.Plain
/- The reader over a printed conflict, whole. -/
namespace Go.Proofs.YtcnjbmdnnhbfkaaGreatDoor.Plain
open Go.RowKit Go.Proofs.YtcnjbmdnnhbfkaaGreatDoor.XD Go.Proofs.YtcnjbmdnnhbfkaaGreatDoor.Size Go.Proofs.YtcnjbmdnnhbfkaaGreatDoor.Mark Go.Proofs.YtcnjbmdnnhbfkaaGreatDoorW.PrintWords
def lastX (p : Mark.Piece) (st : Int) (k : Nat) : List ByteArray := if st ≠ 1 ∧ k = 1 then p.f2 else p.f3.getD (k - 1) []
def styleK (st S : Int) (k : Nat) : Int := if st ≠ 1 then 2 else if 2 ≤ k then 1 else S
def baseK (p : Mark.Piece) (st : Int) (k : Nat) : List ByteArray := if st ≠ 1 ∧ 2 ≤ k then p.f2 else []
def sidesK (p : Mark.Piece) (st : Int) (k : Nat) : List (List ByteArray) := if st ≠ 1 ∧ k = 1 then p.f3.take 1 else p.f3.take (k - 1)
def readR (p : Mark.Piece) (st : Int) (L : Nat) (O : List Mark.Piece) (S : Int) (k : Nat) : Unmark.Rd := inR L O (baseK p st k) (sidesK p st k) (Mark.ended (lastX p st k)) (decide (st ≠ 1 ∧ k = 1)) (styleK st S k)
theorem run_nat {L : Nat} {X : List ByteArray} (h : ∀ s ∈ X, (Size.runN s : Int) < (L : Int)) : ∀ s ∈ Mark.ended X, Size.runN s < L := fun s hs => by have := ended_run h s hs; omega
theorem go_more {N i : Nat} {a b : List ByteArray} {σ τ ρ : Unmark.Rd} (h1 : Unmark.goP N a i σ = .ok τ) (h2 : ∀ j, Unmark.goP N b j τ = .ok ρ) : Unmark.goP N (a ++ b) i σ = .ok ρ := by
 rw [Unmark.goP_append, h1]
 exact h2 _
section
variable {L : Nat} {p : Mark.Piece} (hL : 1 ≤ L) (hT : Tx (L : Int) p)
include hT
theorem lines_of {X : List ByteArray} (hX : X ∈ textsL p) : ∀ s ∈ Mark.ended X, EndL s ∧ Size.runN s < L := fun s hs => ⟨ended_all (hT.may X hX) s hs, run_nat (hT.run X hX) s hs⟩
theorem go_lines (N : Nat) {X : List ByteArray} (hX : X ∈ textsL p) (O : List Mark.Piece) (base : List ByteArray) (sides : List (List ByteArray)) (inb : Bool) (S : Int) (j : Nat) : Unmark.goP N (Mark.ended X) j (inR L O base sides [] inb S) = .ok (inR L O base sides (Mark.ended X) inb S) :=
 go_part N _ j _ rfl (lines_of hT hX)
include hL
theorem sides_go (N i : Nat) (st : Int) (O : List Mark.Piece) (T : List ByteArray) (S : Int) (h1 : 0 < p.f3.length) (h16 : p.f3.length ≤ 16) (hS1 : st = 1 → S ≠ 2) (hS2 : st ≠ 1 → S ≠ 1) : ∀ k, 1 ≤ k → k ≤ p.f3.length →
  (sidesTo p st L [] k).1 = openL (lastX p st k) ∧ Unmark.goP N (sidesTo p st L [] k).2 i (outR L O T S) = .ok (readR p st L (flushO O T) S k) := by
 have hget : ∀ k, k < p.f3.length → p.f3.getD k [] ∈ textsL p := fun k hk => by
  rw [List.getD_eq_getElem?_getD, List.getElem?_eq_getElem hk]
  simp only [textsL, List.mem_append]
  exact .inr (List.getElem_mem hk)
 have hb : p.f2 ∈ textsL p := by simp [textsL]
 intro k
 induction k with
 | zero => intro h; omega
 | succ k ih =>
  intro _ hk
  rcases Nat.eq_zero_or_pos k with rfl | hk0
  ·-- the first side
   have g1 := go_first N i L O T S hL
   have g2 := go_more g1 (fun j => go_lines hT N (hget 0 h1) (flushO O T) [] [] false S j)
   have e0 : sidesTo p st L [] (0 + 1) = oneSide p st L (false, []) 0 := rfl
   have eA : sideA L (false, []) 0 (p.f3.getD 0 []) = (openL (p.f3.getD 0 []), [markS 60 L false (label 1)] ++ Mark.ended (p.f3.getD 0 [])) := by rw [sideA, if_pos rfl]; rfl
   rw [e0, oneSide]
   by_cases hs : st = 1
   ·rw [if_neg (fun h => h.2 hs), eA]
    have eX : lastX p st (0 + 1) = p.f3.getD 0 [] := by rw [lastX, if_neg (fun h => h.1 hs)]
    have eR : readR p st L (flushO O T) S (0 + 1) = inR L (flushO O T) [] [] (Mark.ended (p.f3.getD 0 [])) false S := by
     rw [readR, eX, baseK, sidesK, styleK, if_neg (fun h => h.1 hs), if_neg (fun h => h.1 hs), if_neg (fun h => h hs), if_neg (by omega), decide_eq_false (fun h => h.1 hs)]
     rfl
    rw [eX, eR]
    exact ⟨rfl, g2⟩
   ·rw [if_pos ⟨rfl, hs⟩, eA, baseA]
    have hd : p.f3.take 1 = [p.f3.getD 0 []] := by
     cases hl : p.f3 with
     | nil => rw [hl] at h1; simp at h1
     | cons a l => rfl
    have eX : lastX p st (0 + 1) = p.f2 := by rw [lastX, if_pos ⟨hs, rfl⟩]
    have eR : readR p st L (flushO O T) S (0 + 1) = inR L (flushO O T) [] [p.f3.getD 0 []] (Mark.ended p.f2) true 2 := by
     rw [readR, eX, baseK, sidesK, styleK, if_neg (by omega), if_pos ⟨hs, rfl⟩, if_pos hs, decide_eq_true ⟨hs, rfl⟩, hd]
    have g3 := go_more g2 (fun j => go_mark N (s := markS 124 L (openL (p.f3.getD 0 [])) baseB) (l := Mark.ended p.f2) (i := j) rfl (mark_end L _ (by decide) (by decide +kernel)) (mark_run _ _ hL (by decide)) (in_base (hT.may _ (hget 0 h1)) (hS2 hs)) rfl (lines_of hT hb))
    rw [eX, eR]
    refine ⟨rfl, ?_⟩
    rw [← List.append_assoc] at g3
    exact g3
  ·-- a further side
   obtain ⟨ih1, ih2⟩ := ih hk0 (by omega)
   have hkm := hget k (by omega)
   have hXm : lastX p st k ∈ textsL p := by
    unfold lastX
    split
    ·exact hb
    ·exact hget (k - 1) (by omega)
   have hsl : (sidesK p st k).length = if st ≠ 1 ∧ k = 1 then 1 else k - 1 := by
    unfold sidesK
    split
    ·rw [List.length_take]; omega
    ·rw [List.length_take]; omega
   have hns : numSides (sidesK p st k) (decide (st ≠ 1 ∧ k = 1)) = k := by
    unfold numSides
    rw [hsl]
    by_cases h : st ≠ 1 ∧ k = 1
    ·rw [if_pos h, decide_eq_true h, if_pos rfl, h.2]
    ·rw [if_neg h, decide_eq_false h, if_neg (by decide)]; omega
   have hSK : (sidesK p st k).length = 0 → styleK st S k ≠ 2 := fun h0 => by
    rw [hsl] at h0
    by_cases h : st ≠ 1 ∧ k = 1
    ·rw [if_pos h] at h0; omega
    ·rw [if_neg h] at h0
     have hk1 : k = 1 := by omega
     have hs : st = 1 := Classical.byContradiction fun hs => h ⟨hs, hk1⟩
     rw [styleK, if_neg (fun h => h hs), if_neg (by omega)]
     exact hS1 hs
   have hin := in_side (L := L) (O := flushO O T) (base := baseK p st k) (sides := sidesK p st k) (X := lastX p st k) (inb := decide (st ≠ 1 ∧ k = 1)) (S := styleK st S k) hL (hT.may _ hXm) (by rw [hns]; omega) hSK
   rw [hns] at hin
   have eX : lastX p st (k + 1) = p.f3.getD k [] := by rw [lastX, if_neg (fun h => by omega)]; rfl
   have eS : (if (sidesK p st k).length = 0 then 1 else styleK st S k) = styleK st S (k + 1) := by
    by_cases hs : st = 1
    ·have a1 : (sidesK p st k).length = k - 1 := by rw [hsl, if_neg (fun h => h.1 hs)]
     have a2 : styleK st S (k + 1) = 1 := by rw [styleK, if_neg (fun h => h hs), if_pos (by omega)]
     rw [a1, a2]
     by_cases hk1 : k = 1
     ·rw [if_pos (by omega)]
     ·rw [if_neg (by omega), styleK, if_neg (fun h => h hs), if_pos (by omega)]
    ·have a2 : styleK st S (k + 1) = 2 := by rw [styleK, if_pos hs]
     have a3 : styleK st S k = 2 := by rw [styleK, if_pos hs]
     have a4 : (sidesK p st k).length ≠ 0 := by
      rw [hsl]
      by_cases hk1 : k = 1
      ·rw [if_pos ⟨hs, hk1⟩]; omega
      ·rw [if_neg (fun h => hk1 h.2)]; omega
     rw [if_neg a4, a2, a3]
   have eR : readR p st L (flushO O T) S (k + 1) = inR L (flushO O T) (if st ≠ 1 then p.f2 else []) (p.f3.take k) (Mark.ended (p.f3.getD k [])) false (styleK st S (k + 1)) := by
    have c1 : baseK p st (k + 1) = if st ≠ 1 then p.f2 else [] := by
     unfold baseK
     by_cases hs : st = 1
     ·rw [if_neg (fun h => h.1 hs), if_neg (fun h => h hs)]
     ·rw [if_pos ⟨hs, by omega⟩, if_pos hs]
    have c2 : sidesK p st (k + 1) = p.f3.take k := by rw [sidesK, if_neg (fun h => by omega)]; rfl
    rw [readR, eX, c1, c2, decide_eq_false (fun h => by omega)]
   have hin2 : Unmark.insideP (readR p st L (flushO O T) S k) (markS 61 L (openL (lastX p st k)) (label (k + 1))) true = some (inR L (flushO O T) (if st ≠ 1 then p.f2 else []) (p.f3.take k) [] false (styleK st S (k + 1))) := by
    rw [readR, hin, eS]
    by_cases h : st ≠ 1 ∧ k = 1
    ·rw [decide_eq_true h, if_pos rfl, if_pos h.1, lastX, if_pos h, sidesK, if_pos h, h.2]
    ·rw [decide_eq_false h, if_neg (by decide), lastX, if_neg h, sidesK, if_neg h]
     have e1 : p.f3.take (k - 1) ++ [p.f3.getD (k - 1) []] = p.f3.take k := by
      have := List.take_succ_eq_append_getElem (l := p.f3) (i := k - 1) (by omega)
      rw [show k - 1 + 1 = k by omega] at this
      rw [this, List.getD_eq_getElem?_getD, List.getElem?_eq_getElem (show k - 1 < p.f3.length by omega)]; rfl
     have e2 : baseK p st k = if st ≠ 1 then p.f2 else [] := by
      unfold baseK
      by_cases hs : st = 1
      ·rw [if_neg (fun h => h.1 hs), if_neg (fun h => h hs)]
      ·have hk1 : k ≠ 1 := fun e => h ⟨hs, e⟩
       rw [if_pos ⟨hs, by omega⟩, if_pos hs]
     rw [e1, e2]
   have g := go_more ih2 (fun j => go_mark N (s := markS 61 L (openL (lastX p st k)) (label (k + 1))) (l := Mark.ended (p.f3.getD k [])) (i := j) rfl (mark_end L _ (by decide) (label_ten (k + 1) (by omega)).1) (mark_run _ _ hL (by decide)) hin2 rfl (lines_of hT hkm))
   rw [sidesTo_succ, oneSide, if_neg (fun h => by omega), sideA, ih1, if_neg (by omega), eX, eR]
   refine ⟨rfl, ?_⟩
   rw [← List.append_assoc] at g
   exact g
theorem conflict_go (N i : Nat) (st : Int) (O : List Mark.Piece) (T : List ByteArray) (S : Int) (h1 : 0 < p.f3.length) (h16 : p.f3.length ≤ 16) (hS1 : st = 1 → S ≠ 2) (hS2 : st ≠ 1 → S ≠ 1) :
  Unmark.goP N (conflictL p st L []) i (outR L O T S) = .ok (outR L (flushO O T ++ [⟨true, [], if st ≠ 1 then p.f2 else [], p.f3⟩]) [] (if st ≠ 1 then 2 else 1)) := by
 obtain ⟨e1, g⟩ := sides_go hL hT N i st O T S h1 h16 hS1 hS2 p.f3.length (by omega) (Nat.le_refl _)
 rw [conflictL, e1]
 refine go_more g (fun j => ?_)
 have hXm : lastX p st p.f3.length ∈ textsL p := by
  unfold lastX
  split
  ·simp [textsL]
  ·rw [List.getD_eq_getElem?_getD, List.getElem?_eq_getElem (show p.f3.length - 1 < p.f3.length by omega)]
   simp only [textsL, List.mem_append]
   exact .inr (List.getElem_mem _)
 have hsl : (sidesK p st p.f3.length).length = if st ≠ 1 ∧ p.f3.length = 1 then 1 else p.f3.length - 1 := by
  unfold sidesK
  split
  ·rw [List.length_take]; omega
  ·rw [List.length_take]; omega
 have hSK : (sidesK p st p.f3.length).length = 0 → styleK st S p.f3.length ≠ 2 := fun h0 => by
  rw [hsl] at h0
  by_cases h : st ≠ 1 ∧ p.f3.length = 1
  ·rw [if_pos h] at h0; omega
  ·rw [if_neg h] at h0
   have hk1 : p.f3.length = 1 := by omega
   have hs : st = 1 := Classical.byContradiction fun hs => h ⟨hs, hk1⟩
   rw [styleK, if_neg (fun h => h hs), if_neg (by omega)]
   exact hS1 hs
 have hin := in_end (L := L) (O := flushO O T) (base := baseK p st p.f3.length) (sides := sidesK p st p.f3.length) (X := lastX p st p.f3.length) (inb := decide (st ≠ 1 ∧ p.f3.length = 1)) (S := styleK st S p.f3.length) hL (hT.may _ hXm) hSK
 have eS : (if (sidesK p st p.f3.length).length = 0 then 1 else styleK st S p.f3.length) = if st ≠ 1 then 2 else 1 := by
  by_cases hs : st = 1
  ·have a1 : (sidesK p st p.f3.length).length = p.f3.length - 1 := by rw [hsl, if_neg (fun h => h.1 hs)]
   rw [a1, if_neg (show ¬ st ≠ 1 from fun h => h hs)]
   by_cases hk1 : p.f3.length = 1
   ·rw [if_pos (by omega)]
   ·rw [if_neg (by omega), styleK, if_neg (fun h => h hs), if_pos (by omega)]
  ·have a3 : styleK st S p.f3.length = 2 := by rw [styleK, if_pos hs]
   have a4 : (sidesK p st p.f3.length).length ≠ 0 := by
    rw [hsl]
    by_cases hk1 : p.f3.length = 1
    ·rw [if_pos ⟨hs, hk1⟩]; omega
    ·rw [if_neg (fun h => hk1 h.2)]; omega
   rw [if_neg a4, a3, if_pos hs]
 have eP : (if decide (st ≠ 1 ∧ p.f3.length = 1) = true then (⟨true, [], lastX p st p.f3.length, sidesK p st p.f3.length⟩ : Mark.Piece) else ⟨true, [], baseK p st p.f3.length, sidesK p st p.f3.length ++ [lastX p st p.f3.length]⟩) = ⟨true, [], if st ≠ 1 then p.f2 else [], p.f3⟩ := by
  by_cases h : st ≠ 1 ∧ p.f3.length = 1
  ·rw [decide_eq_true h, if_pos rfl, if_pos h.1, lastX, if_pos h, sidesK, if_pos h, List.take_of_length_le (by omega)]
  ·rw [decide_eq_false h, if_neg (by decide), lastX, if_neg h, sidesK, if_neg h]
   have e1 : p.f3.take (p.f3.length - 1) ++ [p.f3.getD (p.f3.length - 1) []] = p.f3 := by
    have := List.take_succ_eq_append_getElem (l := p.f3) (i := p.f3.length - 1) (by omega)
    rw [show p.f3.length - 1 + 1 = p.f3.length by omega, List.take_length] at this
    conv => rhs; rw [this]
    rw [List.getD_eq_getElem?_getD, List.getElem?_eq_getElem (show p.f3.length - 1 < p.f3.length by omega)]; rfl
   have e2 : baseK p st p.f3.length = if st ≠ 1 then p.f2 else [] := by
    unfold baseK
    by_cases hs : st = 1
    ·rw [if_neg (fun h => h.1 hs), if_neg (fun h => h hs)]
    ·have hk1 : p.f3.length ≠ 1 := fun e => h ⟨hs, e⟩
     rw [if_pos ⟨hs, by omega⟩, if_pos hs]
   rw [e1, e2]
 rw [eS, eP] at hin
 have hE : EndL (markS 62 L (openL (lastX p st p.f3.length)) ⟨#[]⟩) := mark_end L _ (by decide) (by decide +kernel)
 have hr := mark_run (openL (lastX p st p.f3.length)) ⟨#[]⟩ hL (c := 62) (by decide)
 have hm : Unmark.markOf (readR p st L (flushO O T) S p.f3.length) (markS 62 L (openL (lastX p st p.f3.length)) ⟨#[]⟩) = true := by
  rw [Unmark.markOf, decide_eq_true_eq]
  show (L : Int) ≤ _
  omega
 have hf : Unmark.feed1 N j (readR p st L (flushO O T) S p.f3.length) (markS 62 L (openL (lastX p st p.f3.length)) ⟨#[]⟩) = some (outR L (flushO O T ++ [⟨true, [], if st ≠ 1 then p.f2 else [], p.f3⟩]) [] (if st ≠ 1 then 2 else 1)) := by
  rw [Unmark.feed1, if_pos (line_end hE), show (readR p st L (flushO O T) S p.f3.length).inn = true from rfl, if_pos rfl, hm]
  exact hin
 rw [Unmark.goP, hf]
 rfl
end
#print axioms conflict_go
end Go.Proofs.YtcnjbmdnnhbfkaaGreatDoor.Plain
/- What is printed is read as the pieces. -/
namespace Go.Proofs.YtcnjbmdnnhbfkaaGreatDoor.Plain
open Go.RowKit Go.Proofs.YtcnjbmdnnhbfkaaGreatDoor.XD Go.Proofs.YtcnjbmdnnhbfkaaGreatDoor.Size Go.Proofs.YtcnjbmdnnhbfkaaGreatDoor.Mark Go.Proofs.YtcnjbmdnnhbfkaaGreatDoorW.PrintWords
def chunk (st : Int) (n : Nat) (p : Mark.Piece) : List ByteArray := if p.f0 = true then conflictL p st n [] else p.f1
theorem sides_out (p : Mark.Piece) (st : Int) (n : Nat) (out : List ByteArray) (k : Nat) : sidesTo p st n out k = ((sidesTo p st n [] k).1, out ++ (sidesTo p st n [] k).2) := by
 induction k with
 | zero => simp [sidesTo]
 | succ k ih =>
  rw [sidesTo_succ, sidesTo_succ, ih]
  generalize sidesTo p st n [] k = q
  unfold oneSide
  split
  ·simp [baseA, sideA]
  ·simp [sideA]
theorem page_flat (st : Int) (n : Nat) (l : List Mark.Piece) : pageTo st n l = l.flatMap (chunk st n) := by
 have one : ∀ (out : List ByteArray) (p : Mark.Piece), pageOne st n out p = out ++ chunk st n p := fun out p => by
  unfold pageOne chunk
  split
  ·rw [conflictL, conflictL, sides_out p st n out]
   simp
  ·rfl
 have : ∀ (ys : List Mark.Piece) out, ys.foldl (pageOne st n) out = out ++ ys.flatMap (chunk st n) := by
  intro ys
  induction ys with
  | nil => intro out; simp
  | cons x xs ih => intro out; rw [List.foldl_cons, ih, one, List.flatMap_cons, List.append_assoc]
 simpa [pageTo] using this l []
def wantP (st : Int) (p : Mark.Piece) : Mark.Piece := if p.f0 = true then ⟨true, [], if st ≠ 1 then p.f2 else [], p.f3⟩ else p
def Adj : List Mark.Piece → Prop
 | [] => True
 | p :: l => (p.f0 = false → p = ⟨false, p.f1, [], []⟩ ∧ 0 < p.f1.length ∧ ∀ q, l.head? = some q → q.f0 = true) ∧ Adj l
theorem go_last (N : Nat) : ∀ (l : List ByteArray) (i : Nat) (σ : Unmark.Rd), σ.inn = false → σ.conf = false → (∀ s ∈ l, Size.runN s < σ.long) → i + l.length = N → (∀ (j : Nat) s, l[j]? = some s → mayAt s (decide (j + 1 = l.length)) = true) → Unmark.goP N l i σ = .ok { σ with text := σ.text ++ l }
 | [], i, σ, _, _, _, _, _ => by simp [Unmark.goP]
 | s :: l, i, σ, hi, hc, h, hN, hm => by
  have h2 := h s (by simp)
  have hmk : Unmark.markOf σ s = false := by rw [Unmark.markOf, decide_eq_false_iff_not]; omega
  have hl : Unmark.lineOk N i σ s = true := by
   have h0 := hm 0 s rfl
   by_cases hz : l.length = 0
   ·rw [decide_eq_true (by simp [hz])] at h0
    have hlast : decide ((i : Int) = (N : Int) - 1) = true := by rw [decide_eq_true_eq]; simp [hz] at hN; omega
    rcases open_last h0 with ⟨-, h10⟩ | ⟨-, hE⟩
    ·have hmay : Unmark.oneMay s = true := by
      have hix : ix s = -1 := indexByte_none _ h10
      unfold mayAt at h0
      rw [hix, if_pos (by decide), Bool.and_true] at h0
      unfold Unmark.oneMay
      rw [show Lib.indexByte s.data.toList 10 = -1 from hix, if_pos (by decide)]
      exact h0
     rw [Unmark.lineOk, hmay, hlast, hc]
     simp
    ·exact line_end hE
   ·rw [decide_eq_false (by simp; exact fun e => hz (by rw [e]; rfl))] at h0
    exact line_end (endL_of h0)
  have hf : Unmark.feed1 N i σ s = some { σ with text := σ.text ++ [s] } := by
   rw [Unmark.feed1, if_pos hl, if_neg (by rw [hi]; decide), hmk, Unmark.outside, if_pos rfl]
  rw [Unmark.goP, hf]
  have := go_last N l (i + 1) { σ with text := σ.text ++ [s] } hi hc (fun t ht => h t (by simp [ht])) (by simp at hN; omega) (fun j t hj => by
   have := hm (j + 1) t (by simpa using hj)
   rw [show decide (j + 1 + 1 = (s :: l).length) = decide (j + 1 = l.length) from decide_eq_decide.2 (by simp)] at this
   exact this)
  simp only [this, List.append_assoc, List.singleton_append]
def starS (st : Int) : Int := if st ≠ 1 then 2 else 1
theorem page_go {L : Nat} (hL : 1 ≤ L) (N : Nat) (st : Int) : ∀ (l : List Mark.Piece) (i : Nat) (O : List Mark.Piece) (T : List ByteArray) (S : Int), (∀ p ∈ l, Tx (L : Int) p ∧ Law.Conf Law.FewSides p) → (∀ (j : Nat) p, j + 1 < l.length → l[j]? = some p → openL p.f1 = false) → Adj l → (0 < T.length → ∀ q, l.head? = some q → q.f0 = true) → (S = 0 ∨ S = starS st) → i + (l.flatMap (chunk st L)).length = N →
  ∃ O' T', Unmark.goP N (l.flatMap (chunk st L)) i (outR L O T S) = .ok (outR L O' T' (if l.any (fun p => p.f0) = true then starS st else S)) ∧ flushO O' T' = flushO O T ++ l.map (wantP st)
 | [], i, O, T, S, _, _, _, _, _, _ => ⟨O, T, by simp [Unmark.goP], by simp⟩
 | p :: l, i, O, T, S, h, hop, hA, hT0, hS, hN => by
  obtain ⟨hT, hC⟩ := h p (by simp)
  rw [List.flatMap_cons] at hN ⊢
  have hrest : ∀ q ∈ l, Tx (L : Int) q ∧ Law.Conf Law.FewSides q := fun q hq => h q (by simp [hq])
  have hoprest : ∀ (j : Nat) q, j + 1 < l.length → l[j]? = some q → openL q.f1 = false := fun j q hj hq => hop (j + 1) q (by simp; omega) (by simpa using hq)
  have hS1 : st = 1 → S ≠ 2 := fun hs => by
   rcases hS with rfl | rfl
   ·decide
   ·rw [starS, if_neg (fun h => h hs)]; decide
  have hS2 : st ≠ 1 → S ≠ 1 := fun hs => by
   rcases hS with rfl | rfl
   ·decide
   ·rw [starS, if_pos hs]; decide
  cases hf : p.f0 with
  | true =>
   obtain ⟨c1, c2⟩ := hC hf
   have hch : chunk st L p = conflictL p st L [] := by rw [chunk, if_pos hf]
   have g := conflict_go hL hT N i st O T S c1 c2 hS1 hS2
   rw [hch] at hN ⊢
   obtain ⟨O', T', g2, e2⟩ := page_go hL N st l (i + (conflictL p st L []).length) (flushO O T ++ [⟨true, [], if st ≠ 1 then p.f2 else [], p.f3⟩]) [] (starS st) hrest hoprest hA.2 (fun h => by simp at h) (.inr rfl) (by rw [List.length_append] at hN; omega)
   refine ⟨O', T', ?_, ?_⟩
   ·rw [Unmark.goP_append, g]
    show Unmark.goP N _ _ (outR L _ [] (starS st)) = _
    rw [g2]
    have e3 : (if l.any (fun p => p.f0) = true then starS st else starS st) = starS st := by split <;> rfl
    have e4 : (p :: l).any (fun p => p.f0) = true := by simp [hf]
    rw [e3, if_pos e4]
   ·rw [e2]
    have e5 : wantP st p = ⟨true, [], if st ≠ 1 then p.f2 else [], p.f3⟩ := by rw [wantP, if_pos hf]
    rw [List.map_cons, e5]
    simp [flushO]
  | false =>
   obtain ⟨hp, hz, hnext⟩ := hA.1 hf
   have hch : chunk st L p = p.f1 := by rw [chunk, if_neg (by rw [hf]; decide)]
   have hTn : T = [] := by
    rcases Nat.eq_zero_or_pos T.length with h0 | h0
    ·exact List.length_eq_zero_iff.1 h0
    ·have := hT0 h0 p rfl
     rw [hf] at this; cases this
   subst hTn
   have hrun : ∀ s ∈ p.f1, Size.runN s < L := fun s hs => by have := hT.run p.f1 (by simp [textsL]) s hs; omega
   have hmay := hT.may p.f1 (by simp [textsL])
   have g : Unmark.goP N p.f1 i (outR L O [] S) = .ok (outR L O p.f1 S) := by
    cases l with
    | nil =>
     rw [hch] at hN
     exact go_last N p.f1 i (outR L O [] S) rfl rfl hrun (by simpa using hN) (fun j s hj => mayL_get hmay hj)
    | cons q l =>
     have hE := lines_all hmay (hop 0 p (by simp) rfl)
     exact go_text N p.f1 i (outR L O [] S) rfl (fun s hs => ⟨hE s hs, hrun s hs⟩)
   rw [hch] at hN ⊢
   obtain ⟨O', T', g2, e2⟩ := page_go hL N st l (i + p.f1.length) O p.f1 S hrest hoprest hA.2 (fun _ => hnext) hS (by rw [List.length_append] at hN; omega)
   refine ⟨O', T', ?_, ?_⟩
   ·rw [Unmark.goP_append, g]
    show Unmark.goP N _ _ (outR L O p.f1 S) = _
    rw [g2]
    have e4 : (p :: l).any (fun p => p.f0) = l.any (fun p => p.f0) := by simp [hf]
    rw [e4]
   ·rw [e2]
    have e5 : wantP st p = p := by rw [wantP, if_neg (by rw [hf]; decide)]
    rw [List.map_cons, e5]
    have e6 : flushO O p.f1 = O ++ [p] := by rw [flushO, if_pos hz, ← hp]
    have e7 : flushO O [] = O := rfl
    rw [e6, e7, List.append_assoc]
    rfl
theorem parse_page {L : Nat} (hL : 1 ≤ L) (hL2 : L ≤ 4096) (st : Int) (l : List Mark.Piece) (h : ∀ p ∈ l, Tx (L : Int) p ∧ Law.Conf Law.FewSides p) (hop : ∀ (j : Nat) p, j + 1 < l.length → l[j]? = some p → openL p.f1 = false) (hA : Adj l) :
  Unmark.parseP (pageTo st L l) (L : Int) = (l.map (wantP st), if l.any (fun p => p.f0) = true then starS st else 1, 0, 0) := by
 obtain ⟨O', T', g, e⟩ := page_go hL (l.flatMap (chunk st L)).length st l 0 [] [] 0 h hop hA (fun h => by simp at h) (.inl rfl) (by omega)
 rw [page_flat]
 have hk : ¬ ((L : Int) < 1 ∨ (L : Int) > 4096) := by omega
 rw [Unmark.parse_ok hk (show Unmark.goP _ _ 0 (Unmark.start (L : Int).toNat) = _ from g) rfl, flush_out]
 have e1 : (outR L (flushO O' T') [] (if l.any (fun p => p.f0) = true then starS st else 0)).out = l.map (wantP st) := by
  show flushO O' T' = _
  rw [e]; rfl
 rw [e1]
 have e2 : max (outR L O' T' (if l.any (fun p => p.f0) = true then starS st else 0)).style 1 = if l.any (fun p => p.f0) = true then starS st else 1 := by
  show max (if l.any (fun p => p.f0) = true then starS st else 0) 1 = _
  unfold starS
  split
  ·split <;> rfl
  ·rfl
 rw [e2]
#print axioms parse_page
end Go.Proofs.YtcnjbmdnnhbfkaaGreatDoor.Plain
