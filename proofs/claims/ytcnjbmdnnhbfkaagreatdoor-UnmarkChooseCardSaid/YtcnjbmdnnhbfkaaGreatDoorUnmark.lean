/- unmark: the reader's methods and Parse: what they compute (plain functions), and that the calls do it. -/
import Derived.Test.YtcnjbmdnnhbfkaaGreatDoorXD0
import Derived.Test.YtcnjbmdnnhbfkaaGreatDoorLib
import Derived.Test.YtcnjbmdnnhbfkaaGreatDoorSize
import Derived.Deep.RegionLaw
import Derived.Lib.Hide
namespace Go.Proofs.YtcnjbmdnnhbfkaaGreatDoor.Unmark
open Go.RowKit Go.Proofs.YtcnjbmdnnhbfkaaGreatDoorW.PrintWords Go.Proofs.YtcnjbmdnnhbfkaaGreatDoor.XD Go.Proofs.YtcnjbmdnnhbfkaaGreatDoor.Size
abbrev Piece := S36
structure Rd where
 long : Nat
 out : List Piece
 text : List ByteArray
 conf : Bool
 base : List ByteArray
 sides : List (List ByteArray)
 part : List ByteArray
 inb : Bool
 style : Int
 inn : Bool
def flush (σ : Rd) : Rd := if 0 < σ.text.length then { σ with out := σ.out ++ [⟨false, σ.text, [], []⟩], text := [] } else { σ with text := [] }
def nextV (g : Nat) (inn : Bool) : Value := .func (.func (if inn then 68 else 42)) #[.pointer (some ⟨g, 0, none⟩)] #[]
def isOwn (v : Value) (k : Nat) : Prop := some k = v.ownBlock
theorem isOwn_nil {k : Nat} : ¬ isOwn (.slice none 0 0) k := fun h => by simp [isOwn, Value.ownBlock] at h
def okO (B g : Nat) (vt vs vp : Value) (k : Nat) : Prop := B ≤ k ∧ k ≠ g ∧ ¬ isOwn vt k ∧ ¬ isOwn vs k ∧ ¬ isOwn vp k
def okB (B g : Nat) (vo vt vs vp : Value) (k : Nat) : Prop := B ≤ k ∧ k ≠ g ∧ ¬ isOwn vo k ∧ ¬ isOwn vt k ∧ ¬ isOwn vs k ∧ ¬ isOwn vp k
def rdCells (g : Nat) (σ : Rd) (vo vt vb vs vp : Value) : Array Value := #[.int .i64 σ.long, vo, vt, .bool σ.conf, .slice none 0 0, vb, vs, vp, .bool σ.inb, .int .i64 σ.style, nextV g σ.inn]
structure RS (B : Nat) (w : World) (g : Nat) (σ : Rd) (vo vt vb vs vp : Value) : Prop where
 hg : B ≤ g
 blk : w.heap[g]? = some (.cells (rdCells g σ vo vt vb vs vp) 66 (0, 0))
 out : Kd.N k36 36 w B (okO B g vt vs vp) vo σ.out
 sides : Kd.N (Kd.slice 9 Kd.string) 25 w B (okO B g vo vt vp) vs σ.sides
 text : Kd.string.R 9 w B (isOwn vt) vt σ.text
 part : Kd.string.R 9 w B (isOwn vp) vp σ.part
 base : Kd.V Kd.string 9 w B (okB B g vo vt vs vp) vb σ.base
 tp : ∀ k, isOwn vt k → ¬ isOwn vp k
theorem isOwn_typed_ne {w : World} {u v : Value} {t t' : TypeId} (hu : ∀ k, u.ownBlock = some k → ∃ cells, w.heap[k]? = some (.cells cells t (0, 0))) (hv : ∀ k, v.ownBlock = some k → ∃ cells, w.heap[k]? = some (.cells cells t' (0, 0))) (hne : t ≠ t') : ∀ k, isOwn u k → ¬ isOwn v k := by
 intro k h1 h2
 obtain ⟨c1, e1⟩ := hu k h1.symm
 obtain ⟨c2, e2⟩ := hv k h2.symm
 rw [e1] at e2
 injection e2 with e2
 injection e2 with _ e2
 exact hne e2
theorem isOwn_blk_ne {w : World} {u : Value} {t t' : TypeId} {g : Nat} {cs : Array Value} (hu : ∀ k, u.ownBlock = some k → ∃ cells, w.heap[k]? = some (.cells cells t (0, 0))) (hb : w.heap[g]? = some (.cells cs t' (0, 0))) (hne : t ≠ t') : ∀ k, isOwn u k → k ≠ g := by
 rintro k h1 rfl
 obtain ⟨c1, e1⟩ := hu k h1.symm
 rw [e1] at hb
 injection hb with e2
 injection e2 with _ e2
 exact hne e2
theorem RS.apart {B : Nat} {w : World} {g : Nat} {σ : Rd} {vo vt vb vs vp : Value} (h : RS B w g σ vo vt vb vs vp) :
  g < w.heap.size ∧ (∀ k, isOwn vo k → B ≤ k ∧ k < w.heap.size ∧ k ≠ g ∧ ¬ isOwn vt k ∧ ¬ isOwn vs k ∧ ¬ isOwn vp k) ∧ (∀ k, isOwn vt k → B ≤ k ∧ k < w.heap.size ∧ k ≠ g ∧ ¬ isOwn vo k ∧ ¬ isOwn vs k ∧ ¬ isOwn vp k) ∧
   (∀ k, isOwn vs k → B ≤ k ∧ k < w.heap.size ∧ k ≠ g ∧ ¬ isOwn vo k ∧ ¬ isOwn vt k ∧ ¬ isOwn vp k) ∧ (∀ k, isOwn vp k → B ≤ k ∧ k < w.heap.size ∧ k ≠ g ∧ ¬ isOwn vo k ∧ ¬ isOwn vt k ∧ ¬ isOwn vs k) := by
 have to_ := Kd.N_typed h.out; have ts := Kd.N_typed h.sides; have tt := Kd.R_typed h.text; have tp := Kd.R_typed h.part
 have ot := isOwn_typed_ne to_ tt (by decide); have os := isOwn_typed_ne to_ ts (by decide); have op := isOwn_typed_ne to_ tp (by decide)
 have st := isOwn_typed_ne ts tt (by decide); have sp := isOwn_typed_ne ts tp (by decide)
 have go := isOwn_blk_ne to_ h.blk (by decide); have gs := isOwn_blk_ne ts h.blk (by decide); have gt := isOwn_blk_ne tt h.blk (by decide); have gp := isOwn_blk_ne tp h.blk (by decide)
 exact ⟨blk_lt h.blk, fun k hk => ⟨Kd.N_base h.out k hk.symm, Kd.N_lt h.out k hk.symm, go k hk, ot k hk, os k hk, op k hk⟩, fun k hk => ⟨Kd.R_base h.text k hk.symm, Kd.R_lt h.text k hk.symm, gt k hk, fun x => ot k x hk, fun x => st k x hk, h.tp k hk⟩,
  fun k hk => ⟨Kd.N_base h.sides k hk.symm, Kd.N_lt h.sides k hk.symm, gs k hk, fun x => os k x hk, st k hk, sp k hk⟩, fun k hk => ⟨Kd.R_base h.part k hk.symm, Kd.R_lt h.part k hk.symm, gp k hk, fun x => op k x hk, fun x => h.tp k x hk, fun x => sp k x hk⟩⟩
theorem cells_of {w : World} {g : Nat} {σ : Rd} {vo vt vb vs vp : Value} (b : w.heap[g]? = some (.cells (rdCells g σ vo vt vb vs vp) 66 (0, 0))) :
  w.cell? ⟨g, 0, none⟩ = some (.int .i64 σ.long) ∧ w.cell? ⟨g, 1, none⟩ = some vo ∧ w.cell? ⟨g, 2, none⟩ = some vt ∧ w.cell? ⟨g, 3, none⟩ = some (.bool σ.conf) ∧ w.cell? ⟨g, 4, none⟩ = some (.slice none 0 0) ∧ w.cell? ⟨g, 5, none⟩ = some vb ∧ w.cell? ⟨g, 6, none⟩ = some vs ∧ w.cell? ⟨g, 7, none⟩ = some vp ∧ w.cell? ⟨g, 8, none⟩ = some (.bool σ.inb) ∧ w.cell? ⟨g, 9, none⟩ = some (.int .i64 σ.style) ∧ w.cell? ⟨g, 10, none⟩ = some (nextV g σ.inn) ∧ (∀ j, w.frozen? ⟨g, j, none⟩ = false) :=
 ⟨(blk_cell b 0).trans rfl, (blk_cell b 1).trans rfl, (blk_cell b 2).trans rfl, (blk_cell b 3).trans rfl, (blk_cell b 4).trans rfl, (blk_cell b 5).trans rfl, (blk_cell b 6).trans rfl, (blk_cell b 7).trans rfl, (blk_cell b 8).trans rfl, (blk_cell b 9).trans rfl, (blk_cell b 10).trans rfl, blk_frozen b⟩
section
variable {α : Type} {d : Kd α} {e B : Nat} {w w2 : World} {ok ok' : Nat → Prop} {v : Value} {xs : List α}
theorem N_move (h : Kd.N d e w B ok v xs) (hm : ∀ k, ok k → k < w.heap.size → w2.heap[k]? = w.heap[k]?) (hok : ∀ k, ok k → k < w.heap.size → ok' k) : Kd.N d e w2 B ok' v xs :=
 Kd.N_mono (Kd.N_step (Kd.N_bound h) (fun k hk hl => hm k hk.1 hl)) (fun k hk => hok k hk.1 hk.2)
theorem V_move (h : Kd.V d e w B ok v xs) (hm : ∀ k, ok k → k < w.heap.size → w2.heap[k]? = w.heap[k]?) (hok : ∀ k, ok k → k < w.heap.size → ok' k) : Kd.V d e w2 B ok' v xs :=
 Kd.V_mono (Kd.V_step (Kd.V_bound h) (fun k hk hl => hm k hk.1 hl)) (fun k hk => hok k hk.1 hk.2)
end
structure Mv (w w2 : World) (g : Nat) (v : Value) : Prop where
 size : w.heap.size ≤ w2.heap.size
 block : ∀ k, k < w.heap.size → k ≠ g → ¬ isOwn v k → w2.heap[k]? = w.heap[k]?
theorem Mv.grown {w w1 : World} {g : Nat} {v : Value} (hg : w.grownBy w1 v.ownBlock) : Mv w w1 g v := ⟨hg.size, fun k hk _ hv => hg.block k hk (fun e => hv e)⟩
theorem Mv.refl (w : World) (g : Nat) (v : Value) : Mv w w g v := ⟨Nat.le_refl _, fun _ _ _ _ => rfl⟩
theorem Mv.set {w w1 : World} {g : Nat} {v : Value} (h : Mv w w1 g v) (j : Nat) (u : Value) : Mv w (w1.setCell ⟨g, j, none⟩ u) g v :=
 ⟨by simpa [World.setCell] using h.size, fun k hk hg hv => (Below.heap_setCell _ _ _ _ hg).trans (h.block k hk hg hv)⟩
theorem Mv.drew {w w1 : World} {g : Nat} {v : Value} (h : Mv w w1 g v) : Mv w w1.drew g v := ⟨h.size, h.block⟩
def At (w : World) (v v1 : Value) : Prop := v1.ownBlock = v.ownBlock ∨ ∃ b, v1.ownBlock = some b ∧ w.heap.size ≤ b
theorem At.cases {w : World} {v v1 : Value} (h : At w v v1) {k : Nat} (hk : isOwn v1 k) : isOwn v k ∨ w.heap.size ≤ k := by
 rcases h with h | ⟨b, hb, hl⟩
 ·exact .inl (by rw [isOwn, ← h]; exact hk)
 ·refine .inr ?_
  rw [isOwn, hb] at hk
  injection hk with hk
  omega
theorem below_cell {B : Nat} {w0 w : World} (h : Below B w0 w) {g : Nat} (hg : B ≤ g) (j : Nat) (u : Value) : Below B w0 (w.setCell ⟨g, j, none⟩ u) := h.setCell hg u
section
variable {B : Nat} {w w1 : World} {g : Nat} {σ : Rd} {vo vt vb vs vp v1 : Value} (h : RS B w g σ vo vt vb vs vp)
include h
theorem RS.flushed (hg : w.grownBy w1 vo.ownBlock) (hat : At w vo v1) (hO : Kd.N k36 36 w1 B (okO B g (.slice none 0 0) vs vp) v1 (σ.out ++ [⟨false, σ.text, [], []⟩])) :
  RS B ((w1.setCell ⟨g, 1, none⟩ v1).setCell ⟨g, 2, none⟩ (.slice none 0 0)) g { σ with out := σ.out ++ [⟨false, σ.text, [], []⟩], text := [] } v1 (.slice none 0 0) vb vs vp := by
 obtain ⟨hgs, ao, at_, as_, ap⟩ := h.apart
 have mv : Mv w ((w1.setCell ⟨g, 1, none⟩ v1).setCell ⟨g, 2, none⟩ (.slice none 0 0)) g vo := ((Mv.grown hg).set _ _).set _ _
 have hbk := blk_grown h.blk hg (fun e => (ao g e).2.2.1 rfl)
 refine ⟨h.hg, blk_put (blk_put hbk 1 v1 rfl) 2 _ rfl, ?_, ?_, Kd.R_nil _ _ _ _ _, ?_, ?_, fun k hk => absurd hk isOwn_nil⟩
 ·exact Kd.N_far (Kd.N_far hO (fun k hk => hk.2.1) _) (fun k hk => hk.2.1) _
 ·exact N_move h.sides (fun k hk hl => mv.block k hl hk.2.1 hk.2.2.1) (fun k hk hl => ⟨hk.1, hk.2.1, fun x => (hat.cases x).elim hk.2.2.1 (by omega), isOwn_nil, hk.2.2.2.2⟩)
 ·exact Kd.R_step h.part (fun k hk hl => mv.block k hl (ap k hk).2.2.1 (ap k hk).2.2.2.1)
 ·exact V_move h.base (fun k hk hl => mv.block k hl hk.2.1 hk.2.2.1) (fun k hk hl => ⟨hk.1, hk.2.1, fun x => (hat.cases x).elim hk.2.2.1 (by omega), isOwn_nil, hk.2.2.2.2⟩)
theorem RS.textNil : RS B (w.setCell ⟨g, 2, none⟩ (.slice none 0 0)) g { σ with text := [] } vo (.slice none 0 0) vb vs vp := by
 obtain ⟨hgs, ao, at_, as_, ap⟩ := h.apart
 have mv : Mv w (w.setCell ⟨g, 2, none⟩ (.slice none 0 0)) g (.slice none 0 0) := (Mv.refl _ _ _).set _ _
 refine ⟨h.hg, blk_put h.blk 2 _ rfl, ?_, ?_, Kd.R_nil _ _ _ _ _, ?_, ?_, fun k hk => absurd hk isOwn_nil⟩
 ·exact N_move h.out (fun k hk hl => mv.block k hl hk.2.1 isOwn_nil) (fun k hk hl => ⟨hk.1, hk.2.1, isOwn_nil, hk.2.2.2⟩)
 ·exact N_move h.sides (fun k hk hl => mv.block k hl hk.2.1 isOwn_nil) (fun k hk hl => ⟨hk.1, hk.2.1, hk.2.2.1, isOwn_nil, hk.2.2.2.2⟩)
 ·exact Kd.R_step h.part (fun k hk hl => mv.block k hl (ap k hk).2.2.1 isOwn_nil)
 ·exact V_move h.base (fun k hk hl => mv.block k hl hk.2.1 isOwn_nil) (fun k hk hl => ⟨hk.1, hk.2.1, hk.2.2.1, isOwn_nil, hk.2.2.2.2⟩)
theorem RS.texted {xs : List ByteArray} (hg : w.grownBy w1 vt.ownBlock) (hat : At w vt v1) (hT : Kd.string.R 9 w1 B (fun _ => True) v1 xs) :
  RS B (w1.setCell ⟨g, 2, none⟩ v1) g { σ with text := xs } vo v1 vb vs vp := by
 obtain ⟨hgs, ao, at_, as_, ap⟩ := h.apart
 have mv : Mv w (w1.setCell ⟨g, 2, none⟩ v1) g vt := (Mv.grown hg).set _ _
 have hbk := blk_grown h.blk hg (fun e => (at_ g e).2.2.1 rfl)
 have hne : ∀ k, isOwn v1 k → k ≠ g := fun k hk e => (hat.cases hk).elim (fun x => (at_ k x).2.2.1 e) (by omega)
 refine ⟨h.hg, blk_put hbk 2 v1 rfl, ?_, ?_, ?_, ?_, ?_, fun k hk => (hat.cases hk).elim (fun x => (at_ k x).2.2.2.2.2) (fun hl x => absurd (ap k x).2.1 (by omega))⟩
 ·exact N_move h.out (fun k hk hl => mv.block k hl hk.2.1 hk.2.2.1) (fun k hk hl => ⟨hk.1, hk.2.1, fun x => (hat.cases x).elim hk.2.2.1 (by omega), hk.2.2.2⟩)
 ·exact N_move h.sides (fun k hk hl => mv.block k hl hk.2.1 hk.2.2.2.1) (fun k hk hl => ⟨hk.1, hk.2.1, hk.2.2.1, fun x => (hat.cases x).elim hk.2.2.2.1 (by omega), hk.2.2.2.2⟩)
 ·exact Kd.R_far (Kd.R_mono (Kd.R_tight rfl hT) (fun k hk => hk)) (fun k hk => hne k hk) _
 ·exact Kd.R_step h.part (fun k hk hl => mv.block k hl (ap k hk).2.2.1 (ap k hk).2.2.2.2.1)
 ·exact V_move h.base (fun k hk hl => mv.block k hl hk.2.1 hk.2.2.2.1) (fun k hk hl => ⟨hk.1, hk.2.1, hk.2.2.1, fun x => (hat.cases x).elim hk.2.2.2.1 (by omega), hk.2.2.2.2⟩)
theorem RS.parted {xs : List ByteArray} (hg : w.grownBy w1 vp.ownBlock) (hat : At w vp v1) (hT : Kd.string.R 9 w1 B (fun _ => True) v1 xs) :
  RS B (w1.setCell ⟨g, 7, none⟩ v1) g { σ with part := xs } vo vt vb vs v1 := by
 obtain ⟨hgs, ao, at_, as_, ap⟩ := h.apart
 have mv : Mv w (w1.setCell ⟨g, 7, none⟩ v1) g vp := (Mv.grown hg).set _ _
 have hbk := blk_grown h.blk hg (fun e => (ap g e).2.2.1 rfl)
 have hne : ∀ k, isOwn v1 k → k ≠ g := fun k hk e => (hat.cases hk).elim (fun x => (ap k x).2.2.1 e) (by omega)
 refine ⟨h.hg, blk_put hbk 7 v1 rfl, ?_, ?_, ?_, ?_, ?_, fun k hk x => (hat.cases x).elim (fun y => (at_ k hk).2.2.2.2.2 y) (fun hl => absurd (at_ k hk).2.1 (by omega))⟩
 ·exact N_move h.out (fun k hk hl => mv.block k hl hk.2.1 hk.2.2.2.2) (fun k hk hl => ⟨hk.1, hk.2.1, hk.2.2.1, hk.2.2.2.1, fun x => (hat.cases x).elim hk.2.2.2.2 (by omega)⟩)
 ·exact N_move h.sides (fun k hk hl => mv.block k hl hk.2.1 hk.2.2.2.2) (fun k hk hl => ⟨hk.1, hk.2.1, hk.2.2.1, hk.2.2.2.1, fun x => (hat.cases x).elim hk.2.2.2.2 (by omega)⟩)
 ·exact Kd.R_step h.text (fun k hk hl => mv.block k hl (at_ k hk).2.2.1 (at_ k hk).2.2.2.2.2)
 ·exact Kd.R_far (Kd.R_mono (Kd.R_tight rfl hT) (fun k hk => hk)) (fun k hk => hne k hk) _
 ·exact V_move h.base (fun k hk hl => mv.block k hl hk.2.1 hk.2.2.2.2.2) (fun k hk hl => ⟨hk.1, hk.2.1, hk.2.2.1, hk.2.2.2.1, hk.2.2.2.2.1, fun x => (hat.cases x).elim hk.2.2.2.2.2 (by omega)⟩)
theorem RS.begun : RS B (((((w.setCell ⟨g, 3, none⟩ (.bool true)).setCell ⟨g, 4, none⟩ (.slice none 0 0)).setCell ⟨g, 5, none⟩ (.slice none 0 0)).setCell ⟨g, 6, none⟩ (.slice none 0 0)).setCell ⟨g, 10, none⟩ (nextV g true)) g
  { σ with conf := true, base := [], sides := [], inn := true } vo vt (.slice none 0 0) (.slice none 0 0) vp := by
 obtain ⟨hgs, ao, at_, as_, ap⟩ := h.apart
 have mv : Mv w (((((w.setCell ⟨g, 3, none⟩ (.bool true)).setCell ⟨g, 4, none⟩ (.slice none 0 0)).setCell ⟨g, 5, none⟩ (.slice none 0 0)).setCell ⟨g, 6, none⟩ (.slice none 0 0)).setCell ⟨g, 10, none⟩ (nextV g true)) g (.slice none 0 0) := (((((Mv.refl _ _ _).set _ _).set _ _).set _ _).set _ _).set _ _
 refine ⟨h.hg, blk_put (blk_put (blk_put (blk_put (blk_put h.blk 3 _ rfl) 4 _ rfl) 5 _ rfl) 6 _ rfl) 10 _ rfl, ?_, Kd.N_nil _ _ _ _ _, ?_, ?_, Kd.V_nil _ _ _ _ _, h.tp⟩
 ·exact N_move h.out (fun k hk hl => mv.block k hl hk.2.1 isOwn_nil) (fun k hk hl => ⟨hk.1, hk.2.1, hk.2.2.1, isOwn_nil, hk.2.2.2.2⟩)
 ·exact Kd.R_step h.text (fun k hk hl => mv.block k hl (at_ k hk).2.2.1 isOwn_nil)
 ·exact Kd.R_step h.part (fun k hk hl => mv.block k hl (ap k hk).2.2.1 isOwn_nil)
theorem RS.sided (hg : w.grownBy w1 vs.ownBlock) (hat : At w vs v1) (hS : Kd.N (Kd.slice 9 Kd.string) 25 w1 B (okO B g vo vt (.slice none 0 0)) v1 (σ.sides ++ [σ.part])) :
  RS B (((w1.setCell ⟨g, 6, none⟩ v1).setCell ⟨g, 7, none⟩ (.slice none 0 0)).setCell ⟨g, 8, none⟩ (.bool false)) g { σ with sides := σ.sides ++ [σ.part], part := [], inb := false } vo vt vb v1 (.slice none 0 0) := by
 obtain ⟨hgs, ao, at_, as_, ap⟩ := h.apart
 have mv : Mv w (((w1.setCell ⟨g, 6, none⟩ v1).setCell ⟨g, 7, none⟩ (.slice none 0 0)).setCell ⟨g, 8, none⟩ (.bool false)) g vs := (((Mv.grown hg).set _ _).set _ _).set _ _
 have hbk := blk_grown h.blk hg (fun e => (as_ g e).2.2.1 rfl)
 refine ⟨h.hg, blk_put (blk_put (blk_put hbk 6 v1 rfl) 7 _ rfl) 8 _ rfl, ?_, ?_, ?_, Kd.R_nil _ _ _ _ _, ?_, fun k _ => isOwn_nil⟩
 ·exact N_move h.out (fun k hk hl => mv.block k hl hk.2.1 hk.2.2.2.1) (fun k hk hl => ⟨hk.1, hk.2.1, hk.2.2.1, fun x => (hat.cases x).elim hk.2.2.2.1 (by omega), isOwn_nil⟩)
 ·exact Kd.N_far (Kd.N_far (Kd.N_far hS (fun k hk => hk.2.1) _) (fun k hk => hk.2.1) _) (fun k hk => hk.2.1) _
 ·exact Kd.R_step h.text (fun k hk hl => mv.block k hl (at_ k hk).2.2.1 (at_ k hk).2.2.2.2.1)
 ·exact V_move h.base (fun k hk hl => mv.block k hl hk.2.1 hk.2.2.2.2.1) (fun k hk hl => ⟨hk.1, hk.2.1, hk.2.2.1, hk.2.2.2.1, fun x => (hat.cases x).elim hk.2.2.2.2.1 (by omega), isOwn_nil⟩)
theorem RS.based : RS B (((w.setCell ⟨g, 5, none⟩ vp).setCell ⟨g, 7, none⟩ (.slice none 0 0)).setCell ⟨g, 8, none⟩ (.bool false)) g { σ with base := σ.part, part := [], inb := false } vo vt vp vs (.slice none 0 0) := by
 obtain ⟨hgs, ao, at_, as_, ap⟩ := h.apart
 have mv : Mv w (((w.setCell ⟨g, 5, none⟩ vp).setCell ⟨g, 7, none⟩ (.slice none 0 0)).setCell ⟨g, 8, none⟩ (.bool false)) g (.slice none 0 0) := (((Mv.refl _ _ _).set _ _).set _ _).set _ _
 refine ⟨h.hg, blk_put (blk_put (blk_put h.blk 5 _ rfl) 7 _ rfl) 8 _ rfl, ?_, ?_, ?_, Kd.R_nil _ _ _ _ _, ?_, fun k _ => isOwn_nil⟩
 ·exact N_move h.out (fun k hk hl => mv.block k hl hk.2.1 isOwn_nil) (fun k hk hl => ⟨hk.1, hk.2.1, hk.2.2.1, hk.2.2.2.1, isOwn_nil⟩)
 ·exact N_move h.sides (fun k hk hl => mv.block k hl hk.2.1 isOwn_nil) (fun k hk hl => ⟨hk.1, hk.2.1, hk.2.2.1, hk.2.2.2.1, isOwn_nil⟩)
 ·exact Kd.R_step h.text (fun k hk hl => mv.block k hl (at_ k hk).2.2.1 isOwn_nil)
 ·exact V_move (Kd.R_V (base' := B) h.part) (fun k hk hl => mv.block k hl (ap k hk).2.2.1 isOwn_nil) (fun k hk hl => ⟨(ap k hk).1, (ap k hk).2.2.1, (ap k hk).2.2.2.1, (ap k hk).2.2.2.2.1, (ap k hk).2.2.2.2.2, isOwn_nil⟩)
theorem RS.trimmed {A : Option Addr} {c : Nat} (hv : vp = .slice A σ.part.length c) {b : Nat} (hA : A = some ⟨b, 0, none⟩) (i : Int) (x : ByteArray) :
  RS B (w.setCell ⟨b, i.toNat, none⟩ (.string x)) g { σ with part := σ.part.set i.toNat x } vo vt vb vs vp := by
 obtain ⟨hgs, ao, at_, as_, ap⟩ := h.apart
 subst hv hA
 have hob : ∀ k, k = b → isOwn (.slice (some ⟨b, 0, none⟩) σ.part.length c) k := fun k e => by simp [isOwn, Value.ownBlock, e]
 have hp := (Kd.R_put h.part i x).1
 have hm : ∀ k, ¬ isOwn (.slice (some ⟨b, 0, none⟩) σ.part.length c) k → (w.setCell ⟨b, i.toNat, none⟩ (.string x)).heap[k]? = w.heap[k]? := fun k hk => Below.heap_setCell _ _ _ _ (fun e => hk (hob k e))
 refine ⟨h.hg, (hm g (fun e => (ap g e).2.2.1 rfl)).trans h.blk, ?_, ?_, ?_, hp, ?_, h.tp⟩
 ·exact N_move h.out (fun k hk _ => hm k hk.2.2.2.2) (fun k hk _ => hk)
 ·exact N_move h.sides (fun k hk _ => hm k hk.2.2.2.2) (fun k hk _ => hk)
 ·exact Kd.R_step h.text (fun k hk _ => hm k (at_ k hk).2.2.2.2.2)
 ·exact V_move h.base (fun k hk _ => hm k hk.2.2.2.2.2) (fun k hk _ => hk)
theorem RS.inBase : RS B ((w.setCell ⟨g, 8, none⟩ (.bool true)).setCell ⟨g, 9, none⟩ (.int .i64 2)) g { σ with inb := true, style := 2 } vo vt vb vs vp := by
 obtain ⟨hgs, ao, at_, as_, ap⟩ := h.apart
 have mv : Mv w ((w.setCell ⟨g, 8, none⟩ (.bool true)).setCell ⟨g, 9, none⟩ (.int .i64 2)) g (.slice none 0 0) := ((Mv.refl _ _ _).set _ _).set _ _
 exact ⟨h.hg, blk_put (blk_put h.blk 8 _ rfl) 9 _ rfl, N_move h.out (fun k hk hl => mv.block k hl hk.2.1 isOwn_nil) (fun k hk _ => hk), N_move h.sides (fun k hk hl => mv.block k hl hk.2.1 isOwn_nil) (fun k hk _ => hk),
  Kd.R_step h.text (fun k hk hl => mv.block k hl (at_ k hk).2.2.1 isOwn_nil), Kd.R_step h.part (fun k hk hl => mv.block k hl (ap k hk).2.2.1 isOwn_nil), V_move h.base (fun k hk hl => mv.block k hl hk.2.1 isOwn_nil) (fun k hk _ => hk), h.tp⟩
theorem RS.styled : RS B (w.setCell ⟨g, 9, none⟩ (.int .i64 1)) g { σ with style := 1 } vo vt vb vs vp := by
 obtain ⟨hgs, ao, at_, as_, ap⟩ := h.apart
 have mv : Mv w (w.setCell ⟨g, 9, none⟩ (.int .i64 1)) g (.slice none 0 0) := (Mv.refl _ _ _).set _ _
 exact ⟨h.hg, blk_put h.blk 9 _ rfl, N_move h.out (fun k hk hl => mv.block k hl hk.2.1 isOwn_nil) (fun k hk _ => hk), N_move h.sides (fun k hk hl => mv.block k hl hk.2.1 isOwn_nil) (fun k hk _ => hk),
  Kd.R_step h.text (fun k hk hl => mv.block k hl (at_ k hk).2.2.1 isOwn_nil), Kd.R_step h.part (fun k hk hl => mv.block k hl (ap k hk).2.2.1 isOwn_nil), V_move h.base (fun k hk hl => mv.block k hl hk.2.1 isOwn_nil) (fun k hk _ => hk), h.tp⟩
theorem RS.ended (hg : w.grownBy w1 vo.ownBlock) (_ : At w vo v1) (hO : Kd.N k36 36 w1 B (okO B g vt (.slice none 0 0) vp) v1 (σ.out ++ [⟨σ.conf, [], σ.base, σ.sides⟩])) :
  RS B ((((((w1.setCell ⟨g, 1, none⟩ v1).setCell ⟨g, 3, none⟩ (.bool false)).setCell ⟨g, 4, none⟩ (.slice none 0 0)).setCell ⟨g, 5, none⟩ (.slice none 0 0)).setCell ⟨g, 6, none⟩ (.slice none 0 0)).setCell ⟨g, 10, none⟩ (nextV g false)) g
   { σ with out := σ.out ++ [⟨σ.conf, [], σ.base, σ.sides⟩], conf := false, base := [], sides := [], inn := false } v1 vt (.slice none 0 0) (.slice none 0 0) vp := by
 obtain ⟨hgs, ao, at_, as_, ap⟩ := h.apart
 have mv : Mv w ((((((w1.setCell ⟨g, 1, none⟩ v1).setCell ⟨g, 3, none⟩ (.bool false)).setCell ⟨g, 4, none⟩ (.slice none 0 0)).setCell ⟨g, 5, none⟩ (.slice none 0 0)).setCell ⟨g, 6, none⟩ (.slice none 0 0)).setCell ⟨g, 10, none⟩ (nextV g false)) g vo := ((((((Mv.grown hg).set _ _).set _ _).set _ _).set _ _).set _ _).set _ _
 have hbk := blk_grown h.blk hg (fun e => (ao g e).2.2.1 rfl)
 refine ⟨h.hg, blk_put (blk_put (blk_put (blk_put (blk_put (blk_put hbk 1 v1 rfl) 3 _ rfl) 4 _ rfl) 5 _ rfl) 6 _ rfl) 10 _ rfl, ?_, Kd.N_nil _ _ _ _ _, ?_, ?_, Kd.V_nil _ _ _ _ _, h.tp⟩
 ·exact Kd.N_far (Kd.N_far (Kd.N_far (Kd.N_far (Kd.N_far (Kd.N_far hO (fun k hk => hk.2.1) _) (fun k hk => hk.2.1) _) (fun k hk => hk.2.1) _) (fun k hk => hk.2.1) _) (fun k hk => hk.2.1) _) (fun k hk => hk.2.1) _
 ·exact Kd.R_step h.text (fun k hk hl => mv.block k hl (at_ k hk).2.2.1 (at_ k hk).2.2.2.1)
 ·exact Kd.R_step h.part (fun k hk hl => mv.block k hl (ap k hk).2.2.1 (ap k hk).2.2.2.1)
theorem RS.below (hb : Below w.heap.size w w1) : RS B w1 g σ vo vt vb vs vp :=
 ⟨h.hg, blk_below h.blk hb, Kd.N_below h.out hb, Kd.N_below h.sides hb, Kd.R_below h.text hb, Kd.R_below h.part hb, Kd.V_below h.base hb, h.tp⟩
theorem RS.drewN (n : Nat) : RS B (w.drewN n) g σ vo vt vb vs vp := h.below (pw_below_drewN (Below.refl _ _) n)
theorem RS.drew : RS B w.drew g σ vo vt vb vs vp := h.below (below_drew (Below.refl _ _))
end
theorem cell_later {w : World} {b o : Nat} {v : Value} (h : w.cell? ⟨b, o, none⟩ = some v) (x : Obj) : (w.alloc x).cell? ⟨b, o, none⟩ = some v :=
 (World.cell?_of_block (w := w) (Below.heap_alloc w x b (World.block_lt_of_cell? w _ h))).trans h
theorem cell_new (w : World) (v : Value) (t : TypeId) : (w.alloc (.cells #[v] t)).cell? ⟨w.heap.size, 0, none⟩ = some v := (blk_cell (blk_new w _) 0).trans rfl
theorem cell_below {w w1 : World} (hb : Below w.heap.size w w1) {b o : Nat} {v : Value} (h : w.cell? ⟨b, o, none⟩ = some v) : w1.cell? ⟨b, o, none⟩ = some v :=
 (hb.cell (World.block_lt_of_cell? w _ h)).trans h
/-! ### is -/
def nl : ByteArray := ⟨#[10]⟩
def bang : ByteArray := ⟨#[33]⟩
def repB (sign : ByteArray) (n : Nat) : ByteArray := ⟨(Lib.repeatL sign.data.toList n).toArray⟩
def mkM (sign : ByteArray) (n : Nat) (more label : ByteArray) : ByteArray := repB sign n ++ more ++ label ++ nl
def eqS (a b : ByteArray) : Bool := a.toList == b.toList
set_option maxHeartbeats 400000 in
theorem plain_calls (w : World) (bs bg bl : Nat) (s signs label more : ByteArray) (h1 : w.cell? ⟨bs, 0, none⟩ = some (.string s)) (h2 : w.cell? ⟨bg, 0, none⟩ = some (.string signs)) (h3 : w.cell? ⟨bl, 0, none⟩ = some (.string label))
  (hs : signs.size ≤ 1000000) (hl : label.size ≤ 1000000) (hm : more.size ≤ 1000000) :
  Calls Tryz.prog 111 #[.string more, .pointer (some ⟨bs, 0, none⟩), .pointer (some ⟨bg, 0, none⟩), .pointer (some ⟨bl, 0, none⟩)] w fun e w' => e = .returned (.bool (eqS s (signs ++ more ++ label ++ nl))) ∧ w = w' := by
 go_enter Tryz.func111, Tryz.ntmps111
 go_wp2
 go_ret
 exact ⟨rfl, rfl⟩
theorem repB_size (c : UInt8) (n : Nat) : (repB ⟨#[c]⟩ n).size = n := by
 have : (Lib.repeatL [c] n).length = n := by
  induction n with
  | zero => rfl
  | succ n ih => simpa [Lib.repeatL] using ih
 simpa [repB, ByteArray.size] using this
set_option maxHeartbeats 400000 in
theorem is_calls (w : World) (g n : Nat) (s label : ByteArray) (c : UInt8) (hc : w.cell? ⟨g, 0, none⟩ = some (.int .i64 (n : Int))) (hn : n ≤ 4096) (hl : label.size ≤ 1000) (hg : g < w.heap.size) :
  Calls Tryz.prog 91 #[.pointer (some ⟨g, 0, none⟩), .string s, .string ⟨#[c]⟩, .string label] w fun e w' =>
   e = .returned (.tuple #[.bool (eqS s (mkM ⟨#[c]⟩ n ⟨#[]⟩ label) || eqS s (mkM ⟨#[c]⟩ n bang label)), .bool (eqS s (mkM ⟨#[c]⟩ n bang label))]) ∧ Below w.heap.size w w' := by
 have hrs := repB_size c n
 have hsz : (⟨#[c]⟩ : ByteArray).size * n ≤ 140737488355328 := by rw [show (⟨#[c]⟩ : ByteArray).size = 1 from rfl]; omega
 go_enter Tryz.func91, Tryz.ntmps91
 go_wp2_with (fail)
 refine (Tryz.strings_Repeat ⟨#[c]⟩ n _ (by omega) hsz).mono ?_
 rintro e w1 ⟨rfl, hb1⟩
 have k1 : w1.cell? ⟨w.heap.size, 0, none⟩ = some (.string s) := cell_below hb1 (cell_later (cell_new _ _ _) _)
 have k2 : w1.cell? ⟨w.heap.size + 1, 0, none⟩ = some (.string label) := cell_below hb1 (by simp)
 have hz : w.heap.size + 2 ≤ w1.heap.size := by have := hb1.size; simpa using this
 have HB := Lib.hid (show Below w.heap.size w w1 from Below.trans (((Below.refl _ w).alloc (Nat.le_refl _) _).alloc (by simp) _) (hb1.mono (by simp; omega)))
 clear hb1
 generalize hS : (⟨(Lib.repeatL (⟨#[c]⟩ : ByteArray).data.toList n).toArray⟩ : ByteArray) = S
 have HS := Lib.hid (show repB ⟨#[c]⟩ n = S from hS)
 clear hS
 have hS1 : S.size ≤ 1000000 := by rw [← HS.out, hrs]; omega
 clear hrs hsz
 obtain ⟨b0, hb0⟩ : ∃ b, eqS s (S ++ ⟨#[]⟩ ++ label ++ nl) = b := ⟨_, rfl⟩
 obtain ⟨b1, hb1⟩ : ∃ b, eqS s (S ++ bang ++ label ++ nl) = b := ⟨_, rfl⟩
 have HR := Lib.hid (show eqS s (mkM ⟨#[c]⟩ n ⟨#[]⟩ label) = b0 ∧ eqS s (mkM ⟨#[c]⟩ n bang label) = b1 by rw [← hb0, ← hb1]; unfold mkM; rw [HS.out]; exact ⟨rfl, rfl⟩)
 have HE0 := Lib.hid hb0
 have HE1 := Lib.hid hb1
 clear hb0 hb1
 cases b0
 ·go_wp2_with (fail)
  refine (plain_calls _ w.heap.size w1.heap.size (w.heap.size + 1) s S label ⟨#[]⟩ (cell_later k1 _) (cell_new _ _ _) (cell_later k2 _) hS1 (by omega) (by decide)).mono ?_
  rintro e w2 ⟨rfl, rfl⟩
  rw [HE0.out]
  go_wp2_with (fail)
  refine (plain_calls _ w.heap.size w1.heap.size (w.heap.size + 1) s S label bang (cell_later k1 _) (cell_new _ _ _) (cell_later k2 _) hS1 (by omega) (by decide)).mono ?_
  rintro e w2 ⟨rfl, rfl⟩
  rw [HE1.out]
  go_wp2_with (fail)
  refine (plain_calls _ w.heap.size w1.heap.size (w.heap.size + 1) s S label bang (cell_later k1 _) (cell_new _ _ _) (cell_later k2 _) hS1 (by omega) (by decide)).mono ?_
  rintro e w2 ⟨rfl, rfl⟩
  rw [HE1.out]
  go_wp2
  go_ret2
  rw [HR.out.1, HR.out.2]
  exact ⟨by simp, HB.out.alloc (by omega) _⟩
 ·go_wp2_with (fail)
  refine (plain_calls _ w.heap.size w1.heap.size (w.heap.size + 1) s S label ⟨#[]⟩ (cell_later k1 _) (cell_new _ _ _) (cell_later k2 _) hS1 (by omega) (by decide)).mono ?_
  rintro e w2 ⟨rfl, rfl⟩
  rw [HE0.out]
  go_wp2_with (fail)
  refine (plain_calls _ w.heap.size w1.heap.size (w.heap.size + 1) s S label bang (cell_later k1 _) (cell_new _ _ _) (cell_later k2 _) hS1 (by omega) (by decide)).mono ?_
  rintro e w2 ⟨rfl, rfl⟩
  rw [HE1.out]
  go_wp2
  go_ret2
  rw [HR.out.1, HR.out.2]
  exact ⟨by simp, HB.out.alloc (by omega) _⟩
set_option maxHeartbeats 400000 in
theorem flush_calls (B : Nat) (w0 w : World) (g : Nat) (σ : Rd) {vo vt vb vs vp : Value} (h : RS B w g σ vo vt vb vs vp) (hB : Below B w0 w) (hBw : B ≤ w.heap.size) (hl : σ.out.length ≤ 1000000) :
  Calls Tryz.prog 46 #[.pointer (some ⟨g, 0, none⟩)] w fun e w' => e = .returned (.tuple #[]) ∧ Below B w0 w' ∧ ∃ vo vt vb vs vp, RS B w' g (flush σ) vo vt vb vs vp := by
 obtain ⟨At, ct, et⟩ := Kd.R_slice h.text
 subst et
 obtain ⟨At2, ct2, et2⟩ := Kd.N_slice h.out
 subst et2
 obtain ⟨c0, c1, c2, c3, c4, c5, c6, c7, c8, c9, c10, hfz⟩ := cells_of h.blk
 have HA := Lib.hid h.apart
 have H := Lib.hid h
 clear h
 by_cases h0 : 0 < σ.text.length
 ·have h0b : decide (0 < σ.text.length) = true := by simpa using h0
  have HF := Lib.hid (show flush σ = { σ with out := σ.out ++ [⟨false, σ.text, [], []⟩], text := [] } by rw [flush, if_pos h0])
  have hsz : g < w.heap.size := HA.out.1
  go_enter Tryz.func46, Tryz.ntmps46
  go_wp2
  go_region_law (refine Kd.N_append_step k36 (w0 := w0) (W := w.drew) B ?hw (.tmp 12) (.tmp 18) 22 36 (.agg #[(.bool false), (.slice none 0 0), (.slice none 0 0), (.slice none 0 0)]) 80 ?ho Tryz.underlying22 info36 rfl (by decide) (by omega) (.slice At2 σ.out.length ct2) σ.out (⟨false, σ.text, [], []⟩ : Piece) [.bool false, .slice At σ.text.length ct, .slice none 0 0, .slice none 0 0] (okO B g (.slice none 0 0) vs vp) (isOwn (.slice At σ.text.length ct)) ?hs ?hx ?aP ?aK ?aF ?aO ?aB ?aS ?aL ?_; (case hw => rfl); (case ho => rfl); (case hs => rfl); (case hx => rfl); (case aP => exact k36_mkF _ _ _ (Kd.R_reads' H.out.text).2.1 (Kd.R_F (Kd.R_drew H.out.text)) (Nat.le_refl _) (Kd.F_nil _ _ _) (Nat.le_refl _) (Kd.F_nil _ _ _)); (case aK => exact fun k hk => have z := HA.out.2.2.1 k hk; ⟨⟨z.1, z.2.2.1, isOwn_nil, z.2.2.2.2⟩, z.2.2.2.1⟩); (case aF => exact fun k hk => ⟨Nat.le_trans hBw hk, fun e => by have : w.heap.size ≤ k := hk; omega, isOwn_nil, fun x => absurd (HA.out.2.2.2.1 k x).2.1 (Nat.not_lt.2 hk), fun x => absurd (HA.out.2.2.2.2 k x).2.1 (Nat.not_lt.2 hk)⟩); (case aO => exact Kd.N_mono (Kd.N_drew H.out.out) (fun k hk => ⟨hk.1, hk.2.1, isOwn_nil, hk.2.2.2⟩)); (case aB => exact hB.drew); (case aS => exact hBw); (case aL => omega); intro v1 w1 hO1 hB1 hg1 hat1; obtain ⟨A3, c3, e3⟩ := Kd.N_slice hO1; subst e3; have hbk := blk_grown (w := w.drew) H.out.blk hg1 (fun e => (HA.out.2.1 g e).2.2.1 rfl); obtain ⟨-, d1, d2, -, -, -, -, -, -, -, -, dz⟩ := cells_of hbk; have HG1 := Lib.hid hg1; have HAT := Lib.hid hat1; have HB1 := Lib.hid hB1; clear hbk hg1 hat1 hB1)
  all_goals
   go_wp2
   go_end0
   rw [HF.out]
   have hO2 := H.out.flushed (w1 := w1) ⟨HG1.out.os, HG1.out.tape, HG1.out.output, HG1.out.size, HG1.out.block⟩ HAT.out hO1
   simp only [List.length_append, List.length_cons, List.length_nil, Nat.zero_add] at hO2
   exact ⟨rfl, below_cell (below_cell HB1.out H.out.hg _ _) H.out.hg _ _, _, _, _, _, _, hO2⟩
 ·have h0b : decide (0 < σ.text.length) = false := by simpa using h0
  have HF := Lib.hid (show flush σ = { σ with text := [] } by rw [flush, if_neg h0])
  go_enter Tryz.func46, Tryz.ntmps46
  go_wp2
  go_end0
  rw [HF.out]
  exact ⟨rfl, below_cell hB H.out.hg _ _, _, _, _, _, _, H.out.textNil⟩
end Go.Proofs.YtcnjbmdnnhbfkaaGreatDoor.Unmark
