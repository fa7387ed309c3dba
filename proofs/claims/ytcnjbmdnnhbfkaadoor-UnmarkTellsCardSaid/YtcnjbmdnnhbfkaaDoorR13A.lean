/- sennitref13.sides: what it computes (over the printed functions that it calls), and its walk: the words. -/
import Derived.Test.YtcnjbmdnnhbfkaaDoorXQs
import Derived.Test.YtcnjbmdnnhbfkaaDoorXQ3
import Derived.Test.YtcnjbmdnnhbfkaaDoorXQ4
import Derived.Test.YtcnjbmdnnhbfkaaDoorXQ6
import Derived.Test.YtcnjbmdnnhbfkaaDoorXQ8
import Derived.Deep.RegionLaw
import Derived.Deep.LoopGhost
import Derived.Lib.Hide
namespace Go.Proofs.YtcnjbmdnnhbfkaaDoor.Ref13
open Go.RowKit Go.Proofs.YtcnjbmdnnhbfkaaDoor.XD Go.Proofs.YtcnjbmdnnhbfkaaDoor.XQ Go.Proofs.YtcnjbmdnnhbfkaaDoorW.PrintWords Go.Proofs.YtcnjbmdnnhbfkaaDoorW.PrintLast Go.Proofs.YtcnjbmdnnhbfkaaDoorW.PrintMore
def nOf (sd : List (List ByteArray)) (inb : Bool) : Int := if inb = true then (sd.length : Int) else (sd.length : Int) + 1
def firstOf (sd : List (List ByteArray)) (inb : Bool) : Bool := !inb && decide (nOf sd inb = 1)
def wantsOf (first : Bool) (st b f e : Int) : Bool := (first && (decide (st ≠ 1) && decide (b > 0))) || ((!first || decide (st ≠ 2)) && decide (f + e > 0))
def stepF (k : Nat) (l : List ByteArray) (K i st wr : Int) (p : List ByteArray) (sd : List (List ByteArray)) (inb : Bool) : Option (Bool × List ByteArray × Int × Int) :=
  (sennitref13_fits.f k l K i st wr ⟨#[124]⟩ ⟨#[32, 98, 97, 115, 101]⟩).bind fun b =>
  (sennitref12_Number.f (if 16 < nOf sd inb + 1 then 16 else nOf sd inb + 1)).bind fun d =>
  if 1 + d.size ≤ 9223372036854775807 then
  (sennitref13_fits.f k l K i st wr ⟨#[61]⟩ (⟨#[32]⟩ ++ d)).bind fun f0 =>
  (sennitref13_fits.f k l K i st wr ⟨#[62]⟩ ⟨#[]⟩).bind fun e =>
  if (0 ≤ b ∧ b ≤ 2) ∧ (0 ≤ f0 ∧ f0 ≤ 2) ∧ 0 ≤ e ∧ e ≤ 2 then
  (sennitref13_opened.f k p (b + (if nOf sd inb = 16 then 0 else f0) + e)).bind fun q =>
  some (wantsOf (firstOf sd inb) st b (if nOf sd inb = 16 then 0 else f0) e && q.2, q.1, b, e)
  else none else none
def sidesF : Nat → List ByteArray → Int → Int → Int → Int → List ByteArray → List (List ByteArray) → Bool → Option (List ByteArray × Int × Int × Int × Int × List ByteArray × List (List ByteArray))
  | 0, _, _, _, _, _, _, _, _ => none
  | k + 1, l, K, i, st, wr, bs, sd, inb =>
    (sennitref13_part.f k l K i st wr).bind fun t =>
    if t.2.2.2.2.1 > 0 then some (t.1, t.2.1, t.2.2.1, t.2.2.2.1, t.2.2.2.2.1, bs, sd)
    else if sd.length ≤ 1000000 then
      (stepF k t.1 t.2.1 t.2.2.1 t.2.2.2.1 t.2.2.2.2.1 t.2.2.2.2.2 sd inb).bind fun s =>
      if s.1 = true then
        if s.2.2.2 > 0 then some (t.1, t.2.1, wrap64 (t.2.2.1 + 1), (if s.2.2.1 > 0 then 2 else if firstOf sd inb = true then 1 else t.2.2.2.1), t.2.2.2.2.1, (if inb = true then s.2.1 else bs), (if inb = true then sd else sd ++ [s.2.1]))
        else sidesF k t.1 t.2.1 (wrap64 (t.2.2.1 + 1)) (if s.2.2.1 > 0 then 2 else if firstOf sd inb = true then 1 else t.2.2.2.1) t.2.2.2.2.1 (if inb = true then s.2.1 else bs) (if inb = true then sd else sd ++ [s.2.1]) (decide (s.2.2.1 > 0))
      else (sennitref13_bad.f t.1 t.2.1 t.2.2.1 t.2.2.2.1 t.2.2.2.2.1).bind fun z => some (z.1, z.2.1, z.2.2.1, z.2.2.2.1, z.2.2.2.2, bs, sd)
    else none
def okS (B : Nat) (P : Nat → Prop) (k : Nat) : Prop := (P k ∧ k < B) ∨ B + 4 ≤ k
structure SB (B : Nat) (P : Nat → Prop) (w : World) (l : List ByteArray) (K i st wr : Int) (bs : List ByteArray) (sd : List (List ByteArray)) (vl vb vs : Value) : Prop where
  s : w.heap[B]? = some (.cells #[vl, .int .i64 K, .int .i64 i, .int .i64 st, .int .i64 wr] 50 (0, 0))
  c : w.heap[B + 1]? = some (.cells #[.bool true, .slice none 0 0, vb, vs] 37 (0, 0))
  r : w.heap[B + 2]? = some (.cells #[.slice none 0 0, .int .i64 0, .int .i64 0, .int .i64 0, .int .i64 0] 50 (0, 0))
  q : w.heap[B + 3]? = some (.cells #[.bool false, .slice none 0 0, .slice none 0 0, .slice none 0 0] 37 (0, 0))
  gl : Kd.V Kd.string 9 w B (fun k => okS B P k ∧ some k ≠ vs.ownBlock) vl l
  gb : Kd.V Kd.string 9 w B (fun k => okS B P k ∧ some k ≠ vs.ownBlock) vb bs
  gs : Kd.N (Kd.slice 9 Kd.string) 22 w (B + 4) (okS B P) vs sd
section
variable {B : Nat} {P : Nat → Prop} {w w1 : World} {l l1 : List ByteArray} {K i st wr K1 i1 st1 wr1 : Int} {bs q : List ByteArray} {sd : List (List ByteArray)} {vl vb vs v1 vq : Value}
theorem okS_ne {k : Nat} (h : okS B P k) : k ≠ B ∧ k ≠ B + 1 ∧ k ≠ B + 2 ∧ k ≠ B + 3 := by
  rcases h with ⟨_, h⟩ | h <;> refine ⟨?_, ?_, ?_, ?_⟩ <;> omega
theorem SB.below (h : SB B P w l K i st wr bs sd vl vb vs) (hb : Below w.heap.size w w1) : SB B P w1 l K i st wr bs sd vl vb vs :=
  ⟨blk_below h.s hb, blk_below h.c hb, blk_below h.r hb, blk_below h.q hb, Kd.V_below h.gl hb, Kd.V_below h.gb hb, Kd.N_below h.gs hb⟩
theorem SB.size (h : SB B P w l K i st wr bs sd vl vb vs) : B + 4 ≤ w.heap.size := by
  have := blk_lt h.q
  omega
theorem SB.told (h : SB B P w l K i st wr bs sd vl vb vs) (hv : Kd.V Kd.string 9 w1 w.heap.size (fun k => (okS B P k ∧ some k ≠ vs.ownBlock) ∨ w.heap.size ≤ k) vq q) : Kd.V Kd.string 9 w1 B (fun k => okS B P k ∧ some k ≠ vs.ownBlock) vq q :=
  Kd.V_mono hv (fun k hk => hk.elim (fun h => h) (fun hk => ⟨.inr (by have := h.size; omega), fun e => by have := Kd.N_lt h.gs k e.symm; omega⟩))
theorem SB.state (h : SB B P w l K i st wr bs sd vl vb vs) (hv : Kd.V Kd.string 9 w B (fun k => okS B P k ∧ some k ≠ vs.ownBlock) v1 l1) :
    SB B P (((((w.setCell ⟨B, 0, none⟩ v1).setCell ⟨B, 1, none⟩ (.int .i64 K1)).setCell ⟨B, 2, none⟩ (.int .i64 i1)).setCell ⟨B, 3, none⟩ (.int .i64 st1)).setCell ⟨B, 4, none⟩ (.int .i64 wr1)) l1 K1 i1 st1 wr1 bs sd v1 vb vs := by
  have far : ∀ {g : Nat} {o : Obj} {W : World} {j : Nat} {u : Value}, g ≠ B → W.heap[g]? = some o → (W.setCell ⟨B, j, none⟩ u).heap[g]? = some o := fun hne hh => (Below.heap_setCell _ _ _ _ hne).trans hh
  have V5 : ∀ {v : Value} {x : List ByteArray}, Kd.V Kd.string 9 w B (fun k => okS B P k ∧ some k ≠ vs.ownBlock) v x → Kd.V Kd.string 9 (((((w.setCell ⟨B, 0, none⟩ v1).setCell ⟨B, 1, none⟩ (.int .i64 K1)).setCell ⟨B, 2, none⟩ (.int .i64 i1)).setCell ⟨B, 3, none⟩ (.int .i64 st1)).setCell ⟨B, 4, none⟩ (.int .i64 wr1)) B (fun k => okS B P k ∧ some k ≠ vs.ownBlock) v x := fun hv =>
    Kd.V_far (Kd.V_far (Kd.V_far (Kd.V_far (Kd.V_far hv (fun k hk => (okS_ne hk.1).1) _) (fun k hk => (okS_ne hk.1).1) _) (fun k hk => (okS_ne hk.1).1) _) (fun k hk => (okS_ne hk.1).1) _) (fun k hk => (okS_ne hk.1).1) _
  refine ⟨?_, ?_, ?_, ?_, V5 hv, V5 h.gb, Kd.N_far (Kd.N_far (Kd.N_far (Kd.N_far (Kd.N_far h.gs (fun k hk => (okS_ne hk).1) _) (fun k hk => (okS_ne hk).1) _) (fun k hk => (okS_ne hk).1) _) (fun k hk => (okS_ne hk).1) _) (fun k hk => (okS_ne hk).1) _⟩
  · exact blk_put (blk_put (blk_put (blk_put (blk_put h.s 0 _ rfl) 1 _ rfl) 2 _ rfl) 3 _ rfl) 4 _ rfl
  · exact far (by omega) (far (by omega) (far (by omega) (far (by omega) (far (by omega) h.c))))
  · exact far (by omega) (far (by omega) (far (by omega) (far (by omega) (far (by omega) h.r))))
  · exact far (by omega) (far (by omega) (far (by omega) (far (by omega) (far (by omega) h.q))))
theorem SB.at2 (h : SB B P w l K i st wr bs sd vl vb vs) : SB B P (w.setCell ⟨B, 2, none⟩ (.int .i64 i1)) l K i1 st wr bs sd vl vb vs :=
  ⟨blk_put h.s 2 _ rfl, (Below.heap_setCell _ _ _ _ (by show B + 1 ≠ B; omega)).trans h.c, (Below.heap_setCell _ _ _ _ (by show B + 2 ≠ B; omega)).trans h.r, (Below.heap_setCell _ _ _ _ (by show B + 3 ≠ B; omega)).trans h.q,
    Kd.V_far h.gl (fun k hk => (okS_ne hk.1).1) _, Kd.V_far h.gb (fun k hk => (okS_ne hk.1).1) _, Kd.N_far h.gs (fun k hk => (okS_ne hk).1) _⟩
theorem SB.at3 (h : SB B P w l K i st wr bs sd vl vb vs) : SB B P (w.setCell ⟨B, 3, none⟩ (.int .i64 st1)) l K i st1 wr bs sd vl vb vs :=
  ⟨blk_put h.s 3 _ rfl, (Below.heap_setCell _ _ _ _ (by show B + 1 ≠ B; omega)).trans h.c, (Below.heap_setCell _ _ _ _ (by show B + 2 ≠ B; omega)).trans h.r, (Below.heap_setCell _ _ _ _ (by show B + 3 ≠ B; omega)).trans h.q,
    Kd.V_far h.gl (fun k hk => (okS_ne hk.1).1) _, Kd.V_far h.gb (fun k hk => (okS_ne hk.1).1) _, Kd.N_far h.gs (fun k hk => (okS_ne hk).1) _⟩
theorem SB.based (h : SB B P w l K i st wr bs sd vl vb vs) (hv : Kd.V Kd.string 9 w B (fun k => okS B P k ∧ some k ≠ vs.ownBlock) vq q) : SB B P (w.setCell ⟨B + 1, 2, none⟩ vq) l K i st wr q sd vl vq vs :=
  ⟨(Below.heap_setCell _ _ _ _ (by show B ≠ B + 1; omega)).trans h.s, blk_put h.c 2 _ rfl, (Below.heap_setCell _ _ _ _ (by show B + 2 ≠ B + 1; omega)).trans h.r, (Below.heap_setCell _ _ _ _ (by show B + 3 ≠ B + 1; omega)).trans h.q,
    Kd.V_far h.gl (fun k hk => (okS_ne hk.1).2.1) _, Kd.V_far hv (fun k hk => (okS_ne hk.1).2.1) _, Kd.N_far h.gs (fun k hk => (okS_ne hk).2.1) _⟩
theorem SB.sided (h : SB B P w l K i st wr bs sd vl vb vs) (hg : w.grownBy w1 vs.ownBlock) (hat : v1.ownBlock = vs.ownBlock ∨ ∃ b, v1.ownBlock = some b ∧ w.heap.size ≤ b) (hN : Kd.N (Kd.slice 9 Kd.string) 22 w1 (B + 4) (okS B P) v1 (sd ++ [q])) : SB B P (w1.setCell ⟨B + 1, 3, none⟩ v1) l K i st wr bs (sd ++ [q]) vl vb v1 := by
  have ne : ∀ {g : Nat} {o : Obj}, w.heap[g]? = some o → g < B + 4 → some g ≠ vs.ownBlock := fun _ hlt e => by have := Kd.N_base h.gs _ e.symm; omega
  exact ⟨(Below.heap_setCell _ _ _ _ (by show B ≠ B + 1; omega)).trans (blk_grown h.s hg (ne h.s (by omega))), blk_put (blk_grown h.c hg (ne h.c (by omega))) 3 _ rfl,
    (Below.heap_setCell _ _ _ _ (by show B + 2 ≠ B + 1; omega)).trans (blk_grown h.r hg (ne h.r (by omega))), (Below.heap_setCell _ _ _ _ (by show B + 3 ≠ B + 1; omega)).trans (blk_grown h.q hg (ne h.q (by omega))),
    Kd.V_far (Kd.V_after h.gl hg hat) (fun k hk => (okS_ne hk.1).2.1) _, Kd.V_far (Kd.V_after h.gb hg hat) (fun k hk => (okS_ne hk.1).2.1) _, Kd.N_far hN (fun k hk => (okS_ne hk).2.1) _⟩
def finS (w : World) (B : Nat) (v0 v1 v2 v3 v4 : Value) : World := ((((w.setCell ⟨B + 2, 0, none⟩ v0).setCell ⟨B + 2, 1, none⟩ v1).setCell ⟨B + 2, 2, none⟩ v2).setCell ⟨B + 2, 3, none⟩ v3).setCell ⟨B + 2, 4, none⟩ v4
def finC (w : World) (B : Nat) (u1 u2 : Value) : World := (((w.setCell ⟨B + 3, 0, none⟩ (.bool true)).setCell ⟨B + 3, 1, none⟩ (.slice none 0 0)).setCell ⟨B + 3, 2, none⟩ u1).setCell ⟨B + 3, 3, none⟩ u2
def fin (w : World) (B : Nat) (v0 v1 v2 v3 v4 u1 u2 : Value) : World := (finC (finS w B v0 v1 v2 v3 v4) B u1 u2).drew
theorem finS_block (w : World) (B : Nat) (v0 v1 v2 v3 v4 : Value) (k : Nat) (h2 : k ≠ B + 2) : (finS w B v0 v1 v2 v3 v4).heap[k]? = w.heap[k]? := by
  unfold finS
  rw [Below.heap_setCell _ _ _ _ h2, Below.heap_setCell _ _ _ _ h2, Below.heap_setCell _ _ _ _ h2, Below.heap_setCell _ _ _ _ h2, Below.heap_setCell _ _ _ _ h2]
theorem finC_block (w : World) (B : Nat) (u1 u2 : Value) (k : Nat) (h3 : k ≠ B + 3) : (finC w B u1 u2).heap[k]? = w.heap[k]? := by
  unfold finC
  rw [Below.heap_setCell _ _ _ _ h3, Below.heap_setCell _ _ _ _ h3, Below.heap_setCell _ _ _ _ h3, Below.heap_setCell _ _ _ _ h3]
theorem below_cell {B : Nat} {w0 w : World} (h : Below B w0 w) {g : Nat} (hg : B ≤ g) (j : Nat) (u : Value) : Below B w0 (w.setCell ⟨g, j, none⟩ u) := h.setCell hg u
theorem fin0_block (w : World) (B : Nat) (v0 v1 v2 v3 v4 u1 u2 : Value) (k : Nat) (h2 : k ≠ B + 2) (h3 : k ≠ B + 3) : (finC (finS w B v0 v1 v2 v3 v4) B u1 u2).heap[k]? = w.heap[k]? := by
  rw [finC_block _ _ _ _ _ h3, finS_block _ _ _ _ _ _ _ _ h2]
theorem fin0_below {w0 w : World} {B : Nat} (h : Below B w0 w) (v0 v1 v2 v3 v4 u1 u2 : Value) : Below B w0 (finC (finS w B v0 v1 v2 v3 v4) B u1 u2) := by
  have l2 : B ≤ B + 2 := by omega
  have l3 : B ≤ B + 3 := by omega
  have h5 : Below B w0 (finS w B v0 v1 v2 v3 v4) := below_cell (below_cell (below_cell (below_cell (below_cell h l2 _ _) l2 _ _) l2 _ _) l2 _ _) l2 _ _
  exact below_cell (below_cell (below_cell (below_cell h5 l3 _ _) l3 _ _) l3 _ _) l3 _ _
theorem fin_below {w0 w : World} {B : Nat} (h : Below B w0 w) (v0 v1 v2 v3 v4 u1 u2 : Value) : Below B w0 (fin w B v0 v1 v2 v3 v4 u1 u2) := (fin0_below h v0 v1 v2 v3 v4 u1 u2).drew
def FinOk (B : Nat) (P : Nat → Prop) (W : World) (l1 bs : List ByteArray) (K1 i1 st1 wr1 : Int) (sd : List (List ByteArray)) (v1 vb vs : Value) : Prop :=
  W.heap[B + 2]? = some (.cells #[v1, .int .i64 K1, .int .i64 i1, .int .i64 st1, .int .i64 wr1] 50 (0, 0)) ∧ W.heap[B + 3]? = some (.cells #[.bool true, .slice none 0 0, vb, vs] 37 (0, 0)) ∧
    Kd.V Kd.string 9 W B (fun k => P k ∨ B ≤ k) v1 l1 ∧ Kd.V Kd.string 9 W B (fun k => P k ∨ B ≤ k) vb bs ∧ Kd.N (Kd.slice 9 Kd.string) 22 W B (fun k => P k ∨ B ≤ k) vs sd
theorem SB.fin0 (h : SB B P w l K i st wr bs sd vl vb vs) (hv : Kd.V Kd.string 9 w B (fun k => okS B P k ∧ some k ≠ vs.ownBlock) v1 l1) : FinOk B P (finC (finS w B v1 (.int .i64 K1) (.int .i64 i1) (.int .i64 st1) (.int .i64 wr1)) B vb vs) l1 bs K1 i1 st1 wr1 sd v1 vb vs := by
  have ok : ∀ k, okS B P k → P k ∨ B ≤ k := fun k hk => hk.elim (fun h => .inl h.1) (fun h => .inr (by omega))
  refine ⟨?_, ?_, Kd.V_mono (Kd.V_step hv (fun k hk _ => fin0_block _ _ _ _ _ _ _ _ _ _ (okS_ne hk.1).2.2.1 (okS_ne hk.1).2.2.2)) (fun k hk => ok k hk.1), Kd.V_mono (Kd.V_step h.gb (fun k hk _ => fin0_block _ _ _ _ _ _ _ _ _ _ (okS_ne hk.1).2.2.1 (okS_ne hk.1).2.2.2)) (fun k hk => ok k hk.1),
    Kd.N_mono (Kd.N_lower (Kd.N_step h.gs (fun k hk _ => fin0_block _ _ _ _ _ _ _ _ _ _ (okS_ne hk).2.2.1 (okS_ne hk).2.2.2)) (by omega)) ok⟩
  · rw [finC_block _ _ _ _ _ (by omega)]
    exact blk_put (blk_put (blk_put (blk_put (blk_put h.r 0 _ rfl) 1 _ rfl) 2 _ rfl) 3 _ rfl) 4 _ rfl
  · have h2 : (finS w B v1 (.int .i64 K1) (.int .i64 i1) (.int .i64 st1) (.int .i64 wr1)).heap[B + 3]? = _ := (finS_block _ _ _ _ _ _ _ _ (by omega)).trans h.q
    exact blk_put (blk_put (blk_put (blk_put h2 0 _ rfl) 1 _ rfl) 2 _ rfl) 3 _ rfl
theorem FinOk.drew {W : World} (h : FinOk B P W l1 bs K1 i1 st1 wr1 sd v1 vb vs) : FinOk B P W.drew l1 bs K1 i1 st1 wr1 sd v1 vb vs :=
  ⟨blk_drew h.1 , blk_drew h.2.1, Kd.V_drew h.2.2.1, Kd.V_drew h.2.2.2.1, Kd.N_drew h.2.2.2.2⟩
theorem SB.fin (h : SB B P w l K i st wr bs sd vl vb vs) : FinOk B P (fin w B vl (.int .i64 K) (.int .i64 i) (.int .i64 st) (.int .i64 wr) vb vs) l bs K i st wr sd vl vb vs := (h.fin0 h.gl).drew
end
end Go.Proofs.YtcnjbmdnnhbfkaaDoor.Ref13
