/- sennitref13.Parse: what it computes, and its walk. (Written by tools/mkr13c.py.) -/
import Derived.Test.YtcnjbmdnnhbfkaaDoorR13B
import Derived.Test.YtcnjbmdnnhbfkaaDoorUnmark5
import Derived.Deep.QuietTactic
import Derived.BigQuiet
namespace Go.Proofs.YtcnjbmdnnhbfkaaDoor.Ref13
open Go.RowKit Go.Proofs.YtcnjbmdnnhbfkaaDoor.XD Go.Proofs.YtcnjbmdnnhbfkaaDoor.XQ Go.Proofs.YtcnjbmdnnhbfkaaDoorW.PrintWords Go.Proofs.YtcnjbmdnnhbfkaaDoorW.PrintLast Go.Proofs.YtcnjbmdnnhbfkaaDoorW.PrintMore
set_option linter.unusedSimpArgs false
set_option linter.unusedVariables false
def addT (out : List S37) (x : List ByteArray) : List S37 := if (x.length : Int) > 0 then out ++ [⟨false, x, [], []⟩] else out
def parseF : Nat → Nat → List ByteArray → Int → Int → Int → Int → List S37 → Option (List S37 × Int × Int × Int)
  | 0, _, _, _, _, _, _, _ => none
  | k + 1, n, l, K, i, st, wr, out =>
    if i < (n : Int) ∧ wr = 0 then
      (sennitref13_outside.f k l K i st wr).bind fun t =>
      if out.length ≤ 1000000 then
        if t.2.2.2.2.1 > 0 ∨ t.2.2.1 = (n : Int) then parseF k n t.1 t.2.1 t.2.2.1 t.2.2.2.1 t.2.2.2.2.1 (addT out t.2.2.2.2.2)
        else (sennitref13_fits.f k t.1 t.2.1 t.2.2.1 t.2.2.2.1 t.2.2.2.2.1 ⟨#[60]⟩ ⟨#[32, 49]⟩).bind fun f =>
          if f = 1 then (sidesF k t.1 t.2.1 (wrap64 (t.2.2.1 + 1)) t.2.2.2.1 t.2.2.2.2.1 [] [] false).bind fun u => parseF k n u.1 u.2.1 u.2.2.1 u.2.2.2.1 u.2.2.2.2.1 (addT out t.2.2.2.2.2 ++ [⟨true, [], u.2.2.2.2.2.1, u.2.2.2.2.2.2⟩])
          else (sennitref13_bad.f t.1 t.2.1 t.2.2.1 t.2.2.2.1 t.2.2.2.2.1).bind fun z => parseF k n z.1 z.2.1 z.2.2.1 z.2.2.2.1 z.2.2.2.2 (addT out t.2.2.2.2.2)
      else none
    else if wr > 0 then some ([], 0, wr, 2) else some (out, max st 1, 0, 0)
def okP (g : Nat) (P : Nat → Prop) (k : Nat) : Prop := (P k ∧ k < g) ∨ g + 1 ≤ k
theorem okP_ne {g : Nat} {P : Nat → Prop} {k : Nat} (h : okP g P k) : k ≠ g := by
  rcases h with ⟨_, h⟩ | h <;> omega
structure PB (g : Nat) (P : Nat → Prop) (w : World) (l : List ByteArray) (K i st wr : Int) (out : List S37) (vl vo : Value) : Prop where
  s : w.heap[g]? = some (.cells #[vl, .int .i64 K, .int .i64 i, .int .i64 st, .int .i64 wr] 50 (0, 0))
  gl : Kd.V Kd.string 9 w g (fun k => okP g P k ∧ some k ≠ vo.ownBlock) vl l
  go : Kd.N k37 37 w (g + 1) (okP g P) vo out
section
variable {g : Nat} {P : Nat → Prop} {w w1 : World} {l l1 q : List ByteArray} {K i st wr K1 i1 st1 wr1 : Int} {out : List S37} {x : S37} {vl vo v1 vq : Value}
theorem PB.below (h : PB g P w l K i st wr out vl vo) (hb : Below w.heap.size w w1) : PB g P w1 l K i st wr out vl vo := ⟨blk_below h.s hb, Kd.V_below h.gl hb, Kd.N_below h.go hb⟩
theorem PB.size (h : PB g P w l K i st wr out vl vo) : g + 1 ≤ w.heap.size := blk_lt h.s
theorem PB.told {α : Type} {d : Kd α} {t : Nat} {q : List α} (h : PB g P w l K i st wr out vl vo) (hv : Kd.V d t w1 w.heap.size (fun k => (okP g P k ∧ some k ≠ vo.ownBlock) ∨ w.heap.size ≤ k) vq q) : Kd.V d t w1 g (fun k => okP g P k ∧ some k ≠ vo.ownBlock) vq q :=
  Kd.V_mono hv (fun k hk => hk.elim (fun h => h) (fun hk => ⟨.inr (by have := h.size; omega), fun e => by have := Kd.N_lt h.go k e.symm; omega⟩))
theorem PB.state (h : PB g P w l K i st wr out vl vo) (hv : Kd.V Kd.string 9 w g (fun k => okP g P k ∧ some k ≠ vo.ownBlock) v1 l1) :
    PB g P (((((w.setCell ⟨g, 0, none⟩ v1).setCell ⟨g, 1, none⟩ (.int .i64 K1)).setCell ⟨g, 2, none⟩ (.int .i64 i1)).setCell ⟨g, 3, none⟩ (.int .i64 st1)).setCell ⟨g, 4, none⟩ (.int .i64 wr1)) l1 K1 i1 st1 wr1 out v1 vo :=
  ⟨blk_put (blk_put (blk_put (blk_put (blk_put h.s 0 _ rfl) 1 _ rfl) 2 _ rfl) 3 _ rfl) 4 _ rfl,
    Kd.V_far (Kd.V_far (Kd.V_far (Kd.V_far (Kd.V_far hv (fun _ hk => okP_ne hk.1) _) (fun _ hk => okP_ne hk.1) _) (fun _ hk => okP_ne hk.1) _) (fun _ hk => okP_ne hk.1) _) (fun _ hk => okP_ne hk.1) _,
    Kd.N_far (Kd.N_far (Kd.N_far (Kd.N_far (Kd.N_far h.go (fun _ hk => okP_ne hk) _) (fun _ hk => okP_ne hk) _) (fun _ hk => okP_ne hk) _) (fun _ hk => okP_ne hk) _) (fun _ hk => okP_ne hk) _⟩
theorem PB.at2 (h : PB g P w l K i st wr out vl vo) : PB g P (w.setCell ⟨g, 2, none⟩ (.int .i64 i1)) l K i1 st wr out vl vo :=
  ⟨blk_put h.s 2 _ rfl, Kd.V_far h.gl (fun _ hk => okP_ne hk.1) _, Kd.N_far h.go (fun _ hk => okP_ne hk) _⟩
theorem PB.more (h : PB g P w l K i st wr out vl vo) (hg : w.grownBy w1 vo.ownBlock) (hat : v1.ownBlock = vo.ownBlock ∨ ∃ b, v1.ownBlock = some b ∧ w.heap.size ≤ b) (hN : Kd.N k37 37 w1 (g + 1) (okP g P) v1 (out ++ [x])) : PB g P w1 l K i st wr (out ++ [x]) vl v1 :=
  ⟨blk_grown h.s hg (fun e => by have := Kd.N_base h.go _ e.symm; omega), Kd.V_after h.gl hg hat, hN⟩
theorem PB.start (w : World) (P : Nat → Prop) (A : Option Addr) (c : Nat) (l : List ByteArray) (K : Int) (h : Kd.V Kd.string 9 w w.heap.size P (.slice A l.length c) l) (w1 : World)
    (hb : w1.heap[w.heap.size]? = some (.cells #[.slice A l.length c, .int .i64 K, .int .i64 0, .int .i64 0, .int .i64 0] 50 (0, 0))) (hw : Below w.heap.size w w1) : PB w.heap.size P w1 l K 0 0 0 [] (.slice A l.length c) (.slice none 0 0) :=
  ⟨hb, Kd.V_mono (Kd.V_below (Kd.V_bound h) hw) (fun k hk => ⟨.inl hk, by simp [Value.ownBlock]⟩), Kd.N_nil _ _ _ _ _⟩
end
def POut (w : World) (P : Nat → Prop) (r : List S37 × Int × Int × Int) (e : Ending) (w' : World) : Prop :=
  ∃ v0, e = .returned (.tuple #[v0, .int .i64 r.2.1, .int .i64 r.2.2.1, .int .i64 r.2.2.2]) ∧ Kd.V k37 37 w' w.heap.size (fun k => P k ∨ w.heap.size ≤ k) v0 r.1 ∧ Below w.heap.size w w'
set_option maxHeartbeats 8000000 in
set_option maxRecDepth 100000 in
theorem parse_any (k : Nat) (P : Nat → Prop) (A : Option Addr) (c : Nat) (l : List ByteArray) (K : Int) (r : List S37 × Int × Int × Int) (w : World) (hs : Kd.V Kd.string 9 w w.heap.size P (.slice A l.length c) l) (hK1 : 1 ≤ K) (hK2 : K ≤ 4096) (h : parseF k l.length l K 0 0 0 [] = some r) :
    Calls Tryd.prog 10 #[.slice A l.length c, .int .i64 K] w (POut w P r) := by
  have hu50 := Tryd.underlying50
  have hu37 := Tryd.underlying37
  have H0 := Aside0.mk h
  have HS0 := Aside0.mk hs
  have hlm := Kd.F_max (Kd.V_F hs)
  have k1b : decide (K < 1) = false := decide_eq_false (by omega)
  have k2b : decide (K > 4096) = false := decide_eq_false (by omega)
  clear hs h
  go_enter Tryd.func10, Tryd.ntmps10
  go_wp2_with (((with_reducible refine gate_dst (N := 8) rfl ?_); refine box_event ?hg (N := 8) ?hd (cs := #[.slice none 0 0, .int .i64 0, .int .i64 0, .int .i64 0, .int .i64 0]) (t := 50) ?hr ?_; (case hd => rfl); (case hg => rfl); (case hr => first | (go_simp; done) | (go_simp; rfl)); intro gb hg w7 hbox hb; subst hg; have e0 : w7.cell? ⟨w.heap.size, 0, none⟩ = some (.slice none 0 0) := (blk_cell hbox 0).trans rfl; have e1 : w7.cell? ⟨w.heap.size, 1, none⟩ = some (.int .i64 0) := (blk_cell hbox 1).trans rfl; have e2 : w7.cell? ⟨w.heap.size, 2, none⟩ = some (.int .i64 0) := (blk_cell hbox 2).trans rfl; have e3 : w7.cell? ⟨w.heap.size, 3, none⟩ = some (.int .i64 0) := (blk_cell hbox 3).trans rfl; have e4 : w7.cell? ⟨w.heap.size, 4, none⟩ = some (.int .i64 0) := (blk_cell hbox 4).trans rfl; have y0 := blk_frozen hbox 0; have y1 := blk_frozen hbox 1; have y2 := blk_frozen hbox 2; have y3 := blk_frozen hbox 3; have y4 := blk_frozen hbox 4))
  clear e0 e1 e2 e3 e4 y0 y1 y2 y3 y4 k1b k2b
  go_loopg [9] k (fun gg s9 wr_ => ∃ (l1 : List ByteArray) (K1 i1 st1 e1 : Int) (out : List S37) (vl : Value), Aside0 (parseF gg l.length l1 K1 i1 st1 e1 out = some r) ∧ Aside0 (PB w.heap.size P wr_ l1 K1 i1 st1 e1 out vl s9) ∧ Aside0 (Below w.heap.size w wr_))
  case atStart => exact ⟨l, K, 0, 0, 0, [], _, H0, ⟨PB.start w P A c l K HS0.out _ (blk_put (blk_put (blk_put (blk_put (blk_put hbox 0 _ rfl) 1 _ rfl) 2 _ rfl) 3 _ rfl) 4 _ rfl) (below_cell (below_cell (below_cell (below_cell (below_cell hb (Nat.le_refl _) _ _) (Nat.le_refl _) _ _) (Nat.le_refl _) _ _) (Nat.le_refl _) _ _) (Nat.le_refl _) _ _)⟩, ⟨below_cell (below_cell (below_cell (below_cell (below_cell hb (Nat.le_refl _) _ _) (Nat.le_refl _) _ _) (Nat.le_refl _) _ _) (Nat.le_refl _) _ _) (Nat.le_refl _) _ _⟩⟩
  case round =>
    clear H0 HS0 hbox hb
    obtain ⟨l1, K1, i1, st1, e1, out, vl, HA, HS, HB⟩ := hrel
    cases gk with
    | zero => exact absurd HA.out (by simp [parseF])
    | succ k1 =>
      have HX := HA.out
      clear HA
      simp only [parseF] at HX
      obtain ⟨Al, cl, e⟩ := Kd.V_slice HS.out.gl
      subst e
      obtain ⟨Ao, co, e⟩ := Kd.N_slice HS.out.go
      subst e
      have c0 : wr.cell? ⟨w.heap.size, 0, none⟩ = some (.slice Al l1.length cl) := (blk_cell HS.out.s 0).trans rfl
      have c1 : wr.cell? ⟨w.heap.size, 1, none⟩ = some (.int .i64 K1) := (blk_cell HS.out.s 1).trans rfl
      have c2 : wr.cell? ⟨w.heap.size, 2, none⟩ = some (.int .i64 i1) := (blk_cell HS.out.s 2).trans rfl
      have c3 : wr.cell? ⟨w.heap.size, 3, none⟩ = some (.int .i64 st1) := (blk_cell HS.out.s 3).trans rfl
      have c4 : wr.cell? ⟨w.heap.size, 4, none⟩ = some (.int .i64 e1) := (blk_cell HS.out.s 4).trans rfl
      by_cases hc : i1 < (l.length : Int) ∧ e1 = 0
      · rw [if_pos hc] at HX
        obtain ⟨hc1, hc2⟩ := hc
        subst hc2
        obtain ⟨⟨l2, K2, i2, st2, e2, x⟩, A1, H⟩ := Option.bind_eq_some_iff.mp HX
        clear HX
        by_cases hl : out.length ≤ 1000000
        case neg => rw [if_neg hl] at H; cases H
        rw [if_pos hl] at H
        replace H := Aside0.mk H
        have HC := Aside0.mk (sennitref13_outside.calls k1 _ Al cl l1 K1 i1 st1 0 l2 K2 i2 st2 e2 x wr HS.out.gl A1)
        clear A1
        have h00 : ((0 : Int) == 0) = true := rfl
        go_wp2_with (fail)
        (with_reducible refine HC.out.mono ?_)
        rintro e w6 ⟨v1, v5, rfl, hV1, hV5, hb6⟩
        obtain ⟨A1', cc1, rfl⟩ := Kd.V_slice hV1
        obtain ⟨A5, cc5, rfl⟩ := Kd.V_slice hV5
        have S6 := Aside0.mk (HS.out.below hb6)
        have V1 := Aside0.mk (HS.out.told hV1)
        have V5 := Aside0.mk (HS.out.told hV5)
        have B6 := Aside0.mk (HB.out.trans (hb6.mono HB.out.size))
        clear HC hb6 hV1 hV5 HS HB c0 c1 c2 c3 c4 hc1 h00
        have hz := S6.out.size
        go_upto_region 8 with (((with_reducible refine gate_dst (N := 10) rfl ?_); refine box_event ?hg (N := 10) ?hd (cs := #[.slice none 0 0, .int .i64 0, .int .i64 0, .int .i64 0, .int .i64 0]) (t := 50) ?hr ?_; (case hd => rfl); (case hg => rfl); (case hr => first | (go_simp; done) | (go_simp; rfl)); intro gb hg w7 hbox hb; have S7 := Aside0.mk (S6.out.below hb); have hnb : gb ≠ w.heap.size := (by omega); have hnc : w.heap.size ≠ gb := (by omega); have c0 : w7.cell? ⟨w.heap.size, 0, none⟩ = some (.slice Al l1.length cl) := (blk_cell S7.out.s 0).trans rfl; have f0 := blk_frozen S7.out.s 0; have d0 : w7.cell? ⟨gb, 0, none⟩ = some (.slice none 0 0) := (blk_cell hbox 0).trans rfl; have g0 := blk_frozen hbox 0; have c1 : w7.cell? ⟨w.heap.size, 1, none⟩ = some (.int .i64 K1) := (blk_cell S7.out.s 1).trans rfl; have f1 := blk_frozen S7.out.s 1; have d1 : w7.cell? ⟨gb, 1, none⟩ = some (.int .i64 0) := (blk_cell hbox 1).trans rfl; have g1 := blk_frozen hbox 1; have c2 : w7.cell? ⟨w.heap.size, 2, none⟩ = some (.int .i64 i1) := (blk_cell S7.out.s 2).trans rfl; have f2 := blk_frozen S7.out.s 2; have d2 : w7.cell? ⟨gb, 2, none⟩ = some (.int .i64 0) := (blk_cell hbox 2).trans rfl; have g2 := blk_frozen hbox 2; have c3 : w7.cell? ⟨w.heap.size, 3, none⟩ = some (.int .i64 st1) := (blk_cell S7.out.s 3).trans rfl; have f3 := blk_frozen S7.out.s 3; have d3 : w7.cell? ⟨gb, 3, none⟩ = some (.int .i64 0) := (blk_cell hbox 3).trans rfl; have g3 := blk_frozen hbox 3; have c4 : w7.cell? ⟨w.heap.size, 4, none⟩ = some (.int .i64 0) := (blk_cell S7.out.s 4).trans rfl; have f4 := blk_frozen S7.out.s 4; have d4 : w7.cell? ⟨gb, 4, none⟩ = some (.int .i64 0) := (blk_cell hbox 4).trans rfl; have g4 := blk_frozen hbox 4; have hB7 := hb; clear S7 hb; replace hg := Nat.le_of_eq hg.symm))
        refine wp_world (X := fun W => Aside0 (PB w.heap.size P W l2 K2 i2 st2 e2 out (.slice A1' l2.length cc1) (.slice Ao out.length co)) ∧ Aside0 (Kd.V Kd.string 9 W w.heap.size (fun k => okP w.heap.size P k ∧ some k ≠ (Value.slice Ao out.length co).ownBlock) (.slice A5 x.length cc5) x) ∧ Aside0 (Below w.heap.size w W)) ?_ ?_
        · have HB5 := below_cell (below_cell (below_cell (below_cell (below_cell hB7 hg 0 (.slice A1' l2.length cc1)) hg 1 (.int .i64 K2)) hg 2 (.int .i64 i2)) hg 3 (.int .i64 st2)) hg 4 (.int .i64 e2)
          have hS := (S6.out.below HB5).state (K1 := K2) (i1 := i2) (st1 := st2) (wr1 := e2) (Kd.V_below V1.out HB5)
          exact ⟨⟨hS⟩, ⟨Kd.V_far (Kd.V_far (Kd.V_far (Kd.V_far (Kd.V_far (Kd.V_below V5.out HB5) (fun _ hk => okP_ne hk.1) _) (fun _ hk => okP_ne hk.1) _) (fun _ hk => okP_ne hk.1) _) (fun _ hk => okP_ne hk.1) _) (fun _ hk => okP_ne hk.1) _⟩, ⟨below_cell (below_cell (below_cell (below_cell (below_cell (B6.out.trans (HB5.mono B6.out.size)) (Nat.le_refl _) _ _) (Nat.le_refl _) _ _) (Nat.le_refl _) _ _) (Nat.le_refl _) _ _) (Nat.le_refl _) _ _⟩⟩
        clear V1 V5 S6 B6 hz hg hB7 hnb hnc hbox c0 f0 c1 f1 c2 f2 c3 f3 c4 f4 d0 g0 d1 g1 d2 g2 d3 g3 d4 g4
        rintro w8 ⟨S8, V5, B8⟩
        have hzA := S8.out.size
        go_upto_if 41 with (fail)
        go_cut [9] (fun v9 wc => Aside0 (PB w.heap.size P wc l2 K2 i2 st2 e2 (addT out x) (.slice A1' l2.length cc1) v9) ∧ Aside0 (Below w.heap.size w wc))
        case first =>
          by_cases hx : 0 < x.length
          · have hxz : (0 : Int) < (x.length : Int) := by omega
            have hAT := Aside0.mk (show addT out x = out ++ [⟨false, x, [], []⟩] from if_pos (by omega))
            have hokp : ∀ k, (okP w.heap.size P k ∧ some k ≠ (Value.slice Ao out.length co).ownBlock) → okP w.heap.size P k ∧ some k ≠ (Value.slice Ao out.length co).ownBlock := fun _ hk => hk
            have hFK : Kd.FK k37 w8 (fun k => okP w.heap.size P k ∧ some k ≠ (Value.slice Ao out.length co).ownBlock) ⟨false, x, [], []⟩ [.bool false, .slice A5 x.length cc5, .slice none 0 0, .slice none 0 0] := k37_mkF _ _ ⟨false, x, [], []⟩ (Kd.V_at V5.out).2.1 (Kd.V_at V5.out).2.2 (Nat.le_refl _) (Kd.F_nil _ _ _) (Nat.le_refl _) (Kd.F_nil _ _ _)
            go_wp2_with (at_builtin; refine Kd.N_append k37 (w.heap.size + 1) rfl (.tmp 42) (.tmp 45) 25 37 (.agg #[(.bool false), (.slice none 0 0), (.slice none 0 0), (.slice none 0 0)]) 80 rfl Tryd.underlying25 info37 rfl (by decide) (by decide) (.slice Ao out.length co) (out) ⟨false, x, [], []⟩ [.bool false, .slice A5 x.length cc5, .slice none 0 0, .slice none 0 0] (okP w.heap.size P) _ rfl rfl hFK hokp (fun k hk => .inr (Nat.le_trans hzA hk)) S8.out.go (Below.refl _ _) hzA (by omega) ?_; intro v3 w17 hN hB1 hg1 hat1; have S9 := Aside0.mk (S8.out.more hg1 hat1 hN); have B9 := Aside0.mk (B8.out.trans (hB1.mono (by omega))); clear hN hB1 hg1 hat1)
            go_meet
            case rel => exact ⟨⟨by rw [hAT.out]; exact S9.out⟩, B9⟩
          · have hxz : ¬ (0 : Int) < (x.length : Int) := by omega
            have hAT := Aside0.mk (show addT out x = out from if_neg (by omega))
            go_wp2_with (fail)
            go_meet
            case rel => exact ⟨⟨by rw [hAT.out]; exact S8.out⟩, B8⟩
        case rest =>
          obtain ⟨S10, B10⟩ := hcut
          clear S8 B8 V5 hzA
          obtain ⟨out2, ho2⟩ : ∃ o, addT out x = o := ⟨_, rfl⟩
          have hol : out2.length ≤ 1000001 := by rw [← ho2]; unfold addT; split <;> (try rw [List.length_append]) <;> (try simp only [List.length_cons, List.length_nil]) <;> omega
          have HQ := H.out
          have hS := S10.out
          clear H S10
          rw [ho2] at hS
          simp only [ho2] at HQ
          clear ho2 hl
          obtain ⟨Ao2, co2, e⟩ := Kd.N_slice hS.go
          subst e
          have S10 := Aside0.mk hS
          clear hS
          have c0 : wc.cell? ⟨w.heap.size, 0, none⟩ = some (.slice A1' l2.length cc1) := (blk_cell S10.out.s 0).trans rfl
          have c1 : wc.cell? ⟨w.heap.size, 1, none⟩ = some (.int .i64 K2) := (blk_cell S10.out.s 1).trans rfl
          have c2 : wc.cell? ⟨w.heap.size, 2, none⟩ = some (.int .i64 i2) := (blk_cell S10.out.s 2).trans rfl
          have c3 : wc.cell? ⟨w.heap.size, 3, none⟩ = some (.int .i64 st2) := (blk_cell S10.out.s 3).trans rfl
          have c4 : wc.cell? ⟨w.heap.size, 4, none⟩ = some (.int .i64 e2) := (blk_cell S10.out.s 4).trans rfl
          by_cases hq : e2 > 0 ∨ i2 = (l.length : Int)
          · rw [if_pos hq] at HQ
            replace HQ := Aside0.mk HQ
            by_cases hw : e2 > 0
            · clear hq
              go_wp2_with (fail)
              go_roundg k1
              case measure => omega
              case rel => exact ⟨l2, K2, i2, st2, e2, out2, _, HQ, S10, B10⟩
            · have hi : i2 = (l.length : Int) := hq.resolve_left hw
              have hib : (i2 == (l.length : Int)) = true := beq_iff_eq.2 hi
              replace hw : e2 ≤ 0 := Int.not_lt.1 hw
              clear hq hi
              go_wp2_with (fail)
              go_roundg k1
              case measure => omega
              case rel => exact ⟨l2, K2, i2, st2, e2, out2, _, HQ, S10, B10⟩
          · rw [if_neg hq] at HQ
            have hib : (i2 == (l.length : Int)) = false := beq_eq_false_iff_ne.2 (fun e => hq (.inr e))
            have hw : e2 ≤ 0 := Int.not_lt.1 (fun e => hq (.inl e))
            clear hq
            obtain ⟨f, AF, HQ⟩ := Option.bind_eq_some_iff.mp HQ
            have HC11 := Aside0.mk (sennitref13_fits.calls k1 A1' cc1 l2 K2 i2 st2 e2 ⟨#[60]⟩ ⟨#[32, 49]⟩ f wc (Kd.V_reads' S10.out.gl).2.2 (Kd.V_reads' S10.out.gl).2.1 AF)
            clear AF
            replace HQ := Aside0.mk HQ
            go_wp2_with (fail)
            (with_reducible refine HC11.out.mono ?_)
            rintro z w11 ⟨rfl, hb11⟩
            have S11 := Aside0.mk (S10.out.below hb11)
            have B11 := Aside0.mk (B10.out.trans (hb11.mono B10.out.size))
            clear HC11 hb11 S10 B10 c0 c1 c2 c3 c4
            have c0 : w11.cell? ⟨w.heap.size, 0, none⟩ = some (.slice A1' l2.length cc1) := (blk_cell S11.out.s 0).trans rfl
            have y0 := blk_frozen S11.out.s 0
            have c1 : w11.cell? ⟨w.heap.size, 1, none⟩ = some (.int .i64 K2) := (blk_cell S11.out.s 1).trans rfl
            have y1 := blk_frozen S11.out.s 1
            have c2 : w11.cell? ⟨w.heap.size, 2, none⟩ = some (.int .i64 i2) := (blk_cell S11.out.s 2).trans rfl
            have y2 := blk_frozen S11.out.s 2
            have c3 : w11.cell? ⟨w.heap.size, 3, none⟩ = some (.int .i64 st2) := (blk_cell S11.out.s 3).trans rfl
            have y3 := blk_frozen S11.out.s 3
            have c4 : w11.cell? ⟨w.heap.size, 4, none⟩ = some (.int .i64 e2) := (blk_cell S11.out.s 4).trans rfl
            have y4 := blk_frozen S11.out.s 4
            by_cases hf : f = 1
            · subst hf
              have h1 : ((1 : Int) != 1) = false := rfl
              have HX := HQ.out
              rw [if_pos rfl] at HX
              obtain ⟨⟨l3, K3, i3, st3, e3, bs, sd⟩, AS, HX⟩ := Option.bind_eq_some_iff.mp HX
              clear HQ
              replace HQ := Aside0.mk HX
              clear HX
              go_upto_region 14 with (fail)
              refine wp_world (X := fun W => Aside0 (PB w.heap.size P W l2 K2 (wrap64 (i2 + 1)) st2 e2 out2 (.slice A1' l2.length cc1) (.slice Ao2 out2.length co2)) ∧ Aside0 (Below w.heap.size w W)) ⟨⟨S11.out.at2⟩, ⟨below_cell B11.out (Nat.le_refl _) _ _⟩⟩ ?_
              clear S11 B11 c0 y0 c1 y1 c2 y2 c3 y3 c4 y4
              rintro w12 ⟨S12, B12⟩
              have HC14 := Aside0.mk (sides_any k1 _ A1' cc1 l2 K2 (wrap64 (i2 + 1)) st2 e2 (l3, K3, i3, st3, e3, bs, sd) w12 S12.out.gl AS)
              clear AS
              have c0 : w12.cell? ⟨w.heap.size, 0, none⟩ = some (.slice A1' l2.length cc1) := (blk_cell S12.out.s 0).trans rfl
              have y0 := blk_frozen S12.out.s 0
              have c1 : w12.cell? ⟨w.heap.size, 1, none⟩ = some (.int .i64 K2) := (blk_cell S12.out.s 1).trans rfl
              have y1 := blk_frozen S12.out.s 1
              have c2 : w12.cell? ⟨w.heap.size, 2, none⟩ = some (.int .i64 (wrap64 (i2 + 1))) := (blk_cell S12.out.s 2).trans rfl
              have y2 := blk_frozen S12.out.s 2
              have c3 : w12.cell? ⟨w.heap.size, 3, none⟩ = some (.int .i64 st2) := (blk_cell S12.out.s 3).trans rfl
              have y3 := blk_frozen S12.out.s 3
              have c4 : w12.cell? ⟨w.heap.size, 4, none⟩ = some (.int .i64 e2) := (blk_cell S12.out.s 4).trans rfl
              have y4 := blk_frozen S12.out.s 4
              go_wp2_with (fail)
              (with_reducible refine HC14.out.mono ?_)
              rintro z w13 ⟨v1, vb, vs, rfl, hV1, hVb, hNs, hb13⟩
              obtain ⟨A3, c3_, ez⟩ := Kd.V_slice hV1
              subst ez
              obtain ⟨Ab, cb, ez⟩ := Kd.V_slice hVb
              subst ez
              obtain ⟨As, cs, ez⟩ := Kd.N_slice hNs
              subst ez
              have S13 := Aside0.mk (S12.out.below hb13)
              have V13 := Aside0.mk (S12.out.told hV1)
              have Vb := Aside0.mk (S12.out.told hVb)
              have Vs := Aside0.mk (S12.out.told (Kd.N_V (base' := w12.heap.size) hNs))
              have B13 := Aside0.mk (B12.out.trans (hb13.mono B12.out.size))
              have hz13 := Aside0.mk S13.out.size
              clear HC14 hV1 hVb hNs hb13 S12 B12 c0 y0 c1 y1 c2 y2 c3 y3 c4 y4
              go_upto_region 16 with (first | ((with_reducible refine gate_dst (N := 12) rfl ?_); refine box_event ?hg (N := 12) ?hd (cs := #[.slice none 0 0, .int .i64 0, .int .i64 0, .int .i64 0, .int .i64 0]) (t := 50) ?hr ?_; (case hd => rfl); (case hg => rfl); (case hr => first | (go_simp; done) | (go_simp; rfl)); intro g12 hg12 w14 hbox12 hb14; have B12x := Aside0.mk hbox12; have L14 := Aside0.mk hb14; have G12 := Aside0.mk hg12; clear hbox12 hb14 hg12) | ((with_reducible refine gate_dst (N := 13) rfl ?_); refine box_event ?hg (N := 13) ?hd (cs := #[.bool false, .slice none 0 0, .slice none 0 0, .slice none 0 0]) (t := 37) ?hr ?_; (case hd => rfl); (case hg => rfl); (case hr => first | (go_simp; done) | (go_simp; rfl)); intro g13 hg13 w15 hbox13 hb15; have n12 : g12 ≠ w.heap.size := (by have := G12.out; have := hz13.out; omega); have n12' : w.heap.size ≠ g12 := (by omega); have n13 : g13 ≠ w.heap.size := (by have := hz13.out; have := L14.out.size; omega); have n13' : w.heap.size ≠ g13 := (by omega); have n23 : g12 ≠ g13 := (by have := blk_lt B12x.out; omega); have n32 : g13 ≠ g12 := (by omega); have L15 := Aside0.mk (L14.out.trans (hb15.mono L14.out.size)); have S15 := S13.out.below L15.out; have B12y := blk_below B12x.out hb15; have c0 : w15.cell? ⟨w.heap.size, 0, none⟩ = some (.slice A1' l2.length cc1) := (blk_cell S15.s 0).trans rfl; have y0 := blk_frozen S15.s 0; have c1 : w15.cell? ⟨w.heap.size, 1, none⟩ = some (.int .i64 K2) := (blk_cell S15.s 1).trans rfl; have y1 := blk_frozen S15.s 1; have c2 : w15.cell? ⟨w.heap.size, 2, none⟩ = some (.int .i64 (wrap64 (i2 + 1))) := (blk_cell S15.s 2).trans rfl; have y2 := blk_frozen S15.s 2; have c3 : w15.cell? ⟨w.heap.size, 3, none⟩ = some (.int .i64 st2) := (blk_cell S15.s 3).trans rfl; have y3 := blk_frozen S15.s 3; have c4 : w15.cell? ⟨w.heap.size, 4, none⟩ = some (.int .i64 e2) := (blk_cell S15.s 4).trans rfl; have y4 := blk_frozen S15.s 4; have d0 : w15.cell? ⟨g12, 0, none⟩ = some (.slice none 0 0) := (blk_cell B12y 0).trans rfl; have f0 := blk_frozen B12y 0; have d1 : w15.cell? ⟨g12, 1, none⟩ = some (.int .i64 0) := (blk_cell B12y 1).trans rfl; have f1 := blk_frozen B12y 1; have d2 : w15.cell? ⟨g12, 2, none⟩ = some (.int .i64 0) := (blk_cell B12y 2).trans rfl; have f2 := blk_frozen B12y 2; have d3 : w15.cell? ⟨g12, 3, none⟩ = some (.int .i64 0) := (blk_cell B12y 3).trans rfl; have f3 := blk_frozen B12y 3; have d4 : w15.cell? ⟨g12, 4, none⟩ = some (.int .i64 0) := (blk_cell B12y 4).trans rfl; have f4 := blk_frozen B12y 4; have h0 : w15.cell? ⟨g13, 0, none⟩ = some (.bool false) := (blk_cell hbox13 0).trans rfl; have m0 := blk_frozen hbox13 0; have h1 : w15.cell? ⟨g13, 1, none⟩ = some (.slice none 0 0) := (blk_cell hbox13 1).trans rfl; have m1 := blk_frozen hbox13 1; have h2 : w15.cell? ⟨g13, 2, none⟩ = some (.slice none 0 0) := (blk_cell hbox13 2).trans rfl; have m2 := blk_frozen hbox13 2; have h3 : w15.cell? ⟨g13, 3, none⟩ = some (.slice none 0 0) := (blk_cell hbox13 3).trans rfl; have m3 := blk_frozen hbox13 3; have G13 := Aside0.mk (show w13.heap.size ≤ g13 by have := L14.out.size; omega); clear hb15 hg13))
              refine wp_world (X := fun W => Aside0 (PB w.heap.size P W l3 K3 i3 st3 e3 out2 (.slice A3 l3.length c3_) (.slice Ao2 out2.length co2)) ∧ Aside0 (Kd.V Kd.string 9 W w.heap.size (fun k => okP w.heap.size P k ∧ some k ≠ (Value.slice Ao2 out2.length co2).ownBlock) (.slice Ab bs.length cb) bs) ∧ Aside0 (Kd.V (Kd.slice 9 Kd.string) 22 W w.heap.size (fun k => okP w.heap.size P k ∧ some k ≠ (Value.slice Ao2 out2.length co2).ownBlock) (.slice As sd.length cs) sd) ∧ Aside0 (W.heap[g13]? = some (.cells #[.bool true, .slice none 0 0, .slice Ab bs.length cb, .slice As sd.length cs] 37 (0, 0))) ∧ Aside0 (Below w.heap.size w W)) ?_ ?_
              · have g12s : w13.heap.size ≤ g12 := by have := G12.out; omega
                have HB9 := below_cell (below_cell (below_cell (below_cell (below_cell (below_cell (below_cell (below_cell (below_cell L15.out g12s 0 (.slice A3 l3.length c3_)) g12s 1 (.int .i64 K3)) g12s 2 (.int .i64 i3)) g12s 3 (.int .i64 st3)) g12s 4 (.int .i64 e3)) G13.out 0 (.bool true)) G13.out 1 (.slice none 0 0)) G13.out 2 (.slice Ab bs.length cb)) G13.out 3 (.slice As sd.length cs)
                have hS := (S13.out.below HB9).state (K1 := K3) (i1 := i3) (st1 := st3) (wr1 := e3) (Kd.V_below V13.out HB9)
                have far5 : ∀ {α : Type} {d : Kd α} {t : Nat} {v : Value} {x : List α}, Kd.V d t w13 w.heap.size (fun k => okP w.heap.size P k ∧ some k ≠ (Value.slice Ao2 out2.length co2).ownBlock) v x → _ := fun hv => Kd.V_far (Kd.V_far (Kd.V_far (Kd.V_far (Kd.V_far (Kd.V_below hv HB9) (fun _ hk => okP_ne hk.1) (p := ⟨w.heap.size, 0, none⟩) (.slice A3 l3.length c3_)) (fun _ hk => okP_ne hk.1) (p := ⟨w.heap.size, 1, none⟩) (.int .i64 K3)) (fun _ hk => okP_ne hk.1) (p := ⟨w.heap.size, 2, none⟩) (.int .i64 i3)) (fun _ hk => okP_ne hk.1) (p := ⟨w.heap.size, 3, none⟩) (.int .i64 st3)) (fun _ hk => okP_ne hk.1) (p := ⟨w.heap.size, 4, none⟩) (.int .i64 e3)
                refine ⟨⟨hS⟩, ⟨far5 Vb.out⟩, ⟨far5 Vs.out⟩, ⟨?_⟩, ⟨below_cell (below_cell (below_cell (below_cell (below_cell (B13.out.trans (HB9.mono B13.out.size)) (Nat.le_refl _) _ _) (Nat.le_refl _) _ _) (Nat.le_refl _) _ _) (Nat.le_refl _) _ _) (Nat.le_refl _) _ _⟩⟩
                refine (Below.heap_setCell _ _ _ _ n13).trans ((Below.heap_setCell _ _ _ _ n13).trans ((Below.heap_setCell _ _ _ _ n13).trans ((Below.heap_setCell _ _ _ _ n13).trans ((Below.heap_setCell _ _ _ _ n13).trans ?_))))
                refine blk_put (blk_put (blk_put (blk_put (cs := #[.bool false, .slice none 0 0, .slice none 0 0, .slice none 0 0]) ?_ 0 _ rfl) 1 _ rfl) 2 _ rfl) 3 _ rfl
                exact (Below.heap_setCell _ _ _ _ n32).trans ((Below.heap_setCell _ _ _ _ n32).trans ((Below.heap_setCell _ _ _ _ n32).trans ((Below.heap_setCell _ _ _ _ n32).trans ((Below.heap_setCell _ _ _ _ n32).trans hbox13))))
              clear S13 V13 Vb Vs B13 hz13 B12x L14 G12 L15 S15 B12y G13 hbox13 n12 n12' n13 n13' n23 n32 c0 y0 d0 f0 c1 y1 d1 f1 c2 y2 d2 f2 c3 y3 d3 f3 c4 y4 d4 f4 h0 m0 h1 m1 h2 m2 h3 m3
              rintro w16 ⟨S16, Vb, Vs, K13, B16⟩
              have hzA := S16.out.size
              have h0 : w16.cell? ⟨g13, 0, none⟩ = some (.bool true) := (blk_cell K13.out 0).trans rfl
              have h1' : w16.cell? ⟨g13, 1, none⟩ = some (.slice none 0 0) := (blk_cell K13.out 1).trans rfl
              have h2 : w16.cell? ⟨g13, 2, none⟩ = some (.slice Ab bs.length cb) := (blk_cell K13.out 2).trans rfl
              have h3 : w16.cell? ⟨g13, 3, none⟩ = some (.slice As sd.length cs) := (blk_cell K13.out 3).trans rfl
              have hokp : ∀ k, (okP w.heap.size P k ∧ some k ≠ (Value.slice Ao2 out2.length co2).ownBlock) → okP w.heap.size P k ∧ some k ≠ (Value.slice Ao2 out2.length co2).ownBlock := fun _ hk => hk
              have hFK : Kd.FK k37 w16 (fun k => okP w.heap.size P k ∧ some k ≠ (Value.slice Ao2 out2.length co2).ownBlock) ⟨true, [], bs, sd⟩ [.bool true, .slice none 0 0, .slice Ab bs.length cb, .slice As sd.length cs] := k37_mkF _ _ ⟨true, [], bs, sd⟩ (Nat.le_refl _) (Kd.F_nil _ _ _) (Kd.V_at Vb.out).2.1 (Kd.V_at Vb.out).2.2 (Kd.V_at Vs.out).2.1 (Kd.V_at Vs.out).2.2
              go_wp2_with (at_builtin; refine Kd.N_append k37 (w.heap.size + 1) rfl (.tmp 73) (.tmp 75) 25 37 (.agg #[(.bool false), (.slice none 0 0), (.slice none 0 0), (.slice none 0 0)]) 80 rfl Tryd.underlying25 info37 rfl (by decide) (by decide) (.slice Ao2 out2.length co2) out2 ⟨true, [], bs, sd⟩ [.bool true, .slice none 0 0, .slice Ab bs.length cb, .slice As sd.length cs] (okP w.heap.size P) _ rfl rfl hFK hokp (fun k hk => .inr (Nat.le_trans hzA hk)) S16.out.go (Below.refl _ _) hzA (by omega) ?_; intro v3 w17 hN hB1 hg1 hat1; have S17 := Aside0.mk (S16.out.more hg1 hat1 hN); have B17 := Aside0.mk (B16.out.trans (hB1.mono (by omega))); clear hN hB1 hg1 hat1 hFK hokp)
              go_roundg k1
              case measure => omega
              case rel => exact ⟨l3, K3, i3, st3, e3, _, _, HQ, S17, B17⟩
            · have h1 : (f == 1) = false := beq_eq_false_iff_ne.2 hf
              have h1b : (f != 1) = true := by rw [bne, h1]; rfl
              have HX := HQ.out
              rw [if_neg hf] at HX
              obtain ⟨⟨l3, K3, i3, st3, e3⟩, AB, HX⟩ := Option.bind_eq_some_iff.mp HX
              clear HQ hf
              replace HQ := Aside0.mk HX
              clear HX
              have HC12 := Aside0.mk (sennitref13_bad.calls _ A1' cc1 l2 K2 i2 st2 e2 l3 K3 i3 st3 e3 w11 S11.out.gl AB)
              clear AB
              go_wp2_with (fail)
              (with_reducible refine HC12.out.mono ?_)
              rintro z w12 ⟨vz, rfl, hVz, hb12⟩
              obtain ⟨Az, cz, ez⟩ := Kd.V_slice hVz
              subst ez
              have S12 := Aside0.mk (S11.out.below hb12)
              have V12 := Aside0.mk (S11.out.told hVz)
              have B12 := Aside0.mk (B11.out.trans (hb12.mono B11.out.size))
              clear HC12 hb12 hVz S11 B11 c0 y0 c1 y1 c2 y2 c3 y3 c4 y4
              have c0 : w12.cell? ⟨w.heap.size, 0, none⟩ = some (.slice A1' l2.length cc1) := (blk_cell S12.out.s 0).trans rfl
              have y0 := blk_frozen S12.out.s 0
              have c1 : w12.cell? ⟨w.heap.size, 1, none⟩ = some (.int .i64 K2) := (blk_cell S12.out.s 1).trans rfl
              have y1 := blk_frozen S12.out.s 1
              have c2 : w12.cell? ⟨w.heap.size, 2, none⟩ = some (.int .i64 i2) := (blk_cell S12.out.s 2).trans rfl
              have y2 := blk_frozen S12.out.s 2
              have c3 : w12.cell? ⟨w.heap.size, 3, none⟩ = some (.int .i64 st2) := (blk_cell S12.out.s 3).trans rfl
              have y3 := blk_frozen S12.out.s 3
              have c4 : w12.cell? ⟨w.heap.size, 4, none⟩ = some (.int .i64 e2) := (blk_cell S12.out.s 4).trans rfl
              have y4 := blk_frozen S12.out.s 4
              go_wp2_with (fail)
              go_roundg k1
              case measure => omega
              case rel => exact ⟨l3, K3, i3, st3, e3, out2, _, HQ, ⟨S12.out.state V12.out⟩, ⟨below_cell (below_cell (below_cell (below_cell (below_cell B12.out (Nat.le_refl _) _ _) (Nat.le_refl _) _ _) (Nat.le_refl _) _ _) (Nat.le_refl _) _ _) (Nat.le_refl _) _ _⟩⟩
      · rw [if_neg hc] at HX
        replace HX := Aside0.mk HX
        have hcc : ¬ i1 < (l.length : Int) ∨ (i1 < (l.length : Int) ∧ e1 ≠ 0) := by
          by_cases h1 : i1 < (l.length : Int)
          · exact .inr ⟨h1, fun h2 => hc ⟨h1, h2⟩⟩
          · exact .inl h1
        clear hc
        rcases hcc with h1 | ⟨h1, h2⟩
        · replace h1 : (l.length : Int) ≤ i1 := Int.not_lt.1 h1
          by_cases hw : e1 > 0
          · have HR := HX.out
            rw [if_pos hw] at HR
            have HR2 := Aside0.mk (Option.some.inj HR)
            clear HR HX
            go_wp2_with (fail)
            go_quiet (fail)
            go_wp2
            ((try simp only [Exit.inBlock, Exit.then]); refine bodyPost_ret (Unmark.results_tmp4 rfl _ _ _) rfl ?_)
            rw [← HR2.out]
            exact ⟨_, rfl, Kd.V_nil _ _ _ _ _, pw_below_drewN HB.out _⟩
          · have HR := HX.out
            rw [if_neg hw] at HR
            have HR2 := Aside0.mk (Option.some.inj HR)
            clear HR HX
            replace hw : e1 ≤ 0 := Int.not_lt.1 hw
            go_wp2_with (fail)
            go_quiet (fail)
            go_wp2
            ((try simp only [Exit.inBlock, Exit.then]); refine bodyPost_ret (Unmark.results_tmp4 rfl _ _ _) rfl ?_)
            rw [← HR2.out]
            exact ⟨_, rfl, Kd.V_mono (Kd.V_drewN (Kd.N_V HS.out.go) _) (fun k hk => hk.elim (fun h => .inl h.1) (fun h => .inr (by omega))), pw_below_drewN HB.out _⟩
        · have h2b : (e1 == 0) = false := beq_eq_false_iff_ne.2 h2
          replace h2 := Aside0.mk h2
          by_cases hw : e1 > 0
          · have HR := HX.out
            rw [if_pos hw] at HR
            have HR2 := Aside0.mk (Option.some.inj HR)
            clear HR HX
            go_wp2_with (fail)
            go_quiet (fail)
            go_wp2
            ((try simp only [Exit.inBlock, Exit.then]); refine bodyPost_ret (Unmark.results_tmp4 rfl _ _ _) rfl ?_)
            rw [← HR2.out]
            exact ⟨_, rfl, Kd.V_nil _ _ _ _ _, pw_below_drewN HB.out _⟩
          · have HR := HX.out
            rw [if_neg hw] at HR
            have HR2 := Aside0.mk (Option.some.inj HR)
            clear HR HX
            replace hw : e1 ≤ 0 := Int.not_lt.1 hw
            go_wp2_with (fail)
            go_quiet (fail)
            go_wp2
            ((try simp only [Exit.inBlock, Exit.then]); refine bodyPost_ret (Unmark.results_tmp4 rfl _ _ _) rfl ?_)
            rw [← HR2.out]
            exact ⟨_, rfl, Kd.V_mono (Kd.V_drewN (Kd.N_V HS.out.go) _) (fun k hk => hk.elim (fun h => .inl h.1) (fun h => .inr (by omega))), pw_below_drewN HB.out _⟩
end Go.Proofs.YtcnjbmdnnhbfkaaDoor.Ref13
