/- sennitref13.sides: its walk. (Written by tools/mkr13.py.) -/
import Derived.Test.YtcnjbmdnnhbfkaaDoorR13A
import Derived.RegionTactic
import Derived.ChangeAlike
namespace Go.Proofs.YtcnjbmdnnhbfkaaDoor.Ref13
open Go.RowKit Go.Proofs.YtcnjbmdnnhbfkaaDoor.XD Go.Proofs.YtcnjbmdnnhbfkaaDoor.XQ Go.Proofs.YtcnjbmdnnhbfkaaDoorW.PrintWords Go.Proofs.YtcnjbmdnnhbfkaaDoorW.PrintLast Go.Proofs.YtcnjbmdnnhbfkaaDoorW.PrintMore
set_option linter.unusedSimpArgs false
set_option linter.unusedVariables false
abbrev SRes := List ByteArray × Int × Int × Int × Int × List ByteArray × List (List ByteArray)
def SOut (w : World) (P : Nat → Prop) (r : SRes) (e : Ending) (w' : World) : Prop :=
  ∃ v1 vb vs, e = .returned (.tuple #[.agg #[v1, .int .i64 r.2.1, .int .i64 r.2.2.1, .int .i64 r.2.2.2.1, .int .i64 r.2.2.2.2.1], .agg #[.bool true, .slice none 0 0, vb, vs]]) ∧
    Kd.V Kd.string 9 w' w.heap.size (fun k => P k ∨ w.heap.size ≤ k) v1 r.1 ∧ Kd.V Kd.string 9 w' w.heap.size (fun k => P k ∨ w.heap.size ≤ k) vb r.2.2.2.2.2.1 ∧
    Kd.N (Kd.slice 9 Kd.string) 22 w' w.heap.size (fun k => P k ∨ w.heap.size ≤ k) vs r.2.2.2.2.2.2 ∧ Below w.heap.size w w'
theorem wp_world {Pr : Program} {code : Code} {Kc : Exit → Act → World → Prop} {a : Act} {W : World} {X : World → Prop} (h : X W) (k : ∀ W', X W' → Code.wp Pr code Kc a W') : Code.wp Pr code Kc a W := k W h
theorem SB.start (w : World) (P : Nat → Prop) (A : Option Addr) (c : Nat) (l : List ByteArray) (K i st wr : Int) (h : Kd.V Kd.string 9 w w.heap.size P (.slice A l.length c) l) :
    SB w.heap.size P ((((w.alloc (.cells #[.slice A l.length c, .int .i64 K, .int .i64 i, .int .i64 st, .int .i64 wr] 50)).alloc (.cells #[.bool true, .slice none 0 0, .slice none 0 0, .slice none 0 0] 37)).alloc (.cells #[.slice none 0 0, .int .i64 0, .int .i64 0, .int .i64 0, .int .i64 0] 50)).alloc (.cells #[.bool false, .slice none 0 0, .slice none 0 0, .slice none 0 0] 37))
      l K i st wr [] [] (.slice A l.length c) (.slice none 0 0) (.slice none 0 0) := by
  have n1 := blk_new w (.cells #[.slice A l.length c, .int .i64 K, .int .i64 i, .int .i64 st, .int .i64 wr] 50)
  have n2 := blk_new (w.alloc (.cells #[.slice A l.length c, .int .i64 K, .int .i64 i, .int .i64 st, .int .i64 wr] 50)) (.cells #[.bool true, .slice none 0 0, .slice none 0 0, .slice none 0 0] 37)
  have n3 := blk_new ((w.alloc (.cells #[.slice A l.length c, .int .i64 K, .int .i64 i, .int .i64 st, .int .i64 wr] 50)).alloc (.cells #[.bool true, .slice none 0 0, .slice none 0 0, .slice none 0 0] 37)) (.cells #[.slice none 0 0, .int .i64 0, .int .i64 0, .int .i64 0, .int .i64 0] 50)
  have n4 := blk_new (((w.alloc (.cells #[.slice A l.length c, .int .i64 K, .int .i64 i, .int .i64 st, .int .i64 wr] 50)).alloc (.cells #[.bool true, .slice none 0 0, .slice none 0 0, .slice none 0 0] 37)).alloc (.cells #[.slice none 0 0, .int .i64 0, .int .i64 0, .int .i64 0, .int .i64 0] 50)) (.cells #[.bool false, .slice none 0 0, .slice none 0 0, .slice none 0 0] 37)
  have e2 : (w.alloc (.cells #[.slice A l.length c, .int .i64 K, .int .i64 i, .int .i64 st, .int .i64 wr] 50)).heap.size = w.heap.size + 1 := by simp
  rw [e2] at n2
  have e3 : ((w.alloc (.cells #[.slice A l.length c, .int .i64 K, .int .i64 i, .int .i64 st, .int .i64 wr] 50)).alloc (.cells #[.bool true, .slice none 0 0, .slice none 0 0, .slice none 0 0] 37)).heap.size = w.heap.size + 2 := by simp
  rw [e3] at n3
  have e4 : (((w.alloc (.cells #[.slice A l.length c, .int .i64 K, .int .i64 i, .int .i64 st, .int .i64 wr] 50)).alloc (.cells #[.bool true, .slice none 0 0, .slice none 0 0, .slice none 0 0] 37)).alloc (.cells #[.slice none 0 0, .int .i64 0, .int .i64 0, .int .i64 0, .int .i64 0] 50)).heap.size = w.heap.size + 3 := by simp
  rw [e4] at n4
  have a : ∀ (W : World) (o : Obj), Below W.heap.size W (W.alloc o) := fun W o => below_alloc (Below.refl _ _) o
  exact ⟨blk_below (blk_below (blk_below n1 (a _ _)) (a _ _)) (a _ _), blk_below (blk_below n2 (a _ _)) (a _ _), blk_below n3 (a _ _), n4,
    Kd.V_alloc (Kd.V_alloc (Kd.V_alloc (Kd.V_alloc (Kd.V_mono (Kd.V_bound h) (fun k hk => ⟨.inl hk, by simp [Value.ownBlock]⟩)) _) _) _) _, Kd.V_nil _ _ _ _ _, Kd.N_nil _ _ _ _ _⟩
attribute [local go_sem] max2_int min2_int max_two min_two
set_option maxHeartbeats 8000000 in
set_option maxRecDepth 100000 in
theorem sides_any (k : Nat) (P : Nat → Prop) (A : Option Addr) (c : Nat) (l : List ByteArray) (K i st wr : Int) (r : SRes) (w : World) (hs : Kd.V Kd.string 9 w w.heap.size P (.slice A l.length c) l) (h : sidesF k l K i st wr [] [] false = some r) :
    Calls Tryd.prog 27 #[.agg #[.slice A l.length c, .int .i64 K, .int .i64 i, .int .i64 st, .int .i64 wr], .agg #[.bool true, .slice none 0 0, .slice none 0 0, .slice none 0 0], .bool false] w (SOut w P r) := by
  have hu50 := Tryd.underlying50
  have hu37 := Tryd.underlying37
  have HS := Aside0.mk (SB.start w P A c l K i st wr hs)
  have HB := Aside0.mk (show Below w.heap.size w ((((w.alloc (.cells #[.slice A l.length c, .int .i64 K, .int .i64 i, .int .i64 st, .int .i64 wr] 50)).alloc (.cells #[.bool true, .slice none 0 0, .slice none 0 0, .slice none 0 0] 37)).alloc (.cells #[.slice none 0 0, .int .i64 0, .int .i64 0, .int .i64 0, .int .i64 0] 50)).alloc (.cells #[.bool false, .slice none 0 0, .slice none 0 0, .slice none 0 0] 37)) from below_alloc (below_alloc (below_alloc (below_alloc (Below.refl _ _) _) _) _) _)
  have H0 := Aside0.mk h
  clear hs h
  go_enter Tryd.func27, Tryd.ntmps27
  go_wp2_with (fail)
  generalize (((w.alloc (.cells #[.slice A l.length c, .int .i64 K, .int .i64 i, .int .i64 st, .int .i64 wr] 50)).alloc (.cells #[.bool true, .slice none 0 0, .slice none 0 0, .slice none 0 0] 37)).alloc (.cells #[.slice none 0 0, .int .i64 0, .int .i64 0, .int .i64 0, .int .i64 0] 50)).alloc (.cells #[.bool false, .slice none 0 0, .slice none 0 0, .slice none 0 0] 37) = wa at HS HB ⊢
  go_loopg [2] k (fun gg s2 wr_ => ∃ (l1 : List ByteArray) (K1 i1 st1 e1 : Int) (bs : List ByteArray) (sd : List (List ByteArray)) (inb : Bool) (vl vb vs : Value), s2 = .bool inb ∧ Aside0 (sidesF gg l1 K1 i1 st1 e1 bs sd inb = some r) ∧ Aside0 (SB w.heap.size P wr_ l1 K1 i1 st1 e1 bs sd vl vb vs) ∧ Aside0 (Below w.heap.size w wr_))
  case atStart => exact ⟨l, K, i, st, wr, [], [], false, _, _, _, rfl, H0, HS, HB⟩
  case round =>
    clear H0 HS HB
    obtain ⟨l1, K1, i1, st1, e1, bs, sd, inb, vl, vb, vs, rfl, HA, HS, HB⟩ := hrel
    cases gk with
    | zero => exact absurd HA.out (by simp [sidesF])
    | succ k1 =>
      have HX := HA.out
      clear HA
      simp only [sidesF] at HX
      have HX := Option.bind_eq_some_iff.mp HX
      obtain ⟨⟨l2, K2, i2, st2, e2, p⟩, A1, H⟩ := HX
      replace H := Aside0.mk H
      obtain ⟨Al, cl, e⟩ := Kd.V_slice HS.out.gl
      subst e
      have HC := Aside0.mk (sennitref13_part.calls k1 _ Al cl l1 K1 i1 st1 e1 l2 K2 i2 st2 e2 p wr HS.out.gl A1)
      clear A1 HX
      have c0 : wr.cell? ⟨w.heap.size, 0, none⟩ = some (.slice Al l1.length cl) := (blk_cell HS.out.s 0).trans rfl
      have c1 : wr.cell? ⟨w.heap.size, 1, none⟩ = some (.int .i64 K1) := (blk_cell HS.out.s 1).trans rfl
      have c2 : wr.cell? ⟨w.heap.size, 2, none⟩ = some (.int .i64 i1) := (blk_cell HS.out.s 2).trans rfl
      have c3 : wr.cell? ⟨w.heap.size, 3, none⟩ = some (.int .i64 st1) := (blk_cell HS.out.s 3).trans rfl
      have c4 : wr.cell? ⟨w.heap.size, 4, none⟩ = some (.int .i64 e1) := (blk_cell HS.out.s 4).trans rfl
      go_wp2_with (fail)
      refine HC.out.mono ?_
      rintro e w6 ⟨v1, v5, rfl, hV1, hV5, hb6⟩
      obtain ⟨A1', cc1, rfl⟩ := Kd.V_slice hV1
      obtain ⟨A5, cc5, rfl⟩ := Kd.V_slice hV5
      have S6 := Aside0.mk (HS.out.below hb6)
      have V1 := Aside0.mk (HS.out.told hV1)
      have V5 := Aside0.mk (HS.out.told hV5)
      have B6 := Aside0.mk (HB.out.trans (hb6.mono HB.out.size))
      clear HC hb6 hV1 hV5 HS HB c0 c1 c2 c3 c4
      have hz := S6.out.size
      go_upto_region 3 with (((with_reducible refine gate_dst (N := 8) rfl ?_); refine box_event ?hg (N := 8) ?hd (cs := #[.slice none 0 0, .int .i64 0, .int .i64 0, .int .i64 0, .int .i64 0]) (t := 50) ?hr ?_; (case hd => rfl); (case hg => rfl); (case hr => first | (go_simp; done) | (go_simp; rfl)); intro gb hg w7 hbox hb; have S7 := Aside0.mk (S6.out.below hb); have hnb : gb ≠ w.heap.size := (by omega); have hnc : w.heap.size ≠ gb := (by omega); have c0 : w7.cell? ⟨w.heap.size, 0, none⟩ = some (.slice Al l1.length cl) := (blk_cell S7.out.s 0).trans rfl; have f0 := blk_frozen S7.out.s 0; have c1 : w7.cell? ⟨w.heap.size, 1, none⟩ = some (.int .i64 K1) := (blk_cell S7.out.s 1).trans rfl; have f1 := blk_frozen S7.out.s 1; have c2 : w7.cell? ⟨w.heap.size, 2, none⟩ = some (.int .i64 i1) := (blk_cell S7.out.s 2).trans rfl; have f2 := blk_frozen S7.out.s 2; have c3 : w7.cell? ⟨w.heap.size, 3, none⟩ = some (.int .i64 st1) := (blk_cell S7.out.s 3).trans rfl; have f3 := blk_frozen S7.out.s 3; have c4 : w7.cell? ⟨w.heap.size, 4, none⟩ = some (.int .i64 e1) := (blk_cell S7.out.s 4).trans rfl; have f4 := blk_frozen S7.out.s 4; have d0 : w7.cell? ⟨gb, 0, none⟩ = some (.slice none 0 0) := (blk_cell hbox 0).trans rfl; have g0 := blk_frozen hbox 0; have d1 : w7.cell? ⟨gb, 1, none⟩ = some (.int .i64 0) := (blk_cell hbox 1).trans rfl; have g1 := blk_frozen hbox 1; have d2 : w7.cell? ⟨gb, 2, none⟩ = some (.int .i64 0) := (blk_cell hbox 2).trans rfl; have g2 := blk_frozen hbox 2; have d3 : w7.cell? ⟨gb, 3, none⟩ = some (.int .i64 0) := (blk_cell hbox 3).trans rfl; have g3 := blk_frozen hbox 3; have d4 : w7.cell? ⟨gb, 4, none⟩ = some (.int .i64 0) := (blk_cell hbox 4).trans rfl; have g4 := blk_frozen hbox 4; have hB7 := hb; clear S7 hb; replace hg := Nat.le_of_eq hg.symm))
      refine wp_world (X := fun W => Aside0 (SB w.heap.size P W l2 K2 i2 st2 e2 bs sd (.slice A1' l2.length cc1) vb vs) ∧ Aside0 (Kd.V Kd.string 9 W w.heap.size (fun k => okS w.heap.size P k ∧ some k ≠ vs.ownBlock) (.slice A5 p.length cc5) p) ∧ Aside0 (Below w.heap.size w W)) ?_ ?_
      · have HB5 := below_cell (below_cell (below_cell (below_cell (below_cell hB7 hg 0 (.slice A1' l2.length cc1)) hg 1 (.int .i64 K2)) hg 2 (.int .i64 i2)) hg 3 (.int .i64 st2)) hg 4 (.int .i64 e2)
        have hS := (S6.out.below HB5).state (K1 := K2) (i1 := i2) (st1 := st2) (wr1 := e2) (Kd.V_below V1.out HB5)
        exact ⟨⟨hS⟩, ⟨Kd.V_mono (Kd.V_far (Kd.V_far (Kd.V_far (Kd.V_far (Kd.V_far (Kd.V_below V5.out HB5) (fun k hk => (okS_ne hk.1).1) _) (fun k hk => (okS_ne hk.1).1) _) (fun k hk => (okS_ne hk.1).1) _) (fun k hk => (okS_ne hk.1).1) _) (fun k hk => (okS_ne hk.1).1) _) (fun _ h => h)⟩, ⟨below_cell (below_cell (below_cell (below_cell (below_cell (B6.out.trans (HB5.mono B6.out.size)) (Nat.le_refl _) _ _) (Nat.le_refl _) _ _) (Nat.le_refl _) _ _) (Nat.le_refl _) _ _) (Nat.le_refl _) _ _⟩⟩
      clear V1 V5 S6 B6 hz hg hB7 hnb hnc hbox c0 f0 d0 g0 c1 f1 d1 g1 c2 f2 d2 g2 c3 f3 d3 g3 c4 f4 d4 g4
      rintro w8 ⟨S8, V5, B8⟩
      obtain ⟨Ab, cb, e⟩ := Kd.V_slice S8.out.gb
      subst e
      obtain ⟨As, cs, e⟩ := Kd.N_slice S8.out.gs
      subst e
      have c0 : w8.cell? ⟨w.heap.size, 0, none⟩ = some (.slice A1' l2.length cc1) := (blk_cell S8.out.s 0).trans rfl
      have c1 : w8.cell? ⟨w.heap.size, 1, none⟩ = some (.int .i64 K2) := (blk_cell S8.out.s 1).trans rfl
      have c2 : w8.cell? ⟨w.heap.size, 2, none⟩ = some (.int .i64 i2) := (blk_cell S8.out.s 2).trans rfl
      have c3 : w8.cell? ⟨w.heap.size, 3, none⟩ = some (.int .i64 st2) := (blk_cell S8.out.s 3).trans rfl
      have c4 : w8.cell? ⟨w.heap.size, 4, none⟩ = some (.int .i64 e2) := (blk_cell S8.out.s 4).trans rfl
      by_cases hw : e2 > 0
      · have hwb : decide (e2 > 0) = true := decide_eq_true hw
        have d0 : w8.cell? ⟨w.heap.size + 1, 0, none⟩ = some (.bool true) := (blk_cell S8.out.c 0).trans rfl
        have d1 : w8.cell? ⟨w.heap.size + 1, 1, none⟩ = some (.slice none 0 0) := (blk_cell S8.out.c 1).trans rfl
        have d2 : w8.cell? ⟨w.heap.size + 1, 2, none⟩ = some (.slice Ab bs.length cb) := (blk_cell S8.out.c 2).trans rfl
        have d3 : w8.cell? ⟨w.heap.size + 1, 3, none⟩ = some (.slice As sd.length cs) := (blk_cell S8.out.c 3).trans rfl
        have HQ := H.out
        rw [if_pos hw] at HQ
        clear H
        have t0 : w8.cell? ⟨w.heap.size + 2, 0, none⟩ = some (.slice none 0 0) := (blk_cell S8.out.r 0).trans rfl
        have y0 := blk_frozen S8.out.r 0
        have t1 : w8.cell? ⟨w.heap.size + 2, 1, none⟩ = some (.int .i64 0) := (blk_cell S8.out.r 1).trans rfl
        have y1 := blk_frozen S8.out.r 1
        have t2 : w8.cell? ⟨w.heap.size + 2, 2, none⟩ = some (.int .i64 0) := (blk_cell S8.out.r 2).trans rfl
        have y2 := blk_frozen S8.out.r 2
        have t3 : w8.cell? ⟨w.heap.size + 2, 3, none⟩ = some (.int .i64 0) := (blk_cell S8.out.r 3).trans rfl
        have y3 := blk_frozen S8.out.r 3
        have t4 : w8.cell? ⟨w.heap.size + 2, 4, none⟩ = some (.int .i64 0) := (blk_cell S8.out.r 4).trans rfl
        have y4 := blk_frozen S8.out.r 4
        have z0 : w8.cell? ⟨w.heap.size + 3, 0, none⟩ = some (.bool false) := (blk_cell S8.out.q 0).trans rfl
        have x0 := blk_frozen S8.out.q 0
        have z1 : w8.cell? ⟨w.heap.size + 3, 1, none⟩ = some (.slice none 0 0) := (blk_cell S8.out.q 1).trans rfl
        have x1 := blk_frozen S8.out.q 1
        have z2 : w8.cell? ⟨w.heap.size + 3, 2, none⟩ = some (.slice none 0 0) := (blk_cell S8.out.q 2).trans rfl
        have x2 := blk_frozen S8.out.q 2
        have z3 : w8.cell? ⟨w.heap.size + 3, 3, none⟩ = some (.slice none 0 0) := (blk_cell S8.out.q 3).trans rfl
        have x3 := blk_frozen S8.out.q 3
        go_wp2_with (fail)
        go_region
        obtain rfl := Option.some.inj HQ
        obtain ⟨z1, z2, z3, z4, z5⟩ := S8.out.fin
        go_wp2
        ((try simp only [Exit.inBlock, Exit.then]); refine bodyPost_ret (results_cc rfl _ _ (w.heap.size + 2) (w.heap.size + 3) 50 37 _ _ (0, 0) (0, 0) _ _ rfl z1 Tryd.underlying50 rfl (by kernel_rfl) rfl z2 Tryd.underlying37 rfl (by kernel_rfl)) rfl ?_)
        exact ⟨_, _, _, rfl, z3, z4, z5, fin_below B8.out _ _ _ _ _ _ _⟩
      · -- a mark
        have hwb : decide (e2 > 0) = false := decide_eq_false hw
        have HQ := H.out
        clear H
        rw [if_neg hw] at HQ
        by_cases hl : sd.length ≤ 1000000
        case neg => rw [if_neg hl] at HQ; cases HQ
        rw [if_pos hl] at HQ
        obtain ⟨⟨g, q, b, e⟩, A2, H⟩ := Option.bind_eq_some_iff.mp HQ
        clear HQ
        replace H := Aside0.mk H
        unfold stepF at A2
        obtain ⟨b', AB, A2⟩ := Option.bind_eq_some_iff.mp A2
        obtain ⟨d, AD, A2⟩ := Option.bind_eq_some_iff.mp A2
        by_cases hd : 1 + d.size ≤ 9223372036854775807
        case neg => rw [if_neg hd] at A2; cases A2
        rw [if_pos hd] at A2
        obtain ⟨f0, AF, A2⟩ := Option.bind_eq_some_iff.mp A2
        obtain ⟨e', AE, A2⟩ := Option.bind_eq_some_iff.mp A2
        by_cases hbd : (0 ≤ b' ∧ b' ≤ 2) ∧ (0 ≤ f0 ∧ f0 ≤ 2) ∧ 0 ≤ e' ∧ e' ≤ 2
        case neg => rw [if_neg hbd] at A2; cases A2
        rw [if_pos hbd] at A2
        obtain ⟨⟨q', ok⟩, AO, A2⟩ := Option.bind_eq_some_iff.mp A2
        obtain ⟨hg2, rfl, rfl, rfl⟩ : (wantsOf (firstOf sd inb) st2 b' (if nOf sd inb = 16 then 0 else f0) e' && ok) = g ∧ q' = q ∧ b' = b ∧ e' = e := by
          have := Option.some.inj A2
          simp only [Prod.mk.injEq] at this
          exact this
        replace hg2 := Aside0.mk hg2
        replace AB := Aside0.mk AB
        replace AD := Aside0.mk AD
        replace AF := Aside0.mk AF
        replace AE := Aside0.mk AE
        replace AO := Aside0.mk AO
        clear A2
        have d0 : w8.cell? ⟨w.heap.size + 1, 0, none⟩ = some (.bool true) := (blk_cell S8.out.c 0).trans rfl
        have d1 : w8.cell? ⟨w.heap.size + 1, 1, none⟩ = some (.slice none 0 0) := (blk_cell S8.out.c 1).trans rfl
        have d2 : w8.cell? ⟨w.heap.size + 1, 2, none⟩ = some (.slice Ab bs.length cb) := (blk_cell S8.out.c 2).trans rfl
        have d3 : w8.cell? ⟨w.heap.size + 1, 3, none⟩ = some (.slice As sd.length cs) := (blk_cell S8.out.c 3).trans rfl
        have hn : (1 : Int) ≤ (sd.length : Int) + 1 := by omega
        have hn2 : (sd.length : Int) + 1 ≤ 1000001 := by omega
        go_upto_if 33 with (fail)
        go_cut [10] (fun v10 wc => v10 = .int .i64 (nOf sd inb) ∧ w8 = wc)
        case first =>
          cases inb
          · go_wp2_with (fail)
            go_meet
            case rel => exact ⟨rfl, rfl⟩
          · go_wp2_with (fail)
            go_meet
            case rel => exact ⟨by simp [nOf], rfl⟩
        case rest =>
          obtain ⟨rfl, rfl⟩ := hcut
          go_upto_region 8 with (fail)
          go_cut [11] (fun v11 wc => v11 = .bool (firstOf sd inb) ∧ w8 = wc)
          case first =>
            cases inb
            · by_cases h1 : nOf sd false = 1
              · have h1b : (nOf sd false == 1) = true := beq_iff_eq.2 h1
                have hF := Aside0.mk (show firstOf sd false = true by simp [firstOf, h1])
                clear h1
                go_wp2_with (fail)
                go_meet
                case rel => exact ⟨by rw [hF.out], rfl⟩
              · have h1b : (nOf sd false == 1) = false := beq_eq_false_iff_ne.2 h1
                have hF := Aside0.mk (show firstOf sd false = false by simp [firstOf, h1])
                clear h1
                go_wp2_with (fail)
                go_meet
                case rel => exact ⟨by rw [hF.out], rfl⟩
            · have hF := Aside0.mk (show firstOf sd true = false by simp [firstOf])
              go_wp2_with (fail)
              go_meet
              case rel => exact ⟨by rw [hF.out], rfl⟩
          case rest =>
            obtain ⟨rfl, rfl⟩ := hcut
            
            have HC9 := Aside0.mk (sennitref13_fits.calls k1 A1' cc1 l2 K2 i2 st2 e2 ⟨#[124]⟩ ⟨#[32, 98, 97, 115, 101]⟩ b' w8 (Kd.V_reads' S8.out.gl).2.2 (Kd.V_reads' S8.out.gl).2.1 AB.out)
            go_wp2_with (fail)
            refine HC9.out.mono ?_
            rintro z w9 ⟨rfl, hb9⟩
            have S9 := Aside0.mk (S8.out.below hb9)
            have V9 := Aside0.mk (Kd.V_below V5.out hb9)
            have B9 := Aside0.mk (B8.out.trans (hb9.mono B8.out.size))
            clear HC9 hb9 AB V5 B8 hn hn2 c0 d0 c1 d1 c2 d2 c3 d3 c4
            have c0 : w9.cell? ⟨w.heap.size, 0, none⟩ = some (.slice A1' l2.length cc1) := (blk_cell S9.out.s 0).trans rfl
            have c1 : w9.cell? ⟨w.heap.size, 1, none⟩ = some (.int .i64 K2) := (blk_cell S9.out.s 1).trans rfl
            have c2 : w9.cell? ⟨w.heap.size, 2, none⟩ = some (.int .i64 i2) := (blk_cell S9.out.s 2).trans rfl
            have c3 : w9.cell? ⟨w.heap.size, 3, none⟩ = some (.int .i64 st2) := (blk_cell S9.out.s 3).trans rfl
            have c4 : w9.cell? ⟨w.heap.size, 4, none⟩ = some (.int .i64 e2) := (blk_cell S9.out.s 4).trans rfl
            go_upto_region 10 with (fail)
            have hnb1 : 0 ≤ nOf sd inb := by unfold nOf; split <;> omega
            have hnb2 : nOf sd inb ≤ 1000001 := by unfold nOf; split <;> omega
            have hwr : IntKind.i64.wrap (nOf sd inb + 1) = nOf sd inb + 1 := IntWalk.i64_in _ (by omega)
            have hcs : (9223372036854775807 < 1 + d.size) = False := eq_false (by omega)
            go_cut [13] (fun v13 wc => v13 = .int .i64 f0 ∧ Aside0 (SB w.heap.size P wc l2 K2 i2 st2 e2 bs sd (.slice A1' l2.length cc1) (.slice Ab bs.length cb) (.slice As sd.length cs)) ∧ Aside0 (Kd.V Kd.string 9 wc w.heap.size (fun k => okS w.heap.size P k ∧ some k ≠ (Value.slice As sd.length cs).ownBlock) (.slice A5 p.length cc5) p) ∧ Aside0 (Below w.heap.size w wc))
            case first =>
              refine start_ (n := 8) (S := fun w' => w'.cell? ⟨w.heap.size, 0, none⟩ = some (.slice A1' l2.length cc1) ∧ w'.cell? ⟨w.heap.size, 1, none⟩ = some (.int .i64 K2) ∧ w'.cell? ⟨w.heap.size, 2, none⟩ = some (.int .i64 i2) ∧ w'.cell? ⟨w.heap.size, 3, none⟩ = some (.int .i64 st2) ∧ w'.cell? ⟨w.heap.size, 4, none⟩ = some (.int .i64 e2)) (ds := [6]) #[false, false, false, false, false, false, false, false] (by kernel_rfl) rfl rfl ?hS0 (fun hHeld => ?_)
              case hS0 => (first | exact ⟨by assumption, by assumption, by assumption, by assumption, by assumption⟩ | (go_simp; done) | (refine ⟨?_, ?_, ?_, ?_, ?_⟩ <;> assumption))
              refine pure_ (i := 1) (N := some 45) (v := ?_) (a' := ?_) #[false, true, false, false, false, false, false, false] rfl rfl (by kernel_rfl) (fun _ _ _ h => h) (Or.inl ⟨by rfl, ?_⟩) ?_ ?_
              rotate_left
              · intro w'
                go_simp
                first | done | with_reducible rfl
              rotate_left
              · try simp only [Act.put, List.setIfInBounds_toArray, List.set_cons_zero, List.set_cons_succ, i64_w, i32_w]
                first | done | rfl
              refine pure_ (i := 2) (N := some 46) (v := ?_) (a' := ?_) #[false, true, true, false, false, false, false, false] rfl rfl (by kernel_rfl) (fun _ _ _ h => h) (Or.inl ⟨by rfl, ?_⟩) ?_ ?_
              rotate_left
              · intro w'
                go_simp
                first | done | with_reducible rfl
              rotate_left
              · try simp only [Act.put, List.setIfInBounds_toArray, List.set_cons_zero, List.set_cons_succ, i64_w, i32_w]
                first | done | rfl
              refine pure_ (i := 3) (N := some 47) (v := ?_) (a' := ?_) #[false, true, true, true, false, false, false, false] rfl rfl (by kernel_rfl) (fun _ _ _ h => h) (Or.inl ⟨by rfl, ?_⟩) ?_ ?_
              rotate_left
              · intro w'
                go_simp
                first | done | with_reducible rfl
              rotate_left
              · try simp only [Act.put, List.setIfInBounds_toArray, List.set_cons_zero, List.set_cons_succ, i64_w, i32_w]
                first | done | rfl
              refine take_ (i := 0) (N := some 44) (v := ?_) (a' := ?_) #[true, true, true, true, false, false, false, false] rfl rfl (by kernel_rfl) (fun _ _ _ h => h) (Or.inl ⟨by rfl, ?_⟩) hHeld ?_ ?_
              rotate_left
              · rintro w' ⟨s0_, s1_, s2_, s3_, s4_⟩
                go_simp
                first | done | with_reducible rfl
              rotate_left
              · try simp only [Act.put, List.setIfInBounds_toArray, List.set_cons_zero, List.set_cons_succ, i64_w, i32_w]
                first | done | rfl
              refine one_ (i := 4) (N := some 48) #[true, true, true, true, true, false, false, false] rfl rfl (by kernel_rfl) (by decide) (fun K hK => ?_)
              go_simp
              go_at_call 42
              refine (sennitref12_Number.calls (if 16 < nOf sd inb + 1 then 16 else nOf sd inb + 1) d _ AD.out).mono ?_
              rintro z w10 ⟨rfl, hb⟩
              have hb10 : Below w9.heap.size w9 w10 := (below_drew (Below.refl _ w9)).trans hb
              have S10 := Aside0.mk (S9.out.below hb10)
              have V10 := Aside0.mk (Kd.V_below V9.out hb10)
              have B10 := Aside0.mk (B9.out.trans (hb10.mono B9.out.size))
              have q0 : w10.cell? ⟨w.heap.size, 0, none⟩ = some (.slice A1' l2.length cc1) := (blk_cell S10.out.s 0).trans rfl
              have q1 : w10.cell? ⟨w.heap.size, 1, none⟩ = some (.int .i64 K2) := (blk_cell S10.out.s 1).trans rfl
              have q2 : w10.cell? ⟨w.heap.size, 2, none⟩ = some (.int .i64 i2) := (blk_cell S10.out.s 2).trans rfl
              have q3 : w10.cell? ⟨w.heap.size, 3, none⟩ = some (.int .i64 st2) := (blk_cell S10.out.s 3).trans rfl
              have q4 : w10.cell? ⟨w.heap.size, 4, none⟩ = some (.int .i64 e2) := (blk_cell S10.out.s 4).trans rfl
              clear hb hb10
              go_simp
              refine hK.out _ _ (⟨q0, q1, q2, q3, q4⟩) (fun hHeld => ?_)
              clear hK K
              refine norm_ (a' := ?_) ?_ ?_
              rotate_left
              · try simp only [Act.put, List.setIfInBounds_toArray, List.set_cons_zero, List.set_cons_succ, i64_w, i32_w]
                first | done | rfl
              refine pure_ (i := 5) (N := some 49) (v := ?_) (a' := ?_) #[true, true, true, true, true, true, false, false] rfl rfl (by kernel_rfl) (fun _ _ _ h => h) (Or.inl ⟨by rfl, ?_⟩) ?_ ?_
              rotate_left
              · intro w'
                go_simp
                first | done | with_reducible rfl
              rotate_left
              · try simp only [Act.put, List.setIfInBounds_toArray, List.set_cons_zero, List.set_cons_succ, i64_w, i32_w]
                first | done | rfl
              refine last_ (i := 6) (N := some 50) #[true, true, true, true, true, true, true, false] rfl rfl (by kernel_rfl) (by decide) (fun K hK => ?_)
              go_simp
              go_at_call 25
              have HC6 := Aside0.mk (sennitref13_fits.calls k1 A1' cc1 l2 K2 i2 st2 e2 _ _ f0 w10 (Kd.V_reads' S10.out.gl).2.2 (Kd.V_reads' S10.out.gl).2.1 AF.out)
              (with_reducible refine HC6.out.mono ?_)
              rintro z w11 ⟨rfl, hb⟩
              have S11 := Aside0.mk (S10.out.below hb)
              have V11 := Aside0.mk (Kd.V_below V10.out hb)
              have B11 := Aside0.mk (B10.out.trans (hb.mono B10.out.size))
              clear hb
              go_simp
              refine hK.out _ _ ?_
              clear hK K
              refine norm_ (a' := ?_) ?_ ?_
              rotate_left
              · try simp only [Act.put, List.setIfInBounds_toArray, List.set_cons_zero, List.set_cons_succ, i64_w, i32_w]
                first | done | rfl
              refine pure_ (i := 7) (N := some 13) (v := ?_) (a' := ?_) #[true, true, true, true, true, true, true, true] rfl rfl (by kernel_rfl) (fun _ _ _ h => h) (Or.inl ⟨by rfl, ?_⟩) ?_ ?_
              rotate_left
              · intro w'
                go_simp
                first | done | with_reducible rfl
              rotate_left
              · try simp only [Act.put, List.setIfInBounds_toArray, List.set_cons_zero, List.set_cons_succ, i64_w, i32_w]
                first | done | rfl
              refine done_ (by kernel_rfl) ?_
              go_wp2
              all_goals
                go_meet
                case rel => exact ⟨rfl, S11, V11, B11⟩
            case rest =>
              clear S9 V9 B9 AF AD hcs hd hwr c0 c1 c2 c3 c4
              obtain ⟨rfl, S11, V11, B11⟩ := hcut
              have c0 : wc.cell? ⟨w.heap.size, 0, none⟩ = some (.slice A1' l2.length cc1) := (blk_cell S11.out.s 0).trans rfl
              have c1 : wc.cell? ⟨w.heap.size, 1, none⟩ = some (.int .i64 K2) := (blk_cell S11.out.s 1).trans rfl
              have c2 : wc.cell? ⟨w.heap.size, 2, none⟩ = some (.int .i64 i2) := (blk_cell S11.out.s 2).trans rfl
              have c3 : wc.cell? ⟨w.heap.size, 3, none⟩ = some (.int .i64 st2) := (blk_cell S11.out.s 3).trans rfl
              have c4 : wc.cell? ⟨w.heap.size, 4, none⟩ = some (.int .i64 e2) := (blk_cell S11.out.s 4).trans rfl
              have HC11 := Aside0.mk (sennitref13_fits.calls k1 A1' cc1 l2 K2 i2 st2 e2 ⟨#[62]⟩ ⟨#[]⟩ e' wc (Kd.V_reads' S11.out.gl).2.2 (Kd.V_reads' S11.out.gl).2.1 AE.out)
              go_wp2_with (fail)
              (with_reducible refine HC11.out.mono ?_)
              rintro z w12 ⟨rfl, hb12⟩
              have S12 := Aside0.mk (S11.out.below hb12)
              have V12 := Aside0.mk (Kd.V_below V11.out hb12)
              have B12 := Aside0.mk (B11.out.trans (hb12.mono B11.out.size))
              clear HC11 hb12 AE S11 V11 B11 c0 c1 c2 c3 c4
              go_upto_if 54 with (fail)
              go_cut [13] (fun v13 wd => v13 = .int .i64 (if nOf sd inb = 16 then 0 else f0) ∧ w12 = wd)
              case first =>
                by_cases h16 : nOf sd inb = 16
                · have h16b : (nOf sd inb == 16) = true := beq_iff_eq.2 h16
                  have hF := Aside0.mk (show (if nOf sd inb = 16 then 0 else f0) = 0 from if_pos h16)
                  clear h16
                  go_wp2_with (fail)
                  go_meet
                  case rel => exact ⟨by rw [hF.out], rfl⟩
                · have h16b : (nOf sd inb == 16) = false := beq_eq_false_iff_ne.2 h16
                  have hF := Aside0.mk (show (if nOf sd inb = 16 then 0 else f0) = f0 from if_neg h16)
                  clear h16
                  go_wp2_with (fail)
                  go_meet
                  case rel => exact ⟨by rw [hF.out], rfl⟩
              case rest =>
                obtain ⟨rfl, rfl⟩ := hcut
                obtain ⟨fv, hfv⟩ : ∃ fv, (if nOf sd inb = 16 then 0 else f0) = fv := ⟨_, rfl⟩
                have hfb : 0 ≤ fv ∧ fv ≤ 2 := by rw [← hfv]; split <;> omega
                rw [hfv] at hg2 AO ⊢
                clear hfv
                obtain ⟨⟨hb0, hb2⟩, -, he0, he2⟩ := hbd
                obtain ⟨hf0, hf2⟩ := hfb
                have c0 : w12.cell? ⟨w.heap.size, 0, none⟩ = some (.slice A1' l2.length cc1) := (blk_cell S12.out.s 0).trans rfl
                have c1 : w12.cell? ⟨w.heap.size, 1, none⟩ = some (.int .i64 K2) := (blk_cell S12.out.s 1).trans rfl
                have c2 : w12.cell? ⟨w.heap.size, 2, none⟩ = some (.int .i64 i2) := (blk_cell S12.out.s 2).trans rfl
                have c3 : w12.cell? ⟨w.heap.size, 3, none⟩ = some (.int .i64 st2) := (blk_cell S12.out.s 3).trans rfl
                have c4 : w12.cell? ⟨w.heap.size, 4, none⟩ = some (.int .i64 e2) := (blk_cell S12.out.s 4).trans rfl
                obtain ⟨fi, hfi⟩ : ∃ fi, firstOf sd inb = fi := ⟨_, rfl⟩
                rw [hfi] at hg2 ⊢
                replace hfi := Aside0.mk hfi
                go_upto_region 14 with (fail)
                go_cut [15] (fun v15 wd => v15 = .bool (wantsOf fi st2 b' fv e') ∧ w12 = wd)
                case first =>
                  cases fi
                  · skip
                    by_cases fe : fv + e' > 0
                    · have fe1 : decide (fv + e' > 0) = true := decide_eq_true fe
                      have fe2 : decide (0 < fv + e') = true := decide_eq_true fe
                      have hW := Aside0.mk (show wantsOf false st2 b' fv e' = true by first | (simp [wantsOf, fe]; done) | (simp [wantsOf, fe]; omega))
                      clear fe
                      go_wp2_with (fail)
                      go_meet
                      case rel => exact ⟨by rw [hW.out], rfl⟩
                    · have fe1 : decide (fv + e' > 0) = false := decide_eq_false fe
                      have fe2 : decide (0 < fv + e') = false := decide_eq_false fe
                      have hW := Aside0.mk (show wantsOf false st2 b' fv e' = false by first | (simp [wantsOf, fe]; done) | (simp [wantsOf, fe]; omega))
                      clear fe
                      go_wp2_with (fail)
                      go_meet
                      case rel => exact ⟨by rw [hW.out], rfl⟩
                  · skip
                    by_cases s1 : st2 = 1
                    · have s1b : (st2 == 1) = true := beq_iff_eq.2 s1
                      have s1c : (st2 != 1) = false := by rw [bne, s1b]; rfl
                      by_cases s2 : st2 = 2
                      · have s2b : (st2 == 2) = true := beq_iff_eq.2 s2
                        have s2c : (st2 != 2) = false := by rw [bne, s2b]; rfl
                        have hW := Aside0.mk (show wantsOf true st2 b' fv e' = false by first | (simp [wantsOf, s1, s2]; done) | (simp [wantsOf, s1, s2]; omega))
                        clear s1
                        clear s2
                        go_wp2_with (fail)
                        go_meet
                        case rel => exact ⟨by rw [hW.out], rfl⟩
                      · have s2b : (st2 == 2) = false := beq_eq_false_iff_ne.2 s2
                        have s2c : (st2 != 2) = true := by rw [bne, s2b]; rfl
                        by_cases fe : fv + e' > 0
                        · have fe1 : decide (fv + e' > 0) = true := decide_eq_true fe
                          have fe2 : decide (0 < fv + e') = true := decide_eq_true fe
                          have hW := Aside0.mk (show wantsOf true st2 b' fv e' = true by first | (simp [wantsOf, s1, s2, fe]; done) | (simp [wantsOf, s1, s2, fe]; omega))
                          clear s1
                          clear s2
                          clear fe
                          go_wp2_with (fail)
                          go_meet
                          case rel => exact ⟨by rw [hW.out], rfl⟩
                        · have fe1 : decide (fv + e' > 0) = false := decide_eq_false fe
                          have fe2 : decide (0 < fv + e') = false := decide_eq_false fe
                          have hW := Aside0.mk (show wantsOf true st2 b' fv e' = false by first | (simp [wantsOf, s1, s2, fe]; done) | (simp [wantsOf, s1, s2, fe]; omega))
                          clear s1
                          clear s2
                          clear fe
                          go_wp2_with (fail)
                          go_meet
                          case rel => exact ⟨by rw [hW.out], rfl⟩
                    · have s1b : (st2 == 1) = false := beq_eq_false_iff_ne.2 s1
                      have s1c : (st2 != 1) = true := by rw [bne, s1b]; rfl
                      by_cases bb : b' > 0
                      · have bb1 : decide (b' > 0) = true := decide_eq_true bb
                        have bb2 : decide (0 < b') = true := decide_eq_true bb
                        have hW := Aside0.mk (show wantsOf true st2 b' fv e' = true by first | (simp [wantsOf, s1, bb]; done) | (simp [wantsOf, s1, bb]; omega))
                        clear s1
                        clear bb
                        go_wp2_with (fail)
                        go_meet
                        case rel => exact ⟨by rw [hW.out], rfl⟩
                      · have bb1 : decide (b' > 0) = false := decide_eq_false bb
                        have bb2 : decide (0 < b') = false := decide_eq_false bb
                        by_cases s2 : st2 = 2
                        · have s2b : (st2 == 2) = true := beq_iff_eq.2 s2
                          have s2c : (st2 != 2) = false := by rw [bne, s2b]; rfl
                          have hW := Aside0.mk (show wantsOf true st2 b' fv e' = false by first | (simp [wantsOf, s1, bb, s2]; done) | (simp [wantsOf, s1, bb, s2]; omega))
                          clear s1
                          clear bb
                          clear s2
                          go_wp2_with (fail)
                          go_meet
                          case rel => exact ⟨by rw [hW.out], rfl⟩
                        · have s2b : (st2 == 2) = false := beq_eq_false_iff_ne.2 s2
                          have s2c : (st2 != 2) = true := by rw [bne, s2b]; rfl
                          by_cases fe : fv + e' > 0
                          · have fe1 : decide (fv + e' > 0) = true := decide_eq_true fe
                            have fe2 : decide (0 < fv + e') = true := decide_eq_true fe
                            have hW := Aside0.mk (show wantsOf true st2 b' fv e' = true by first | (simp [wantsOf, s1, bb, s2, fe]; done) | (simp [wantsOf, s1, bb, s2, fe]; omega))
                            clear s1
                            clear bb
                            clear s2
                            clear fe
                            go_wp2_with (fail)
                            go_meet
                            case rel => exact ⟨by rw [hW.out], rfl⟩
                          · have fe1 : decide (fv + e' > 0) = false := decide_eq_false fe
                            have fe2 : decide (0 < fv + e') = false := decide_eq_false fe
                            have hW := Aside0.mk (show wantsOf true st2 b' fv e' = false by first | (simp [wantsOf, s1, bb, s2, fe]; done) | (simp [wantsOf, s1, bb, s2, fe]; omega))
                            clear s1
                            clear bb
                            clear s2
                            clear fe
                            go_wp2_with (fail)
                            go_meet
                            case rel => exact ⟨by rw [hW.out], rfl⟩
                case rest =>
                  obtain ⟨rfl, rfl⟩ := hcut
                  obtain ⟨wa, hwa⟩ : ∃ wa, wantsOf fi st2 b' fv e' = wa := ⟨_, rfl⟩
                  rw [hwa] at hg2 ⊢
                  clear hwa
                  have HC15 := Aside0.mk (sennitref13_opened.calls k1 _ A5 cc5 p (b' + fv + e') q' ok w12 V12.out AO.out)
                  go_wp2_with (fail)
                  (with_reducible refine HC15.out.mono ?_)
                  rintro z w15 ⟨vq, rfl, hVq, hb15⟩
                  obtain ⟨Aq, cq, ez⟩ := Kd.V_slice hVq
                  subst ez
                  have S15 := Aside0.mk (S12.out.below hb15)
                  have V15 := Aside0.mk (S12.out.told hVq)
                  have B15 := Aside0.mk (B12.out.trans (hb15.mono B12.out.size))
                  clear HC15 hb15 hVq AO S12 V12 B12 c0 c1 c2 c3 c4
                  have c0 : w15.cell? ⟨w.heap.size, 0, none⟩ = some (.slice A1' l2.length cc1) := (blk_cell S15.out.s 0).trans rfl
                  have f_0 := blk_frozen S15.out.s 0
                  have c1 : w15.cell? ⟨w.heap.size, 1, none⟩ = some (.int .i64 K2) := (blk_cell S15.out.s 1).trans rfl
                  have f_1 := blk_frozen S15.out.s 1
                  have c2 : w15.cell? ⟨w.heap.size, 2, none⟩ = some (.int .i64 i2) := (blk_cell S15.out.s 2).trans rfl
                  have f_2 := blk_frozen S15.out.s 2
                  have c3 : w15.cell? ⟨w.heap.size, 3, none⟩ = some (.int .i64 st2) := (blk_cell S15.out.s 3).trans rfl
                  have f_3 := blk_frozen S15.out.s 3
                  have c4 : w15.cell? ⟨w.heap.size, 4, none⟩ = some (.int .i64 e2) := (blk_cell S15.out.s 4).trans rfl
                  have f_4 := blk_frozen S15.out.s 4
                  have d0 : w15.cell? ⟨w.heap.size + 1, 0, none⟩ = some (.bool true) := (blk_cell S15.out.c 0).trans rfl
                  have g_0 := blk_frozen S15.out.c 0
                  have d1 : w15.cell? ⟨w.heap.size + 1, 1, none⟩ = some (.slice none 0 0) := (blk_cell S15.out.c 1).trans rfl
                  have g_1 := blk_frozen S15.out.c 1
                  have d2 : w15.cell? ⟨w.heap.size + 1, 2, none⟩ = some (.slice Ab bs.length cb) := (blk_cell S15.out.c 2).trans rfl
                  have g_2 := blk_frozen S15.out.c 2
                  have d3 : w15.cell? ⟨w.heap.size + 1, 3, none⟩ = some (.slice As sd.length cs) := (blk_cell S15.out.c 3).trans rfl
                  have g_3 := blk_frozen S15.out.c 3
                  cases g
                  · -- wrong
                    have HQ := H.out
                    clear H
                    rw [if_neg (by decide)] at HQ
                    obtain ⟨⟨l3, K3, i3, st3, e3⟩, AB3, HQ⟩ := Option.bind_eq_some_iff.mp HQ
                    obtain rfl := Option.some.inj HQ
                    clear HQ
                    have hwo : wa = false ∨ (wa = true ∧ ok = false) := by
                      have := hg2.out
                      revert this
                      cases wa <;> cases ok <;> simp
                    clear hg2
                    have t0 : w15.cell? ⟨w.heap.size + 2, 0, none⟩ = some (.slice none 0 0) := (blk_cell S15.out.r 0).trans rfl
                    have y0 := blk_frozen S15.out.r 0
                    have t1 : w15.cell? ⟨w.heap.size + 2, 1, none⟩ = some (.int .i64 0) := (blk_cell S15.out.r 1).trans rfl
                    have y1 := blk_frozen S15.out.r 1
                    have t2 : w15.cell? ⟨w.heap.size + 2, 2, none⟩ = some (.int .i64 0) := (blk_cell S15.out.r 2).trans rfl
                    have y2 := blk_frozen S15.out.r 2
                    have t3 : w15.cell? ⟨w.heap.size + 2, 3, none⟩ = some (.int .i64 0) := (blk_cell S15.out.r 3).trans rfl
                    have y3 := blk_frozen S15.out.r 3
                    have t4 : w15.cell? ⟨w.heap.size + 2, 4, none⟩ = some (.int .i64 0) := (blk_cell S15.out.r 4).trans rfl
                    have y4 := blk_frozen S15.out.r 4
                    have z0 : w15.cell? ⟨w.heap.size + 3, 0, none⟩ = some (.bool false) := (blk_cell S15.out.q 0).trans rfl
                    have x0 := blk_frozen S15.out.q 0
                    have z1 : w15.cell? ⟨w.heap.size + 3, 1, none⟩ = some (.slice none 0 0) := (blk_cell S15.out.q 1).trans rfl
                    have x1 := blk_frozen S15.out.q 1
                    have z2 : w15.cell? ⟨w.heap.size + 3, 2, none⟩ = some (.slice none 0 0) := (blk_cell S15.out.q 2).trans rfl
                    have x2 := blk_frozen S15.out.q 2
                    have z3 : w15.cell? ⟨w.heap.size + 3, 3, none⟩ = some (.slice none 0 0) := (blk_cell S15.out.q 3).trans rfl
                    have x3 := blk_frozen S15.out.q 3
                    have HC17 : Aside0 (Calls Tryd.prog 26 #[.agg #[.slice A1' l2.length cc1, .int .i64 K2, .int .i64 i2, .int .i64 st2, .int .i64 e2]] w15.drew fun z w17 => ∃ Az cz, z = .returned (.agg #[.slice Az l3.length cz, .int .i64 K3, .int .i64 i3, .int .i64 st3, .int .i64 e3]) ∧ Aside0 (SB w.heap.size P w17 l2 K2 i2 st2 e2 bs sd (.slice A1' l2.length cc1) (.slice Ab bs.length cb) (.slice As sd.length cs)) ∧ Aside0 (Kd.V Kd.string 9 w17 w.heap.size (fun k => okS w.heap.size P k ∧ some k ≠ (Value.slice As sd.length cs).ownBlock) (.slice Az l3.length cz) l3) ∧ Aside0 (Below w.heap.size w w17)) := by
                      refine ⟨(sennitref13_bad.calls _ A1' cc1 l2 K2 i2 st2 e2 l3 K3 i3 st3 e3 w15.drew (Kd.V_drew S15.out.gl) AB3).mono ?_⟩
                      rintro z w17 ⟨vz, rfl, hVz, hbz⟩
                      obtain ⟨Az, cz, ez⟩ := Kd.V_slice hVz
                      subst ez
                      have hb17 : Below w15.heap.size w15 w17 := (below_drew (Below.refl _ w15)).trans hbz
                      exact ⟨Az, cz, rfl, ⟨S15.out.below hb17⟩, ⟨S15.out.told hVz⟩, ⟨B15.out.trans (hb17.mono B15.out.size)⟩⟩
                    clear AB3
                    rcases hwo with rfl | ⟨rfl, rfl⟩
                    all_goals
                      go_wp2_with (fail)
                      go_region_with (go_at_call 26; (with_reducible refine HC17.out.mono ?_); rintro z w17 ⟨Az, cz, rfl, S17, V17, B17⟩; have i_0 : w17.cell? ⟨w.heap.size + 1, 0, none⟩ = some (.bool true) := (blk_cell S17.out.c 0).trans rfl; have j_0 := blk_frozen S17.out.c 0; have i_1 : w17.cell? ⟨w.heap.size + 1, 1, none⟩ = some (.slice none 0 0) := (blk_cell S17.out.c 1).trans rfl; have j_1 := blk_frozen S17.out.c 1; have i_2 : w17.cell? ⟨w.heap.size + 1, 2, none⟩ = some (.slice Ab bs.length cb) := (blk_cell S17.out.c 2).trans rfl; have j_2 := blk_frozen S17.out.c 2; have i_3 : w17.cell? ⟨w.heap.size + 1, 3, none⟩ = some (.slice As sd.length cs) := (blk_cell S17.out.c 3).trans rfl; have j_3 := blk_frozen S17.out.c 3; have m_0 : w17.cell? ⟨w.heap.size + 2, 0, none⟩ = some (.slice none 0 0) := (blk_cell S17.out.r 0).trans rfl; have n_0 := blk_frozen S17.out.r 0; have m_1 : w17.cell? ⟨w.heap.size + 2, 1, none⟩ = some (.int .i64 0) := (blk_cell S17.out.r 1).trans rfl; have n_1 := blk_frozen S17.out.r 1; have m_2 : w17.cell? ⟨w.heap.size + 2, 2, none⟩ = some (.int .i64 0) := (blk_cell S17.out.r 2).trans rfl; have n_2 := blk_frozen S17.out.r 2; have m_3 : w17.cell? ⟨w.heap.size + 2, 3, none⟩ = some (.int .i64 0) := (blk_cell S17.out.r 3).trans rfl; have n_3 := blk_frozen S17.out.r 3; have m_4 : w17.cell? ⟨w.heap.size + 2, 4, none⟩ = some (.int .i64 0) := (blk_cell S17.out.r 4).trans rfl; have n_4 := blk_frozen S17.out.r 4; have o_0 : w17.cell? ⟨w.heap.size + 3, 0, none⟩ = some (.bool false) := (blk_cell S17.out.q 0).trans rfl; have p_0 := blk_frozen S17.out.q 0; have o_1 : w17.cell? ⟨w.heap.size + 3, 1, none⟩ = some (.slice none 0 0) := (blk_cell S17.out.q 1).trans rfl; have p_1 := blk_frozen S17.out.q 1; have o_2 : w17.cell? ⟨w.heap.size + 3, 2, none⟩ = some (.slice none 0 0) := (blk_cell S17.out.q 2).trans rfl; have p_2 := blk_frozen S17.out.q 2; have o_3 : w17.cell? ⟨w.heap.size + 3, 3, none⟩ = some (.slice none 0 0) := (blk_cell S17.out.q 3).trans rfl; have p_3 := blk_frozen S17.out.q 3)
                      all_goals
                        have HZ := S17.out.fin0 (K1 := K3) (i1 := i3) (st1 := st3) (wr1 := e3) V17.out
                        go_wp2
                        ((try simp only [Exit.inBlock, Exit.then]); refine bodyPost_ret (results_cc rfl _ _ (w.heap.size + 2) (w.heap.size + 3) 50 37 _ _ (0, 0) (0, 0) _ _ rfl (by first | exact HZ.1 | exact HZ.drew.1) Tryd.underlying50 rfl (by kernel_rfl) rfl (by first | exact HZ.2.1 | exact HZ.drew.2.1) Tryd.underlying37 rfl (by kernel_rfl)) rfl ?_)
                        first | exact ⟨_, _, _, rfl, HZ.2.2.1, HZ.2.2.2.1, HZ.2.2.2.2, fin0_below B17.out _ _ _ _ _ _ _⟩ | exact ⟨_, _, _, rfl, HZ.drew.2.2.1, HZ.drew.2.2.2.1, HZ.drew.2.2.2.2, fin_below B17.out _ _ _ _ _ _ _⟩
                  · -- taken
                    have HQ := H.out
                    clear H
                    rw [if_pos rfl, hfi.out] at HQ
                    obtain ⟨rfl, rfl⟩ : wa = true ∧ ok = true := by simpa using hg2.out
                    clear hg2 hfi
                    replace HQ := Aside0.mk HQ
                    go_upto_if 103 with (fail)
                    refine wp_world (X := fun W => Aside0 (SB w.heap.size P W l2 K2 (wrap64 (i2 + 1)) st2 e2 bs sd (.slice A1' l2.length cc1) (.slice Ab bs.length cb) (.slice As sd.length cs)) ∧ Aside0 (Kd.V Kd.string 9 W w.heap.size (fun k => okS w.heap.size P k ∧ some k ≠ (Value.slice As sd.length cs).ownBlock) (.slice Aq q'.length cq) q') ∧ Aside0 (Below w.heap.size w W)) ⟨⟨S15.out.at2⟩, ⟨Kd.V_far V15.out (fun k hk => (okS_ne hk.1).1) _⟩, ⟨below_cell B15.out (Nat.le_refl _) _ _⟩⟩ ?_
                    clear S15 V15 B15 c0 c1 c2 c3 c4 d0 d1 d2 d3 f_0 f_1 f_2 f_3 f_4 g_0 g_1 g_2 g_3
                    rintro w16 ⟨S16, V16, B16⟩
                    have d2 : w16.cell? ⟨w.heap.size + 1, 2, none⟩ = some (.slice Ab bs.length cb) := (blk_cell S16.out.c 2).trans rfl
                    have g2 := blk_frozen S16.out.c 2
                    have d3 : w16.cell? ⟨w.heap.size + 1, 3, none⟩ = some (.slice As sd.length cs) := (blk_cell S16.out.c 3).trans rfl
                    have hz16 := S16.out.size
                    go_cut [2] (fun v2 wd => v2 = .bool false ∧ Aside0 (∃ vb' vs', SB w.heap.size P wd l2 K2 (wrap64 (i2 + 1)) st2 e2 (if inb = true then q' else bs) (if inb = true then sd else sd ++ [q']) (.slice A1' l2.length cc1) vb' vs') ∧ Aside0 (Below w.heap.size w wd))
                    case first =>
                      cases inb
                      · go_wp2_with (at_builtin; refine Kd.N_append (Kd.slice 9 Kd.string) (w.heap.size + 4) rfl (.tmp 107) (.tmp 109) 34 22 (.slice none 0 0) 24 rfl Tryd.underlying34 info22 rfl (by decide) (by decide) (.slice As sd.length cs) sd q' [.slice Aq q'.length cq] (okS w.heap.size P) (fun k => okS w.heap.size P k ∧ some k ≠ (Value.slice As sd.length cs).ownBlock) rfl rfl (Kd.FK_slice_mk (Kd.V_at V16.out).2.1 (Kd.V_at V16.out).2.2) (fun k hk => hk) (fun k hk => .inr (Nat.le_trans hz16 hk)) S16.out.gs (Below.refl _ _) hz16 (by omega) ?_; intro v3 w17 hN hB1 hg1 hat1; obtain ⟨A3, c3', e3⟩ := Kd.N_slice hN; subst e3; have hB17 := B16.out.trans (hB1.mono (by omega)); have hbc := blk_grown S16.out.c hg1 (fun e => by have := Kd.N_base S16.out.gs _ e.symm; omega); have m3 : w17.cell? ⟨w.heap.size + 1, 3, none⟩ = some (.slice As sd.length cs) := (blk_cell hbc 3).trans rfl; have n3 := blk_frozen hbc 3; have S17 := Aside0.mk (S16.out.sided hg1 hat1 hN); have B17 := Aside0.mk (below_cell hB17 (show w.heap.size ≤ w.heap.size + 1 by omega) 3 (.slice A3 (sd ++ [q']).length c3')); clear hN hB1 hg1 hat1 hB17 hbc)
                        go_meet
                        case rel => exact ⟨rfl, ⟨_, _, by simpa using S17.out⟩, ⟨by simpa using B17.out⟩⟩
                      · go_wp2
                        go_meet
                        case rel => exact ⟨rfl, ⟨_, _, S16.out.based V16.out⟩, ⟨below_cell B16.out (show w.heap.size ≤ w.heap.size + 1 by omega) _ _⟩⟩
                    case rest =>
                      obtain ⟨rfl, HS2, B18⟩ := hcut
                      clear S16 V16 B16 d2 g2 d3 hz16
                      obtain ⟨vb', vs', hS2⟩ := HS2.out
                      clear HS2
                      obtain ⟨bs2, hbs2⟩ : ∃ bs2, (if inb = true then q' else bs) = bs2 := ⟨_, rfl⟩
                      obtain ⟨sd2, hsd2⟩ : ∃ sd2, (if inb = true then sd else sd ++ [q']) = sd2 := ⟨_, rfl⟩
                      have HQ2 := HQ.out
                      clear HQ
                      simp only [hbs2, hsd2] at hS2 HQ2
                      replace HQ := Aside0.mk HQ2
                      clear HQ2 hbs2 hsd2
                      obtain ⟨Ab2, cb2, eb⟩ := Kd.V_slice hS2.gb
                      subst eb
                      obtain ⟨As2, cs2, eb⟩ := Kd.N_slice hS2.gs
                      subst eb
                      have S18 := Aside0.mk hS2
                      clear hS2
                      have c3 : wc.cell? ⟨w.heap.size, 3, none⟩ = some (.int .i64 st2) := (blk_cell S18.out.s 3).trans rfl
                      have f3 := blk_frozen S18.out.s 3
                      go_upto_if 113 with (fail)
                      go_cut [2] (fun v2 we => v2 = .bool (decide (b' > 0)) ∧ Aside0 (SB w.heap.size P we l2 K2 (wrap64 (i2 + 1)) (if b' > 0 then 2 else if fi = true then 1 else st2) e2 bs2 sd2 (.slice A1' l2.length cc1) (.slice Ab2 bs2.length cb2) (.slice As2 sd2.length cs2)) ∧ Aside0 (Below w.heap.size w we))
                      case first =>
                        by_cases bb : b' > 0
                        · have bb1 : decide (b' > 0) = true := decide_eq_true bb
                          have bb2 : decide (0 < b') = true := decide_eq_true bb
                          have hT := Aside0.mk (show (if b' > 0 then 2 else if fi = true then 1 else st2 : Int) = 2 from if_pos bb)
                          go_wp2
                          go_meet
                          case rel => exact ⟨by rw [bb1], ⟨by rw [hT.out]; exact S18.out.at3⟩, ⟨below_cell B18.out (Nat.le_refl _) _ _⟩⟩
                        · have bb1 : decide (b' > 0) = false := decide_eq_false bb
                          have bb2 : decide (0 < b') = false := decide_eq_false bb
                          cases fi
                          · have hT := Aside0.mk (show (if b' > 0 then 2 else if false = true then 1 else st2 : Int) = st2 by rw [if_neg bb]; rfl)
                            replace bb : b' ≤ 0 := Int.not_lt.1 bb
                            go_wp2
                            go_meet
                            case rel => exact ⟨by rw [bb1], ⟨by rw [hT.out]; exact S18.out⟩, B18⟩
                          · have hT := Aside0.mk (show (if b' > 0 then 2 else if true = true then 1 else st2 : Int) = 1 by rw [if_neg bb]; rfl)
                            replace bb : b' ≤ 0 := Int.not_lt.1 bb
                            go_wp2
                            go_meet
                            case rel => exact ⟨by rw [bb1], ⟨by rw [hT.out]; exact S18.out.at3⟩, ⟨below_cell B18.out (Nat.le_refl _) _ _⟩⟩
                      case rest =>
                        obtain ⟨rfl, S19, B19⟩ := hcut
                        obtain ⟨sty, hsty⟩ : ∃ sty, (if b' > 0 then 2 else if fi = true then 1 else st2 : Int) = sty := ⟨_, rfl⟩
                        have HQ2 := HQ.out
                        have hS2 := S19.out
                        clear HQ S19 S18 B18 c3 f3
                        simp only [hsty] at hS2 HQ2
                        have S19 := Aside0.mk hS2
                        clear hS2 hsty
                        by_cases hee : e' > 0
                        · have ee1 : decide (e' > 0) = true := decide_eq_true hee
                          have ee2 : decide (0 < e') = true := decide_eq_true hee
                          rw [if_pos hee] at HQ2
                          obtain rfl := Option.some.inj HQ2
                          clear HQ2
                          have t0 : wc.cell? ⟨w.heap.size + 2, 0, none⟩ = some (.slice none 0 0) := (blk_cell S19.out.r 0).trans rfl
                          have y0 := blk_frozen S19.out.r 0
                          have t1 : wc.cell? ⟨w.heap.size + 2, 1, none⟩ = some (.int .i64 0) := (blk_cell S19.out.r 1).trans rfl
                          have y1 := blk_frozen S19.out.r 1
                          have t2 : wc.cell? ⟨w.heap.size + 2, 2, none⟩ = some (.int .i64 0) := (blk_cell S19.out.r 2).trans rfl
                          have y2 := blk_frozen S19.out.r 2
                          have t3 : wc.cell? ⟨w.heap.size + 2, 3, none⟩ = some (.int .i64 0) := (blk_cell S19.out.r 3).trans rfl
                          have y3 := blk_frozen S19.out.r 3
                          have t4 : wc.cell? ⟨w.heap.size + 2, 4, none⟩ = some (.int .i64 0) := (blk_cell S19.out.r 4).trans rfl
                          have y4 := blk_frozen S19.out.r 4
                          have z0 : wc.cell? ⟨w.heap.size + 3, 0, none⟩ = some (.bool false) := (blk_cell S19.out.q 0).trans rfl
                          have x0 := blk_frozen S19.out.q 0
                          have z1 : wc.cell? ⟨w.heap.size + 3, 1, none⟩ = some (.slice none 0 0) := (blk_cell S19.out.q 1).trans rfl
                          have x1 := blk_frozen S19.out.q 1
                          have z2 : wc.cell? ⟨w.heap.size + 3, 2, none⟩ = some (.slice none 0 0) := (blk_cell S19.out.q 2).trans rfl
                          have x2 := blk_frozen S19.out.q 2
                          have z3 : wc.cell? ⟨w.heap.size + 3, 3, none⟩ = some (.slice none 0 0) := (blk_cell S19.out.q 3).trans rfl
                          have x3 := blk_frozen S19.out.q 3
                          have i_0 : wc.cell? ⟨w.heap.size, 0, none⟩ = some (.slice A1' l2.length cc1) := (blk_cell S19.out.s 0).trans rfl
                          have i_1 : wc.cell? ⟨w.heap.size, 1, none⟩ = some (.int .i64 K2) := (blk_cell S19.out.s 1).trans rfl
                          have i_2 : wc.cell? ⟨w.heap.size, 2, none⟩ = some (.int .i64 (wrap64 (i2 + 1))) := (blk_cell S19.out.s 2).trans rfl
                          have i_3 : wc.cell? ⟨w.heap.size, 3, none⟩ = some (.int .i64 sty) := (blk_cell S19.out.s 3).trans rfl
                          have i_4 : wc.cell? ⟨w.heap.size, 4, none⟩ = some (.int .i64 e2) := (blk_cell S19.out.s 4).trans rfl
                          have j_0 : wc.cell? ⟨w.heap.size + 1, 0, none⟩ = some (.bool true) := (blk_cell S19.out.c 0).trans rfl
                          have j_1 : wc.cell? ⟨w.heap.size + 1, 1, none⟩ = some (.slice none 0 0) := (blk_cell S19.out.c 1).trans rfl
                          have j_2 : wc.cell? ⟨w.heap.size + 1, 2, none⟩ = some (.slice Ab2 bs2.length cb2) := (blk_cell S19.out.c 2).trans rfl
                          have j_3 : wc.cell? ⟨w.heap.size + 1, 3, none⟩ = some (.slice As2 sd2.length cs2) := (blk_cell S19.out.c 3).trans rfl
                          go_wp2_with (fail)
                          go_region
                          obtain ⟨q1, q2, q3, q4, q5⟩ := S19.out.fin
                          go_wp2
                          ((try simp only [Exit.inBlock, Exit.then]); refine bodyPost_ret (results_cc rfl _ _ (w.heap.size + 2) (w.heap.size + 3) 50 37 _ _ (0, 0) (0, 0) _ _ rfl q1 Tryd.underlying50 rfl (by kernel_rfl) rfl q2 Tryd.underlying37 rfl (by kernel_rfl)) rfl ?_)
                          exact ⟨_, _, _, rfl, q3, q4, q5, fin_below B19.out _ _ _ _ _ _ _⟩
                        · have ee1 : decide (e' > 0) = false := decide_eq_false hee
                          have ee2 : decide (0 < e') = false := decide_eq_false hee
                          rw [if_neg hee] at HQ2
                          replace HQ := Aside0.mk HQ2
                          clear HQ2
                          replace hee : e' ≤ 0 := Int.not_lt.1 hee
                          go_wp2_with (fail)
                          go_roundg k1
                          case measure => omega
                          case rel => exact ⟨l2, K2, wrap64 (i2 + 1), sty, e2, bs2, sd2, decide (b' > 0), _, _, _, rfl, HQ, S19, B19⟩
end Go.Proofs.YtcnjbmdnnhbfkaaDoor.Ref13
