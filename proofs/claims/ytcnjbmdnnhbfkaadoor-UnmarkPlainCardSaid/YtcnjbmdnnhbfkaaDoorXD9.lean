-- Printed by this session's xprint.sh (a patched copy of the kit's print program). Not trusted: Lean checks it.
import Derived.Test.YtcnjbmdnnhbfkaaDoorXD0
namespace Go.Proofs.YtcnjbmdnnhbfkaaDoor.XD
open Go.RowKit Go.Proofs.YtcnjbmdnnhbfkaaDoorW.PrintWords Go.Proofs.YtcnjbmdnnhbfkaaDoorW.PrintLast Go.Proofs.YtcnjbmdnnhbfkaaDoorW.PrintMore
attribute [local go_sem] max2_int min2_int max_two min_two max_three min_three max_four min_four   -- for this text's walks alone
set_option linter.unusedVariables false
set_option linter.unusedSimpArgs false

/-! ### sennitref07_Normal: function 14 -/
mutual
def sennitref07_Normal.l0 : Nat → List (S37) → List (S37) → Int → Option ((List (S37)))
 | 0, _, _, _ => none
 | k + 1, x0, x3, x4 => if x4 < (x0.length : Int) then (if 0 ≤ x4 then (if (rd_T37 x0 x4).f0 = true then (if x3.length < 1759218604441 then (sennitref07_Normal.l0 k x0 (x3 ++ [(⟨true, ([] : List ByteArray), (rd_T37 x0 x4).f2, (rd_T37 x0 x4).f3⟩ : S37)]) (wrap64 (x4 + 1))) else (none)) else (sennitref07_Normal.l1 k x0 x3 x4 ([] : List ByteArray))) else (none)) else (some x3)
def sennitref07_Normal.l1 : Nat → List (S37) → List (S37) → Int → List ByteArray → Option ((List (S37)))
 | 0, _, _, _, _ => none
 | k + 1, x0, x3, x4, x5 => if x4 < (x0.length : Int) then (if 0 ≤ x4 then (sennitref07_Normal.j2 k x0 x3 x4 x5 (!((rd_T37 x0 x4).f0))) else (none)) else (sennitref07_Normal.j2 k x0 x3 x4 x5 false)
def sennitref07_Normal.j2 : Nat → List (S37) → List (S37) → Int → List ByteArray → Bool → Option ((List (S37)))
 | 0, _, _, _, _, _ => none
 | k + 1, x0, x3, x4, x5, x42 => if x42 = true then (if 0 ≤ x4 then (if x4 < (x0.length : Int) then (if x5.length + ((rd_T37 x0 x4).f1).length < 8796093022208 then (sennitref07_Normal.l1 k x0 x3 (wrap64 (x4 + 1)) (x5 ++ ((rd_T37 x0 x4).f1))) else (none)) else (none)) else (none)) else (if (x5.length : Int) > 0 then (if x3.length < 1759218604441 then (sennitref07_Normal.l0 k x0 (x3 ++ [(⟨false, x5, ([] : List ByteArray), ([] : List (List ByteArray))⟩ : S37)]) x4) else (none)) else (sennitref07_Normal.l0 k x0 x3 x4))
end
def sennitref07_Normal.f (k : Nat) (l0 : List (S37)) : Option ((List (S37))) := sennitref07_Normal.l0 k l0 ([] : List (S37)) 0
theorem sennitref07_Normal.mono_l : ∀ k, (∀ y0 y1 y2, LeO (sennitref07_Normal.l0 k y0 y1 y2) (sennitref07_Normal.l0 (k + 1) y0 y1 y2)) ∧ (∀ y0 y1 y2 y3, LeO (sennitref07_Normal.l1 k y0 y1 y2 y3) (sennitref07_Normal.l1 (k + 1) y0 y1 y2 y3)) ∧ (∀ y0 y1 y2 y3 y4, LeO (sennitref07_Normal.j2 k y0 y1 y2 y3 y4) (sennitref07_Normal.j2 (k + 1) y0 y1 y2 y3 y4))
 | 0 => ⟨fun _ _ _ r h => by simp [sennitref07_Normal.l0] at h, fun _ _ _ _ r h => by simp [sennitref07_Normal.l1] at h, fun _ _ _ _ _ r h => by simp [sennitref07_Normal.j2] at h⟩
 | k + 1 => by
  obtain ⟨ih0, ih1, ih2⟩ := sennitref07_Normal.mono_l k
  refine ⟨?_, ?_, ?_⟩
  ·intro y0 y1 y2
   unfold sennitref07_Normal.l0
   repeat' first
   | (with_reducible exact ih0 _ _ _)
   | (with_reducible exact ih1 _ _ _ _)
   | (with_reducible exact ih2 _ _ _ _ _)
   | (with_reducible exact LeO.refl _)
   | (with_reducible exact LeO.none _)
   | (with_reducible refine LeO.ite ?_ ?_)
   | (with_reducible refine LeO.bind ?_ (fun _ => ?_))
   | exact ih0 _ _ _
   | exact ih1 _ _ _ _
   | exact ih2 _ _ _ _ _
   | exact LeO.none _
   | refine LeO.ite ?_ ?_
   | refine LeO.bind ?_ (fun _ => ?_)
  ·intro y0 y1 y2 y3
   unfold sennitref07_Normal.l1
   repeat' first
   | (with_reducible exact ih0 _ _ _)
   | (with_reducible exact ih1 _ _ _ _)
   | (with_reducible exact ih2 _ _ _ _ _)
   | (with_reducible exact LeO.refl _)
   | (with_reducible exact LeO.none _)
   | (with_reducible refine LeO.ite ?_ ?_)
   | (with_reducible refine LeO.bind ?_ (fun _ => ?_))
   | exact ih0 _ _ _
   | exact ih1 _ _ _ _
   | exact ih2 _ _ _ _ _
   | exact LeO.none _
   | refine LeO.ite ?_ ?_
   | refine LeO.bind ?_ (fun _ => ?_)
  ·intro y0 y1 y2 y3 y4
   unfold sennitref07_Normal.j2
   repeat' first
   | (with_reducible exact ih0 _ _ _)
   | (with_reducible exact ih1 _ _ _ _)
   | (with_reducible exact ih2 _ _ _ _ _)
   | (with_reducible exact LeO.refl _)
   | (with_reducible exact LeO.none _)
   | (with_reducible refine LeO.ite ?_ ?_)
   | (with_reducible refine LeO.bind ?_ (fun _ => ?_))
   | exact ih0 _ _ _
   | exact ih1 _ _ _ _
   | exact ih2 _ _ _ _ _
   | exact LeO.none _
   | refine LeO.ite ?_ ?_
   | refine LeO.bind ?_ (fun _ => ?_)
theorem sennitref07_Normal.mono : ∀ a0 k, LeO (sennitref07_Normal.f k a0) (sennitref07_Normal.f (k + 1) a0) := by
 intro a0 k
 obtain ⟨ih0, ih1, ih2⟩ := sennitref07_Normal.mono_l k
 unfold sennitref07_Normal.f
 repeat' first
   | (with_reducible exact ih0 _ _ _)
   | (with_reducible exact ih1 _ _ _ _)
   | (with_reducible exact ih2 _ _ _ _ _)
   | (with_reducible exact LeO.refl _)
   | (with_reducible exact LeO.none _)
   | (with_reducible refine LeO.ite ?_ ?_)
   | (with_reducible refine LeO.bind ?_ (fun _ => ?_))
   | exact ih0 _ _ _
   | exact ih1 _ _ _ _
   | exact ih2 _ _ _ _ _
   | exact LeO.none _
   | refine LeO.ite ?_ ?_
   | refine LeO.bind ?_ (fun _ => ?_)
def sennitref07_Normal.T5 : Bool × List (List Nat × List Nat) := (true, [([], []), ([], []), ([], []), ([1, 2], [1, 2]), ([3], [3]), ([4], [4]), ([], []), ([], []), ([6, 7], [6, 7]), ([8], [8]), ([9], [9]), ([5, 10], [5, 10]), ([11], [11]), ([0, 12], [0, 12]), ([13, 13, 0, 1, 2, 3, 4, 5, 6, 7, 8, 9, 10, 11, 12, 13], [0, 13])])
def sennitref07_Normal.B5 : List Nat := [0, 0, 0, 6, 14, 30, 0, 0, 192, 448, 960, 2046, 4094, 8191, 16383]
theorem sennitref07_Normal.tab5 : rtab .any (opsOf Tryd.f14 5) = sennitref07_Normal.T5 := by kernel_rfl
theorem sennitref07_Normal.bits5 : waitsOk sennitref07_Normal.T5.2 sennitref07_Normal.B5 = true := by kernel_rfl
set_option maxHeartbeats 8000000 in
set_option maxRecDepth 100000 in
theorem sennitref07_Normal.calls (k : Nat) (P0_ : Nat → Prop) (A0 : Option Addr) (c0 : Nat) (l0 : List (S37)) (r : List (S37)) (w : World) (hs0 : Kd.V k37 37 w w.heap.size (fun k_ => P0_ k_) (.slice A0 l0.length c0) l0) (h : sennitref07_Normal.f k l0 = some r) :
  Calls Tryd.prog 14 #[.slice A0 l0.length c0] w fun e w' => ∃ v0_ : Value, e = .returned (v0_) ∧ Kd.N k37 37 w' w.heap.size (fun k_ => (P0_ k_ ∨ w.heap.size ≤ k_)) v0_ r ∧ Below w.heap.size w w' := by
 have hu37 := Tryd.underlying37
 have HO0 := Aside0.mk (show Kd.V k37 37 w w.heap.size (fun k_ => (P0_ k_ ∨ w.heap.size ≤ k_)) (.slice A0 l0.length c0) l0 from Kd.V_mono hs0 (fun k_ hk => .inl hk))
 have HB := Aside0.mk (Below.refl w.heap.size w)
 have H : (sennitref07_Normal.l0 k l0 ([] : List (S37)) 0) = some r := h
 clear h
 have H' := Aside0.mk H
 clear H
 go_enter Tryd.func14, Tryd.ntmps14
 go_wp2
 go_loopg [3, 4] k (fun kq v3 v4 w' => ∃ (x3_1 : List (S37)) (x4_1 : Int), v4 = .int .i64 x4_1 ∧ Aside0 (sennitref07_Normal.l0 kq l0 x3_1 x4_1 = some r) ∧ Aside0 (kq ≤ k) ∧ Aside0 (Kd.V k37 37 w' w.heap.size (fun k_ => (P0_ k_ ∨ w.heap.size ≤ k_) ∧ some k_ ≠ (v3 : Value).ownBlock) (.slice A0 l0.length c0) l0) ∧ Aside0 (Kd.N k37 37 w' w.heap.size (fun k_ => (P0_ k_ ∨ w.heap.size ≤ k_)) v3 x3_1) ∧ Aside0 (Below w.heap.size w w'))
 case atStart => exact ⟨(([] : List (S37))), (0), (by first | rfl | (simp; done) | (simp [*]; done)), H', ⟨Nat.le_refl _⟩, ⟨by (with_reducible repeat (first | apply Kd.V_alloc | apply Kd.V_drewN | apply Kd.V_drew)); exact Kd.V_mono HO0.out (fun _ hk => ⟨hk, (by simp [Value.ownBlock])⟩)⟩, ⟨by first | exact Kd.R_nil _ _ _ _ _ | exact Kd.N_nil _ _ _ _ _ | exact Kd.V_nil _ _ _ _ _ | exact Kd.Q_nil _ _ _ _ _ | exact Kd.S_nil _ _ _ _ _⟩, ⟨by repeat (first | (with_reducible first | exact HB.out | apply below_alloc | apply pw_below_drewN | apply below_drew1) | exact HB.out)⟩⟩
 case round =>
  clear H'
  try clear c1
  obtain ⟨x3_1, x4_1, rfl, HA, HK1, HO_0, HO_3, HB⟩ := hrel
  cases gk with
  | zero => exact absurd HA.out (by simp [sennitref07_Normal.l0])
  | succ k1 =>
   have H := HA.out
   clear HA
   simp only [sennitref07_Normal.l0] at H
   by_cases c2 : x4_1 < (l0.length : Int)
   ·rw [if_pos c2] at H
    have c2b0 : decide (x4_1 < (l0.length : Int)) = true := decide_eq_true c2
    clear c2
    by_cases c3 : 0 ≤ x4_1
    ·rw [if_pos c3] at H
     have c3b0 : decide (0 ≤ x4_1) = true := decide_eq_true c3
     clear c3
     obtain ⟨bq4, hbq4⟩ : ∃ b_ : Bool, b_ = ((rd_T37 l0 x4_1).f0) := ⟨_, rfl⟩
     replace H : (if bq4 = true then (if x3_1.length < 1759218604441 then (sennitref07_Normal.l0 k1 l0 (x3_1 ++ [(⟨true, ([] : List ByteArray), (rd_T37 l0 x4_1).f2, (rd_T37 l0 x4_1).f3⟩ : S37)]) (wrap64 (x4_1 + 1))) else (none)) else (sennitref07_Normal.l1 k1 l0 x3_1 x4_1 ([] : List ByteArray))) = some r := by rw [← hbq4] at H; exact H
     have Nbq4 := Aside0.mk hbq4
     clear hbq4
     by_cases c5 : bq4 = true
     ·subst c5
      have H1 : (if x3_1.length < 1759218604441 then (sennitref07_Normal.l0 k1 l0 (x3_1 ++ [(⟨true, ([] : List ByteArray), (rd_T37 l0 x4_1).f2, (rd_T37 l0 x4_1).f3⟩ : S37)]) (wrap64 (x4_1 + 1))) else (none)) = some r := by rw [if_pos rfl] at H; exact H
      clear H
      have H := H1
      clear H1
      by_cases c6 : x3_1.length < 1759218604441
      ·rw [if_pos c6] at H
       have LMc6 := Aside0.mk c6
       clear c6
       obtain ⟨y253, hy253⟩ : ∃ y_ : List (S37), y_ = (x3_1 ++ [(⟨true, ([] : List ByteArray), (rd_T37 l0 x4_1).f2, (rd_T37 l0 x4_1).f3⟩ : S37)]) := ⟨_, rfl⟩
       replace H : (sennitref07_Normal.l0 k1 l0 y253 (wrap64 (x4_1 + 1))) = some r := by first | (rw [hy253]; with_reducible exact H) | (have H2_ := (Option.bind_some _ _).symm.trans H; rw [hy253]; with_reducible exact H2_) | (have H2_ := (Option.bind_some _ _).symm.trans H; with_reducible exact H2_) | with_reducible exact H | (rw [hy253]; exact H) | exact H
       have Ny253 := Aside0.mk hy253
       clear hy253
       have H' := Aside0.mk H
       clear H
       have p250 : 0 ≤ (x4_1 : Int) := of_decide_eq_true (by first | (with_reducible assumption) | assumption)
       have q250 : x4_1 < (l0.length : Int) := of_decide_eq_true (by first | (with_reducible assumption) | assumption)
       obtain ⟨ad250, A250_1, c250_1, A250_2, c250_2, A250_3, c250_3, e250, hx250_0, hx250_1, hx250_2, hx250_3, hl250_1, hi250_1, hl250_2, hi250_2, hl250_3, hi250_3⟩ := at_T37 (Kd.V_reads' HO_0.out).2.2 x4_1 p250 q250
       (try rw [← Nbq4.out] at hx250_0)
       cases e250
       obtain ⟨ce250, hce250, hMe250, hcc250⟩ := Kd.V_get HO_0.out z37 x4_1 p250 (by first | exact q250 | exact of_decide_eq_true (by first | (with_reducible assumption) | assumption) | (have e_ := (Kd.V_reads' HO_0.out).1; omega))
       obtain ⟨ua250_1, uc250_1, ua250_2, uc250_2, ua250_3, uc250_3, rfl, ul250_1, ge250_1, ul250_2, ge250_2, ul250_3, ge250_3⟩ := k37_openF hMe250
       have hv250_1 := hcc250 1 _ rfl
       rw [add_field _ _ 1 (by omega)] at hv250_1
       replace hv250_1 := Option.some.inj (hv250_1.symm.trans hx250_1)
       injection hv250_1 with hva_ hvn_ hvc_
       rw [hva_] at ge250_1
       rw [hvc_] at ul250_1
       have HL250_1 := Aside0.mk (show Kd.V Kd.string 9 _ w.heap.size _ _ ((rd_T37 l0 x4_1).f1) from Kd.V_mk ul250_1 ge250_1)
       clear hva_ hvn_ hvc_ ge250_1 ul250_1
       have hv250_2 := hcc250 2 _ rfl
       rw [add_field _ _ 2 (by omega)] at hv250_2
       replace hv250_2 := Option.some.inj (hv250_2.symm.trans hx250_2)
       injection hv250_2 with hva_ hvn_ hvc_
       rw [hva_] at ge250_2
       rw [hvc_] at ul250_2
       have HL250_2 := Aside0.mk (show Kd.V Kd.string 9 _ w.heap.size _ _ ((rd_T37 l0 x4_1).f2) from Kd.V_mk ul250_2 ge250_2)
       clear hva_ hvn_ hvc_ ge250_2 ul250_2
       have hv250_3 := hcc250 3 _ rfl
       rw [add_field _ _ 3 (by omega)] at hv250_3
       replace hv250_3 := Option.some.inj (hv250_3.symm.trans hx250_3)
       injection hv250_3 with hva_ hvn_ hvc_
       rw [hva_] at ge250_3
       rw [hvc_] at ul250_3
       have HL250_3 := Aside0.mk (show Kd.V (Kd.slice 9 Kd.string) 22 _ w.heap.size _ _ ((rd_T37 l0 x4_1).f3) from Kd.V_mk ul250_3 ge250_3)
       clear hva_ hvn_ hvc_ ge250_3 ul250_3
       clear hcc250 hce250
       have HR250_1 := Aside0.mk hi250_1
       have HC250_1 := Aside0.mk hl250_1
       clear hi250_1 hl250_1
       have HR250_2 := Aside0.mk hi250_2
       have HC250_2 := Aside0.mk hl250_2
       clear hi250_2 hl250_2
       have HR250_3 := Aside0.mk hi250_3
       have HC250_3 := Aside0.mk hl250_3
       clear hi250_3 hl250_3
       replace p250 := eq_true p250
       replace q250 := eq_true q250
       try go_wp2
       have n0_ := Aside0.mk (Kd.V_drew HO_0.out)
       have n1_ := Aside0.mk (Kd.N_drew HO_3.out)
       have n2_ := Aside0.mk (Kd.V_drew HL250_1.out)
       have n3_ := Aside0.mk (Kd.V_drew HL250_2.out)
       have n4_ := Aside0.mk (Kd.V_drew HL250_3.out)
       have n5_ := Aside0.mk (Kd.C_drew HR250_1.out)
       have n6_ := Aside0.mk (Kd.C_drew HR250_2.out)
       have n7_ := Aside0.mk (Kd.C_drew HR250_3.out)
       have n8_ := Aside0.mk (below_drew1 HB.out)
       clear HO_0
       clear HO_3
       clear HL250_1
       clear HL250_2
       clear HL250_3
       clear HR250_1
       clear HR250_2
       clear HR250_3
       clear HB
       have HO_0 := n0_
       have HO_3 := n1_
       have HL250_1 := n2_
       have HL250_2 := n3_
       have HL250_3 := n4_
       have HR250_1 := n5_
       have HR250_2 := n6_
       have HR250_3 := n7_
       have HB := n8_
       clear n0_ n1_ n2_ n3_ n4_ n5_ n6_ n7_ n8_
       have p251 : 0 ≤ (x4_1 : Int) := of_decide_eq_true (by first | (with_reducible assumption) | assumption)
       have q251 : x4_1 < (l0.length : Int) := of_decide_eq_true (by first | (with_reducible assumption) | assumption)
       obtain ⟨ad251, A251_1, c251_1, A251_2, c251_2, A251_3, c251_3, e251, hx251_0, hx251_1, hx251_2, hx251_3, hl251_1, hi251_1, hl251_2, hi251_2, hl251_3, hi251_3⟩ := at_T37 (Kd.V_reads' HO_0.out).2.2 x4_1 p251 q251
       (try rw [← Nbq4.out] at hx251_0)
       obtain rfl : ad250 = ad251 := (by injection e251)
       obtain ⟨ce251, hce251, hMe251, hcc251⟩ := Kd.V_get HO_0.out z37 x4_1 p251 (by first | exact q251 | exact of_decide_eq_true (by first | (with_reducible assumption) | assumption) | (have e_ := (Kd.V_reads' HO_0.out).1; omega))
       obtain ⟨ua251_1, uc251_1, ua251_2, uc251_2, ua251_3, uc251_3, rfl, ul251_1, ge251_1, ul251_2, ge251_2, ul251_3, ge251_3⟩ := k37_openF hMe251
       have hv251_1 := hcc251 1 _ rfl
       rw [add_field _ _ 1 (by omega)] at hv251_1
       replace hv251_1 := Option.some.inj (hv251_1.symm.trans hx251_1)
       injection hv251_1 with hva_ hvn_ hvc_
       rw [hva_] at ge251_1
       rw [hvc_] at ul251_1
       have HL251_1 := Aside0.mk (show Kd.V Kd.string 9 _ w.heap.size _ _ ((rd_T37 l0 x4_1).f1) from Kd.V_mk ul251_1 ge251_1)
       clear hva_ hvn_ hvc_ ge251_1 ul251_1
       have hv251_2 := hcc251 2 _ rfl
       rw [add_field _ _ 2 (by omega)] at hv251_2
       replace hv251_2 := Option.some.inj (hv251_2.symm.trans hx251_2)
       injection hv251_2 with hva_ hvn_ hvc_
       rw [hva_] at ge251_2
       rw [hvc_] at ul251_2
       have HL251_2 := Aside0.mk (show Kd.V Kd.string 9 _ w.heap.size _ _ ((rd_T37 l0 x4_1).f2) from Kd.V_mk ul251_2 ge251_2)
       clear hva_ hvn_ hvc_ ge251_2 ul251_2
       have hv251_3 := hcc251 3 _ rfl
       rw [add_field _ _ 3 (by omega)] at hv251_3
       replace hv251_3 := Option.some.inj (hv251_3.symm.trans hx251_3)
       injection hv251_3 with hva_ hvn_ hvc_
       rw [hva_] at ge251_3
       rw [hvc_] at ul251_3
       have HL251_3 := Aside0.mk (show Kd.V (Kd.slice 9 Kd.string) 22 _ w.heap.size _ _ ((rd_T37 l0 x4_1).f3) from Kd.V_mk ul251_3 ge251_3)
       clear hva_ hvn_ hvc_ ge251_3 ul251_3
       clear hcc251 hce251
       have HR251_1 := Aside0.mk hi251_1
       have HC251_1 := Aside0.mk hl251_1
       clear hi251_1 hl251_1
       have HR251_2 := Aside0.mk hi251_2
       have HC251_2 := Aside0.mk hl251_2
       clear hi251_2 hl251_2
       have HR251_3 := Aside0.mk hi251_3
       have HC251_3 := Aside0.mk hl251_3
       clear hi251_3 hl251_3
       replace p251 := eq_true p251
       replace q251 := eq_true q251
       have p252 : 0 ≤ (x4_1 : Int) := of_decide_eq_true (by first | (with_reducible assumption) | assumption)
       have q252 : x4_1 < (l0.length : Int) := of_decide_eq_true (by first | (with_reducible assumption) | assumption)
       obtain ⟨ad252, A252_1, c252_1, A252_2, c252_2, A252_3, c252_3, e252, hx252_0, hx252_1, hx252_2, hx252_3, hl252_1, hi252_1, hl252_2, hi252_2, hl252_3, hi252_3⟩ := at_T37 (Kd.V_reads' HO_0.out).2.2 x4_1 p252 q252
       (try rw [← Nbq4.out] at hx252_0)
       obtain rfl : ad250 = ad252 := (by injection e252)
       obtain ⟨ce252, hce252, hMe252, hcc252⟩ := Kd.V_get HO_0.out z37 x4_1 p252 (by first | exact q252 | exact of_decide_eq_true (by first | (with_reducible assumption) | assumption) | (have e_ := (Kd.V_reads' HO_0.out).1; omega))
       obtain ⟨ua252_1, uc252_1, ua252_2, uc252_2, ua252_3, uc252_3, rfl, ul252_1, ge252_1, ul252_2, ge252_2, ul252_3, ge252_3⟩ := k37_openF hMe252
       have hv252_1 := hcc252 1 _ rfl
       rw [add_field _ _ 1 (by omega)] at hv252_1
       replace hv252_1 := Option.some.inj (hv252_1.symm.trans hx252_1)
       injection hv252_1 with hva_ hvn_ hvc_
       rw [hva_] at ge252_1
       rw [hvc_] at ul252_1
       have HL252_1 := Aside0.mk (show Kd.V Kd.string 9 _ w.heap.size _ _ ((rd_T37 l0 x4_1).f1) from Kd.V_mk ul252_1 ge252_1)
       clear hva_ hvn_ hvc_ ge252_1 ul252_1
       have hv252_2 := hcc252 2 _ rfl
       rw [add_field _ _ 2 (by omega)] at hv252_2
       replace hv252_2 := Option.some.inj (hv252_2.symm.trans hx252_2)
       injection hv252_2 with hva_ hvn_ hvc_
       rw [hva_] at ge252_2
       rw [hvc_] at ul252_2
       have HL252_2 := Aside0.mk (show Kd.V Kd.string 9 _ w.heap.size _ _ ((rd_T37 l0 x4_1).f2) from Kd.V_mk ul252_2 ge252_2)
       clear hva_ hvn_ hvc_ ge252_2 ul252_2
       have hv252_3 := hcc252 3 _ rfl
       rw [add_field _ _ 3 (by omega)] at hv252_3
       replace hv252_3 := Option.some.inj (hv252_3.symm.trans hx252_3)
       injection hv252_3 with hva_ hvn_ hvc_
       rw [hva_] at ge252_3
       rw [hvc_] at ul252_3
       have HL252_3 := Aside0.mk (show Kd.V (Kd.slice 9 Kd.string) 22 _ w.heap.size _ _ ((rd_T37 l0 x4_1).f3) from Kd.V_mk ul252_3 ge252_3)
       clear hva_ hvn_ hvc_ ge252_3 ul252_3
       clear hcc252 hce252
       have HR252_1 := Aside0.mk hi252_1
       have HC252_1 := Aside0.mk hl252_1
       clear hi252_1 hl252_1
       have HR252_2 := Aside0.mk hi252_2
       have HC252_2 := Aside0.mk hl252_2
       clear hi252_2 hl252_2
       have HR252_3 := Aside0.mk hi252_3
       have HC252_3 := Aside0.mk hl252_3
       clear hi252_3 hl252_3
       replace p252 := eq_true p252
       replace q252 := eq_true q252
       have ea_ := Option.some.inj (hx251_1.symm.trans hx252_1)
       injection ea_ with ea_ en_ ec_
       subst ea_
       subst ec_
       clear en_
       have ea_ := Option.some.inj (hx251_2.symm.trans hx252_2)
       injection ea_ with ea_ en_ ec_
       subst ea_
       subst ec_
       clear en_
       have ea_ := Option.some.inj (hx251_3.symm.trans hx252_3)
       injection ea_ with ea_ en_ ec_
       subst ea_
       subst ec_
       clear en_
       refine start_ (n := 15) (S := fun w' => w'.cell? (ad250.add ((x4_1).toNat * 4)) = some (.bool (true)) ∧ w'.cell? ⟨(ad250.add ((x4_1).toNat * 4)).block, (ad250.add ((x4_1).toNat * 4)).off + 1, none⟩ = some (.slice A251_1 ((rd_T37 l0 x4_1).f1).length c251_1) ∧ w'.cell? ⟨(ad250.add ((x4_1).toNat * 4)).block, (ad250.add ((x4_1).toNat * 4)).off + 2, none⟩ = some (.slice A251_2 ((rd_T37 l0 x4_1).f2).length c251_2) ∧ w'.cell? ⟨(ad250.add ((x4_1).toNat * 4)).block, (ad250.add ((x4_1).toNat * 4)).off + 3, none⟩ = some (.slice A251_3 ((rd_T37 l0 x4_1).f3).length c251_3) ∧ w'.cell? (ad250.add ((x4_1).toNat * 4)) = some (.bool (true)) ∧ w'.cell? ⟨(ad250.add ((x4_1).toNat * 4)).block, (ad250.add ((x4_1).toNat * 4)).off + 1, none⟩ = some (.slice A251_1 ((rd_T37 l0 x4_1).f1).length c251_1) ∧ w'.cell? ⟨(ad250.add ((x4_1).toNat * 4)).block, (ad250.add ((x4_1).toNat * 4)).off + 2, none⟩ = some (.slice A251_2 ((rd_T37 l0 x4_1).f2).length c251_2) ∧ w'.cell? ⟨(ad250.add ((x4_1).toNat * 4)).block, (ad250.add ((x4_1).toNat * 4)).off + 3, none⟩ = some (.slice A251_3 ((rd_T37 l0 x4_1).f3).length c251_3)) (ds := [12, 13]) #[false, false, false, false, false, false, false, false, false, false, false, false, false, false, false] (by kernel_rfl) rfl rfl ⟨hx251_0, hx251_1, hx251_2, hx251_3, hx252_0, hx252_1, hx252_2, hx252_3⟩ (fun hHeld => ?_); refine with_tabW sennitref07_Normal.tab5 sennitref07_Normal.bits5 (fun HT_ HW_ => ?_)
       generalize wr.drew = w7 at HO_0 HO_3 HL250_1 HL250_2 HL250_3 HR250_1 HR250_2 HR250_3 HB HL251_1 HL251_2 HL251_3 HL252_1 HL252_2 HL252_3 HR251_1 HR251_2 HR251_3 HR252_1 HR252_2 HR252_3 hx251_0 hx251_1 hx251_2 hx251_3 hx252_0 hx252_1 hx252_2 hx252_3 hHeld ⊢
       refine pure_ (i := 0) (N := some 15) (v := ?_) (a' := ?_) #[true, false, false, false, false, false, false, false, false, false, false, false, false, false, false] rfl rfl (any_of HT_.out (by kernel_rfl)) (fun _ _ _ h => h) (Or.inl ⟨by rfl, ?_⟩) ?_ ?_
       rotate_left
       ·intro w'
        go_simp
        with_reducible rfl
       rotate_left
       ·simp only [Act.put, List.setIfInBounds_toArray, List.set_cons_zero, List.set_cons_succ, i64_w, i32_w]
        rfl
       refine pure_ (i := 1) (N := some 16) (v := ?_) (a' := ?_) #[true, true, false, false, false, false, false, false, false, false, false, false, false, false, false] rfl rfl (any_of HT_.out (by kernel_rfl)) (fun _ _ _ h => h) (Or.inl ⟨by rfl, ?_⟩) ?_ ?_
       rotate_left
       ·intro w'
        go_simp
        with_reducible rfl
       rotate_left
       ·simp only [Act.put, List.setIfInBounds_toArray, List.set_cons_zero, List.set_cons_succ, i64_w, i32_w]
        rfl
       refine pure_ (i := 2) (N := some 17) (v := ?_) (a' := ?_) #[true, true, true, false, false, false, false, false, false, false, false, false, false, false, false] rfl rfl (any_of HT_.out (by kernel_rfl)) (fun _ _ _ h => h) (Or.inl ⟨by rfl, ?_⟩) ?_ ?_
       rotate_left
       ·intro w'
        go_simp
        with_reducible rfl
       rotate_left
       ·simp only [Act.put, List.setIfInBounds_toArray, List.set_cons_zero, List.set_cons_succ, i64_w, i32_w]
        rfl
       refine pure_ (i := 3) (N := some 18) (v := ?_) (a' := ?_) #[true, true, true, true, false, false, false, false, false, false, false, false, false, false, false] rfl rfl (any_of HT_.out (by kernel_rfl)) (fun _ _ _ h => h) (Or.inl ⟨by rfl, ?_⟩) ?_ ?_
       rotate_left
       ·intro w'
        go_simp
        with_reducible rfl
       rotate_left
       ·simp only [Act.put, List.setIfInBounds_toArray, List.set_cons_zero, List.set_cons_succ, i64_w, i32_w]
        rfl
       refine pure_ (i := 4) (N := some 19) (v := ?_) (a' := ?_) #[true, true, true, true, true, false, false, false, false, false, false, false, false, false, false] rfl rfl (any_of HT_.out (by kernel_rfl)) (fun _ _ _ h => h) (Or.inl ⟨by rfl, ?_⟩) ?_ ?_
       rotate_left
       ·intro w'
        go_simp
        with_reducible rfl
       rotate_left
       ·simp only [Act.put, List.setIfInBounds_toArray, List.set_cons_zero, List.set_cons_succ, i64_w, i32_w]
        rfl
       refine pure_ (i := 6) (N := some 21) (v := ?_) (a' := ?_) #[true, true, true, true, true, false, true, false, false, false, false, false, false, false, false] rfl rfl (any_of HT_.out (by kernel_rfl)) (fun _ _ _ h => h) (Or.inl ⟨by rfl, ?_⟩) ?_ ?_
       rotate_left
       ·intro w'
        go_simp
        with_reducible rfl
       rotate_left
       ·simp only [Act.put, List.setIfInBounds_toArray, List.set_cons_zero, List.set_cons_succ, i64_w, i32_w]
        rfl
       refine pure_ (i := 7) (N := some 22) (v := ?_) (a' := ?_) #[true, true, true, true, true, false, true, true, false, false, false, false, false, false, false] rfl rfl (any_of HT_.out (by kernel_rfl)) (fun _ _ _ h => h) (Or.inl ⟨by rfl, ?_⟩) ?_ ?_
       rotate_left
       ·intro w'
        go_simp
        with_reducible rfl
       rotate_left
       ·simp only [Act.put, List.setIfInBounds_toArray, List.set_cons_zero, List.set_cons_succ, i64_w, i32_w]
        rfl
       refine pure_ (i := 8) (N := some 23) (v := ?_) (a' := ?_) #[true, true, true, true, true, false, true, true, true, false, false, false, false, false, false] rfl rfl (any_of HT_.out (by kernel_rfl)) (fun _ _ _ h => h) (Or.inl ⟨by rfl, ?_⟩) ?_ ?_
       rotate_left
       ·intro w'
        go_simp
        with_reducible rfl
       rotate_left
       ·simp only [Act.put, List.setIfInBounds_toArray, List.set_cons_zero, List.set_cons_succ, i64_w, i32_w]
        rfl
       refine pure_ (i := 9) (N := some 24) (v := ?_) (a' := ?_) #[true, true, true, true, true, false, true, true, true, true, false, false, false, false, false] rfl rfl (any_of HT_.out (by kernel_rfl)) (fun _ _ _ h => h) (Or.inl ⟨by rfl, ?_⟩) ?_ ?_
       rotate_left
       ·intro w'
        go_simp
        with_reducible rfl
       rotate_left
       ·simp only [Act.put, List.setIfInBounds_toArray, List.set_cons_zero, List.set_cons_succ, i64_w, i32_w]
        rfl
       refine take_ (i := 5) (N := some 20) (v := ?_) (a' := ?_) #[true, true, true, true, true, true, true, true, true, true, false, false, false, false, false] rfl rfl (take_ofW HT_.out HW_.out (by kernel_rfl)) (fun _ _ _ h => h) (Or.inl ⟨by rfl, ?_⟩) hHeld ?_ ?_
       rotate_left
       ·rintro w' ⟨s0, s1, s2, s3, s4, s5, s6, s7⟩
        go_simp
        with_reducible rfl
       rotate_left
       ·simp only [Act.put, List.setIfInBounds_toArray, List.set_cons_zero, List.set_cons_succ, i64_w, i32_w]
        rfl
       refine take_ (i := 10) (N := some 25) (v := ?_) (a' := ?_) #[true, true, true, true, true, true, true, true, true, true, true, false, false, false, false] rfl rfl (take_ofW HT_.out HW_.out (by kernel_rfl)) (fun _ _ _ h => h) (Or.inl ⟨by rfl, ?_⟩) hHeld ?_ ?_
       rotate_left
       ·rintro w' ⟨s0, s1, s2, s3, s4, s5, s6, s7⟩
        go_simp
        with_reducible rfl
       rotate_left
       ·simp only [Act.put, List.setIfInBounds_toArray, List.set_cons_zero, List.set_cons_succ, i64_w, i32_w]
        rfl
       refine pure_ (i := 11) (N := some 26) (v := ?_) (a' := ?_) #[true, true, true, true, true, true, true, true, true, true, true, true, false, false, false] rfl rfl (any_of HT_.out (by kernel_rfl)) (fun _ _ _ h => h) (Or.inl ⟨by rfl, ?_⟩) ?_ ?_
       rotate_left
       ·intro w'
        go_simp
        with_reducible rfl
       rotate_left
       ·simp only [Act.put, List.setIfInBounds_toArray, List.set_cons_zero, List.set_cons_succ, i64_w, i32_w]
        rfl
       refine last_ (i := 12) (N := some 27) #[true, true, true, true, true, true, true, true, true, true, true, true, true, false, false] rfl rfl (one_of HT_.out (by kernel_rfl)) (by decide) (fun K hK => ?_)
       refine value_ (w1 := ?_) (v := ?_) (by rfl) rfl ?_ ?_
       rotate_left 2
       ·go_simp
        constructor
        ·rfl
        ·rfl
       refine hK.out _ _ ?_
       clear hK K
       refine norm_ (a' := ?_) ?_ ?_
       rotate_left
       ·show Act.put _ (some 27) _ = _
        simp only [Act.put, List.setIfInBounds_toArray, List.set_cons_zero, List.set_cons_succ, i64_w, i32_w]
        rfl
       refine last_ (i := 13) (N := some 28) #[true, true, true, true, true, true, true, true, true, true, true, true, true, true, false] rfl rfl (one_of HT_.out (by kernel_rfl)) (by decide) (fun K hK => ?_)
       refine Kd.N_append_step k37 (w0 := w) w.heap.size (by rfl) (.tmp 15) (.tmp 27) 25 37 (.agg #[(.bool false), (.slice none 0 0), (.slice none 0 0), (.slice none 0 0)]) 80 rfl Tryd.underlying25 info37 rfl (by decide) (by omega) u3 x3_1 (⟨true, ([] : List ByteArray), (rd_T37 l0 x4_1).f2, (rd_T37 l0 x4_1).f3⟩ : S37) [.bool true, .slice none 0 0, .slice A251_2 ((rd_T37 l0 x4_1).f2).length c251_2, .slice A251_3 ((rd_T37 l0 x4_1).f3).length c251_3] (fun k_ => (P0_ k_ ∨ w.heap.size ≤ k_)) (fun k_ => ((fun k_ => (P0_ k_ ∨ w.heap.size ≤ k_))) k_ ∧ some k_ ≠ (u3 : Value).ownBlock) rfl rfl ?aP (fun _ hk => hk) ?aF ?aO ?aB ?aS ?aL ?_
       (case aP => exact (k37_mkF _ _ (⟨true, ([] : List ByteArray), (rd_T37 l0 x4_1).f2, (rd_T37 l0 x4_1).f3⟩ : S37) (Nat.le_refl _) (Kd.F_nil _ _ _) (Kd.V_reads' (Kd.V_mono (ok' := (fun k_ => ((fun k_ => (P0_ k_ ∨ w.heap.size ≤ k_))) k_ ∧ some k_ ≠ (u3 : Value).ownBlock)) (HL251_2.out) (fun k_ hk => ⟨hk.1, hk.2⟩))).2.1 (Kd.V_F (Kd.V_mono (ok' := (fun k_ => ((fun k_ => (P0_ k_ ∨ w.heap.size ≤ k_))) k_ ∧ some k_ ≠ (u3 : Value).ownBlock)) (HL251_2.out) (fun k_ hk => ⟨hk.1, hk.2⟩))) (Kd.V_reads' (Kd.V_mono (ok' := (fun k_ => ((fun k_ => (P0_ k_ ∨ w.heap.size ≤ k_))) k_ ∧ some k_ ≠ (u3 : Value).ownBlock)) (HL252_3.out) (fun k_ hk => ⟨hk.1, hk.2⟩))).2.1 (Kd.V_F (Kd.V_mono (ok' := (fun k_ => ((fun k_ => (P0_ k_ ∨ w.heap.size ≤ k_))) k_ ∧ some k_ ≠ (u3 : Value).ownBlock)) (HL252_3.out) (fun k_ hk => ⟨hk.1, hk.2⟩)))))
       (case aB => exact (by repeat (first | (with_reducible first | exact HB.out | apply below_alloc | apply pw_below_drewN | apply below_drew1) | exact HB.out)))
       (case aF => exact (fun k_ hk => (.inr (Nat.le_trans (below_size (by repeat (first | (with_reducible first | exact HB.out | apply below_alloc | apply pw_below_drewN | apply below_drew1) | exact HB.out))) hk))))
       (case aO => exact (by (with_reducible repeat (first | apply Kd.N_alloc | apply Kd.N_drewN | apply Kd.N_drew)); exact HO_3.out))
       (case aS => exact (below_size (by repeat (first | (with_reducible first | exact HB.out | apply below_alloc | apply pw_below_drewN | apply below_drew1) | exact HB.out))))
       (case aL => have := LMc6.out; omega)
       intro v254 w8 ho hb hg hat
       rw [← Ny253.out] at ho
       have n0_ := Aside0.mk (Kd.V_afterv (ok := (fun k_ => (P0_ k_ ∨ w.heap.size ≤ k_))) (by (with_reducible repeat (first | apply Kd.V_alloc | apply Kd.V_drewN | apply Kd.V_drew)); exact HO_0.out) hg hat)
       have n1_ := Aside0.mk (Kd.V_afterv (ok := (fun k_ => (P0_ k_ ∨ w.heap.size ≤ k_))) (by (with_reducible repeat (first | apply Kd.V_alloc | apply Kd.V_drewN | apply Kd.V_drew)); exact HL250_1.out) hg hat)
       have n2_ := Aside0.mk (Kd.V_afterv (ok := (fun k_ => (P0_ k_ ∨ w.heap.size ≤ k_))) (by (with_reducible repeat (first | apply Kd.V_alloc | apply Kd.V_drewN | apply Kd.V_drew)); exact HL250_2.out) hg hat)
       have n3_ := Aside0.mk (Kd.V_afterv (ok := (fun k_ => (P0_ k_ ∨ w.heap.size ≤ k_))) (by (with_reducible repeat (first | apply Kd.V_alloc | apply Kd.V_drewN | apply Kd.V_drew)); exact HL250_3.out) hg hat)
       have n4_ := Aside0.mk (Kd.V_afterv (ok := (fun k_ => (P0_ k_ ∨ w.heap.size ≤ k_))) (by (with_reducible repeat (first | apply Kd.V_alloc | apply Kd.V_drewN | apply Kd.V_drew)); exact HL251_1.out) hg hat)
       have n5_ := Aside0.mk (Kd.V_afterv (ok := (fun k_ => (P0_ k_ ∨ w.heap.size ≤ k_))) (by (with_reducible repeat (first | apply Kd.V_alloc | apply Kd.V_drewN | apply Kd.V_drew)); exact HL251_2.out) hg hat)
       have n6_ := Aside0.mk (Kd.V_afterv (ok := (fun k_ => (P0_ k_ ∨ w.heap.size ≤ k_))) (by (with_reducible repeat (first | apply Kd.V_alloc | apply Kd.V_drewN | apply Kd.V_drew)); exact HL251_3.out) hg hat)
       have n7_ := Aside0.mk (Kd.V_afterv (ok := (fun k_ => (P0_ k_ ∨ w.heap.size ≤ k_))) (by (with_reducible repeat (first | apply Kd.V_alloc | apply Kd.V_drewN | apply Kd.V_drew)); exact HL252_1.out) hg hat)
       have n8_ := Aside0.mk (Kd.V_afterv (ok := (fun k_ => (P0_ k_ ∨ w.heap.size ≤ k_))) (by (with_reducible repeat (first | apply Kd.V_alloc | apply Kd.V_drewN | apply Kd.V_drew)); exact HL252_2.out) hg hat)
       have n9_ := Aside0.mk (Kd.V_afterv (ok := (fun k_ => (P0_ k_ ∨ w.heap.size ≤ k_))) (by (with_reducible repeat (first | apply Kd.V_alloc | apply Kd.V_drewN | apply Kd.V_drew)); exact HL252_3.out) hg hat)
       have n10_ := Aside0.mk (hb)
       have n11_ := Aside0.mk (ho)
       clear HO_0
       clear HL250_1
       clear HL250_2
       clear HL250_3
       clear HL251_1
       clear HL251_2
       clear HL251_3
       clear HL252_1
       clear HL252_2
       clear HL252_3
       clear HB
       clear HO_3
       have HO_0 := n0_
       have HL250_1 := n1_
       have HL250_2 := n2_
       have HL250_3 := n3_
       have HL251_1 := n4_
       have HL251_2 := n5_
       have HL251_3 := n6_
       have HL252_1 := n7_
       have HL252_2 := n8_
       have HL252_3 := n9_
       have HB := n10_
       have HO255 := n11_
       clear n0_ n1_ n2_ n3_ n4_ n5_ n6_ n7_ n8_ n9_ n10_ n11_
       clear ho hb hg hat
       refine hK.out _ _ ?_
       clear hK K
       refine norm_ (a' := ?_) ?_ ?_
       rotate_left
       ·show Act.put _ (some 28) _ = _
        simp only [Act.put, List.setIfInBounds_toArray, List.set_cons_zero, List.set_cons_succ, i64_w, i32_w]
        rfl
       refine pure_ (i := 14) (N := some 3) (v := ?_) (a' := ?_) #[true, true, true, true, true, true, true, true, true, true, true, true, true, true, true] rfl rfl (any_of HT_.out (by kernel_rfl)) (fun _ _ _ h => h) (Or.inl ⟨by rfl, ?_⟩) ?_ ?_
       rotate_left
       ·intro w'
        go_simp
        with_reducible rfl
       rotate_left
       ·simp only [Act.put, List.setIfInBounds_toArray, List.set_cons_zero, List.set_cons_succ, i64_w, i32_w]
        rfl
       refine done_ (done_of HT_.out (by kernel_rfl)) ?_
       try go_wp2
       go_roundg k1
       case measure => have := HK1.out; omega
       case rel => exact ⟨(y253), (wrap64 (x4_1 + 1)), (by first | rfl | (simp; done) | (simp [*]; done)), H', ⟨by have := HK1.out; omega⟩, ⟨by (with_reducible repeat (first | apply Kd.V_alloc | apply Kd.V_drewN | apply Kd.V_drew)); exact HO_0.out⟩, ⟨by (with_reducible repeat (first | apply Kd.N_alloc | apply Kd.N_drewN | apply Kd.N_drew)); exact HO255.out⟩, ⟨by repeat (first | (with_reducible first | exact HB.out | apply below_alloc | apply pw_below_drewN | apply below_drew1) | exact HB.out)⟩⟩
      ·rw [if_neg c6] at H
       exact absurd H (by simp)
     ·replace c5 := Bool.eq_false_iff.mpr c5
      subst c5
      have H1 : (sennitref07_Normal.l1 k1 l0 x3_1 x4_1 ([] : List ByteArray)) = some r := by rw [if_neg (show ¬ (false = true) by decide)] at H; exact H
      clear H
      have H := H1
      clear H1
      have H' := Aside0.mk H
      clear H
      have p250 : 0 ≤ (x4_1 : Int) := of_decide_eq_true (by first | (with_reducible assumption) | assumption)
      have q250 : x4_1 < (l0.length : Int) := of_decide_eq_true (by first | (with_reducible assumption) | assumption)
      obtain ⟨ad250, A250_1, c250_1, A250_2, c250_2, A250_3, c250_3, e250, hx250_0, hx250_1, hx250_2, hx250_3, hl250_1, hi250_1, hl250_2, hi250_2, hl250_3, hi250_3⟩ := at_T37 (Kd.V_reads' HO_0.out).2.2 x4_1 p250 q250
      (try rw [← Nbq4.out] at hx250_0)
      cases e250
      obtain ⟨ce250, hce250, hMe250, hcc250⟩ := Kd.V_get HO_0.out z37 x4_1 p250 (by first | exact q250 | exact of_decide_eq_true (by first | (with_reducible assumption) | assumption) | (have e_ := (Kd.V_reads' HO_0.out).1; omega))
      obtain ⟨ua250_1, uc250_1, ua250_2, uc250_2, ua250_3, uc250_3, rfl, ul250_1, ge250_1, ul250_2, ge250_2, ul250_3, ge250_3⟩ := k37_openF hMe250
      have hv250_1 := hcc250 1 _ rfl
      rw [add_field _ _ 1 (by omega)] at hv250_1
      replace hv250_1 := Option.some.inj (hv250_1.symm.trans hx250_1)
      injection hv250_1 with hva_ hvn_ hvc_
      rw [hva_] at ge250_1
      rw [hvc_] at ul250_1
      have HL250_1 := Aside0.mk (show Kd.V Kd.string 9 _ w.heap.size _ _ ((rd_T37 l0 x4_1).f1) from Kd.V_mk ul250_1 ge250_1)
      clear hva_ hvn_ hvc_ ge250_1 ul250_1
      have hv250_2 := hcc250 2 _ rfl
      rw [add_field _ _ 2 (by omega)] at hv250_2
      replace hv250_2 := Option.some.inj (hv250_2.symm.trans hx250_2)
      injection hv250_2 with hva_ hvn_ hvc_
      rw [hva_] at ge250_2
      rw [hvc_] at ul250_2
      have HL250_2 := Aside0.mk (show Kd.V Kd.string 9 _ w.heap.size _ _ ((rd_T37 l0 x4_1).f2) from Kd.V_mk ul250_2 ge250_2)
      clear hva_ hvn_ hvc_ ge250_2 ul250_2
      have hv250_3 := hcc250 3 _ rfl
      rw [add_field _ _ 3 (by omega)] at hv250_3
      replace hv250_3 := Option.some.inj (hv250_3.symm.trans hx250_3)
      injection hv250_3 with hva_ hvn_ hvc_
      rw [hva_] at ge250_3
      rw [hvc_] at ul250_3
      have HL250_3 := Aside0.mk (show Kd.V (Kd.slice 9 Kd.string) 22 _ w.heap.size _ _ ((rd_T37 l0 x4_1).f3) from Kd.V_mk ul250_3 ge250_3)
      clear hva_ hvn_ hvc_ ge250_3 ul250_3
      clear hcc250 hce250
      have HR250_1 := Aside0.mk hi250_1
      have HC250_1 := Aside0.mk hl250_1
      clear hi250_1 hl250_1
      have HR250_2 := Aside0.mk hi250_2
      have HC250_2 := Aside0.mk hl250_2
      clear hi250_2 hl250_2
      have HR250_3 := Aside0.mk hi250_3
      have HC250_3 := Aside0.mk hl250_3
      clear hi250_3 hl250_3
      replace p250 := eq_true p250
      replace q250 := eq_true q250
      go_wp2
      go_loopg [4, 5] k1 (fun kq v4 v5 w' => ∃ (x4_2 : Int) (x5_2 : List ByteArray), v4 = .int .i64 x4_2 ∧ Aside0 (sennitref07_Normal.l1 kq l0 x3_1 x4_2 x5_2 = some r) ∧ Aside0 (kq ≤ k1) ∧ Aside0 (Kd.V k37 37 w' w.heap.size (fun k_ => (P0_ k_ ∨ w.heap.size ≤ k_) ∧ some k_ ≠ (u3 : Value).ownBlock ∧ some k_ ≠ (v5 : Value).ownBlock) (.slice (some ad250) l0.length c0) l0) ∧ Aside0 (Kd.N k37 37 w' w.heap.size (fun k_ => (P0_ k_ ∨ w.heap.size ≤ k_) ∧ some k_ ≠ (v5 : Value).ownBlock) u3 x3_1) ∧ Aside0 (Kd.R Kd.string 9 w' w.heap.size (fun k_ => (w.heap.size ≤ k_)) v5 x5_2) ∧ Aside0 (Below w.heap.size w w'))
      case atStart => exact ⟨(x4_1), (([] : List ByteArray)), (by first | rfl | (simp; done) | (simp [*]; done)), H', ⟨Nat.le_refl _⟩, ⟨by (with_reducible repeat (first | apply Kd.V_alloc | apply Kd.V_drewN | apply Kd.V_drew)); exact Kd.V_mono HO_0.out (fun _ hk => ⟨hk.1, ⟨hk.2, (by simp [Value.ownBlock])⟩⟩)⟩, ⟨by (with_reducible repeat (first | apply Kd.N_alloc | apply Kd.N_drewN | apply Kd.N_drew)); exact Kd.N_mono HO_3.out (fun _ hk => ⟨hk, (by simp [Value.ownBlock])⟩)⟩, ⟨by first | exact Kd.R_nil _ _ _ _ _ | exact Kd.N_nil _ _ _ _ _ | exact Kd.V_nil _ _ _ _ _ | exact Kd.Q_nil _ _ _ _ _ | exact Kd.S_nil _ _ _ _ _⟩, ⟨by repeat (first | (with_reducible first | exact HB.out | apply below_alloc | apply pw_below_drewN | apply below_drew1) | exact HB.out)⟩⟩
      case round =>
       clear H'
       try clear c1
       try clear c2
       try clear c2b0
       try clear p2
       try clear q2
       try clear hx2
       try clear c3
       try clear c3b0
       try clear q4
       try clear c5
       try clear c6
       try clear p6
       try clear hx250_0
       try clear hx250_1
       try clear hx250_2
       try clear hx250_3
       try clear hx251_0
       try clear hx251_1
       try clear hx251_2
       try clear hx251_3
       try clear hx252_0
       try clear hx252_1
       try clear hx252_2
       try clear hx252_3
       try clear p250
       try clear p251
       try clear p252
       try clear q250
       try clear q251
       try clear q252
       obtain ⟨x4_2, x5_2, rfl, HA, HK2, HO_0, HO_3, HO_5, HB⟩ := hrel
       cases gk with
       | zero => exact absurd HA.out (by simp [sennitref07_Normal.l1])
       | succ k2 =>
        have H := HA.out
        clear HA
        simp only [sennitref07_Normal.l1] at H
        have HC9 := Aside0.mk H
        clear H
        go_upto_region 8 with (fail)
        go_cut [42] (fun v42 wc => ∃ (kq : Nat) (x42_8 : Bool), v42 = .bool x42_8 ∧ Aside0 (sennitref07_Normal.j2 kq l0 x3_1 x4_2 x5_2 x42_8 = some r) ∧ Aside0 (kq ≤ k2) ∧ Aside0 (Kd.V k37 37 wc w.heap.size (fun k_ => (P0_ k_ ∨ w.heap.size ≤ k_) ∧ some k_ ≠ (u3 : Value).ownBlock ∧ some k_ ≠ (u5 : Value).ownBlock) (.slice (some ad250) l0.length c0) l0) ∧ Aside0 (Kd.N k37 37 wc w.heap.size (fun k_ => (P0_ k_ ∨ w.heap.size ≤ k_) ∧ some k_ ≠ (u5 : Value).ownBlock) u3 x3_1) ∧ Aside0 (Kd.R Kd.string 9 wc w.heap.size (fun k_ => (w.heap.size ≤ k_)) u5 x5_2) ∧ Aside0 (Below w.heap.size w wc))
        case first =>
         have H := HC9.out
         clear HC9
         by_cases c10 : x4_2 < (l0.length : Int)
         ·rw [if_pos c10] at H
          have c10b0 : decide (x4_2 < (l0.length : Int)) = true := decide_eq_true c10
          clear c10
          (first | rw [c10b0] | (simp only [i64_w, i32_w]; rw [c10b0]) | skip)
          by_cases c11 : 0 ≤ x4_2
          ·rw [if_pos c11] at H
           have c11b0 : decide (0 ≤ x4_2) = true := decide_eq_true c11
           clear c11
           have H' := Aside0.mk H
           clear H
           have p256 : 0 ≤ (x4_2 : Int) := of_decide_eq_true (by first | (with_reducible assumption) | assumption)
           have q256 : x4_2 < (l0.length : Int) := of_decide_eq_true (by first | (with_reducible assumption) | assumption)
           obtain ⟨ad256, A256_1, c256_1, A256_2, c256_2, A256_3, c256_3, e256, hx256_0, hx256_1, hx256_2, hx256_3, hl256_1, hi256_1, hl256_2, hi256_2, hl256_3, hi256_3⟩ := at_T37 (Kd.V_reads' HO_0.out).2.2 x4_2 p256 q256
           (try rw [← Nbq4.out] at hx256_0)
           obtain rfl : ad250 = ad256 := (by injection e256)
           obtain ⟨ce256, hce256, hMe256, hcc256⟩ := Kd.V_get HO_0.out z37 x4_2 p256 (by first | exact q256 | exact of_decide_eq_true (by first | (with_reducible assumption) | assumption) | (have e_ := (Kd.V_reads' HO_0.out).1; omega))
           obtain ⟨ua256_1, uc256_1, ua256_2, uc256_2, ua256_3, uc256_3, rfl, ul256_1, ge256_1, ul256_2, ge256_2, ul256_3, ge256_3⟩ := k37_openF hMe256
           have hv256_1 := hcc256 1 _ rfl
           rw [add_field _ _ 1 (by omega)] at hv256_1
           replace hv256_1 := Option.some.inj (hv256_1.symm.trans hx256_1)
           injection hv256_1 with hva_ hvn_ hvc_
           rw [hva_] at ge256_1
           rw [hvc_] at ul256_1
           have HL256_1 := Aside0.mk (show Kd.V Kd.string 9 _ w.heap.size _ _ ((rd_T37 l0 x4_2).f1) from Kd.V_mk ul256_1 ge256_1)
           clear hva_ hvn_ hvc_ ge256_1 ul256_1
           have hv256_2 := hcc256 2 _ rfl
           rw [add_field _ _ 2 (by omega)] at hv256_2
           replace hv256_2 := Option.some.inj (hv256_2.symm.trans hx256_2)
           injection hv256_2 with hva_ hvn_ hvc_
           rw [hva_] at ge256_2
           rw [hvc_] at ul256_2
           have HL256_2 := Aside0.mk (show Kd.V Kd.string 9 _ w.heap.size _ _ ((rd_T37 l0 x4_2).f2) from Kd.V_mk ul256_2 ge256_2)
           clear hva_ hvn_ hvc_ ge256_2 ul256_2
           have hv256_3 := hcc256 3 _ rfl
           rw [add_field _ _ 3 (by omega)] at hv256_3
           replace hv256_3 := Option.some.inj (hv256_3.symm.trans hx256_3)
           injection hv256_3 with hva_ hvn_ hvc_
           rw [hva_] at ge256_3
           rw [hvc_] at ul256_3
           have HL256_3 := Aside0.mk (show Kd.V (Kd.slice 9 Kd.string) 22 _ w.heap.size _ _ ((rd_T37 l0 x4_2).f3) from Kd.V_mk ul256_3 ge256_3)
           clear hva_ hvn_ hvc_ ge256_3 ul256_3
           clear hcc256 hce256
           have HR256_1 := Aside0.mk hi256_1
           have HC256_1 := Aside0.mk hl256_1
           clear hi256_1 hl256_1
           have HR256_2 := Aside0.mk hi256_2
           have HC256_2 := Aside0.mk hl256_2
           clear hi256_2 hl256_2
           have HR256_3 := Aside0.mk hi256_3
           have HC256_3 := Aside0.mk hl256_3
           clear hi256_3 hl256_3
           replace p256 := eq_true p256
           replace q256 := eq_true q256
           go_wp2
           go_meet
           case rel => exact ⟨_, (!((rd_T37 l0 x4_2).f0)), (by first | rfl | (simp; done) | (simp [*]; done)), H', ⟨by have := HK1.out; have := HK2.out; first | omega | exact Nat.le_refl _⟩, ⟨by (with_reducible repeat (first | apply Kd.V_alloc | apply Kd.V_drewN | apply Kd.V_drew)); exact HO_0.out⟩, ⟨by (with_reducible repeat (first | apply Kd.N_alloc | apply Kd.N_drewN | apply Kd.N_drew)); exact HO_3.out⟩, ⟨by (with_reducible repeat (first | apply Kd.R_alloc | apply Kd.R_drewN | apply Kd.R_drew)); exact HO_5.out⟩, ⟨by repeat (first | (with_reducible first | exact HB.out | apply below_alloc | apply pw_below_drewN | apply below_drew1) | exact HB.out)⟩⟩
          ·rw [if_neg c11] at H
           exact absurd H (by simp)
         ·rw [if_neg c10] at H
          have c10b0 : decide (x4_2 < (l0.length : Int)) = false := decide_eq_false c10
          clear c10
          (first | rw [c10b0] | (simp only [i64_w, i32_w]; rw [c10b0]) | skip)
          have H' := Aside0.mk H
          clear H
          go_wp2
          go_meet
          case rel => exact ⟨_, (false), (by first | rfl | (simp; done) | (simp [*]; done)), H', ⟨by have := HK1.out; have := HK2.out; first | omega | exact Nat.le_refl _⟩, ⟨by (with_reducible repeat (first | apply Kd.V_alloc | apply Kd.V_drewN | apply Kd.V_drew)); exact HO_0.out⟩, ⟨by (with_reducible repeat (first | apply Kd.N_alloc | apply Kd.N_drewN | apply Kd.N_drew)); exact HO_3.out⟩, ⟨by (with_reducible repeat (first | apply Kd.R_alloc | apply Kd.R_drewN | apply Kd.R_drew)); exact HO_5.out⟩, ⟨by repeat (first | (with_reducible first | exact HB.out | apply below_alloc | apply pw_below_drewN | apply below_drew1) | exact HB.out)⟩⟩
        case rest =>
         clear HC9
         try clear c1
         try clear c2
         try clear c2b0
         try clear p2
         try clear q2
         try clear hx2
         try clear c3
         try clear c3b0
         try clear q4
         try clear c5
         try clear c6
         try clear p6
         try clear c10
         try clear c10b0
         try clear c11
         try clear c11b0
         try clear hx250_0
         try clear hx250_1
         try clear hx250_2
         try clear hx250_3
         try clear hx251_0
         try clear hx251_1
         try clear hx251_2
         try clear hx251_3
         try clear hx252_0
         try clear hx252_1
         try clear hx252_2
         try clear hx252_3
         try clear hx256_0
         try clear hx256_1
         try clear hx256_2
         try clear hx256_3
         try clear p2
         try clear p250
         try clear p251
         try clear p252
         try clear p256
         try clear p6
         try clear q2
         try clear q250
         try clear q251
         try clear q252
         try clear q256
         try clear q4
         obtain ⟨kq, x42_8, rfl, HA, HJ8, HO_0, HO_3, HO_5, HB⟩ := hcut
         cases kq with
         | zero => exact absurd HA.out (by simp [sennitref07_Normal.j2])
         | succ kj8 =>
          have H := HA.out
          clear HA
          simp only [sennitref07_Normal.j2] at H
          by_cases c12 : x42_8 = true
          ·subst c12
           have H1 : (if 0 ≤ x4_2 then (if x4_2 < (l0.length : Int) then (if x5_2.length + ((rd_T37 l0 x4_2).f1).length < 8796093022208 then (sennitref07_Normal.l1 kj8 l0 x3_1 (wrap64 (x4_2 + 1)) (x5_2 ++ ((rd_T37 l0 x4_2).f1))) else (none)) else (none)) else (none)) = some r := by rw [if_pos rfl] at H; exact H
           clear H
           have H := H1
           clear H1
           by_cases c13 : 0 ≤ x4_2
           ·rw [if_pos c13] at H
            have c13b0 : decide (0 ≤ x4_2) = true := decide_eq_true c13
            clear c13
            by_cases c14 : x4_2 < (l0.length : Int)
            ·rw [if_pos c14] at H
             have c14b0 : decide (x4_2 < (l0.length : Int)) = true := decide_eq_true c14
             clear c14
             by_cases c15 : x5_2.length + ((rd_T37 l0 x4_2).f1).length < 8796093022208
             ·rw [if_pos c15] at H
              have LMc15 := Aside0.mk c15
              clear c15
              obtain ⟨y258, hy258⟩ : ∃ y_ : List ByteArray, y_ = (x5_2 ++ ((rd_T37 l0 x4_2).f1)) := ⟨_, rfl⟩
              replace H : (sennitref07_Normal.l1 kj8 l0 x3_1 (wrap64 (x4_2 + 1)) y258) = some r := by first | (rw [hy258]; with_reducible exact H) | (have H2_ := (Option.bind_some _ _).symm.trans H; rw [hy258]; with_reducible exact H2_) | (have H2_ := (Option.bind_some _ _).symm.trans H; with_reducible exact H2_) | with_reducible exact H | (rw [hy258]; exact H) | exact H
              have Ny258 := Aside0.mk hy258
              clear hy258
              have H' := Aside0.mk H
              clear H
              have p257 : 0 ≤ (x4_2 : Int) := of_decide_eq_true (by first | (with_reducible assumption) | assumption)
              have q257 : x4_2 < (l0.length : Int) := of_decide_eq_true (by first | (with_reducible assumption) | assumption)
              obtain ⟨ad257, A257_1, c257_1, A257_2, c257_2, A257_3, c257_3, e257, hx257_0, hx257_1, hx257_2, hx257_3, hl257_1, hi257_1, hl257_2, hi257_2, hl257_3, hi257_3⟩ := at_T37 (Kd.V_reads' HO_0.out).2.2 x4_2 p257 q257
              (try rw [← Nbq4.out] at hx257_0)
              obtain rfl : ad250 = ad257 := (by injection e257)
              obtain ⟨ce257, hce257, hMe257, hcc257⟩ := Kd.V_get HO_0.out z37 x4_2 p257 (by first | exact q257 | exact of_decide_eq_true (by first | (with_reducible assumption) | assumption) | (have e_ := (Kd.V_reads' HO_0.out).1; omega))
              obtain ⟨ua257_1, uc257_1, ua257_2, uc257_2, ua257_3, uc257_3, rfl, ul257_1, ge257_1, ul257_2, ge257_2, ul257_3, ge257_3⟩ := k37_openF hMe257
              have hv257_1 := hcc257 1 _ rfl
              rw [add_field _ _ 1 (by omega)] at hv257_1
              replace hv257_1 := Option.some.inj (hv257_1.symm.trans hx257_1)
              injection hv257_1 with hva_ hvn_ hvc_
              rw [hva_] at ge257_1
              rw [hvc_] at ul257_1
              have HL257_1 := Aside0.mk (show Kd.V Kd.string 9 _ w.heap.size _ _ ((rd_T37 l0 x4_2).f1) from Kd.V_mk ul257_1 ge257_1)
              clear hva_ hvn_ hvc_ ge257_1 ul257_1
              have hv257_2 := hcc257 2 _ rfl
              rw [add_field _ _ 2 (by omega)] at hv257_2
              replace hv257_2 := Option.some.inj (hv257_2.symm.trans hx257_2)
              injection hv257_2 with hva_ hvn_ hvc_
              rw [hva_] at ge257_2
              rw [hvc_] at ul257_2
              have HL257_2 := Aside0.mk (show Kd.V Kd.string 9 _ w.heap.size _ _ ((rd_T37 l0 x4_2).f2) from Kd.V_mk ul257_2 ge257_2)
              clear hva_ hvn_ hvc_ ge257_2 ul257_2
              have hv257_3 := hcc257 3 _ rfl
              rw [add_field _ _ 3 (by omega)] at hv257_3
              replace hv257_3 := Option.some.inj (hv257_3.symm.trans hx257_3)
              injection hv257_3 with hva_ hvn_ hvc_
              rw [hva_] at ge257_3
              rw [hvc_] at ul257_3
              have HL257_3 := Aside0.mk (show Kd.V (Kd.slice 9 Kd.string) 22 _ w.heap.size _ _ ((rd_T37 l0 x4_2).f3) from Kd.V_mk ul257_3 ge257_3)
              clear hva_ hvn_ hvc_ ge257_3 ul257_3
              clear hcc257 hce257
              have HR257_1 := Aside0.mk hi257_1
              have HC257_1 := Aside0.mk hl257_1
              clear hi257_1 hl257_1
              have HR257_2 := Aside0.mk hi257_2
              have HC257_2 := Aside0.mk hl257_2
              clear hi257_2 hl257_2
              have HR257_3 := Aside0.mk hi257_3
              have HC257_3 := Aside0.mk hl257_3
              clear hi257_3 hl257_3
              replace p257 := eq_true p257
              replace q257 := eq_true q257
              go_wp2_with (first | ((with_reducible refine gate_builtin (b := .append) (xs := #[.tmp 43, .tmp 48]) rfl ?_); at_builtin; refine Kd.R_append_rows Kd.string (w0 := w) w.heap.size rfl (.tmp 43) (.tmp 48) 22 9 (.string ⟨#[]⟩) 16 rfl Tryd.underlying22 info9 rfl (by decide) (by omega) u5 x5_2 ((rd_T37 l0 x4_2).f1) _ _ _ (fun k_ => (w.heap.size ≤ k_)) (fun _ => False) rfl rfl ?aO ?aR (fun _ _ h => h) (fun _ h => h.elim) ?aF ?aB ?aS ?aL ?_; (case aR => repeat (first | exact (by repeat (first | (with_reducible exact HR257_1.out) | (with_reducible refine Kd.C_alloc ?_ _) | (with_reducible refine Kd.C_drewN ?_ _) | (with_reducible refine Kd.C_drew ?_) | exact HR257_1.out)) | (with_reducible refine Kd.C_alloc ?_ _) | (with_reducible refine Kd.C_drewN ?_ _) | (with_reducible refine Kd.C_drew ?_))); (case aB => exact (by repeat (first | (with_reducible first | exact HB.out | apply below_alloc | apply pw_below_drewN | apply below_drew1) | exact HB.out))); (case aF => exact (fun k_ hk => (Nat.le_trans (below_size (by repeat (first | (with_reducible first | exact HB.out | apply below_alloc | apply pw_below_drewN | apply below_drew1) | exact HB.out))) hk))); (case aO => exact (by (with_reducible repeat (first | apply Kd.R_alloc | apply Kd.R_drewN | apply Kd.R_drew)); exact HO_5.out)); (case aS => exact (below_size (by repeat (first | (with_reducible first | exact HB.out | apply below_alloc | apply pw_below_drewN | apply below_drew1) | exact HB.out)))); (case aL => have := LMc15.out; omega); intro v259 w16 ho hb hg hat; rw [← Ny258.out] at ho; have n0_ := Aside0.mk (Kd.V_afterv (ok := (fun k_ => (P0_ k_ ∨ w.heap.size ≤ k_) ∧ some k_ ≠ (u3 : Value).ownBlock)) (by (with_reducible repeat (first | apply Kd.V_alloc | apply Kd.V_drewN | apply Kd.V_drew)); exact Kd.V_mono HO_0.out (fun _ hk => ⟨⟨hk.1, hk.2.1⟩, hk.2.2⟩)) hg hat); have n1_ := Aside0.mk (Kd.N_afterv (ok := (fun k_ => (P0_ k_ ∨ w.heap.size ≤ k_))) (by (with_reducible repeat (first | apply Kd.N_alloc | apply Kd.N_drewN | apply Kd.N_drew)); exact HO_3.out) hg hat); have n2_ := Aside0.mk (Kd.V_afterv (ok := (fun k_ => (P0_ k_ ∨ w.heap.size ≤ k_) ∧ some k_ ≠ (u3 : Value).ownBlock)) (by (with_reducible repeat (first | apply Kd.V_alloc | apply Kd.V_drewN | apply Kd.V_drew)); exact Kd.V_mono HL257_1.out (fun _ hk => ⟨⟨hk.1, hk.2.1⟩, hk.2.2⟩)) hg hat); have n3_ := Aside0.mk (Kd.V_afterv (ok := (fun k_ => (P0_ k_ ∨ w.heap.size ≤ k_) ∧ some k_ ≠ (u3 : Value).ownBlock)) (by (with_reducible repeat (first | apply Kd.V_alloc | apply Kd.V_drewN | apply Kd.V_drew)); exact Kd.V_mono HL257_2.out (fun _ hk => ⟨⟨hk.1, hk.2.1⟩, hk.2.2⟩)) hg hat); have n4_ := Aside0.mk (Kd.V_afterv (ok := (fun k_ => (P0_ k_ ∨ w.heap.size ≤ k_) ∧ some k_ ≠ (u3 : Value).ownBlock)) (by (with_reducible repeat (first | apply Kd.V_alloc | apply Kd.V_drewN | apply Kd.V_drew)); exact Kd.V_mono HL257_3.out (fun _ hk => ⟨⟨hk.1, hk.2.1⟩, hk.2.2⟩)) hg hat); have n5_ := Aside0.mk (hb); have n6_ := Aside0.mk (ho); clear HO_0; clear HO_3; clear HL257_1; clear HL257_2; clear HL257_3; clear HB; clear HO_5; have HO_0 := n0_; have HO_3 := n1_; have HL257_1 := n2_; have HL257_2 := n3_; have HL257_3 := n4_; have HB := n5_; have HO260 := n6_; clear n0_ n1_ n2_ n3_ n4_ n5_ n6_; clear ho hb hg hat))
              go_roundg kj8
              case measure => have := HK1.out; have := HK2.out; have := HJ8.out; omega
              case rel => exact ⟨(wrap64 (x4_2 + 1)), (y258), (by first | rfl | (simp; done) | (simp [*]; done)), H', ⟨by have := HK1.out; have := HK2.out; have := HJ8.out; omega⟩, ⟨by (with_reducible repeat (first | apply Kd.V_alloc | apply Kd.V_drewN | apply Kd.V_drew)); exact Kd.V_mono HO_0.out (fun _ hk => ⟨hk.1.1, ⟨hk.1.2, hk.2⟩⟩)⟩, ⟨by (with_reducible repeat (first | apply Kd.N_alloc | apply Kd.N_drewN | apply Kd.N_drew)); exact HO_3.out⟩, ⟨by (with_reducible repeat (first | apply Kd.R_alloc | apply Kd.R_drewN | apply Kd.R_drew)); exact HO260.out⟩, ⟨by repeat (first | (with_reducible first | exact HB.out | apply below_alloc | apply pw_below_drewN | apply below_drew1) | exact HB.out)⟩⟩
             ·rw [if_neg c15] at H
              exact absurd H (by simp)
            ·rw [if_neg c14] at H
             exact absurd H (by simp)
           ·rw [if_neg c13] at H
            exact absurd H (by simp)
          ·replace c12 := Bool.eq_false_iff.mpr c12
           subst c12
           have H1 : (if (x5_2.length : Int) > 0 then (if x3_1.length < 1759218604441 then (sennitref07_Normal.l0 kj8 l0 (x3_1 ++ [(⟨false, x5_2, ([] : List ByteArray), ([] : List (List ByteArray))⟩ : S37)]) x4_2) else (none)) else (sennitref07_Normal.l0 kj8 l0 x3_1 x4_2)) = some r := by rw [if_neg (show ¬ (false = true) by decide)] at H; exact H
           clear H
           have H := H1
           clear H1
           by_cases c17 : (x5_2.length : Int) > 0
           ·rw [if_pos c17] at H
            have c17b0 : decide (0 < (x5_2.length : Int)) = true := decide_eq_true c17
            have c17b1 : decide (0 < x5_2.length) = true := decide_eq_true (by omega)
            clear c17
            by_cases c18 : x3_1.length < 1759218604441
            ·rw [if_pos c18] at H
             have LMc18 := Aside0.mk c18
             clear c18
             obtain ⟨y261, hy261⟩ : ∃ y_ : List (S37), y_ = (x3_1 ++ [(⟨false, x5_2, ([] : List ByteArray), ([] : List (List ByteArray))⟩ : S37)]) := ⟨_, rfl⟩
             replace H : (sennitref07_Normal.l0 kj8 l0 y261 x4_2) = some r := by first | (rw [hy261]; with_reducible exact H) | (have H2_ := (Option.bind_some _ _).symm.trans H; rw [hy261]; with_reducible exact H2_) | (have H2_ := (Option.bind_some _ _).symm.trans H; with_reducible exact H2_) | with_reducible exact H | (rw [hy261]; exact H) | exact H
             have Ny261 := Aside0.mk hy261
             clear hy261
             have H' := Aside0.mk H
             clear H
             obtain ⟨Ao19, co19, eo19⟩ := Kd.R_slice HO_5.out
             subst eo19
             go_wp2_with (first | ((with_reducible refine gate_builtin (b := .append) (xs := #[.tmp 55, .tmp 58]) rfl ?_); at_builtin; refine Kd.N_append k37 (w0 := w) w.heap.size rfl (.tmp 55) (.tmp 58) 25 37 (.agg #[(.bool false), (.slice none 0 0), (.slice none 0 0), (.slice none 0 0)]) 80 rfl Tryd.underlying25 info37 rfl (by decide) (by omega) u3 x3_1 (⟨false, x5_2, ([] : List ByteArray), ([] : List (List ByteArray))⟩ : S37) [.bool false, .slice Ao19 x5_2.length co19, .slice none 0 0, .slice none 0 0] (fun k_ => (P0_ k_ ∨ w.heap.size ≤ k_)) (fun k_ => ((fun k_ => (P0_ k_ ∨ w.heap.size ≤ k_))) k_ ∧ some k_ ≠ (u3 : Value).ownBlock) rfl rfl ?aP (fun _ hk => hk) ?aF ?aO ?aB ?aS ?aL ?_; (case aP => exact (k37_mkF _ _ (⟨false, x5_2, ([] : List ByteArray), ([] : List (List ByteArray))⟩ : S37) (Kd.R_reads' (Kd.R_mono (ok' := (fun k_ => ((fun k_ => (P0_ k_ ∨ w.heap.size ≤ k_))) k_ ∧ some k_ ≠ (u3 : Value).ownBlock)) (Kd.R_apart' (HO_5.out) (Kd.N_typed HO_3.out) (by decide)) (fun k_ hk => ⟨(.inr (hk.1)), hk.2⟩))).2.1 (Kd.R_F (Kd.R_mono (ok' := (fun k_ => ((fun k_ => (P0_ k_ ∨ w.heap.size ≤ k_))) k_ ∧ some k_ ≠ (u3 : Value).ownBlock)) (Kd.R_apart' (HO_5.out) (Kd.N_typed HO_3.out) (by decide)) (fun k_ hk => ⟨(.inr (hk.1)), hk.2⟩))) (Nat.le_refl _) (Kd.F_nil _ _ _) (Nat.le_refl _) (Kd.F_nil _ _ _))); (case aB => exact (by repeat (first | (with_reducible first | exact HB.out | apply below_alloc | apply pw_below_drewN | apply below_drew1) | exact HB.out))); (case aF => exact (fun k_ hk => (.inr (Nat.le_trans (below_size (by repeat (first | (with_reducible first | exact HB.out | apply below_alloc | apply pw_below_drewN | apply below_drew1) | exact HB.out))) hk)))); (case aO => exact (by (with_reducible repeat (first | apply Kd.N_alloc | apply Kd.N_drewN | apply Kd.N_drew)); exact Kd.N_mono HO_3.out (fun _ hk => hk.1))); (case aS => exact (below_size (by repeat (first | (with_reducible first | exact HB.out | apply below_alloc | apply pw_below_drewN | apply below_drew1) | exact HB.out)))); (case aL => have := LMc18.out; omega); intro v262 w20 ho hb hg hat; rw [← Ny261.out] at ho; have n0_ := Aside0.mk (Kd.V_afterv (ok := (fun k_ => (P0_ k_ ∨ w.heap.size ≤ k_) ∧ some k_ ≠ (.slice Ao19 x5_2.length co19 : Value).ownBlock)) (by (with_reducible repeat (first | apply Kd.V_alloc | apply Kd.V_drewN | apply Kd.V_drew)); exact Kd.V_mono HO_0.out (fun _ hk => ⟨⟨hk.1, hk.2.2⟩, hk.2.1⟩)) hg hat); have n1_ := Aside0.mk (hb); have n2_ := Aside0.mk (ho); clear HO_0; clear HB; clear HO_3; clear HO_5; have HO_0 := n0_; have HB := n1_; have HO263 := n2_; clear n0_ n1_ n2_; clear ho hb hg hat))
             go_roundg kj8
             case measure => have := HK1.out; have := HK2.out; have := HJ8.out; omega
             case rel => exact ⟨(y261), (x4_2), (by first | rfl | (simp; done) | (simp [*]; done)), H', ⟨by have := HK1.out; have := HK2.out; have := HJ8.out; omega⟩, ⟨by (with_reducible repeat (first | apply Kd.V_alloc | apply Kd.V_drewN | apply Kd.V_drew)); exact Kd.V_mono HO_0.out (fun _ hk => ⟨hk.1.1, hk.2⟩)⟩, ⟨by (with_reducible repeat (first | apply Kd.N_alloc | apply Kd.N_drewN | apply Kd.N_drew)); exact HO263.out⟩, ⟨by repeat (first | (with_reducible first | exact HB.out | apply below_alloc | apply pw_below_drewN | apply below_drew1) | exact HB.out)⟩⟩
            ·rw [if_neg c18] at H
             exact absurd H (by simp)
           ·rw [if_neg c17] at H
            have c17b0 : decide (0 < (x5_2.length : Int)) = false := decide_eq_false c17
            have c17b1 : decide (0 < x5_2.length) = false := decide_eq_false (by omega)
            clear c17
            have H' := Aside0.mk H
            clear H
            obtain ⟨Ao21, co21, eo21⟩ := Kd.R_slice HO_5.out
            subst eo21
            go_wp2
            go_roundg kj8
            case measure => have := HK1.out; have := HK2.out; have := HJ8.out; omega
            case rel => exact ⟨(x3_1), (x4_2), (by first | rfl | (simp; done) | (simp [*]; done)), H', ⟨by have := HK1.out; have := HK2.out; have := HJ8.out; omega⟩, ⟨by (with_reducible repeat (first | apply Kd.V_alloc | apply Kd.V_drewN | apply Kd.V_drew)); exact Kd.V_mono HO_0.out (fun _ hk => ⟨hk.1, hk.2.1⟩)⟩, ⟨by (with_reducible repeat (first | apply Kd.N_alloc | apply Kd.N_drewN | apply Kd.N_drew)); exact Kd.N_mono HO_3.out (fun _ hk => hk.1)⟩, ⟨by repeat (first | (with_reducible first | exact HB.out | apply below_alloc | apply pw_below_drewN | apply below_drew1) | exact HB.out)⟩⟩
    ·rw [if_neg c3] at H
     exact absurd H (by simp)
   ·rw [if_neg c2] at H
    have c2b0 : decide (x4_1 < (l0.length : Int)) = false := decide_eq_false c2
    clear c2
    obtain rfl := Option.some.inj H
    go_wp2
    go_ret
    exact ⟨_, by first | rfl | (simp [errW_none, errW_some] <;> rfl) | (simp [*, errW_none, errW_some] <;> rfl), by (with_reducible repeat (first | apply Kd.N_alloc | apply Kd.N_drewN | apply Kd.N_drew)); exact HO_3.out, by repeat (first | (with_reducible first | exact HB.out | apply below_alloc | apply pw_below_drewN | apply below_drew1) | exact HB.out)⟩

end Go.Proofs.YtcnjbmdnnhbfkaaDoor.XD
