-- Printed by this session's xprint.sh (a patched copy of the kit's print program). Not trusted: Lean checks it.
import Derived.Test.YtcnjbmdnnhbfkaaGreatDoorXD0
namespace Go.Proofs.YtcnjbmdnnhbfkaaGreatDoor.XD
open Go.RowKit Go.Proofs.YtcnjbmdnnhbfkaaGreatDoorW.PrintWords Go.Proofs.YtcnjbmdnnhbfkaaGreatDoorW.PrintLast Go.Proofs.YtcnjbmdnnhbfkaaGreatDoorW.PrintMore
attribute [local go_sem] max2_int min2_int max_two min_two max_three min_three max_four min_four   -- for this text's walks alone
set_option linter.unusedVariables false
set_option linter.unusedSimpArgs false
/-! ### sennitref12_Bare: function 19 -/
def sennitref12_Bare.l0 : Nat → List (S36) → List (S36) → Int → Option ((List (S36)))
 | 0, _, _, _ => none
 | k + 1, x0, x3, x4 => if x4 < (x0.length : Int) then (if 0 ≤ x4 then (if x3.length < 1759218604441 then (sennitref12_Bare.l0 k x0 (x3 ++ [(⟨(rd_T36 x0 x4).f0, (rd_T36 x0 x4).f1, ([] : List ByteArray), (rd_T36 x0 x4).f3⟩ : S36)]) (wrap64 (x4 + 1))) else (none)) else (none)) else (some x3)
def sennitref12_Bare.f (k : Nat) (l0 : List (S36)) : Option ((List (S36))) := sennitref12_Bare.l0 k l0 ([] : List (S36)) 0
def sennitref12_Bare.T5 : Bool × List (List Nat × List Nat) := (true, [([], []), ([], []), ([], []), ([1, 2], [1, 2]), ([3], [3]), ([4], [4]), ([], []), ([], []), ([6, 7], [6, 7]), ([8], [8]), ([9], [9]), ([], []), ([], []), ([11, 12], [11, 12]), ([13], [13]), ([14], [14]), ([5, 10, 15], [5, 10, 15]), ([16], [16]), ([0, 17], [0, 17]), ([18, 18, 0, 1, 2, 3, 4, 5, 6, 7, 8, 9, 10, 11, 12, 13, 14, 15, 16, 17, 18], [0, 18])])
def sennitref12_Bare.B5 : List Nat := [0, 0, 0, 6, 14, 30, 0, 0, 192, 448, 960, 0, 0, 6144, 14336, 30720, 65534, 131070, 262143, 524287]
theorem sennitref12_Bare.tab5 : rtab .any (opsOf Tryz.f19 5) = sennitref12_Bare.T5 := by kernel_rfl
theorem sennitref12_Bare.bits5 : waitsOk sennitref12_Bare.T5.2 sennitref12_Bare.B5 = true := by kernel_rfl
set_option maxHeartbeats 8000000 in
set_option maxRecDepth 100000 in
theorem sennitref12_Bare.calls (k : Nat) (P0_ : Nat → Prop) (A0 : Option Addr) (c0 : Nat) (l0 : List (S36)) (r : List (S36)) (w : World) (hs0 : Kd.V k36 36 w w.heap.size (fun k_ => P0_ k_) (.slice A0 l0.length c0) l0) (h : sennitref12_Bare.f k l0 = some r) :
  Calls Tryz.prog 19 #[.slice A0 l0.length c0] w fun e w' => ∃ v0_ : Value, e = .returned (v0_) ∧ Kd.N k36 36 w' w.heap.size (fun k_ => (P0_ k_ ∨ w.heap.size ≤ k_)) v0_ r ∧ Below w.heap.size w w' := by
 have hu36 := Tryz.underlying36
 have HO0 := Aside0.mk (show Kd.V k36 36 w w.heap.size (fun k_ => (P0_ k_ ∨ w.heap.size ≤ k_)) (.slice A0 l0.length c0) l0 from Kd.V_mono hs0 (fun k_ hk => .inl hk))
 have HB := Aside0.mk (Below.refl w.heap.size w)
 have H : (sennitref12_Bare.l0 k l0 ([] : List (S36)) 0) = some r := h
 clear h
 have H' := Aside0.mk H
 clear H
 go_enter Tryz.func19, Tryz.ntmps19
 go_wp2
 go_loopg [3, 4] k (fun kq v3 v4 w' => ∃ (x3_1 : List (S36)) (x4_1 : Int), v4 = .int .i64 x4_1 ∧ Aside0 (sennitref12_Bare.l0 kq l0 x3_1 x4_1 = some r) ∧ Aside0 (kq ≤ k) ∧ Aside0 (Kd.V k36 36 w' w.heap.size (fun k_ => (P0_ k_ ∨ w.heap.size ≤ k_) ∧ some k_ ≠ (v3 : Value).ownBlock) (.slice A0 l0.length c0) l0) ∧ Aside0 (Kd.N k36 36 w' w.heap.size (fun k_ => (P0_ k_ ∨ w.heap.size ≤ k_)) v3 x3_1) ∧ Aside0 (Below w.heap.size w w'))
 case atStart => exact ⟨(([] : List (S36))), (0), (by first | rfl | (simp; done) | (simp [*]; done)), H', ⟨Nat.le_refl _⟩, ⟨by (with_reducible repeat (first | apply Kd.V_alloc | apply Kd.V_drewN | apply Kd.V_drew)); exact Kd.V_mono HO0.out (fun _ hk => ⟨hk, (by simp [Value.ownBlock])⟩)⟩, ⟨by first | exact Kd.R_nil _ _ _ _ _ | exact Kd.N_nil _ _ _ _ _ | exact Kd.V_nil _ _ _ _ _ | exact Kd.Q_nil _ _ _ _ _ | exact Kd.S_nil _ _ _ _ _⟩, ⟨by repeat (first | (with_reducible first | exact HB.out | apply below_alloc | apply pw_below_drewN | apply below_drew1) | exact HB.out)⟩⟩
 case round =>
  clear H'
  try clear c1
  obtain ⟨x3_1, x4_1, rfl, HA, HK1, HO_0, HO_3, HB⟩ := hrel
  cases gk with
  | zero => exact absurd HA.out (by simp [sennitref12_Bare.l0])
  | succ k1 =>
   have H := HA.out
   clear HA
   simp only [sennitref12_Bare.l0] at H
   by_cases c2 : x4_1 < (l0.length : Int)
   ·rw [if_pos c2] at H
    have c2b0 : decide (x4_1 < (l0.length : Int)) = true := decide_eq_true c2
    clear c2
    by_cases c3 : 0 ≤ x4_1
    ·rw [if_pos c3] at H
     have c3b0 : decide (0 ≤ x4_1) = true := decide_eq_true c3
     clear c3
     by_cases c4 : x3_1.length < 1759218604441
     ·rw [if_pos c4] at H
      have LMc4 := Aside0.mk c4
      clear c4
      obtain ⟨y211, hy211⟩ : ∃ y_ : List (S36), y_ = (x3_1 ++ [(⟨(rd_T36 l0 x4_1).f0, (rd_T36 l0 x4_1).f1, ([] : List ByteArray), (rd_T36 l0 x4_1).f3⟩ : S36)]) := ⟨_, rfl⟩
      replace H : (sennitref12_Bare.l0 k1 l0 y211 (wrap64 (x4_1 + 1))) = some r := by first | (rw [hy211]; with_reducible exact H) | (have H2_ := (Option.bind_some _ _).symm.trans H; rw [hy211]; with_reducible exact H2_) | (have H2_ := (Option.bind_some _ _).symm.trans H; with_reducible exact H2_) | with_reducible exact H | (rw [hy211]; exact H) | exact H
      have Ny211 := Aside0.mk hy211
      clear hy211
      have H' := Aside0.mk H
      clear H
      try go_wp2
      have n0_ := Aside0.mk (Kd.V_drew HO_0.out)
      have n1_ := Aside0.mk (Kd.N_drew HO_3.out)
      have n2_ := Aside0.mk (below_drew1 HB.out)
      clear HO_0
      clear HO_3
      clear HB
      have HO_0 := n0_
      have HO_3 := n1_
      have HB := n2_
      clear n0_ n1_ n2_
      have p208 : 0 ≤ (x4_1 : Int) := of_decide_eq_true (by first | (with_reducible assumption) | assumption)
      have q208 : x4_1 < (l0.length : Int) := of_decide_eq_true (by first | (with_reducible assumption) | assumption)
      obtain ⟨ad208, A208_1, c208_1, A208_2, c208_2, A208_3, c208_3, e208, hx208_0, hx208_1, hx208_2, hx208_3, hl208_1, hi208_1, hl208_2, hi208_2, hl208_3, hi208_3⟩ := at_T36 (Kd.V_reads' HO_0.out).2.2 x4_1 p208 q208
      cases e208
      obtain ⟨ce208, hce208, hMe208, hcc208⟩ := Kd.V_get HO_0.out z36 x4_1 p208 (by first | exact q208 | exact of_decide_eq_true (by first | (with_reducible assumption) | assumption) | (have e_ := (Kd.V_reads' HO_0.out).1; omega))
      obtain ⟨ua208_1, uc208_1, ua208_2, uc208_2, ua208_3, uc208_3, rfl, ul208_1, ge208_1, ul208_2, ge208_2, ul208_3, ge208_3⟩ := k36_openF hMe208
      have hv208_1 := hcc208 1 _ rfl
      rw [add_field _ _ 1 (by omega)] at hv208_1
      replace hv208_1 := Option.some.inj (hv208_1.symm.trans hx208_1)
      injection hv208_1 with hva_ hvn_ hvc_
      rw [hva_] at ge208_1
      rw [hvc_] at ul208_1
      have HL208_1 := Aside0.mk (show Kd.V Kd.string 9 _ w.heap.size _ _ ((rd_T36 l0 x4_1).f1) from Kd.V_mk ul208_1 ge208_1)
      clear hva_ hvn_ hvc_ ge208_1 ul208_1
      have hv208_2 := hcc208 2 _ rfl
      rw [add_field _ _ 2 (by omega)] at hv208_2
      replace hv208_2 := Option.some.inj (hv208_2.symm.trans hx208_2)
      injection hv208_2 with hva_ hvn_ hvc_
      rw [hva_] at ge208_2
      rw [hvc_] at ul208_2
      have HL208_2 := Aside0.mk (show Kd.V Kd.string 9 _ w.heap.size _ _ ((rd_T36 l0 x4_1).f2) from Kd.V_mk ul208_2 ge208_2)
      clear hva_ hvn_ hvc_ ge208_2 ul208_2
      have hv208_3 := hcc208 3 _ rfl
      rw [add_field _ _ 3 (by omega)] at hv208_3
      replace hv208_3 := Option.some.inj (hv208_3.symm.trans hx208_3)
      injection hv208_3 with hva_ hvn_ hvc_
      rw [hva_] at ge208_3
      rw [hvc_] at ul208_3
      have HL208_3 := Aside0.mk (show Kd.V (Kd.slice 9 Kd.string) 25 _ w.heap.size _ _ ((rd_T36 l0 x4_1).f3) from Kd.V_mk ul208_3 ge208_3)
      clear hva_ hvn_ hvc_ ge208_3 ul208_3
      clear hcc208 hce208
      have HR208_1 := Aside0.mk hi208_1
      have HC208_1 := Aside0.mk hl208_1
      clear hi208_1 hl208_1
      have HR208_2 := Aside0.mk hi208_2
      have HC208_2 := Aside0.mk hl208_2
      clear hi208_2 hl208_2
      have HR208_3 := Aside0.mk hi208_3
      have HC208_3 := Aside0.mk hl208_3
      clear hi208_3 hl208_3
      replace p208 := eq_true p208
      replace q208 := eq_true q208
      have p209 : 0 ≤ (x4_1 : Int) := of_decide_eq_true (by first | (with_reducible assumption) | assumption)
      have q209 : x4_1 < (l0.length : Int) := of_decide_eq_true (by first | (with_reducible assumption) | assumption)
      obtain ⟨ad209, A209_1, c209_1, A209_2, c209_2, A209_3, c209_3, e209, hx209_0, hx209_1, hx209_2, hx209_3, hl209_1, hi209_1, hl209_2, hi209_2, hl209_3, hi209_3⟩ := at_T36 (Kd.V_reads' HO_0.out).2.2 x4_1 p209 q209
      obtain rfl : ad208 = ad209 := (by injection e209)
      obtain ⟨ce209, hce209, hMe209, hcc209⟩ := Kd.V_get HO_0.out z36 x4_1 p209 (by first | exact q209 | exact of_decide_eq_true (by first | (with_reducible assumption) | assumption) | (have e_ := (Kd.V_reads' HO_0.out).1; omega))
      obtain ⟨ua209_1, uc209_1, ua209_2, uc209_2, ua209_3, uc209_3, rfl, ul209_1, ge209_1, ul209_2, ge209_2, ul209_3, ge209_3⟩ := k36_openF hMe209
      have hv209_1 := hcc209 1 _ rfl
      rw [add_field _ _ 1 (by omega)] at hv209_1
      replace hv209_1 := Option.some.inj (hv209_1.symm.trans hx209_1)
      injection hv209_1 with hva_ hvn_ hvc_
      rw [hva_] at ge209_1
      rw [hvc_] at ul209_1
      have HL209_1 := Aside0.mk (show Kd.V Kd.string 9 _ w.heap.size _ _ ((rd_T36 l0 x4_1).f1) from Kd.V_mk ul209_1 ge209_1)
      clear hva_ hvn_ hvc_ ge209_1 ul209_1
      have hv209_2 := hcc209 2 _ rfl
      rw [add_field _ _ 2 (by omega)] at hv209_2
      replace hv209_2 := Option.some.inj (hv209_2.symm.trans hx209_2)
      injection hv209_2 with hva_ hvn_ hvc_
      rw [hva_] at ge209_2
      rw [hvc_] at ul209_2
      have HL209_2 := Aside0.mk (show Kd.V Kd.string 9 _ w.heap.size _ _ ((rd_T36 l0 x4_1).f2) from Kd.V_mk ul209_2 ge209_2)
      clear hva_ hvn_ hvc_ ge209_2 ul209_2
      have hv209_3 := hcc209 3 _ rfl
      rw [add_field _ _ 3 (by omega)] at hv209_3
      replace hv209_3 := Option.some.inj (hv209_3.symm.trans hx209_3)
      injection hv209_3 with hva_ hvn_ hvc_
      rw [hva_] at ge209_3
      rw [hvc_] at ul209_3
      have HL209_3 := Aside0.mk (show Kd.V (Kd.slice 9 Kd.string) 25 _ w.heap.size _ _ ((rd_T36 l0 x4_1).f3) from Kd.V_mk ul209_3 ge209_3)
      clear hva_ hvn_ hvc_ ge209_3 ul209_3
      clear hcc209 hce209
      have HR209_1 := Aside0.mk hi209_1
      have HC209_1 := Aside0.mk hl209_1
      clear hi209_1 hl209_1
      have HR209_2 := Aside0.mk hi209_2
      have HC209_2 := Aside0.mk hl209_2
      clear hi209_2 hl209_2
      have HR209_3 := Aside0.mk hi209_3
      have HC209_3 := Aside0.mk hl209_3
      clear hi209_3 hl209_3
      replace p209 := eq_true p209
      replace q209 := eq_true q209
      have ea_ := Option.some.inj (hx208_1.symm.trans hx209_1)
      injection ea_ with ea_ en_ ec_
      subst ea_
      subst ec_
      clear en_
      have ea_ := Option.some.inj (hx208_2.symm.trans hx209_2)
      injection ea_ with ea_ en_ ec_
      subst ea_
      subst ec_
      clear en_
      have ea_ := Option.some.inj (hx208_3.symm.trans hx209_3)
      injection ea_ with ea_ en_ ec_
      subst ea_
      subst ec_
      clear en_
      have p210 : 0 ≤ (x4_1 : Int) := of_decide_eq_true (by first | (with_reducible assumption) | assumption)
      have q210 : x4_1 < (l0.length : Int) := of_decide_eq_true (by first | (with_reducible assumption) | assumption)
      obtain ⟨ad210, A210_1, c210_1, A210_2, c210_2, A210_3, c210_3, e210, hx210_0, hx210_1, hx210_2, hx210_3, hl210_1, hi210_1, hl210_2, hi210_2, hl210_3, hi210_3⟩ := at_T36 (Kd.V_reads' HO_0.out).2.2 x4_1 p210 q210
      obtain rfl : ad208 = ad210 := (by injection e210)
      obtain ⟨ce210, hce210, hMe210, hcc210⟩ := Kd.V_get HO_0.out z36 x4_1 p210 (by first | exact q210 | exact of_decide_eq_true (by first | (with_reducible assumption) | assumption) | (have e_ := (Kd.V_reads' HO_0.out).1; omega))
      obtain ⟨ua210_1, uc210_1, ua210_2, uc210_2, ua210_3, uc210_3, rfl, ul210_1, ge210_1, ul210_2, ge210_2, ul210_3, ge210_3⟩ := k36_openF hMe210
      have hv210_1 := hcc210 1 _ rfl
      rw [add_field _ _ 1 (by omega)] at hv210_1
      replace hv210_1 := Option.some.inj (hv210_1.symm.trans hx210_1)
      injection hv210_1 with hva_ hvn_ hvc_
      rw [hva_] at ge210_1
      rw [hvc_] at ul210_1
      have HL210_1 := Aside0.mk (show Kd.V Kd.string 9 _ w.heap.size _ _ ((rd_T36 l0 x4_1).f1) from Kd.V_mk ul210_1 ge210_1)
      clear hva_ hvn_ hvc_ ge210_1 ul210_1
      have hv210_2 := hcc210 2 _ rfl
      rw [add_field _ _ 2 (by omega)] at hv210_2
      replace hv210_2 := Option.some.inj (hv210_2.symm.trans hx210_2)
      injection hv210_2 with hva_ hvn_ hvc_
      rw [hva_] at ge210_2
      rw [hvc_] at ul210_2
      have HL210_2 := Aside0.mk (show Kd.V Kd.string 9 _ w.heap.size _ _ ((rd_T36 l0 x4_1).f2) from Kd.V_mk ul210_2 ge210_2)
      clear hva_ hvn_ hvc_ ge210_2 ul210_2
      have hv210_3 := hcc210 3 _ rfl
      rw [add_field _ _ 3 (by omega)] at hv210_3
      replace hv210_3 := Option.some.inj (hv210_3.symm.trans hx210_3)
      injection hv210_3 with hva_ hvn_ hvc_
      rw [hva_] at ge210_3
      rw [hvc_] at ul210_3
      have HL210_3 := Aside0.mk (show Kd.V (Kd.slice 9 Kd.string) 25 _ w.heap.size _ _ ((rd_T36 l0 x4_1).f3) from Kd.V_mk ul210_3 ge210_3)
      clear hva_ hvn_ hvc_ ge210_3 ul210_3
      clear hcc210 hce210
      have HR210_1 := Aside0.mk hi210_1
      have HC210_1 := Aside0.mk hl210_1
      clear hi210_1 hl210_1
      have HR210_2 := Aside0.mk hi210_2
      have HC210_2 := Aside0.mk hl210_2
      clear hi210_2 hl210_2
      have HR210_3 := Aside0.mk hi210_3
      have HC210_3 := Aside0.mk hl210_3
      clear hi210_3 hl210_3
      replace p210 := eq_true p210
      replace q210 := eq_true q210
      have ea_ := Option.some.inj (hx208_1.symm.trans hx210_1)
      injection ea_ with ea_ en_ ec_
      subst ea_
      subst ec_
      clear en_
      have ea_ := Option.some.inj (hx208_2.symm.trans hx210_2)
      injection ea_ with ea_ en_ ec_
      subst ea_
      subst ec_
      clear en_
      have ea_ := Option.some.inj (hx208_3.symm.trans hx210_3)
      injection ea_ with ea_ en_ ec_
      subst ea_
      subst ec_
      clear en_
      refine start_ (n := 20) (S := fun w' => w'.cell? (ad208.add ((x4_1).toNat * 4)) = some (.bool ((rd_T36 l0 x4_1).f0)) ∧ w'.cell? ⟨(ad208.add ((x4_1).toNat * 4)).block, (ad208.add ((x4_1).toNat * 4)).off + 1, none⟩ = some (.slice A208_1 ((rd_T36 l0 x4_1).f1).length c208_1) ∧ w'.cell? ⟨(ad208.add ((x4_1).toNat * 4)).block, (ad208.add ((x4_1).toNat * 4)).off + 2, none⟩ = some (.slice A208_2 ((rd_T36 l0 x4_1).f2).length c208_2) ∧ w'.cell? ⟨(ad208.add ((x4_1).toNat * 4)).block, (ad208.add ((x4_1).toNat * 4)).off + 3, none⟩ = some (.slice A208_3 ((rd_T36 l0 x4_1).f3).length c208_3) ∧ w'.cell? (ad208.add ((x4_1).toNat * 4)) = some (.bool ((rd_T36 l0 x4_1).f0)) ∧ w'.cell? ⟨(ad208.add ((x4_1).toNat * 4)).block, (ad208.add ((x4_1).toNat * 4)).off + 1, none⟩ = some (.slice A208_1 ((rd_T36 l0 x4_1).f1).length c208_1) ∧ w'.cell? ⟨(ad208.add ((x4_1).toNat * 4)).block, (ad208.add ((x4_1).toNat * 4)).off + 2, none⟩ = some (.slice A208_2 ((rd_T36 l0 x4_1).f2).length c208_2) ∧ w'.cell? ⟨(ad208.add ((x4_1).toNat * 4)).block, (ad208.add ((x4_1).toNat * 4)).off + 3, none⟩ = some (.slice A208_3 ((rd_T36 l0 x4_1).f3).length c208_3) ∧ w'.cell? (ad208.add ((x4_1).toNat * 4)) = some (.bool ((rd_T36 l0 x4_1).f0)) ∧ w'.cell? ⟨(ad208.add ((x4_1).toNat * 4)).block, (ad208.add ((x4_1).toNat * 4)).off + 1, none⟩ = some (.slice A208_1 ((rd_T36 l0 x4_1).f1).length c208_1) ∧ w'.cell? ⟨(ad208.add ((x4_1).toNat * 4)).block, (ad208.add ((x4_1).toNat * 4)).off + 2, none⟩ = some (.slice A208_2 ((rd_T36 l0 x4_1).f2).length c208_2) ∧ w'.cell? ⟨(ad208.add ((x4_1).toNat * 4)).block, (ad208.add ((x4_1).toNat * 4)).off + 3, none⟩ = some (.slice A208_3 ((rd_T36 l0 x4_1).f3).length c208_3)) (ds := [17, 18]) #[false, false, false, false, false, false, false, false, false, false, false, false, false, false, false, false, false, false, false, false] (by kernel_rfl) rfl rfl ⟨hx208_0, hx208_1, hx208_2, hx208_3, hx209_0, hx209_1, hx209_2, hx209_3, hx210_0, hx210_1, hx210_2, hx210_3⟩ (fun hHeld => ?_); refine with_tabW sennitref12_Bare.tab5 sennitref12_Bare.bits5 (fun HT_ HW_ => ?_)
      generalize wr.drew = w5 at HO_0 HO_3 HB HL208_1 HL208_2 HL208_3 HL209_1 HL209_2 HL209_3 HL210_1 HL210_2 HL210_3 HR208_1 HR208_2 HR208_3 HR209_1 HR209_2 HR209_3 HR210_1 HR210_2 HR210_3 hx208_0 hx208_1 hx208_2 hx208_3 hx209_0 hx209_1 hx209_2 hx209_3 hx210_0 hx210_1 hx210_2 hx210_3 hHeld ⊢
      refine pure_ (i := 0) (N := some 11) (v := ?_) (a' := ?_) #[true, false, false, false, false, false, false, false, false, false, false, false, false, false, false, false, false, false, false, false] rfl rfl (any_of HT_.out (by kernel_rfl)) (fun _ _ _ h => h) (Or.inl ⟨by rfl, ?_⟩) ?_ ?_
      rotate_left
      ·intro w'
       go_simp
       with_reducible rfl
      rotate_left
      ·simp only [Act.put, List.setIfInBounds_toArray, List.set_cons_zero, List.set_cons_succ, i64_w, i32_w]
       rfl
      refine pure_ (i := 1) (N := some 12) (v := ?_) (a' := ?_) #[true, true, false, false, false, false, false, false, false, false, false, false, false, false, false, false, false, false, false, false] rfl rfl (any_of HT_.out (by kernel_rfl)) (fun _ _ _ h => h) (Or.inl ⟨by rfl, ?_⟩) ?_ ?_
      rotate_left
      ·intro w'
       go_simp
       with_reducible rfl
      rotate_left
      ·simp only [Act.put, List.setIfInBounds_toArray, List.set_cons_zero, List.set_cons_succ, i64_w, i32_w]
       rfl
      refine pure_ (i := 2) (N := some 13) (v := ?_) (a' := ?_) #[true, true, true, false, false, false, false, false, false, false, false, false, false, false, false, false, false, false, false, false] rfl rfl (any_of HT_.out (by kernel_rfl)) (fun _ _ _ h => h) (Or.inl ⟨by rfl, ?_⟩) ?_ ?_
      rotate_left
      ·intro w'
       go_simp
       with_reducible rfl
      rotate_left
      ·simp only [Act.put, List.setIfInBounds_toArray, List.set_cons_zero, List.set_cons_succ, i64_w, i32_w]
       rfl
      refine pure_ (i := 3) (N := some 14) (v := ?_) (a' := ?_) #[true, true, true, true, false, false, false, false, false, false, false, false, false, false, false, false, false, false, false, false] rfl rfl (any_of HT_.out (by kernel_rfl)) (fun _ _ _ h => h) (Or.inl ⟨by rfl, ?_⟩) ?_ ?_
      rotate_left
      ·intro w'
       go_simp
       with_reducible rfl
      rotate_left
      ·simp only [Act.put, List.setIfInBounds_toArray, List.set_cons_zero, List.set_cons_succ, i64_w, i32_w]
       rfl
      refine pure_ (i := 4) (N := some 15) (v := ?_) (a' := ?_) #[true, true, true, true, true, false, false, false, false, false, false, false, false, false, false, false, false, false, false, false] rfl rfl (any_of HT_.out (by kernel_rfl)) (fun _ _ _ h => h) (Or.inl ⟨by rfl, ?_⟩) ?_ ?_
      rotate_left
      ·intro w'
       go_simp
       with_reducible rfl
      rotate_left
      ·simp only [Act.put, List.setIfInBounds_toArray, List.set_cons_zero, List.set_cons_succ, i64_w, i32_w]
       rfl
      refine pure_ (i := 6) (N := some 17) (v := ?_) (a' := ?_) #[true, true, true, true, true, false, true, false, false, false, false, false, false, false, false, false, false, false, false, false] rfl rfl (any_of HT_.out (by kernel_rfl)) (fun _ _ _ h => h) (Or.inl ⟨by rfl, ?_⟩) ?_ ?_
      rotate_left
      ·intro w'
       go_simp
       with_reducible rfl
      rotate_left
      ·simp only [Act.put, List.setIfInBounds_toArray, List.set_cons_zero, List.set_cons_succ, i64_w, i32_w]
       rfl
      refine pure_ (i := 7) (N := some 18) (v := ?_) (a' := ?_) #[true, true, true, true, true, false, true, true, false, false, false, false, false, false, false, false, false, false, false, false] rfl rfl (any_of HT_.out (by kernel_rfl)) (fun _ _ _ h => h) (Or.inl ⟨by rfl, ?_⟩) ?_ ?_
      rotate_left
      ·intro w'
       go_simp
       with_reducible rfl
      rotate_left
      ·simp only [Act.put, List.setIfInBounds_toArray, List.set_cons_zero, List.set_cons_succ, i64_w, i32_w]
       rfl
      refine pure_ (i := 8) (N := some 19) (v := ?_) (a' := ?_) #[true, true, true, true, true, false, true, true, true, false, false, false, false, false, false, false, false, false, false, false] rfl rfl (any_of HT_.out (by kernel_rfl)) (fun _ _ _ h => h) (Or.inl ⟨by rfl, ?_⟩) ?_ ?_
      rotate_left
      ·intro w'
       go_simp
       with_reducible rfl
      rotate_left
      ·simp only [Act.put, List.setIfInBounds_toArray, List.set_cons_zero, List.set_cons_succ, i64_w, i32_w]
       rfl
      refine pure_ (i := 9) (N := some 20) (v := ?_) (a' := ?_) #[true, true, true, true, true, false, true, true, true, true, false, false, false, false, false, false, false, false, false, false] rfl rfl (any_of HT_.out (by kernel_rfl)) (fun _ _ _ h => h) (Or.inl ⟨by rfl, ?_⟩) ?_ ?_
      rotate_left
      ·intro w'
       go_simp
       with_reducible rfl
      rotate_left
      ·simp only [Act.put, List.setIfInBounds_toArray, List.set_cons_zero, List.set_cons_succ, i64_w, i32_w]
       rfl
      refine pure_ (i := 11) (N := some 22) (v := ?_) (a' := ?_) #[true, true, true, true, true, false, true, true, true, true, false, true, false, false, false, false, false, false, false, false] rfl rfl (any_of HT_.out (by kernel_rfl)) (fun _ _ _ h => h) (Or.inl ⟨by rfl, ?_⟩) ?_ ?_
      rotate_left
      ·intro w'
       go_simp
       with_reducible rfl
      rotate_left
      ·simp only [Act.put, List.setIfInBounds_toArray, List.set_cons_zero, List.set_cons_succ, i64_w, i32_w]
       rfl
      refine pure_ (i := 12) (N := some 23) (v := ?_) (a' := ?_) #[true, true, true, true, true, false, true, true, true, true, false, true, true, false, false, false, false, false, false, false] rfl rfl (any_of HT_.out (by kernel_rfl)) (fun _ _ _ h => h) (Or.inl ⟨by rfl, ?_⟩) ?_ ?_
      rotate_left
      ·intro w'
       go_simp
       with_reducible rfl
      rotate_left
      ·simp only [Act.put, List.setIfInBounds_toArray, List.set_cons_zero, List.set_cons_succ, i64_w, i32_w]
       rfl
      refine pure_ (i := 13) (N := some 24) (v := ?_) (a' := ?_) #[true, true, true, true, true, false, true, true, true, true, false, true, true, true, false, false, false, false, false, false] rfl rfl (any_of HT_.out (by kernel_rfl)) (fun _ _ _ h => h) (Or.inl ⟨by rfl, ?_⟩) ?_ ?_
      rotate_left
      ·intro w'
       go_simp
       with_reducible rfl
      rotate_left
      ·simp only [Act.put, List.setIfInBounds_toArray, List.set_cons_zero, List.set_cons_succ, i64_w, i32_w]
       rfl
      refine pure_ (i := 14) (N := some 25) (v := ?_) (a' := ?_) #[true, true, true, true, true, false, true, true, true, true, false, true, true, true, true, false, false, false, false, false] rfl rfl (any_of HT_.out (by kernel_rfl)) (fun _ _ _ h => h) (Or.inl ⟨by rfl, ?_⟩) ?_ ?_
      rotate_left
      ·intro w'
       go_simp
       with_reducible rfl
      rotate_left
      ·simp only [Act.put, List.setIfInBounds_toArray, List.set_cons_zero, List.set_cons_succ, i64_w, i32_w]
       rfl
      refine take_ (i := 5) (N := some 16) (v := ?_) (a' := ?_) #[true, true, true, true, true, true, true, true, true, true, false, true, true, true, true, false, false, false, false, false] rfl rfl (take_ofW HT_.out HW_.out (by kernel_rfl)) (fun _ _ _ h => h) (Or.inl ⟨by rfl, ?_⟩) hHeld ?_ ?_
      rotate_left
      ·rintro w' ⟨s0, s1, s2, s3, s4, s5, s6, s7, s8, s9, s10, s11⟩
       go_simp
       with_reducible rfl
      rotate_left
      ·simp only [Act.put, List.setIfInBounds_toArray, List.set_cons_zero, List.set_cons_succ, i64_w, i32_w]
       rfl
      refine take_ (i := 10) (N := some 21) (v := ?_) (a' := ?_) #[true, true, true, true, true, true, true, true, true, true, true, true, true, true, true, false, false, false, false, false] rfl rfl (take_ofW HT_.out HW_.out (by kernel_rfl)) (fun _ _ _ h => h) (Or.inl ⟨by rfl, ?_⟩) hHeld ?_ ?_
      rotate_left
      ·rintro w' ⟨s0, s1, s2, s3, s4, s5, s6, s7, s8, s9, s10, s11⟩
       go_simp
       with_reducible rfl
      rotate_left
      ·simp only [Act.put, List.setIfInBounds_toArray, List.set_cons_zero, List.set_cons_succ, i64_w, i32_w]
       rfl
      refine take_ (i := 15) (N := some 26) (v := ?_) (a' := ?_) #[true, true, true, true, true, true, true, true, true, true, true, true, true, true, true, true, false, false, false, false] rfl rfl (take_ofW HT_.out HW_.out (by kernel_rfl)) (fun _ _ _ h => h) (Or.inl ⟨by rfl, ?_⟩) hHeld ?_ ?_
      rotate_left
      ·rintro w' ⟨s0, s1, s2, s3, s4, s5, s6, s7, s8, s9, s10, s11⟩
       go_simp
       with_reducible rfl
      rotate_left
      ·simp only [Act.put, List.setIfInBounds_toArray, List.set_cons_zero, List.set_cons_succ, i64_w, i32_w]
       rfl
      refine pure_ (i := 16) (N := some 27) (v := ?_) (a' := ?_) #[true, true, true, true, true, true, true, true, true, true, true, true, true, true, true, true, true, false, false, false] rfl rfl (any_of HT_.out (by kernel_rfl)) (fun _ _ _ h => h) (Or.inl ⟨by rfl, ?_⟩) ?_ ?_
      rotate_left
      ·intro w'
       go_simp
       with_reducible rfl
      rotate_left
      ·simp only [Act.put, List.setIfInBounds_toArray, List.set_cons_zero, List.set_cons_succ, i64_w, i32_w]
       rfl
      refine last_ (i := 17) (N := some 28) #[true, true, true, true, true, true, true, true, true, true, true, true, true, true, true, true, true, true, false, false] rfl rfl (one_of HT_.out (by kernel_rfl)) (by decide) (fun K hK => ?_)
      refine value_ (w1 := ?_) (v := ?_) (by rfl) rfl ?_ ?_
      rotate_left 2
      ·go_simp
       constructor
       ·rfl
       ·rfl
      refine hK.out _ _ ?_
      clear hK K
      refine norm_ (a' := ?_) ?_ ?_
      rotate_left
      ·show Act.put _ (some 28) _ = _
       simp only [Act.put, List.setIfInBounds_toArray, List.set_cons_zero, List.set_cons_succ, i64_w, i32_w]
       rfl
      refine last_ (i := 18) (N := some 29) #[true, true, true, true, true, true, true, true, true, true, true, true, true, true, true, true, true, true, true, false] rfl rfl (one_of HT_.out (by kernel_rfl)) (by decide) (fun K hK => ?_)
      refine Kd.N_append_step k36 (w0 := w) w.heap.size (by rfl) (.tmp 11) (.tmp 28) 22 36 (.agg #[(.bool false), (.slice none 0 0), (.slice none 0 0), (.slice none 0 0)]) 80 rfl Tryz.underlying22 info36 rfl (by decide) (by omega) u3 x3_1 (⟨(rd_T36 l0 x4_1).f0, (rd_T36 l0 x4_1).f1, ([] : List ByteArray), (rd_T36 l0 x4_1).f3⟩ : S36) [.bool ((rd_T36 l0 x4_1).f0), .slice A208_1 ((rd_T36 l0 x4_1).f1).length c208_1, .slice none 0 0, .slice A208_3 ((rd_T36 l0 x4_1).f3).length c208_3] (fun k_ => (P0_ k_ ∨ w.heap.size ≤ k_)) (fun k_ => ((fun k_ => (P0_ k_ ∨ w.heap.size ≤ k_))) k_ ∧ some k_ ≠ (u3 : Value).ownBlock) rfl rfl ?aP (fun _ hk => hk) ?aF ?aO ?aB ?aS ?aL ?_
      (case aP => exact (k36_mkF _ _ (⟨(rd_T36 l0 x4_1).f0, (rd_T36 l0 x4_1).f1, ([] : List ByteArray), (rd_T36 l0 x4_1).f3⟩ : S36) (Kd.V_reads' (Kd.V_mono (ok' := (fun k_ => ((fun k_ => (P0_ k_ ∨ w.heap.size ≤ k_))) k_ ∧ some k_ ≠ (u3 : Value).ownBlock)) (HL209_1.out) (fun k_ hk => ⟨hk.1, hk.2⟩))).2.1 (Kd.V_F (Kd.V_mono (ok' := (fun k_ => ((fun k_ => (P0_ k_ ∨ w.heap.size ≤ k_))) k_ ∧ some k_ ≠ (u3 : Value).ownBlock)) (HL209_1.out) (fun k_ hk => ⟨hk.1, hk.2⟩))) (Nat.le_refl _) (Kd.F_nil _ _ _) (Kd.V_reads' (Kd.V_mono (ok' := (fun k_ => ((fun k_ => (P0_ k_ ∨ w.heap.size ≤ k_))) k_ ∧ some k_ ≠ (u3 : Value).ownBlock)) (HL210_3.out) (fun k_ hk => ⟨hk.1, hk.2⟩))).2.1 (Kd.V_F (Kd.V_mono (ok' := (fun k_ => ((fun k_ => (P0_ k_ ∨ w.heap.size ≤ k_))) k_ ∧ some k_ ≠ (u3 : Value).ownBlock)) (HL210_3.out) (fun k_ hk => ⟨hk.1, hk.2⟩)))))
      (case aB => exact (by repeat (first | (with_reducible first | exact HB.out | apply below_alloc | apply pw_below_drewN | apply below_drew1) | exact HB.out)))
      (case aF => exact (fun k_ hk => (.inr (Nat.le_trans (below_size (by repeat (first | (with_reducible first | exact HB.out | apply below_alloc | apply pw_below_drewN | apply below_drew1) | exact HB.out))) hk))))
      (case aO => exact (by (with_reducible repeat (first | apply Kd.N_alloc | apply Kd.N_drewN | apply Kd.N_drew)); exact HO_3.out))
      (case aS => exact (below_size (by repeat (first | (with_reducible first | exact HB.out | apply below_alloc | apply pw_below_drewN | apply below_drew1) | exact HB.out))))
      (case aL => have := LMc4.out; omega)
      intro v212 w6 ho hb hg hat
      rw [← Ny211.out] at ho
      have n0_ := Aside0.mk (Kd.V_afterv (ok := (fun k_ => (P0_ k_ ∨ w.heap.size ≤ k_))) (by (with_reducible repeat (first | apply Kd.V_alloc | apply Kd.V_drewN | apply Kd.V_drew)); exact HO_0.out) hg hat)
      have n1_ := Aside0.mk (Kd.V_afterv (ok := (fun k_ => (P0_ k_ ∨ w.heap.size ≤ k_))) (by (with_reducible repeat (first | apply Kd.V_alloc | apply Kd.V_drewN | apply Kd.V_drew)); exact HL208_1.out) hg hat)
      have n2_ := Aside0.mk (Kd.V_afterv (ok := (fun k_ => (P0_ k_ ∨ w.heap.size ≤ k_))) (by (with_reducible repeat (first | apply Kd.V_alloc | apply Kd.V_drewN | apply Kd.V_drew)); exact HL208_2.out) hg hat)
      have n3_ := Aside0.mk (Kd.V_afterv (ok := (fun k_ => (P0_ k_ ∨ w.heap.size ≤ k_))) (by (with_reducible repeat (first | apply Kd.V_alloc | apply Kd.V_drewN | apply Kd.V_drew)); exact HL208_3.out) hg hat)
      have n4_ := Aside0.mk (Kd.V_afterv (ok := (fun k_ => (P0_ k_ ∨ w.heap.size ≤ k_))) (by (with_reducible repeat (first | apply Kd.V_alloc | apply Kd.V_drewN | apply Kd.V_drew)); exact HL209_1.out) hg hat)
      have n5_ := Aside0.mk (Kd.V_afterv (ok := (fun k_ => (P0_ k_ ∨ w.heap.size ≤ k_))) (by (with_reducible repeat (first | apply Kd.V_alloc | apply Kd.V_drewN | apply Kd.V_drew)); exact HL209_2.out) hg hat)
      have n6_ := Aside0.mk (Kd.V_afterv (ok := (fun k_ => (P0_ k_ ∨ w.heap.size ≤ k_))) (by (with_reducible repeat (first | apply Kd.V_alloc | apply Kd.V_drewN | apply Kd.V_drew)); exact HL209_3.out) hg hat)
      have n7_ := Aside0.mk (Kd.V_afterv (ok := (fun k_ => (P0_ k_ ∨ w.heap.size ≤ k_))) (by (with_reducible repeat (first | apply Kd.V_alloc | apply Kd.V_drewN | apply Kd.V_drew)); exact HL210_1.out) hg hat)
      have n8_ := Aside0.mk (Kd.V_afterv (ok := (fun k_ => (P0_ k_ ∨ w.heap.size ≤ k_))) (by (with_reducible repeat (first | apply Kd.V_alloc | apply Kd.V_drewN | apply Kd.V_drew)); exact HL210_2.out) hg hat)
      have n9_ := Aside0.mk (Kd.V_afterv (ok := (fun k_ => (P0_ k_ ∨ w.heap.size ≤ k_))) (by (with_reducible repeat (first | apply Kd.V_alloc | apply Kd.V_drewN | apply Kd.V_drew)); exact HL210_3.out) hg hat)
      have n10_ := Aside0.mk (hb)
      have n11_ := Aside0.mk (ho)
      clear HO_0
      clear HL208_1
      clear HL208_2
      clear HL208_3
      clear HL209_1
      clear HL209_2
      clear HL209_3
      clear HL210_1
      clear HL210_2
      clear HL210_3
      clear HB
      clear HO_3
      have HO_0 := n0_
      have HL208_1 := n1_
      have HL208_2 := n2_
      have HL208_3 := n3_
      have HL209_1 := n4_
      have HL209_2 := n5_
      have HL209_3 := n6_
      have HL210_1 := n7_
      have HL210_2 := n8_
      have HL210_3 := n9_
      have HB := n10_
      have HO213 := n11_
      clear n0_ n1_ n2_ n3_ n4_ n5_ n6_ n7_ n8_ n9_ n10_ n11_
      clear ho hb hg hat
      refine hK.out _ _ ?_
      clear hK K
      refine norm_ (a' := ?_) ?_ ?_
      rotate_left
      ·show Act.put _ (some 29) _ = _
       simp only [Act.put, List.setIfInBounds_toArray, List.set_cons_zero, List.set_cons_succ, i64_w, i32_w]
       rfl
      refine pure_ (i := 19) (N := some 3) (v := ?_) (a' := ?_) #[true, true, true, true, true, true, true, true, true, true, true, true, true, true, true, true, true, true, true, true] rfl rfl (any_of HT_.out (by kernel_rfl)) (fun _ _ _ h => h) (Or.inl ⟨by rfl, ?_⟩) ?_ ?_
      rotate_left
      ·intro w'
       go_simp
       with_reducible rfl
      rotate_left
      ·simp only [Act.put, List.setIfInBounds_toArray, List.set_cons_zero, List.set_cons_succ, i64_w, i32_w]
       rfl
      refine done_ (done_of HT_.out (by kernel_rfl)) ?_
      try go_wp2
      go_roundg k1
      case measure => have := HK1.out; omega
      case rel => exact ⟨(y211), (wrap64 (x4_1 + 1)), (by first | rfl | (simp; done) | (simp [*]; done)), H', ⟨by have := HK1.out; omega⟩, ⟨by (with_reducible repeat (first | apply Kd.V_alloc | apply Kd.V_drewN | apply Kd.V_drew)); exact HO_0.out⟩, ⟨by (with_reducible repeat (first | apply Kd.N_alloc | apply Kd.N_drewN | apply Kd.N_drew)); exact HO213.out⟩, ⟨by repeat (first | (with_reducible first | exact HB.out | apply below_alloc | apply pw_below_drewN | apply below_drew1) | exact HB.out)⟩⟩
     ·rw [if_neg c4] at H
      exact absurd H (by simp)
    ·rw [if_neg c3] at H
     exact absurd H (by simp)
   ·rw [if_neg c2] at H
    have c2b0 : decide (x4_1 < (l0.length : Int)) = false := decide_eq_false c2
    clear c2
    obtain rfl := Option.some.inj H
    go_wp2
    go_ret
    exact ⟨_, by first | rfl | (simp [errW_none, errW_some] <;> rfl) | (simp [*, errW_none, errW_some] <;> rfl), by (with_reducible repeat (first | apply Kd.N_alloc | apply Kd.N_drewN | apply Kd.N_drew)); exact HO_3.out, by repeat (first | (with_reducible first | exact HB.out | apply below_alloc | apply pw_below_drewN | apply below_drew1) | exact HB.out)⟩
/-! ### sennitref07_Clean: function 20 -/
def sennitref07_Clean.l0 : Nat → List (S36) → Int → Option (Bool)
 | 0, _, _ => none
 | k + 1, x0, x3 => if x3 < (x0.length : Int) then (if 0 ≤ x3 then (if (rd_T36 x0 x3).f0 = true then (some false) else (sennitref07_Clean.l0 k x0 (wrap64 (x3 + 1)))) else (none)) else (some true)
def sennitref07_Clean.f (k : Nat) (l0 : List (S36)) : Option (Bool) := sennitref07_Clean.l0 k l0 0
set_option maxHeartbeats 8000000 in
set_option maxRecDepth 100000 in
theorem sennitref07_Clean.calls (k : Nat) (A0 : Option Addr) (c0 : Nat) (l0 : List (S36)) (r : Bool) (w : World) (hr0 : Kd.C k36 w A0 l0.length l0) (hc0 : l0.length ≤ c0) (h : sennitref07_Clean.f k l0 = some r) :
  Calls Tryz.prog 20 #[.slice A0 l0.length c0] w fun e w' => e = .returned (.bool r) ∧ Drawn0 w w' := by
 have HR0 := Aside0.mk hr0
 have HC0 := Aside0.mk hc0
 clear hr0 hc0
 have H : (sennitref07_Clean.l0 k l0 0) = some r := h
 clear h
 have H' := Aside0.mk H
 clear H
 go_enter Tryz.func20, Tryz.ntmps20
 go_wp2
 go_loopg [3] k (fun kq v3 w' => ∃ (x3_1 : Int), v3 = .int .i64 x3_1 ∧ Aside0 (sennitref07_Clean.l0 kq l0 x3_1 = some r) ∧ Aside0 (kq ≤ k) ∧ Drawn0 w w')
 case atStart => exact ⟨(0), (by first | rfl | (simp; done) | (simp [*]; done)), H', ⟨Nat.le_refl _⟩, by repeat (first | exact Drawn0.refl _ | apply Drawn0.step)⟩
 case round =>
  clear H'
  obtain ⟨x3_1, rfl, HA, HK1, ⟨m1, rfl⟩⟩ := hrel
  cases gk with
  | zero => exact absurd HA.out (by simp [sennitref07_Clean.l0])
  | succ k1 =>
   have H := HA.out
   clear HA
   simp only [sennitref07_Clean.l0] at H
   by_cases c2 : x3_1 < (l0.length : Int)
   ·rw [if_pos c2] at H
    have c2b0 : decide (x3_1 < (l0.length : Int)) = true := decide_eq_true c2
    clear c2
    by_cases c3 : 0 ≤ x3_1
    ·rw [if_pos c3] at H
     have c3b0 : decide (0 ≤ x3_1) = true := decide_eq_true c3
     clear c3
     obtain ⟨bq4, hbq4⟩ : ∃ b_ : Bool, b_ = ((rd_T36 l0 x3_1).f0) := ⟨_, rfl⟩
     replace H : (if bq4 = true then (some false) else (sennitref07_Clean.l0 k1 l0 (wrap64 (x3_1 + 1)))) = some r := by rw [← hbq4] at H; exact H
     have Nbq4 := Aside0.mk hbq4
     clear hbq4
     by_cases c5 : bq4 = true
     ·subst c5
      have H1 : (some false) = some r := by rw [if_pos rfl] at H; exact H
      clear H
      have H := H1
      clear H1
      obtain rfl := Option.some.inj H
      have p214 : 0 ≤ (x3_1 : Int) := of_decide_eq_true (by first | (with_reducible assumption) | assumption)
      have q214 : x3_1 < (l0.length : Int) := of_decide_eq_true (by first | (with_reducible assumption) | assumption)
      obtain ⟨ad214, A214_1, c214_1, A214_2, c214_2, A214_3, c214_3, e214, hx214_0, hx214_1, hx214_2, hx214_3, hl214_1, hi214_1, hl214_2, hi214_2, hl214_3, hi214_3⟩ := at_T36 HR0.out x3_1 p214 q214
      (try rw [← Nbq4.out] at hx214_0)
      cases e214
      have HR214_1 := Aside0.mk hi214_1
      have HC214_1 := Aside0.mk hl214_1
      clear hi214_1 hl214_1
      have HR214_2 := Aside0.mk hi214_2
      have HC214_2 := Aside0.mk hl214_2
      clear hi214_2 hl214_2
      have HR214_3 := Aside0.mk hi214_3
      have HC214_3 := Aside0.mk hl214_3
      clear hi214_3 hl214_3
      replace p214 := eq_true p214
      replace q214 := eq_true q214
      go_wp2
      go_ret
      exact ⟨by first | rfl | (simp; done) | (simp [*]; done), by repeat (first | exact Drawn0.refl _ | apply Drawn0.step)⟩
     ·replace c5 := Bool.eq_false_iff.mpr c5
      subst c5
      have H1 : (sennitref07_Clean.l0 k1 l0 (wrap64 (x3_1 + 1))) = some r := by rw [if_neg (show ¬ (false = true) by decide)] at H; exact H
      clear H
      have H := H1
      clear H1
      have H' := Aside0.mk H
      clear H
      have p214 : 0 ≤ (x3_1 : Int) := of_decide_eq_true (by first | (with_reducible assumption) | assumption)
      have q214 : x3_1 < (l0.length : Int) := of_decide_eq_true (by first | (with_reducible assumption) | assumption)
      obtain ⟨ad214, A214_1, c214_1, A214_2, c214_2, A214_3, c214_3, e214, hx214_0, hx214_1, hx214_2, hx214_3, hl214_1, hi214_1, hl214_2, hi214_2, hl214_3, hi214_3⟩ := at_T36 HR0.out x3_1 p214 q214
      (try rw [← Nbq4.out] at hx214_0)
      cases e214
      have HR214_1 := Aside0.mk hi214_1
      have HC214_1 := Aside0.mk hl214_1
      clear hi214_1 hl214_1
      have HR214_2 := Aside0.mk hi214_2
      have HC214_2 := Aside0.mk hl214_2
      clear hi214_2 hl214_2
      have HR214_3 := Aside0.mk hi214_3
      have HC214_3 := Aside0.mk hl214_3
      clear hi214_3 hl214_3
      replace p214 := eq_true p214
      replace q214 := eq_true q214
      go_wp2
      go_roundg k1
      case measure => have := HK1.out; omega
      case rel => exact ⟨(wrap64 (x3_1 + 1)), (by first | rfl | (simp; done) | (simp [*]; done)), H', ⟨by have := HK1.out; omega⟩, by repeat (first | exact Drawn0.refl _ | apply Drawn0.step)⟩
    ·rw [if_neg c3] at H
     exact absurd H (by simp)
   ·rw [if_neg c2] at H
    have c2b0 : decide (x3_1 < (l0.length : Int)) = false := decide_eq_false c2
    clear c2
    obtain rfl := Option.some.inj H
    go_wp2
    go_ret
    exact ⟨by first | rfl | (simp; done) | (simp [*]; done), by repeat (first | exact Drawn0.refl _ | apply Drawn0.step)⟩
end Go.Proofs.YtcnjbmdnnhbfkaaGreatDoor.XD
