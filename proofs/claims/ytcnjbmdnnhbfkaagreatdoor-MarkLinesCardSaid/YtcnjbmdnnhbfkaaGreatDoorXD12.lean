-- Printed by this session's xprint.sh (a patched copy of the kit's print program). Not trusted: Lean checks it.
import Derived.Test.YtcnjbmdnnhbfkaaGreatDoorXD0
import Derived.Test.YtcnjbmdnnhbfkaaGreatDoorXD1
import Derived.Test.YtcnjbmdnnhbfkaaGreatDoorXD3
import Derived.Test.YtcnjbmdnnhbfkaaGreatDoorXD4
import Derived.Test.YtcnjbmdnnhbfkaaGreatDoorXD5
import Derived.Test.YtcnjbmdnnhbfkaaGreatDoorMk2
import Derived.Test.YtcnjbmdnnhbfkaaGreatDoorRef2
namespace Go.Proofs.YtcnjbmdnnhbfkaaGreatDoor.XD
open Go.RowKit Go.Proofs.YtcnjbmdnnhbfkaaGreatDoor.Mark Go.Proofs.YtcnjbmdnnhbfkaaGreatDoor.Ref Go.Proofs.YtcnjbmdnnhbfkaaGreatDoorW.PrintWords Go.Proofs.YtcnjbmdnnhbfkaaGreatDoorW.PrintLast Go.Proofs.YtcnjbmdnnhbfkaaGreatDoorW.PrintMore
attribute [local go_sem] max2_int min2_int max_two min_two max_three min_three max_four min_four   -- for this text's walks alone
set_option linter.unusedVariables false
set_option linter.unusedSimpArgs false

/-! ### sennitlaw12_MarkLines: function 4 -/
mutual
def sennitlaw12_MarkLines.j0 : Nat → Int → Int → Bool → List ByteArray → Int → Int → Int → List (S36) → Option (Bool)
 | 0, _, _, _, _, _, _, _, _ => none
 | k + 1, x1, x2, x7, x8, x9, x10, x11, x12 => sennitlaw12_MarkLines.l0 k x1 x2 x7 x8 x9 x10 x11 x12 0
def sennitlaw12_MarkLines.l0 : Nat → Int → Int → Bool → List ByteArray → Int → Int → Int → List (S36) → Int → Option (Bool)
 | 0, _, _, _, _, _, _, _, _, _ => none
 | k + 1, x1, x2, x7, x8, x9, x10, x11, x12, x13 => if x13 < (x12.length : Int) then (if 0 ≤ x13 then (if (rd_T36 x12 x13).f0 = true then (if x1 = 1 then (sennitlaw12_MarkLines.j2 k x1 x2 x7 x8 x9 (wrap64 (x10 + (((rd_T36 x12 x13).f1).length : Int))) (wrap64 ((wrap64 (x11 + (((rd_T36 x12 x13).f3).length : Int))) + 1)) x12 x13) else (sennitlaw12_MarkLines.j2 k x1 x2 x7 x8 x9 (wrap64 ((wrap64 (x10 + (((rd_T36 x12 x13).f1).length : Int))) + (((rd_T36 x12 x13).f2).length : Int))) (wrap64 ((wrap64 ((wrap64 (x11 + (((rd_T36 x12 x13).f3).length : Int))) + 1)) + 1)) x12 x13)) else (sennitlaw12_MarkLines.j2 k x1 x2 x7 x8 x9 (wrap64 (x10 + (((rd_T36 x12 x13).f1).length : Int))) x11 x12 x13)) else (none)) else (sennitlaw12_MarkLines.l2 k x2 x7 x8 x9 x10 x11 0 0)
def sennitlaw12_MarkLines.j2 : Nat → Int → Int → Bool → List ByteArray → Int → Int → Int → List (S36) → Int → Option (Bool)
 | 0, _, _, _, _, _, _, _, _, _ => none
 | k + 1, x1, x2, x7, x8, x9, x10, x11, x12, x13 => sennitlaw12_MarkLines.l1 k x1 x2 x7 x8 x9 x10 x11 x12 x13 0
def sennitlaw12_MarkLines.l1 : Nat → Int → Int → Bool → List ByteArray → Int → Int → Int → List (S36) → Int → Int → Option (Bool)
 | 0, _, _, _, _, _, _, _, _, _, _ => none
 | k + 1, x1, x2, x7, x8, x9, x10, x11, x12, x13, x14 => if 0 ≤ x13 then (if x13 < (x12.length : Int) then (if x14 < (((rd_T36 x12 x13).f3).length : Int) then (if 0 ≤ x14 then (sennitlaw12_MarkLines.l1 k x1 x2 x7 x8 x9 (wrap64 (x10 + ((rd_L2 ((rd_T36 x12 x13).f3) x14).length : Int))) x11 x12 x13 (wrap64 (x14 + 1))) else (none)) else (sennitlaw12_MarkLines.l0 k x1 x2 x7 x8 x9 x10 x11 x12 (wrap64 (x13 + 1)))) else (none)) else (none)
def sennitlaw12_MarkLines.l2 : Nat → Int → Bool → List ByteArray → Int → Int → Int → Int → Int → Option (Bool)
 | 0, _, _, _, _, _, _, _, _ => none
 | k + 1, x2, x7, x8, x9, x10, x11, x15, x16 => if x16 < (x8.length : Int) then (if 0 ≤ x16 then ((sennitref11_Run.f k (rdOf ByteArray.empty x8 x16)).bind fun t291 => (if t291 ≥ x2 then (sennitlaw12_MarkLines.l2 k x2 x7 x8 x9 x10 x11 (wrap64 (x15 + 1)) (wrap64 (x16 + 1))) else (sennitlaw12_MarkLines.l2 k x2 x7 x8 x9 x10 x11 x15 (wrap64 (x16 + 1))))) else (none)) else (if x7 = true then (if x9 = 0 then ((sennitref01_May.f k x8).bind fun t292 => (if t292 = true then (if x15 = x11 then (some ((x8.length : Int) == (wrap64 (x10 + x11)))) else (some false)) else (some false))) else (some false)) else (some false))
end
def sennitlaw12_MarkLines.f (k : Nat) (l0 : List (S36)) (a1 : Int) (a2 : Int) : Option (Bool) := (sennitlaw12_awake.f).bind fun t274 => ((sennitref12_May.f k l0 a1 a2).bind fun t275 => (if t275 = true then ((mark_Print.f l0 a1 a2).bind fun bt276 => (if a1 = 3 then ((sennitref10_Zeal.f l0).bind fun t280 => (sennitlaw12_MarkLines.j0 k a1 a2 t274 bt276.1 bt276.2 0 0 t280)) else (sennitlaw12_MarkLines.j0 k a1 a2 t274 bt276.1 bt276.2 0 0 l0))) else (some t274)))
theorem sennitlaw12_MarkLines.mono_l : ∀ k, (∀ y0 y1 y2 y3 y4 y5 y6 y7, LeO (sennitlaw12_MarkLines.j0 k y0 y1 y2 y3 y4 y5 y6 y7) (sennitlaw12_MarkLines.j0 (k + 1) y0 y1 y2 y3 y4 y5 y6 y7)) ∧ (∀ y0 y1 y2 y3 y4 y5 y6 y7 y8, LeO (sennitlaw12_MarkLines.l0 k y0 y1 y2 y3 y4 y5 y6 y7 y8) (sennitlaw12_MarkLines.l0 (k + 1) y0 y1 y2 y3 y4 y5 y6 y7 y8)) ∧ (∀ y0 y1 y2 y3 y4 y5 y6 y7 y8, LeO (sennitlaw12_MarkLines.j2 k y0 y1 y2 y3 y4 y5 y6 y7 y8) (sennitlaw12_MarkLines.j2 (k + 1) y0 y1 y2 y3 y4 y5 y6 y7 y8)) ∧ (∀ y0 y1 y2 y3 y4 y5 y6 y7 y8 y9, LeO (sennitlaw12_MarkLines.l1 k y0 y1 y2 y3 y4 y5 y6 y7 y8 y9) (sennitlaw12_MarkLines.l1 (k + 1) y0 y1 y2 y3 y4 y5 y6 y7 y8 y9)) ∧ (∀ y0 y1 y2 y3 y4 y5 y6 y7, LeO (sennitlaw12_MarkLines.l2 k y0 y1 y2 y3 y4 y5 y6 y7) (sennitlaw12_MarkLines.l2 (k + 1) y0 y1 y2 y3 y4 y5 y6 y7))
 | 0 => ⟨fun _ _ _ _ _ _ _ _ r h => by simp [sennitlaw12_MarkLines.j0] at h, fun _ _ _ _ _ _ _ _ _ r h => by simp [sennitlaw12_MarkLines.l0] at h, fun _ _ _ _ _ _ _ _ _ r h => by simp [sennitlaw12_MarkLines.j2] at h, fun _ _ _ _ _ _ _ _ _ _ r h => by simp [sennitlaw12_MarkLines.l1] at h, fun _ _ _ _ _ _ _ _ r h => by simp [sennitlaw12_MarkLines.l2] at h⟩
 | k + 1 => by
  obtain ⟨ih0, ih1, ih2, ih3, ih4⟩ := sennitlaw12_MarkLines.mono_l k
  refine ⟨?_, ?_, ?_, ?_, ?_⟩
  ·intro y0 y1 y2 y3 y4 y5 y6 y7
   unfold sennitlaw12_MarkLines.j0
   repeat' first
   | (with_reducible exact ih0 _ _ _ _ _ _ _ _)
   | (with_reducible exact ih1 _ _ _ _ _ _ _ _ _)
   | (with_reducible exact ih2 _ _ _ _ _ _ _ _ _)
   | (with_reducible exact ih3 _ _ _ _ _ _ _ _ _ _)
   | (with_reducible exact ih4 _ _ _ _ _ _ _ _)
   | (with_reducible exact sennitref01_May.mono _ _)
   | (with_reducible exact sennitref11_Run.mono _ _)
   | (with_reducible exact sennitref12_May.mono _ _ _ _)
   | (with_reducible exact LeO.refl _)
   | (with_reducible exact LeO.none _)
   | (with_reducible refine LeO.ite ?_ ?_)
   | (with_reducible refine LeO.bind ?_ (fun _ => ?_))
   | exact ih0 _ _ _ _ _ _ _ _
   | exact ih1 _ _ _ _ _ _ _ _ _
   | exact ih2 _ _ _ _ _ _ _ _ _
   | exact ih3 _ _ _ _ _ _ _ _ _ _
   | exact ih4 _ _ _ _ _ _ _ _
   | exact sennitref01_May.mono _ _
   | exact sennitref11_Run.mono _ _
   | exact sennitref12_May.mono _ _ _ _
   | exact LeO.none _
   | refine LeO.ite ?_ ?_
   | refine LeO.bind ?_ (fun _ => ?_)
  ·intro y0 y1 y2 y3 y4 y5 y6 y7 y8
   unfold sennitlaw12_MarkLines.l0
   repeat' first
   | (with_reducible exact ih0 _ _ _ _ _ _ _ _)
   | (with_reducible exact ih1 _ _ _ _ _ _ _ _ _)
   | (with_reducible exact ih2 _ _ _ _ _ _ _ _ _)
   | (with_reducible exact ih3 _ _ _ _ _ _ _ _ _ _)
   | (with_reducible exact ih4 _ _ _ _ _ _ _ _)
   | (with_reducible exact sennitref01_May.mono _ _)
   | (with_reducible exact sennitref11_Run.mono _ _)
   | (with_reducible exact sennitref12_May.mono _ _ _ _)
   | (with_reducible exact LeO.refl _)
   | (with_reducible exact LeO.none _)
   | (with_reducible refine LeO.ite ?_ ?_)
   | (with_reducible refine LeO.bind ?_ (fun _ => ?_))
   | exact ih0 _ _ _ _ _ _ _ _
   | exact ih1 _ _ _ _ _ _ _ _ _
   | exact ih2 _ _ _ _ _ _ _ _ _
   | exact ih3 _ _ _ _ _ _ _ _ _ _
   | exact ih4 _ _ _ _ _ _ _ _
   | exact sennitref01_May.mono _ _
   | exact sennitref11_Run.mono _ _
   | exact sennitref12_May.mono _ _ _ _
   | exact LeO.none _
   | refine LeO.ite ?_ ?_
   | refine LeO.bind ?_ (fun _ => ?_)
  ·intro y0 y1 y2 y3 y4 y5 y6 y7 y8
   unfold sennitlaw12_MarkLines.j2
   repeat' first
   | (with_reducible exact ih0 _ _ _ _ _ _ _ _)
   | (with_reducible exact ih1 _ _ _ _ _ _ _ _ _)
   | (with_reducible exact ih2 _ _ _ _ _ _ _ _ _)
   | (with_reducible exact ih3 _ _ _ _ _ _ _ _ _ _)
   | (with_reducible exact ih4 _ _ _ _ _ _ _ _)
   | (with_reducible exact sennitref01_May.mono _ _)
   | (with_reducible exact sennitref11_Run.mono _ _)
   | (with_reducible exact sennitref12_May.mono _ _ _ _)
   | (with_reducible exact LeO.refl _)
   | (with_reducible exact LeO.none _)
   | (with_reducible refine LeO.ite ?_ ?_)
   | (with_reducible refine LeO.bind ?_ (fun _ => ?_))
   | exact ih0 _ _ _ _ _ _ _ _
   | exact ih1 _ _ _ _ _ _ _ _ _
   | exact ih2 _ _ _ _ _ _ _ _ _
   | exact ih3 _ _ _ _ _ _ _ _ _ _
   | exact ih4 _ _ _ _ _ _ _ _
   | exact sennitref01_May.mono _ _
   | exact sennitref11_Run.mono _ _
   | exact sennitref12_May.mono _ _ _ _
   | exact LeO.none _
   | refine LeO.ite ?_ ?_
   | refine LeO.bind ?_ (fun _ => ?_)
  ·intro y0 y1 y2 y3 y4 y5 y6 y7 y8 y9
   unfold sennitlaw12_MarkLines.l1
   repeat' first
   | (with_reducible exact ih0 _ _ _ _ _ _ _ _)
   | (with_reducible exact ih1 _ _ _ _ _ _ _ _ _)
   | (with_reducible exact ih2 _ _ _ _ _ _ _ _ _)
   | (with_reducible exact ih3 _ _ _ _ _ _ _ _ _ _)
   | (with_reducible exact ih4 _ _ _ _ _ _ _ _)
   | (with_reducible exact sennitref01_May.mono _ _)
   | (with_reducible exact sennitref11_Run.mono _ _)
   | (with_reducible exact sennitref12_May.mono _ _ _ _)
   | (with_reducible exact LeO.refl _)
   | (with_reducible exact LeO.none _)
   | (with_reducible refine LeO.ite ?_ ?_)
   | (with_reducible refine LeO.bind ?_ (fun _ => ?_))
   | exact ih0 _ _ _ _ _ _ _ _
   | exact ih1 _ _ _ _ _ _ _ _ _
   | exact ih2 _ _ _ _ _ _ _ _ _
   | exact ih3 _ _ _ _ _ _ _ _ _ _
   | exact ih4 _ _ _ _ _ _ _ _
   | exact sennitref01_May.mono _ _
   | exact sennitref11_Run.mono _ _
   | exact sennitref12_May.mono _ _ _ _
   | exact LeO.none _
   | refine LeO.ite ?_ ?_
   | refine LeO.bind ?_ (fun _ => ?_)
  ·intro y0 y1 y2 y3 y4 y5 y6 y7
   unfold sennitlaw12_MarkLines.l2
   repeat' first
   | (with_reducible exact ih0 _ _ _ _ _ _ _ _)
   | (with_reducible exact ih1 _ _ _ _ _ _ _ _ _)
   | (with_reducible exact ih2 _ _ _ _ _ _ _ _ _)
   | (with_reducible exact ih3 _ _ _ _ _ _ _ _ _ _)
   | (with_reducible exact ih4 _ _ _ _ _ _ _ _)
   | (with_reducible exact sennitref01_May.mono _ _)
   | (with_reducible exact sennitref11_Run.mono _ _)
   | (with_reducible exact sennitref12_May.mono _ _ _ _)
   | (with_reducible exact LeO.refl _)
   | (with_reducible exact LeO.none _)
   | (with_reducible refine LeO.ite ?_ ?_)
   | (with_reducible refine LeO.bind ?_ (fun _ => ?_))
   | exact ih0 _ _ _ _ _ _ _ _
   | exact ih1 _ _ _ _ _ _ _ _ _
   | exact ih2 _ _ _ _ _ _ _ _ _
   | exact ih3 _ _ _ _ _ _ _ _ _ _
   | exact ih4 _ _ _ _ _ _ _ _
   | exact sennitref01_May.mono _ _
   | exact sennitref11_Run.mono _ _
   | exact sennitref12_May.mono _ _ _ _
   | exact LeO.none _
   | refine LeO.ite ?_ ?_
   | refine LeO.bind ?_ (fun _ => ?_)
theorem sennitlaw12_MarkLines.mono : ∀ a0 a1 a2 k, LeO (sennitlaw12_MarkLines.f k a0 a1 a2) (sennitlaw12_MarkLines.f (k + 1) a0 a1 a2) := by
 intro a0 a1 a2 k
 obtain ⟨ih0, ih1, ih2, ih3, ih4⟩ := sennitlaw12_MarkLines.mono_l k
 unfold sennitlaw12_MarkLines.f
 repeat' first
   | (with_reducible exact ih0 _ _ _ _ _ _ _ _)
   | (with_reducible exact ih1 _ _ _ _ _ _ _ _ _)
   | (with_reducible exact ih2 _ _ _ _ _ _ _ _ _)
   | (with_reducible exact ih3 _ _ _ _ _ _ _ _ _ _)
   | (with_reducible exact ih4 _ _ _ _ _ _ _ _)
   | (with_reducible exact sennitref01_May.mono _ _)
   | (with_reducible exact sennitref11_Run.mono _ _)
   | (with_reducible exact sennitref12_May.mono _ _ _ _)
   | (with_reducible exact LeO.refl _)
   | (with_reducible exact LeO.none _)
   | (with_reducible refine LeO.ite ?_ ?_)
   | (with_reducible refine LeO.bind ?_ (fun _ => ?_))
   | exact ih0 _ _ _ _ _ _ _ _
   | exact ih1 _ _ _ _ _ _ _ _ _
   | exact ih2 _ _ _ _ _ _ _ _ _
   | exact ih3 _ _ _ _ _ _ _ _ _ _
   | exact ih4 _ _ _ _ _ _ _ _
   | exact sennitref01_May.mono _ _
   | exact sennitref11_Run.mono _ _
   | exact sennitref12_May.mono _ _ _ _
   | exact LeO.none _
   | refine LeO.ite ?_ ?_
   | refine LeO.bind ?_ (fun _ => ?_)
set_option maxHeartbeats 8000000 in
set_option maxRecDepth 100000 in
theorem sennitlaw12_MarkLines.calls (k : Nat) (P0_ : Nat → Prop) (A0 : Option Addr) (c0 : Nat) (l0 : List (S36)) (a1 : Int) (a2 : Int) (r : Bool) (w : World) (hs0 : Kd.V k36 36 w w.heap.size (fun k_ => P0_ k_) (.slice A0 l0.length c0) l0) (h : sennitlaw12_MarkLines.f k l0 a1 a2 = some r) :
  Calls Tryz.prog 4 #[.slice A0 l0.length c0, .int .i64 a1, .int .i64 a2] w fun e w' => e = .returned (.bool r) ∧ Below w.heap.size w w' := by
 have HO0 := Aside0.mk (show Kd.V k36 36 w w.heap.size (fun k_ => (P0_ k_ ∨ w.heap.size ≤ k_)) (.slice A0 l0.length c0) l0 from Kd.V_mono hs0 (fun k_ hk => .inl hk))
 have HB := Aside0.mk (Below.refl w.heap.size w)
 have H : ((sennitlaw12_awake.f).bind fun t274 => ((sennitref12_May.f k l0 a1 a2).bind fun t275 => (if t275 = true then ((mark_Print.f l0 a1 a2).bind fun bt276 => (if a1 = 3 then ((sennitref10_Zeal.f l0).bind fun t280 => (sennitlaw12_MarkLines.j0 k a1 a2 t274 bt276.1 bt276.2 0 0 t280)) else (sennitlaw12_MarkLines.j0 k a1 a2 t274 bt276.1 bt276.2 0 0 l0))) else (some t274)))) = some r := h
 clear h
 replace H := Option.bind_eq_some_iff.mp H
 obtain ⟨t274, A40, H⟩ := H
 replace H : ((sennitref12_May.f k l0 a1 a2).bind fun t275 => (if t275 = true then ((mark_Print.f l0 a1 a2).bind fun bt276 => (if a1 = 3 then ((sennitref10_Zeal.f l0).bind fun t280 => (sennitlaw12_MarkLines.j0 k a1 a2 t274 bt276.1 bt276.2 0 0 t280)) else (sennitlaw12_MarkLines.j0 k a1 a2 t274 bt276.1 bt276.2 0 0 l0))) else (some t274))) = some r := H
 have A4 := Aside0.mk A40
 clear A40
 replace H := Option.bind_eq_some_iff.mp H
 obtain ⟨t275, A50, H⟩ := H
 replace H : (if t275 = true then ((mark_Print.f l0 a1 a2).bind fun bt276 => (if a1 = 3 then ((sennitref10_Zeal.f l0).bind fun t280 => (sennitlaw12_MarkLines.j0 k a1 a2 t274 bt276.1 bt276.2 0 0 t280)) else (sennitlaw12_MarkLines.j0 k a1 a2 t274 bt276.1 bt276.2 0 0 l0))) else (some t274)) = some r := H
 have A5 := Aside0.mk A50
 clear A50
 by_cases c6 : t275 = true
 ·subst c6
  have H1 : ((mark_Print.f l0 a1 a2).bind fun bt276 => (if a1 = 3 then ((sennitref10_Zeal.f l0).bind fun t280 => (sennitlaw12_MarkLines.j0 k a1 a2 t274 bt276.1 bt276.2 0 0 t280)) else (sennitlaw12_MarkLines.j0 k a1 a2 t274 bt276.1 bt276.2 0 0 l0))) = some r := by rw [if_pos rfl] at H; exact H
  clear H
  have H := H1
  clear H1
  replace H := Option.bind_eq_some_iff.mp H
  obtain ⟨⟨t276, t279⟩, A70, H⟩ := H
  replace H : (if a1 = 3 then ((sennitref10_Zeal.f l0).bind fun t280 => (sennitlaw12_MarkLines.j0 k a1 a2 t274 t276 t279 0 0 t280)) else (sennitlaw12_MarkLines.j0 k a1 a2 t274 t276 t279 0 0 l0)) = some r := H
  have A7 := Aside0.mk A70
  clear A70
  have HC8 := Aside0.mk H
  clear H
  go_enter Tryz.func4, Tryz.ntmps4
  go_upto_if 33 with (first | ((with_reducible refine gate_callee (f := 10) rfl ?_); refine goesL_ (some 17) rfl rfl Tryz.func10 (by kernel_rfl) rfl #[] rfl (by (try simp only [List.map_toArray, List.map_cons, List.map_nil]); first | done | rfl | (simp only [List.length_drop, List.length_take]; rfl)) ?_; (with_reducible refine (sennitlaw12_awake.calls  t274 _ A4.out).mono ?_); rintro e w9 ⟨rfl, hb⟩; refine ⟨_, rfl, ?_⟩; have n0_ := Aside0.mk (Kd.V_below (by (with_reducible repeat (first | apply Kd.V_alloc | apply Kd.V_drewN | apply Kd.V_drew)); exact HO0.out) hb); have n1_ := Aside0.mk (below_step (by repeat (first | (with_reducible first | exact HB.out | apply below_alloc | apply pw_below_drewN | apply below_drew1) | exact HB.out)) hb); clear HO0; clear HB; have HO0 := n0_; have HB := n1_; clear n0_ n1_; (try clear hb); (try clear hb2); (try clear hk); (try clear hi)) | ((with_reducible refine gate_callee (f := 15) rfl ?_); refine goesL_ (some 21) rfl rfl Tryz.func15 (by kernel_rfl) rfl #[.slice A0 l0.length c0, .int .i64 a1, .int .i64 a2] rfl (by (try simp only [List.map_toArray, List.map_cons, List.map_nil]); first | done | rfl | (simp only [List.length_drop, List.length_take]; rfl)) ?_; (with_reducible refine (sennitref12_May.calls k _ _ l0 a1 a2 true _ ?side1 ?side2 A5.out).mono ?_); (case side1 => repeat (first | exact (Kd.V_reads' HO0.out).2.2 | (with_reducible refine Kd.C_alloc ?_ _) | (with_reducible refine Kd.C_drewN ?_ _) | (with_reducible refine Kd.C_drew ?_))); (case side2 => exact (Kd.V_reads' HO0.out).2.1); rintro e w10 ⟨rfl, hb⟩; refine ⟨_, rfl, ?_⟩; have n0_ := Aside0.mk (Kd.V_below (by (with_reducible repeat (first | apply Kd.V_alloc | apply Kd.V_drewN | apply Kd.V_drew)); exact HO0.out) hb); have n1_ := Aside0.mk (below_step (by repeat (first | (with_reducible first | exact HB.out | apply below_alloc | apply pw_below_drewN | apply below_drew1) | exact HB.out)) hb); clear HO0; clear HB; have HO0 := n0_; have HB := n1_; clear n0_ n1_; (try clear hb); (try clear hb2); (try clear hk); (try clear hi)) | ((with_reducible refine gate_callee (f := 12) rfl ?_); refine goesL_ (some 28) rfl rfl Tryz.func12 (by kernel_rfl) rfl #[.slice A0 l0.length c0, .int .i64 a1, .int .i64 a2] rfl (by (try simp only [List.map_toArray, List.map_cons, List.map_nil]); first | done | rfl | (simp only [List.length_drop, List.length_take]; rfl)) ?_; (with_reducible refine (mark_Print.calls _ _ l0 a1 a2 t276 t279 _ ?side1 ?side2 A7.out).mono ?_); (case side1 => repeat (first | exact (Kd.V_reads' HO0.out).2.2 | (with_reducible refine Kd.C_alloc ?_ _) | (with_reducible refine Kd.C_drewN ?_ _) | (with_reducible refine Kd.C_drew ?_))); (case side2 => exact (Kd.V_reads' HO0.out).2.1); rintro e w11 ⟨v277, rfl, ho0, hb⟩; refine ⟨_, rfl, ?_⟩; have n0_ := Aside0.mk (Kd.V_below (by (with_reducible repeat (first | apply Kd.V_alloc | apply Kd.V_drewN | apply Kd.V_drew)); exact HO0.out) hb); have n1_ := Aside0.mk (Kd.V_lower (Kd.V_mono (ok' := fun k_ => (P0_ k_ ∨ w.heap.size ≤ k_)) ho0 (fun k_ hk_ => (.inr (Nat.le_trans (below_size (by repeat (first | (with_reducible first | exact HB.out | apply below_alloc | apply pw_below_drewN | apply below_drew1) | exact HB.out))) hk_)))) (below_size (by repeat (first | (with_reducible first | exact HB.out | apply below_alloc | apply pw_below_drewN | apply below_drew1) | exact HB.out)))); have n2_ := Aside0.mk (below_step (by repeat (first | (with_reducible first | exact HB.out | apply below_alloc | apply pw_below_drewN | apply below_drew1) | exact HB.out)) hb); clear HO0; clear HB; have HO0 := n0_; have HO278 := n1_; have HB := n2_; clear n0_ n1_ n2_; (try clear hb); (try clear hb2); (try clear hk); (try clear hi); (try clear ho0)))
  (try simp only [Act.put, List.setIfInBounds_toArray, List.set_cons_zero, List.set_cons_succ])
  go_cut [12] (fun v12 wc => ∃ (kq : Nat) (x12_7 : List (S36)), Aside0 (sennitlaw12_MarkLines.j0 kq a1 a2 t274 t276 t279 0 0 x12_7 = some r) ∧ Aside0 (kq ≤ k) ∧ Aside0 (Kd.V Kd.string 9 wc w.heap.size (fun k_ => (P0_ k_ ∨ w.heap.size ≤ k_)) v277 t276) ∧ Aside0 (Kd.V k36 36 wc w.heap.size (fun k_ => (P0_ k_ ∨ w.heap.size ≤ k_)) v12 x12_7) ∧ Aside0 (Below w.heap.size w wc))
  case first =>
   have H := HC8.out
   clear HC8
   by_cases c12 : a1 = 3
   ·rw [if_pos c12] at H
    have c12b0 : (a1 == 3) = true := beq_iff_eq.mpr c12
    have c12b1 : (a1 != 3) = false := bne_eq_false_iff_eq.mpr c12
    clear c12
    (first | rw [c12b0] | (simp only [i64_w, i32_w]; rw [c12b0]) | skip)
    replace H := Option.bind_eq_some_iff.mp H
    obtain ⟨t280, A130, H⟩ := H
    replace H : (sennitlaw12_MarkLines.j0 k a1 a2 t274 t276 t279 0 0 t280) = some r := H
    have A13 := Aside0.mk A130
    clear A130
    have H' := Aside0.mk H
    clear H
    go_wp2_with (first | ((with_reducible refine gate_callee (f := 16) rfl ?_); refine goesL_ (some 35) rfl rfl Tryz.func16 (by kernel_rfl) rfl #[.slice A0 l0.length c0] rfl (by (try simp only [List.map_toArray, List.map_cons, List.map_nil]); first | done | rfl | (simp only [List.length_drop, List.length_take]; rfl)) ?_; (with_reducible refine (sennitref10_Zeal.calls (fun k_ => (P0_ k_ ∨ w.heap.size ≤ k_)) _ _ l0 t280 _ ?side1 A13.out).mono ?_); (case side1 => exact HO0.out); rintro e w14 ⟨v281, rfl, ho0, hb⟩; refine ⟨_, rfl, ?_⟩; have n0_ := Aside0.mk (Kd.V_elder' (by (with_reducible repeat (first | apply Kd.V_alloc | apply Kd.V_drewN | apply Kd.V_drew)); exact HO0.out) (Kd.N_base ho0) hb); have n1_ := Aside0.mk (Kd.V_elder' (by (with_reducible repeat (first | apply Kd.V_alloc | apply Kd.V_drewN | apply Kd.V_drew)); exact HO278.out) (Kd.N_base ho0) hb); have n2_ := Aside0.mk (Kd.N_lower (Kd.N_mono (ok' := fun k_ => (P0_ k_ ∨ w.heap.size ≤ k_)) ho0 (fun k_ hk_ => Or.elim hk_ (fun hs_ => hs_) (fun hn_ => (.inr (Nat.le_trans (below_size (by repeat (first | (with_reducible first | exact HB.out | apply below_alloc | apply pw_below_drewN | apply below_drew1) | exact HB.out))) hn_))))) (below_size (by repeat (first | (with_reducible first | exact HB.out | apply below_alloc | apply pw_below_drewN | apply below_drew1) | exact HB.out)))); have n3_ := Aside0.mk (below_step (by repeat (first | (with_reducible first | exact HB.out | apply below_alloc | apply pw_below_drewN | apply below_drew1) | exact HB.out)) hb); clear HO0; clear HO278; clear HB; have HO0 := n0_; have HO278 := n1_; have HO282 := n2_; have HB := n3_; clear n0_ n1_ n2_ n3_; (try clear hb); (try clear hb2); (try clear hk); (try clear hi); (try clear ho0)))
    go_meet
    case rel => exact ⟨_, (t280), H', ⟨by first | omega | exact Nat.le_refl _⟩, ⟨by (with_reducible repeat (first | apply Kd.V_alloc | apply Kd.V_drewN | apply Kd.V_drew)); exact Kd.V_mono HO278.out (fun _ hk => hk.1)⟩, ⟨Kd.N_V (by (with_reducible repeat (first | apply Kd.N_alloc | apply Kd.N_drewN | apply Kd.N_drew)); exact HO282.out)⟩, ⟨by repeat (first | (with_reducible first | exact HB.out | apply below_alloc | apply pw_below_drewN | apply below_drew1) | exact HB.out)⟩⟩
   ·rw [if_neg c12] at H
    have c12b0 : (a1 == 3) = false := beq_eq_false_iff_ne.mpr c12
    have c12b1 : (a1 != 3) = true := bne_iff_ne.mpr c12
    (first | rw [c12b0] | (simp only [i64_w, i32_w]; rw [c12b0]) | skip)
    have H' := Aside0.mk H
    clear H
    go_wp2
    go_meet
    case rel => exact ⟨_, (l0), H', ⟨by first | omega | exact Nat.le_refl _⟩, ⟨by (with_reducible repeat (first | apply Kd.V_alloc | apply Kd.V_drewN | apply Kd.V_drew)); exact HO278.out⟩, ⟨by (with_reducible repeat (first | apply Kd.V_alloc | apply Kd.V_drewN | apply Kd.V_drew)); exact HO0.out⟩, ⟨by repeat (first | (with_reducible first | exact HB.out | apply below_alloc | apply pw_below_drewN | apply below_drew1) | exact HB.out)⟩⟩
  case rest =>
   clear HC8
   try clear c1
   try clear p2
   try clear c4
   try clear c6
   try clear c10
   try clear c12
   try clear c12b0
   try clear c12b1
   obtain ⟨kq, x12_7, HA, HJ7, HO_8, HO_12, HB⟩ := hcut
   cases kq with
   | zero => exact absurd HA.out (by simp [sennitlaw12_MarkLines.j0])
   | succ kj7 =>
    have H := HA.out
    clear HA
    simp only [sennitlaw12_MarkLines.j0] at H
    have H' := Aside0.mk H
    clear H
    go_wp2
    go_loopg [10, 11, 13] kj7 (fun kq v10 v11 v13 w' => ∃ (x10_2 : Int) (x11_2 : Int) (x13_2 : Int), v10 = .int .i64 x10_2 ∧ v11 = .int .i64 x11_2 ∧ v13 = .int .i64 x13_2 ∧ Aside0 (sennitlaw12_MarkLines.l0 kq a1 a2 t274 t276 t279 x10_2 x11_2 x12_7 x13_2 = some r) ∧ Aside0 (kq ≤ kj7) ∧ Aside0 (Kd.V Kd.string 9 w' w.heap.size (fun k_ => (P0_ k_ ∨ w.heap.size ≤ k_)) v277 t276) ∧ Aside0 (Kd.V k36 36 w' w.heap.size (fun k_ => (P0_ k_ ∨ w.heap.size ≤ k_)) u12 x12_7) ∧ Aside0 (Below w.heap.size w w'))
    case atStart => exact ⟨(0), (0), (0), (by first | rfl | (simp; done) | (simp [*]; done)), (by first | rfl | (simp; done) | (simp [*]; done)), (by first | rfl | (simp; done) | (simp [*]; done)), H', ⟨Nat.le_refl _⟩, ⟨by (with_reducible repeat (first | apply Kd.V_alloc | apply Kd.V_drewN | apply Kd.V_drew)); exact HO_8.out⟩, ⟨by (with_reducible repeat (first | apply Kd.V_alloc | apply Kd.V_drewN | apply Kd.V_drew)); exact HO_12.out⟩, ⟨by repeat (first | (with_reducible first | exact HB.out | apply below_alloc | apply pw_below_drewN | apply below_drew1) | exact HB.out)⟩⟩
    case round =>
     clear H'
     try clear c1
     try clear p2
     try clear c4
     try clear c6
     try clear c10
     try clear c12
     try clear c12b0
     try clear c12b1
     try clear p2
     obtain ⟨x10_2, x11_2, x13_2, rfl, rfl, rfl, HA, HK2, HO_8, HO_12, HB⟩ := hrel
     cases gk with
     | zero => exact absurd HA.out (by simp [sennitlaw12_MarkLines.l0])
     | succ k2 =>
      have H := HA.out
      clear HA
      simp only [sennitlaw12_MarkLines.l0] at H
      by_cases c15 : x13_2 < (x12_7.length : Int)
      ·rw [if_pos c15] at H
       have c15b0 : decide (x13_2 < (x12_7.length : Int)) = true := decide_eq_true c15
       clear c15
       by_cases c16 : 0 ≤ x13_2
       ·rw [if_pos c16] at H
        have c16b0 : decide (0 ≤ x13_2) = true := decide_eq_true c16
        clear c16
        have HC17 := Aside0.mk H
        clear H
        obtain ⟨Ao18, co18, eo18⟩ := Kd.V_slice HO_12.out
        subst eo18
        have p283 : 0 ≤ (x13_2 : Int) := of_decide_eq_true (by first | (with_reducible assumption) | assumption)
        have q283 : x13_2 < (x12_7.length : Int) := of_decide_eq_true (by first | (with_reducible assumption) | assumption)
        obtain ⟨ad283, A283_1, c283_1, A283_2, c283_2, A283_3, c283_3, e283, hx283_0, hx283_1, hx283_2, hx283_3, hl283_1, hi283_1, hl283_2, hi283_2, hl283_3, hi283_3⟩ := at_T36 (Kd.V_reads' HO_12.out).2.2 x13_2 p283 q283
        cases e283
        obtain ⟨ce283, hce283, hMe283, hcc283⟩ := Kd.V_get HO_12.out z36 x13_2 p283 (by first | exact q283 | exact of_decide_eq_true (by first | (with_reducible assumption) | assumption) | (have e_ := (Kd.V_reads' HO_12.out).1; omega))
        obtain ⟨ua283_1, uc283_1, ua283_2, uc283_2, ua283_3, uc283_3, rfl, ul283_1, ge283_1, ul283_2, ge283_2, ul283_3, ge283_3⟩ := k36_openF hMe283
        have hv283_1 := hcc283 1 _ rfl
        rw [add_field _ _ 1 (by omega)] at hv283_1
        replace hv283_1 := Option.some.inj (hv283_1.symm.trans hx283_1)
        injection hv283_1 with hva_ hvn_ hvc_
        rw [hva_] at ge283_1
        rw [hvc_] at ul283_1
        have HL283_1 := Aside0.mk (show Kd.V Kd.string 9 _ w.heap.size _ _ ((rd_T36 x12_7 x13_2).f1) from Kd.V_mk ul283_1 ge283_1)
        clear hva_ hvn_ hvc_ ge283_1 ul283_1
        have hv283_2 := hcc283 2 _ rfl
        rw [add_field _ _ 2 (by omega)] at hv283_2
        replace hv283_2 := Option.some.inj (hv283_2.symm.trans hx283_2)
        injection hv283_2 with hva_ hvn_ hvc_
        rw [hva_] at ge283_2
        rw [hvc_] at ul283_2
        have HL283_2 := Aside0.mk (show Kd.V Kd.string 9 _ w.heap.size _ _ ((rd_T36 x12_7 x13_2).f2) from Kd.V_mk ul283_2 ge283_2)
        clear hva_ hvn_ hvc_ ge283_2 ul283_2
        have hv283_3 := hcc283 3 _ rfl
        rw [add_field _ _ 3 (by omega)] at hv283_3
        replace hv283_3 := Option.some.inj (hv283_3.symm.trans hx283_3)
        injection hv283_3 with hva_ hvn_ hvc_
        rw [hva_] at ge283_3
        rw [hvc_] at ul283_3
        have HL283_3 := Aside0.mk (show Kd.V (Kd.slice 9 Kd.string) 25 _ w.heap.size _ _ ((rd_T36 x12_7 x13_2).f3) from Kd.V_mk ul283_3 ge283_3)
        clear hva_ hvn_ hvc_ ge283_3 ul283_3
        clear hcc283 hce283
        have HR283_1 := Aside0.mk hi283_1
        have HC283_1 := Aside0.mk hl283_1
        clear hi283_1 hl283_1
        have HR283_2 := Aside0.mk hi283_2
        have HC283_2 := Aside0.mk hl283_2
        clear hi283_2 hl283_2
        have HR283_3 := Aside0.mk hi283_3
        have HC283_3 := Aside0.mk hl283_3
        clear hi283_3 hl283_3
        replace p283 := eq_true p283
        replace q283 := eq_true q283
        have p284 : 0 ≤ (x13_2 : Int) := of_decide_eq_true (by first | (with_reducible assumption) | assumption)
        have q284 : x13_2 < (x12_7.length : Int) := of_decide_eq_true (by first | (with_reducible assumption) | assumption)
        obtain ⟨ad284, A284_1, c284_1, A284_2, c284_2, A284_3, c284_3, e284, hx284_0, hx284_1, hx284_2, hx284_3, hl284_1, hi284_1, hl284_2, hi284_2, hl284_3, hi284_3⟩ := at_T36 (Kd.V_reads' HO_12.out).2.2 x13_2 p284 q284
        obtain rfl : ad283 = ad284 := (by injection e284)
        obtain ⟨ce284, hce284, hMe284, hcc284⟩ := Kd.V_get HO_12.out z36 x13_2 p284 (by first | exact q284 | exact of_decide_eq_true (by first | (with_reducible assumption) | assumption) | (have e_ := (Kd.V_reads' HO_12.out).1; omega))
        obtain ⟨ua284_1, uc284_1, ua284_2, uc284_2, ua284_3, uc284_3, rfl, ul284_1, ge284_1, ul284_2, ge284_2, ul284_3, ge284_3⟩ := k36_openF hMe284
        have hv284_1 := hcc284 1 _ rfl
        rw [add_field _ _ 1 (by omega)] at hv284_1
        replace hv284_1 := Option.some.inj (hv284_1.symm.trans hx284_1)
        injection hv284_1 with hva_ hvn_ hvc_
        rw [hva_] at ge284_1
        rw [hvc_] at ul284_1
        have HL284_1 := Aside0.mk (show Kd.V Kd.string 9 _ w.heap.size _ _ ((rd_T36 x12_7 x13_2).f1) from Kd.V_mk ul284_1 ge284_1)
        clear hva_ hvn_ hvc_ ge284_1 ul284_1
        have hv284_2 := hcc284 2 _ rfl
        rw [add_field _ _ 2 (by omega)] at hv284_2
        replace hv284_2 := Option.some.inj (hv284_2.symm.trans hx284_2)
        injection hv284_2 with hva_ hvn_ hvc_
        rw [hva_] at ge284_2
        rw [hvc_] at ul284_2
        have HL284_2 := Aside0.mk (show Kd.V Kd.string 9 _ w.heap.size _ _ ((rd_T36 x12_7 x13_2).f2) from Kd.V_mk ul284_2 ge284_2)
        clear hva_ hvn_ hvc_ ge284_2 ul284_2
        have hv284_3 := hcc284 3 _ rfl
        rw [add_field _ _ 3 (by omega)] at hv284_3
        replace hv284_3 := Option.some.inj (hv284_3.symm.trans hx284_3)
        injection hv284_3 with hva_ hvn_ hvc_
        rw [hva_] at ge284_3
        rw [hvc_] at ul284_3
        have HL284_3 := Aside0.mk (show Kd.V (Kd.slice 9 Kd.string) 25 _ w.heap.size _ _ ((rd_T36 x12_7 x13_2).f3) from Kd.V_mk ul284_3 ge284_3)
        clear hva_ hvn_ hvc_ ge284_3 ul284_3
        clear hcc284 hce284
        have HR284_1 := Aside0.mk hi284_1
        have HC284_1 := Aside0.mk hl284_1
        clear hi284_1 hl284_1
        have HR284_2 := Aside0.mk hi284_2
        have HC284_2 := Aside0.mk hl284_2
        clear hi284_2 hl284_2
        have HR284_3 := Aside0.mk hi284_3
        have HC284_3 := Aside0.mk hl284_3
        clear hi284_3 hl284_3
        replace p284 := eq_true p284
        replace q284 := eq_true q284
        have ea_ := Option.some.inj (hx283_1.symm.trans hx284_1)
        injection ea_ with ea_ en_ ec_
        subst ea_
        subst ec_
        clear en_
        have ea_ := Option.some.inj (hx283_2.symm.trans hx284_2)
        injection ea_ with ea_ en_ ec_
        subst ea_
        subst ec_
        clear en_
        have ea_ := Option.some.inj (hx283_3.symm.trans hx284_3)
        injection ea_ with ea_ en_ ec_
        subst ea_
        subst ec_
        clear en_
        go_upto_if 54 with (fail)
        go_cut [10, 11] (fun v10 v11 wc => ∃ (kq : Nat) (x10_16 : Int) (x11_16 : Int), v10 = .int .i64 x10_16 ∧ v11 = .int .i64 x11_16 ∧ Aside0 (sennitlaw12_MarkLines.j2 kq a1 a2 t274 t276 t279 x10_16 x11_16 x12_7 x13_2 = some r) ∧ Aside0 (kq ≤ k2) ∧ Aside0 (Kd.V Kd.string 9 wc w.heap.size (fun k_ => (P0_ k_ ∨ w.heap.size ≤ k_)) v277 t276) ∧ Aside0 (Kd.V k36 36 wc w.heap.size (fun k_ => (P0_ k_ ∨ w.heap.size ≤ k_)) (.slice (some ad283) x12_7.length co18) x12_7) ∧ Aside0 (Kd.C Kd.string wc A283_1 ((rd_T36 x12_7 x13_2).f1).length ((rd_T36 x12_7 x13_2).f1)) ∧ Aside0 (Kd.C Kd.string wc A283_2 ((rd_T36 x12_7 x13_2).f2).length ((rd_T36 x12_7 x13_2).f2)) ∧ Aside0 (Kd.C (Kd.slice 9 Kd.string) wc A283_3 ((rd_T36 x12_7 x13_2).f3).length ((rd_T36 x12_7 x13_2).f3)) ∧ Aside0 (Kd.C Kd.string wc A283_1 ((rd_T36 x12_7 x13_2).f1).length ((rd_T36 x12_7 x13_2).f1)) ∧ Aside0 (Kd.C Kd.string wc A283_2 ((rd_T36 x12_7 x13_2).f2).length ((rd_T36 x12_7 x13_2).f2)) ∧ Aside0 (Kd.C (Kd.slice 9 Kd.string) wc A283_3 ((rd_T36 x12_7 x13_2).f3).length ((rd_T36 x12_7 x13_2).f3)) ∧ Aside0 (Below w.heap.size w wc))
        case first =>
         have H := HC17.out
         clear HC17
         obtain ⟨bq19, hbq19⟩ : ∃ b_ : Bool, b_ = ((rd_T36 x12_7 x13_2).f0) := ⟨_, rfl⟩
         replace H : (if bq19 = true then (if a1 = 1 then (sennitlaw12_MarkLines.j2 k2 a1 a2 t274 t276 t279 (wrap64 (x10_2 + (((rd_T36 x12_7 x13_2).f1).length : Int))) (wrap64 ((wrap64 (x11_2 + (((rd_T36 x12_7 x13_2).f3).length : Int))) + 1)) x12_7 x13_2) else (sennitlaw12_MarkLines.j2 k2 a1 a2 t274 t276 t279 (wrap64 ((wrap64 (x10_2 + (((rd_T36 x12_7 x13_2).f1).length : Int))) + (((rd_T36 x12_7 x13_2).f2).length : Int))) (wrap64 ((wrap64 ((wrap64 (x11_2 + (((rd_T36 x12_7 x13_2).f3).length : Int))) + 1)) + 1)) x12_7 x13_2)) else (sennitlaw12_MarkLines.j2 k2 a1 a2 t274 t276 t279 (wrap64 (x10_2 + (((rd_T36 x12_7 x13_2).f1).length : Int))) x11_2 x12_7 x13_2)) = some r := by rw [← hbq19] at H; exact H
         have Nbq19 := Aside0.mk hbq19
         clear hbq19
         (try rw [← Nbq19.out])
         by_cases c20 : bq19 = true
         ·subst c20
          have H1 : (if a1 = 1 then (sennitlaw12_MarkLines.j2 k2 a1 a2 t274 t276 t279 (wrap64 (x10_2 + (((rd_T36 x12_7 x13_2).f1).length : Int))) (wrap64 ((wrap64 (x11_2 + (((rd_T36 x12_7 x13_2).f3).length : Int))) + 1)) x12_7 x13_2) else (sennitlaw12_MarkLines.j2 k2 a1 a2 t274 t276 t279 (wrap64 ((wrap64 (x10_2 + (((rd_T36 x12_7 x13_2).f1).length : Int))) + (((rd_T36 x12_7 x13_2).f2).length : Int))) (wrap64 ((wrap64 ((wrap64 (x11_2 + (((rd_T36 x12_7 x13_2).f3).length : Int))) + 1)) + 1)) x12_7 x13_2)) = some r := by rw [if_pos rfl] at H; exact H
          clear H
          have H := H1
          clear H1
          by_cases c21 : a1 = 1
          ·rw [if_pos c21] at H
           have c21b0 : (a1 == 1) = true := beq_iff_eq.mpr c21
           have c21b1 : (a1 != 1) = false := bne_eq_false_iff_eq.mpr c21
           clear c21
           have H' := Aside0.mk H
           clear H
           have p285 : 0 ≤ (x13_2 : Int) := of_decide_eq_true (by first | (with_reducible assumption) | assumption)
           have q285 : x13_2 < (x12_7.length : Int) := of_decide_eq_true (by first | (with_reducible assumption) | assumption)
           obtain ⟨ad285, A285_1, c285_1, A285_2, c285_2, A285_3, c285_3, e285, hx285_0, hx285_1, hx285_2, hx285_3, hl285_1, hi285_1, hl285_2, hi285_2, hl285_3, hi285_3⟩ := at_T36 (Kd.V_reads' HO_12.out).2.2 x13_2 p285 q285
           (try rw [← Nbq19.out] at hx285_0)
           obtain rfl : ad283 = ad285 := (by injection e285)
           obtain ⟨ce285, hce285, hMe285, hcc285⟩ := Kd.V_get HO_12.out z36 x13_2 p285 (by first | exact q285 | exact of_decide_eq_true (by first | (with_reducible assumption) | assumption) | (have e_ := (Kd.V_reads' HO_12.out).1; omega))
           obtain ⟨ua285_1, uc285_1, ua285_2, uc285_2, ua285_3, uc285_3, rfl, ul285_1, ge285_1, ul285_2, ge285_2, ul285_3, ge285_3⟩ := k36_openF hMe285
           have hv285_1 := hcc285 1 _ rfl
           rw [add_field _ _ 1 (by omega)] at hv285_1
           replace hv285_1 := Option.some.inj (hv285_1.symm.trans hx285_1)
           injection hv285_1 with hva_ hvn_ hvc_
           rw [hva_] at ge285_1
           rw [hvc_] at ul285_1
           have HL285_1 := Aside0.mk (show Kd.V Kd.string 9 _ w.heap.size _ _ ((rd_T36 x12_7 x13_2).f1) from Kd.V_mk ul285_1 ge285_1)
           clear hva_ hvn_ hvc_ ge285_1 ul285_1
           have hv285_2 := hcc285 2 _ rfl
           rw [add_field _ _ 2 (by omega)] at hv285_2
           replace hv285_2 := Option.some.inj (hv285_2.symm.trans hx285_2)
           injection hv285_2 with hva_ hvn_ hvc_
           rw [hva_] at ge285_2
           rw [hvc_] at ul285_2
           have HL285_2 := Aside0.mk (show Kd.V Kd.string 9 _ w.heap.size _ _ ((rd_T36 x12_7 x13_2).f2) from Kd.V_mk ul285_2 ge285_2)
           clear hva_ hvn_ hvc_ ge285_2 ul285_2
           have hv285_3 := hcc285 3 _ rfl
           rw [add_field _ _ 3 (by omega)] at hv285_3
           replace hv285_3 := Option.some.inj (hv285_3.symm.trans hx285_3)
           injection hv285_3 with hva_ hvn_ hvc_
           rw [hva_] at ge285_3
           rw [hvc_] at ul285_3
           have HL285_3 := Aside0.mk (show Kd.V (Kd.slice 9 Kd.string) 25 _ w.heap.size _ _ ((rd_T36 x12_7 x13_2).f3) from Kd.V_mk ul285_3 ge285_3)
           clear hva_ hvn_ hvc_ ge285_3 ul285_3
           clear hcc285 hce285
           have HR285_1 := Aside0.mk hi285_1
           have HC285_1 := Aside0.mk hl285_1
           clear hi285_1 hl285_1
           have HR285_2 := Aside0.mk hi285_2
           have HC285_2 := Aside0.mk hl285_2
           clear hi285_2 hl285_2
           have HR285_3 := Aside0.mk hi285_3
           have HC285_3 := Aside0.mk hl285_3
           clear hi285_3 hl285_3
           replace p285 := eq_true p285
           replace q285 := eq_true q285
           go_wp2
           go_meet
           case rel => exact ⟨_, (wrap64 (x10_2 + (((rd_T36 x12_7 x13_2).f1).length : Int))), (wrap64 ((wrap64 (x11_2 + (((rd_T36 x12_7 x13_2).f3).length : Int))) + 1)), (by first | rfl | (simp; done) | (simp [*]; done)), (by first | rfl | (simp; done) | (simp [*]; done)), H', ⟨by have := HJ7.out; have := HK2.out; first | omega | exact Nat.le_refl _⟩, ⟨by (with_reducible repeat (first | apply Kd.V_alloc | apply Kd.V_drewN | apply Kd.V_drew)); exact HO_8.out⟩, ⟨by (with_reducible repeat (first | apply Kd.V_alloc | apply Kd.V_drewN | apply Kd.V_drew)); exact HO_12.out⟩, ⟨by repeat (first | (with_reducible exact HR283_1.out) | (with_reducible refine Kd.C_alloc ?_ _) | (with_reducible refine Kd.C_drewN ?_ _) | (with_reducible refine Kd.C_drew ?_) | exact HR283_1.out)⟩, ⟨by repeat (first | (with_reducible exact HR283_2.out) | (with_reducible refine Kd.C_alloc ?_ _) | (with_reducible refine Kd.C_drewN ?_ _) | (with_reducible refine Kd.C_drew ?_) | exact HR283_2.out)⟩, ⟨by repeat (first | (with_reducible exact HR283_3.out) | (with_reducible refine Kd.C_alloc ?_ _) | (with_reducible refine Kd.C_drewN ?_ _) | (with_reducible refine Kd.C_drew ?_) | exact HR283_3.out)⟩, ⟨by repeat (first | (with_reducible exact HR284_1.out) | (with_reducible refine Kd.C_alloc ?_ _) | (with_reducible refine Kd.C_drewN ?_ _) | (with_reducible refine Kd.C_drew ?_) | exact HR284_1.out)⟩, ⟨by repeat (first | (with_reducible exact HR284_2.out) | (with_reducible refine Kd.C_alloc ?_ _) | (with_reducible refine Kd.C_drewN ?_ _) | (with_reducible refine Kd.C_drew ?_) | exact HR284_2.out)⟩, ⟨by repeat (first | (with_reducible exact HR284_3.out) | (with_reducible refine Kd.C_alloc ?_ _) | (with_reducible refine Kd.C_drewN ?_ _) | (with_reducible refine Kd.C_drew ?_) | exact HR284_3.out)⟩, ⟨by repeat (first | (with_reducible first | exact HB.out | apply below_alloc | apply pw_below_drewN | apply below_drew1) | exact HB.out)⟩⟩
          ·rw [if_neg c21] at H
           have c21b0 : (a1 == 1) = false := beq_eq_false_iff_ne.mpr c21
           have c21b1 : (a1 != 1) = true := bne_iff_ne.mpr c21
           have H' := Aside0.mk H
           clear H
           have p285 : 0 ≤ (x13_2 : Int) := of_decide_eq_true (by first | (with_reducible assumption) | assumption)
           have q285 : x13_2 < (x12_7.length : Int) := of_decide_eq_true (by first | (with_reducible assumption) | assumption)
           obtain ⟨ad285, A285_1, c285_1, A285_2, c285_2, A285_3, c285_3, e285, hx285_0, hx285_1, hx285_2, hx285_3, hl285_1, hi285_1, hl285_2, hi285_2, hl285_3, hi285_3⟩ := at_T36 (Kd.V_reads' HO_12.out).2.2 x13_2 p285 q285
           (try rw [← Nbq19.out] at hx285_0)
           obtain rfl : ad283 = ad285 := (by injection e285)
           obtain ⟨ce285, hce285, hMe285, hcc285⟩ := Kd.V_get HO_12.out z36 x13_2 p285 (by first | exact q285 | exact of_decide_eq_true (by first | (with_reducible assumption) | assumption) | (have e_ := (Kd.V_reads' HO_12.out).1; omega))
           obtain ⟨ua285_1, uc285_1, ua285_2, uc285_2, ua285_3, uc285_3, rfl, ul285_1, ge285_1, ul285_2, ge285_2, ul285_3, ge285_3⟩ := k36_openF hMe285
           have hv285_1 := hcc285 1 _ rfl
           rw [add_field _ _ 1 (by omega)] at hv285_1
           replace hv285_1 := Option.some.inj (hv285_1.symm.trans hx285_1)
           injection hv285_1 with hva_ hvn_ hvc_
           rw [hva_] at ge285_1
           rw [hvc_] at ul285_1
           have HL285_1 := Aside0.mk (show Kd.V Kd.string 9 _ w.heap.size _ _ ((rd_T36 x12_7 x13_2).f1) from Kd.V_mk ul285_1 ge285_1)
           clear hva_ hvn_ hvc_ ge285_1 ul285_1
           have hv285_2 := hcc285 2 _ rfl
           rw [add_field _ _ 2 (by omega)] at hv285_2
           replace hv285_2 := Option.some.inj (hv285_2.symm.trans hx285_2)
           injection hv285_2 with hva_ hvn_ hvc_
           rw [hva_] at ge285_2
           rw [hvc_] at ul285_2
           have HL285_2 := Aside0.mk (show Kd.V Kd.string 9 _ w.heap.size _ _ ((rd_T36 x12_7 x13_2).f2) from Kd.V_mk ul285_2 ge285_2)
           clear hva_ hvn_ hvc_ ge285_2 ul285_2
           have hv285_3 := hcc285 3 _ rfl
           rw [add_field _ _ 3 (by omega)] at hv285_3
           replace hv285_3 := Option.some.inj (hv285_3.symm.trans hx285_3)
           injection hv285_3 with hva_ hvn_ hvc_
           rw [hva_] at ge285_3
           rw [hvc_] at ul285_3
           have HL285_3 := Aside0.mk (show Kd.V (Kd.slice 9 Kd.string) 25 _ w.heap.size _ _ ((rd_T36 x12_7 x13_2).f3) from Kd.V_mk ul285_3 ge285_3)
           clear hva_ hvn_ hvc_ ge285_3 ul285_3
           clear hcc285 hce285
           have HR285_1 := Aside0.mk hi285_1
           have HC285_1 := Aside0.mk hl285_1
           clear hi285_1 hl285_1
           have HR285_2 := Aside0.mk hi285_2
           have HC285_2 := Aside0.mk hl285_2
           clear hi285_2 hl285_2
           have HR285_3 := Aside0.mk hi285_3
           have HC285_3 := Aside0.mk hl285_3
           clear hi285_3 hl285_3
           replace p285 := eq_true p285
           replace q285 := eq_true q285
           have p286 : 0 ≤ (x13_2 : Int) := of_decide_eq_true (by first | (with_reducible assumption) | assumption)
           have q286 : x13_2 < (x12_7.length : Int) := of_decide_eq_true (by first | (with_reducible assumption) | assumption)
           obtain ⟨ad286, A286_1, c286_1, A286_2, c286_2, A286_3, c286_3, e286, hx286_0, hx286_1, hx286_2, hx286_3, hl286_1, hi286_1, hl286_2, hi286_2, hl286_3, hi286_3⟩ := at_T36 (Kd.V_reads' HO_12.out).2.2 x13_2 p286 q286
           (try rw [← Nbq19.out] at hx286_0)
           obtain rfl : ad283 = ad286 := (by injection e286)
           obtain ⟨ce286, hce286, hMe286, hcc286⟩ := Kd.V_get HO_12.out z36 x13_2 p286 (by first | exact q286 | exact of_decide_eq_true (by first | (with_reducible assumption) | assumption) | (have e_ := (Kd.V_reads' HO_12.out).1; omega))
           obtain ⟨ua286_1, uc286_1, ua286_2, uc286_2, ua286_3, uc286_3, rfl, ul286_1, ge286_1, ul286_2, ge286_2, ul286_3, ge286_3⟩ := k36_openF hMe286
           have hv286_1 := hcc286 1 _ rfl
           rw [add_field _ _ 1 (by omega)] at hv286_1
           replace hv286_1 := Option.some.inj (hv286_1.symm.trans hx286_1)
           injection hv286_1 with hva_ hvn_ hvc_
           rw [hva_] at ge286_1
           rw [hvc_] at ul286_1
           have HL286_1 := Aside0.mk (show Kd.V Kd.string 9 _ w.heap.size _ _ ((rd_T36 x12_7 x13_2).f1) from Kd.V_mk ul286_1 ge286_1)
           clear hva_ hvn_ hvc_ ge286_1 ul286_1
           have hv286_2 := hcc286 2 _ rfl
           rw [add_field _ _ 2 (by omega)] at hv286_2
           replace hv286_2 := Option.some.inj (hv286_2.symm.trans hx286_2)
           injection hv286_2 with hva_ hvn_ hvc_
           rw [hva_] at ge286_2
           rw [hvc_] at ul286_2
           have HL286_2 := Aside0.mk (show Kd.V Kd.string 9 _ w.heap.size _ _ ((rd_T36 x12_7 x13_2).f2) from Kd.V_mk ul286_2 ge286_2)
           clear hva_ hvn_ hvc_ ge286_2 ul286_2
           have hv286_3 := hcc286 3 _ rfl
           rw [add_field _ _ 3 (by omega)] at hv286_3
           replace hv286_3 := Option.some.inj (hv286_3.symm.trans hx286_3)
           injection hv286_3 with hva_ hvn_ hvc_
           rw [hva_] at ge286_3
           rw [hvc_] at ul286_3
           have HL286_3 := Aside0.mk (show Kd.V (Kd.slice 9 Kd.string) 25 _ w.heap.size _ _ ((rd_T36 x12_7 x13_2).f3) from Kd.V_mk ul286_3 ge286_3)
           clear hva_ hvn_ hvc_ ge286_3 ul286_3
           clear hcc286 hce286
           have HR286_1 := Aside0.mk hi286_1
           have HC286_1 := Aside0.mk hl286_1
           clear hi286_1 hl286_1
           have HR286_2 := Aside0.mk hi286_2
           have HC286_2 := Aside0.mk hl286_2
           clear hi286_2 hl286_2
           have HR286_3 := Aside0.mk hi286_3
           have HC286_3 := Aside0.mk hl286_3
           clear hi286_3 hl286_3
           replace p286 := eq_true p286
           replace q286 := eq_true q286
           have ea_ := Option.some.inj (hx285_1.symm.trans hx286_1)
           injection ea_ with ea_ en_ ec_
           subst ea_
           subst ec_
           clear en_
           have ea_ := Option.some.inj (hx285_2.symm.trans hx286_2)
           injection ea_ with ea_ en_ ec_
           subst ea_
           subst ec_
           clear en_
           have ea_ := Option.some.inj (hx285_3.symm.trans hx286_3)
           injection ea_ with ea_ en_ ec_
           subst ea_
           subst ec_
           clear en_
           go_wp2
           go_meet
           case rel => exact ⟨_, (wrap64 ((wrap64 (x10_2 + (((rd_T36 x12_7 x13_2).f1).length : Int))) + (((rd_T36 x12_7 x13_2).f2).length : Int))), (wrap64 ((wrap64 ((wrap64 (x11_2 + (((rd_T36 x12_7 x13_2).f3).length : Int))) + 1)) + 1)), (by first | rfl | (simp; done) | (simp [*]; done)), (by first | rfl | (simp; done) | (simp [*]; done)), H', ⟨by have := HJ7.out; have := HK2.out; first | omega | exact Nat.le_refl _⟩, ⟨by (with_reducible repeat (first | apply Kd.V_alloc | apply Kd.V_drewN | apply Kd.V_drew)); exact HO_8.out⟩, ⟨by (with_reducible repeat (first | apply Kd.V_alloc | apply Kd.V_drewN | apply Kd.V_drew)); exact HO_12.out⟩, ⟨by repeat (first | (with_reducible exact HR283_1.out) | (with_reducible refine Kd.C_alloc ?_ _) | (with_reducible refine Kd.C_drewN ?_ _) | (with_reducible refine Kd.C_drew ?_) | exact HR283_1.out)⟩, ⟨by repeat (first | (with_reducible exact HR283_2.out) | (with_reducible refine Kd.C_alloc ?_ _) | (with_reducible refine Kd.C_drewN ?_ _) | (with_reducible refine Kd.C_drew ?_) | exact HR283_2.out)⟩, ⟨by repeat (first | (with_reducible exact HR283_3.out) | (with_reducible refine Kd.C_alloc ?_ _) | (with_reducible refine Kd.C_drewN ?_ _) | (with_reducible refine Kd.C_drew ?_) | exact HR283_3.out)⟩, ⟨by repeat (first | (with_reducible exact HR284_1.out) | (with_reducible refine Kd.C_alloc ?_ _) | (with_reducible refine Kd.C_drewN ?_ _) | (with_reducible refine Kd.C_drew ?_) | exact HR284_1.out)⟩, ⟨by repeat (first | (with_reducible exact HR284_2.out) | (with_reducible refine Kd.C_alloc ?_ _) | (with_reducible refine Kd.C_drewN ?_ _) | (with_reducible refine Kd.C_drew ?_) | exact HR284_2.out)⟩, ⟨by repeat (first | (with_reducible exact HR284_3.out) | (with_reducible refine Kd.C_alloc ?_ _) | (with_reducible refine Kd.C_drewN ?_ _) | (with_reducible refine Kd.C_drew ?_) | exact HR284_3.out)⟩, ⟨by repeat (first | (with_reducible first | exact HB.out | apply below_alloc | apply pw_below_drewN | apply below_drew1) | exact HB.out)⟩⟩
         ·replace c20 := Bool.eq_false_iff.mpr c20
          subst c20
          have H1 : (sennitlaw12_MarkLines.j2 k2 a1 a2 t274 t276 t279 (wrap64 (x10_2 + (((rd_T36 x12_7 x13_2).f1).length : Int))) x11_2 x12_7 x13_2) = some r := by rw [if_neg (show ¬ (false = true) by decide)] at H; exact H
          clear H
          have H := H1
          clear H1
          have H' := Aside0.mk H
          clear H
          go_wp2
          go_meet
          case rel => exact ⟨_, (wrap64 (x10_2 + (((rd_T36 x12_7 x13_2).f1).length : Int))), (x11_2), (by first | rfl | (simp; done) | (simp [*]; done)), (by first | rfl | (simp; done) | (simp [*]; done)), H', ⟨by have := HJ7.out; have := HK2.out; first | omega | exact Nat.le_refl _⟩, ⟨by (with_reducible repeat (first | apply Kd.V_alloc | apply Kd.V_drewN | apply Kd.V_drew)); exact HO_8.out⟩, ⟨by (with_reducible repeat (first | apply Kd.V_alloc | apply Kd.V_drewN | apply Kd.V_drew)); exact HO_12.out⟩, ⟨by repeat (first | (with_reducible exact HR283_1.out) | (with_reducible refine Kd.C_alloc ?_ _) | (with_reducible refine Kd.C_drewN ?_ _) | (with_reducible refine Kd.C_drew ?_) | exact HR283_1.out)⟩, ⟨by repeat (first | (with_reducible exact HR283_2.out) | (with_reducible refine Kd.C_alloc ?_ _) | (with_reducible refine Kd.C_drewN ?_ _) | (with_reducible refine Kd.C_drew ?_) | exact HR283_2.out)⟩, ⟨by repeat (first | (with_reducible exact HR283_3.out) | (with_reducible refine Kd.C_alloc ?_ _) | (with_reducible refine Kd.C_drewN ?_ _) | (with_reducible refine Kd.C_drew ?_) | exact HR283_3.out)⟩, ⟨by repeat (first | (with_reducible exact HR284_1.out) | (with_reducible refine Kd.C_alloc ?_ _) | (with_reducible refine Kd.C_drewN ?_ _) | (with_reducible refine Kd.C_drew ?_) | exact HR284_1.out)⟩, ⟨by repeat (first | (with_reducible exact HR284_2.out) | (with_reducible refine Kd.C_alloc ?_ _) | (with_reducible refine Kd.C_drewN ?_ _) | (with_reducible refine Kd.C_drew ?_) | exact HR284_2.out)⟩, ⟨by repeat (first | (with_reducible exact HR284_3.out) | (with_reducible refine Kd.C_alloc ?_ _) | (with_reducible refine Kd.C_drewN ?_ _) | (with_reducible refine Kd.C_drew ?_) | exact HR284_3.out)⟩, ⟨by repeat (first | (with_reducible first | exact HB.out | apply below_alloc | apply pw_below_drewN | apply below_drew1) | exact HB.out)⟩⟩
        case rest =>
         clear HC17
         try clear c1
         try clear q1
         try clear c2
         try clear p2
         try clear q2
         try clear hx2
         try clear c4
         try clear c6
         try clear p6
         try clear c10
         try clear c12
         try clear c12b0
         try clear c12b1
         try clear c15
         try clear c15b0
         try clear c16
         try clear c16b0
         try clear q19
         try clear c20
         try clear c21
         try clear c21b0
         try clear c21b1
         try clear hx283_0
         try clear hx283_1
         try clear hx283_2
         try clear hx283_3
         try clear hx284_0
         try clear hx284_1
         try clear hx284_2
         try clear hx284_3
         try clear hx285_0
         try clear hx285_1
         try clear hx285_2
         try clear hx285_3
         try clear hx286_0
         try clear hx286_1
         try clear hx286_2
         try clear hx286_3
         try clear p2
         try clear p283
         try clear p284
         try clear p285
         try clear p286
         try clear q283
         try clear q284
         try clear q285
         try clear q286
         obtain ⟨kq, x10_16, x11_16, rfl, rfl, HA, HJ16, HO_8, HO_12, HR283_1, HR283_2, HR283_3, HR284_1, HR284_2, HR284_3, HB⟩ := hcut
         cases kq with
         | zero => exact absurd HA.out (by simp [sennitlaw12_MarkLines.j2])
         | succ kj16 =>
          have H := HA.out
          clear HA
          simp only [sennitlaw12_MarkLines.j2] at H
          have H' := Aside0.mk H
          clear H
          go_wp2
          go_loopg [10, 14] kj16 (fun kq v10 v14 w' => ∃ (x10_4 : Int) (x14_4 : Int), v10 = .int .i64 x10_4 ∧ v14 = .int .i64 x14_4 ∧ Aside0 (sennitlaw12_MarkLines.l1 kq a1 a2 t274 t276 t279 x10_4 x11_16 x12_7 x13_2 x14_4 = some r) ∧ Aside0 (kq ≤ kj16) ∧ Aside0 (Kd.V Kd.string 9 w' w.heap.size (fun k_ => (P0_ k_ ∨ w.heap.size ≤ k_)) v277 t276) ∧ Aside0 (Kd.V k36 36 w' w.heap.size (fun k_ => (P0_ k_ ∨ w.heap.size ≤ k_)) (.slice (some ad283) x12_7.length co18) x12_7) ∧ Aside0 (Kd.C Kd.string w' A283_1 ((rd_T36 x12_7 x13_2).f1).length ((rd_T36 x12_7 x13_2).f1)) ∧ Aside0 (Kd.C Kd.string w' A283_2 ((rd_T36 x12_7 x13_2).f2).length ((rd_T36 x12_7 x13_2).f2)) ∧ Aside0 (Kd.C (Kd.slice 9 Kd.string) w' A283_3 ((rd_T36 x12_7 x13_2).f3).length ((rd_T36 x12_7 x13_2).f3)) ∧ Aside0 (Kd.C Kd.string w' A283_1 ((rd_T36 x12_7 x13_2).f1).length ((rd_T36 x12_7 x13_2).f1)) ∧ Aside0 (Kd.C Kd.string w' A283_2 ((rd_T36 x12_7 x13_2).f2).length ((rd_T36 x12_7 x13_2).f2)) ∧ Aside0 (Kd.C (Kd.slice 9 Kd.string) w' A283_3 ((rd_T36 x12_7 x13_2).f3).length ((rd_T36 x12_7 x13_2).f3)) ∧ Aside0 (Below w.heap.size w w'))
          case atStart => exact ⟨(x10_16), (0), (by first | rfl | (simp; done) | (simp [*]; done)), (by first | rfl | (simp; done) | (simp [*]; done)), H', ⟨Nat.le_refl _⟩, ⟨by (with_reducible repeat (first | apply Kd.V_alloc | apply Kd.V_drewN | apply Kd.V_drew)); exact HO_8.out⟩, ⟨by (with_reducible repeat (first | apply Kd.V_alloc | apply Kd.V_drewN | apply Kd.V_drew)); exact HO_12.out⟩, ⟨by repeat (first | (with_reducible exact HR283_1.out) | (with_reducible refine Kd.C_alloc ?_ _) | (with_reducible refine Kd.C_drewN ?_ _) | (with_reducible refine Kd.C_drew ?_) | exact HR283_1.out)⟩, ⟨by repeat (first | (with_reducible exact HR283_2.out) | (with_reducible refine Kd.C_alloc ?_ _) | (with_reducible refine Kd.C_drewN ?_ _) | (with_reducible refine Kd.C_drew ?_) | exact HR283_2.out)⟩, ⟨by repeat (first | (with_reducible exact HR283_3.out) | (with_reducible refine Kd.C_alloc ?_ _) | (with_reducible refine Kd.C_drewN ?_ _) | (with_reducible refine Kd.C_drew ?_) | exact HR283_3.out)⟩, ⟨by repeat (first | (with_reducible exact HR284_1.out) | (with_reducible refine Kd.C_alloc ?_ _) | (with_reducible refine Kd.C_drewN ?_ _) | (with_reducible refine Kd.C_drew ?_) | exact HR284_1.out)⟩, ⟨by repeat (first | (with_reducible exact HR284_2.out) | (with_reducible refine Kd.C_alloc ?_ _) | (with_reducible refine Kd.C_drewN ?_ _) | (with_reducible refine Kd.C_drew ?_) | exact HR284_2.out)⟩, ⟨by repeat (first | (with_reducible exact HR284_3.out) | (with_reducible refine Kd.C_alloc ?_ _) | (with_reducible refine Kd.C_drewN ?_ _) | (with_reducible refine Kd.C_drew ?_) | exact HR284_3.out)⟩, ⟨by repeat (first | (with_reducible first | exact HB.out | apply below_alloc | apply pw_below_drewN | apply below_drew1) | exact HB.out)⟩⟩
          case round =>
           clear H'
           try clear c1
           try clear q1
           try clear c2
           try clear p2
           try clear q2
           try clear hx2
           try clear c4
           try clear c6
           try clear p6
           try clear c10
           try clear c12
           try clear c12b0
           try clear c12b1
           try clear c15
           try clear c15b0
           try clear c16
           try clear c16b0
           try clear q19
           try clear c20
           try clear c21
           try clear c21b0
           try clear c21b1
           try clear hx283_0
           try clear hx283_1
           try clear hx283_2
           try clear hx283_3
           try clear hx284_0
           try clear hx284_1
           try clear hx284_2
           try clear hx284_3
           try clear hx285_0
           try clear hx285_1
           try clear hx285_2
           try clear hx285_3
           try clear hx286_0
           try clear hx286_1
           try clear hx286_2
           try clear hx286_3
           try clear p2
           try clear p283
           try clear p284
           try clear p285
           try clear p286
           try clear p6
           try clear q1
           try clear q19
           try clear q2
           try clear q283
           try clear q284
           try clear q285
           try clear q286
           obtain ⟨x10_4, x14_4, rfl, rfl, HA, HK4, HO_8, HO_12, HR283_1, HR283_2, HR283_3, HR284_1, HR284_2, HR284_3, HB⟩ := hrel
           cases gk with
           | zero => exact absurd HA.out (by simp [sennitlaw12_MarkLines.l1])
           | succ k4 =>
            have H := HA.out
            clear HA
            simp only [sennitlaw12_MarkLines.l1] at H
            by_cases c22 : 0 ≤ x13_2
            ·rw [if_pos c22] at H
             have c22b0 : decide (0 ≤ x13_2) = true := decide_eq_true c22
             clear c22
             by_cases c23 : x13_2 < (x12_7.length : Int)
             ·rw [if_pos c23] at H
              have c23b0 : decide (x13_2 < (x12_7.length : Int)) = true := decide_eq_true c23
              clear c23
              by_cases c24 : x14_4 < (((rd_T36 x12_7 x13_2).f3).length : Int)
              ·rw [if_pos c24] at H
               have c24b0 : decide (x14_4 < (((rd_T36 x12_7 x13_2).f3).length : Int)) = true := decide_eq_true c24
               clear c24
               by_cases c25 : 0 ≤ x14_4
               ·rw [if_pos c25] at H
                have c25b0 : decide (0 ≤ x14_4) = true := decide_eq_true c25
                clear c25
                have H' := Aside0.mk H
                clear H
                have p287 : 0 ≤ (x13_2 : Int) := of_decide_eq_true (by first | (with_reducible assumption) | assumption)
                have q287 : x13_2 < (x12_7.length : Int) := of_decide_eq_true (by first | (with_reducible assumption) | assumption)
                obtain ⟨ad287, A287_1, c287_1, A287_2, c287_2, A287_3, c287_3, e287, hx287_0, hx287_1, hx287_2, hx287_3, hl287_1, hi287_1, hl287_2, hi287_2, hl287_3, hi287_3⟩ := at_T36 (Kd.V_reads' HO_12.out).2.2 x13_2 p287 q287
                obtain rfl : ad283 = ad287 := (by injection e287)
                obtain ⟨ce287, hce287, hMe287, hcc287⟩ := Kd.V_get HO_12.out z36 x13_2 p287 (by first | exact q287 | exact of_decide_eq_true (by first | (with_reducible assumption) | assumption) | (have e_ := (Kd.V_reads' HO_12.out).1; omega))
                obtain ⟨ua287_1, uc287_1, ua287_2, uc287_2, ua287_3, uc287_3, rfl, ul287_1, ge287_1, ul287_2, ge287_2, ul287_3, ge287_3⟩ := k36_openF hMe287
                have hv287_1 := hcc287 1 _ rfl
                rw [add_field _ _ 1 (by omega)] at hv287_1
                replace hv287_1 := Option.some.inj (hv287_1.symm.trans hx287_1)
                injection hv287_1 with hva_ hvn_ hvc_
                rw [hva_] at ge287_1
                rw [hvc_] at ul287_1
                have HL287_1 := Aside0.mk (show Kd.V Kd.string 9 _ w.heap.size _ _ ((rd_T36 x12_7 x13_2).f1) from Kd.V_mk ul287_1 ge287_1)
                clear hva_ hvn_ hvc_ ge287_1 ul287_1
                have hv287_2 := hcc287 2 _ rfl
                rw [add_field _ _ 2 (by omega)] at hv287_2
                replace hv287_2 := Option.some.inj (hv287_2.symm.trans hx287_2)
                injection hv287_2 with hva_ hvn_ hvc_
                rw [hva_] at ge287_2
                rw [hvc_] at ul287_2
                have HL287_2 := Aside0.mk (show Kd.V Kd.string 9 _ w.heap.size _ _ ((rd_T36 x12_7 x13_2).f2) from Kd.V_mk ul287_2 ge287_2)
                clear hva_ hvn_ hvc_ ge287_2 ul287_2
                have hv287_3 := hcc287 3 _ rfl
                rw [add_field _ _ 3 (by omega)] at hv287_3
                replace hv287_3 := Option.some.inj (hv287_3.symm.trans hx287_3)
                injection hv287_3 with hva_ hvn_ hvc_
                rw [hva_] at ge287_3
                rw [hvc_] at ul287_3
                have HL287_3 := Aside0.mk (show Kd.V (Kd.slice 9 Kd.string) 25 _ w.heap.size _ _ ((rd_T36 x12_7 x13_2).f3) from Kd.V_mk ul287_3 ge287_3)
                clear hva_ hvn_ hvc_ ge287_3 ul287_3
                clear hcc287 hce287
                have HR287_1 := Aside0.mk hi287_1
                have HC287_1 := Aside0.mk hl287_1
                clear hi287_1 hl287_1
                have HR287_2 := Aside0.mk hi287_2
                have HC287_2 := Aside0.mk hl287_2
                clear hi287_2 hl287_2
                have HR287_3 := Aside0.mk hi287_3
                have HC287_3 := Aside0.mk hl287_3
                clear hi287_3 hl287_3
                replace p287 := eq_true p287
                replace q287 := eq_true q287
                have p288 : 0 ≤ (x13_2 : Int) := of_decide_eq_true (by first | (with_reducible assumption) | assumption)
                have q288 : x13_2 < (x12_7.length : Int) := of_decide_eq_true (by first | (with_reducible assumption) | assumption)
                obtain ⟨ad288, A288_1, c288_1, A288_2, c288_2, A288_3, c288_3, e288, hx288_0, hx288_1, hx288_2, hx288_3, hl288_1, hi288_1, hl288_2, hi288_2, hl288_3, hi288_3⟩ := at_T36 (Kd.V_reads' HO_12.out).2.2 x13_2 p288 q288
                obtain rfl : ad283 = ad288 := (by injection e288)
                obtain ⟨ce288, hce288, hMe288, hcc288⟩ := Kd.V_get HO_12.out z36 x13_2 p288 (by first | exact q288 | exact of_decide_eq_true (by first | (with_reducible assumption) | assumption) | (have e_ := (Kd.V_reads' HO_12.out).1; omega))
                obtain ⟨ua288_1, uc288_1, ua288_2, uc288_2, ua288_3, uc288_3, rfl, ul288_1, ge288_1, ul288_2, ge288_2, ul288_3, ge288_3⟩ := k36_openF hMe288
                have hv288_1 := hcc288 1 _ rfl
                rw [add_field _ _ 1 (by omega)] at hv288_1
                replace hv288_1 := Option.some.inj (hv288_1.symm.trans hx288_1)
                injection hv288_1 with hva_ hvn_ hvc_
                rw [hva_] at ge288_1
                rw [hvc_] at ul288_1
                have HL288_1 := Aside0.mk (show Kd.V Kd.string 9 _ w.heap.size _ _ ((rd_T36 x12_7 x13_2).f1) from Kd.V_mk ul288_1 ge288_1)
                clear hva_ hvn_ hvc_ ge288_1 ul288_1
                have hv288_2 := hcc288 2 _ rfl
                rw [add_field _ _ 2 (by omega)] at hv288_2
                replace hv288_2 := Option.some.inj (hv288_2.symm.trans hx288_2)
                injection hv288_2 with hva_ hvn_ hvc_
                rw [hva_] at ge288_2
                rw [hvc_] at ul288_2
                have HL288_2 := Aside0.mk (show Kd.V Kd.string 9 _ w.heap.size _ _ ((rd_T36 x12_7 x13_2).f2) from Kd.V_mk ul288_2 ge288_2)
                clear hva_ hvn_ hvc_ ge288_2 ul288_2
                have hv288_3 := hcc288 3 _ rfl
                rw [add_field _ _ 3 (by omega)] at hv288_3
                replace hv288_3 := Option.some.inj (hv288_3.symm.trans hx288_3)
                injection hv288_3 with hva_ hvn_ hvc_
                rw [hva_] at ge288_3
                rw [hvc_] at ul288_3
                have HL288_3 := Aside0.mk (show Kd.V (Kd.slice 9 Kd.string) 25 _ w.heap.size _ _ ((rd_T36 x12_7 x13_2).f3) from Kd.V_mk ul288_3 ge288_3)
                clear hva_ hvn_ hvc_ ge288_3 ul288_3
                clear hcc288 hce288
                have HR288_1 := Aside0.mk hi288_1
                have HC288_1 := Aside0.mk hl288_1
                clear hi288_1 hl288_1
                have HR288_2 := Aside0.mk hi288_2
                have HC288_2 := Aside0.mk hl288_2
                clear hi288_2 hl288_2
                have HR288_3 := Aside0.mk hi288_3
                have HC288_3 := Aside0.mk hl288_3
                clear hi288_3 hl288_3
                replace p288 := eq_true p288
                replace q288 := eq_true q288
                have ea_ := Option.some.inj (hx287_1.symm.trans hx288_1)
                injection ea_ with ea_ en_ ec_
                subst ea_
                subst ec_
                clear en_
                have ea_ := Option.some.inj (hx287_2.symm.trans hx288_2)
                injection ea_ with ea_ en_ ec_
                subst ea_
                subst ec_
                clear en_
                have ea_ := Option.some.inj (hx287_3.symm.trans hx288_3)
                injection ea_ with ea_ en_ ec_
                subst ea_
                subst ec_
                clear en_
                have p289 : 0 ≤ (x14_4 : Int) := of_decide_eq_true (by first | (with_reducible assumption) | assumption)
                have q289 : x14_4 < (((rd_T36 x12_7 x13_2).f3).length : Int) := of_decide_eq_true (by first | (with_reducible assumption) | assumption)
                obtain ⟨ad289, A289_0, c289_0, e289, hx289_0, hl289_0, hi289_0⟩ := at_L2 (by repeat (first | (with_reducible exact HR288_3.out) | (with_reducible refine Kd.C_alloc ?_ _) | (with_reducible refine Kd.C_drewN ?_ _) | (with_reducible refine Kd.C_drew ?_) | exact HR288_3.out)) x14_4 p289 q289
                cases e289
                obtain ⟨ce289, hce289, hMe289, hcc289⟩ := Kd.V_get HL288_3.out [] x14_4 p289 (by first | exact q289 | exact of_decide_eq_true (by first | (with_reducible assumption) | assumption) | (have e_ := (Kd.V_reads' HL288_3.out).1; omega))
                obtain ⟨ua289_0, uc289_0, rfl, ul289_0, ge289_0⟩ := Kd.FK_slice_open hMe289
                have hv289_0 := hcc289 0 _ rfl
                rw [Nat.add_zero, show ((Kd.slice 9 Kd.string)).sz = 1 from rfl, Nat.mul_one] at hv289_0
                replace hv289_0 := Option.some.inj (hv289_0.symm.trans hx289_0)
                injection hv289_0 with hva_ hvn_ hvc_
                rw [hva_] at ge289_0
                rw [hvc_] at ul289_0
                have HL289_0 := Aside0.mk (show Kd.V Kd.string 9 _ w.heap.size _ _ (rd_L2 ((rd_T36 x12_7 x13_2).f3) x14_4) from Kd.V_mk ul289_0 ge289_0)
                clear hva_ hvn_ hvc_ ge289_0 ul289_0
                clear hcc289 hce289
                have HR289_0 := Aside0.mk hi289_0
                have HC289_0 := Aside0.mk hl289_0
                clear hi289_0 hl289_0
                replace p289 := eq_true p289
                replace q289 := eq_true q289
                go_wp2
                go_roundg k4
                case measure => have := HJ7.out; have := HK2.out; have := HJ16.out; have := HK4.out; omega
                case rel => exact ⟨(wrap64 (x10_4 + ((rd_L2 ((rd_T36 x12_7 x13_2).f3) x14_4).length : Int))), (wrap64 (x14_4 + 1)), (by first | rfl | (simp; done) | (simp [*]; done)), (by first | rfl | (simp; done) | (simp [*]; done)), H', ⟨by have := HJ7.out; have := HK2.out; have := HJ16.out; have := HK4.out; omega⟩, ⟨by (with_reducible repeat (first | apply Kd.V_alloc | apply Kd.V_drewN | apply Kd.V_drew)); exact HO_8.out⟩, ⟨by (with_reducible repeat (first | apply Kd.V_alloc | apply Kd.V_drewN | apply Kd.V_drew)); exact HO_12.out⟩, ⟨by repeat (first | (with_reducible exact HR283_1.out) | (with_reducible refine Kd.C_alloc ?_ _) | (with_reducible refine Kd.C_drewN ?_ _) | (with_reducible refine Kd.C_drew ?_) | exact HR283_1.out)⟩, ⟨by repeat (first | (with_reducible exact HR283_2.out) | (with_reducible refine Kd.C_alloc ?_ _) | (with_reducible refine Kd.C_drewN ?_ _) | (with_reducible refine Kd.C_drew ?_) | exact HR283_2.out)⟩, ⟨by repeat (first | (with_reducible exact HR283_3.out) | (with_reducible refine Kd.C_alloc ?_ _) | (with_reducible refine Kd.C_drewN ?_ _) | (with_reducible refine Kd.C_drew ?_) | exact HR283_3.out)⟩, ⟨by repeat (first | (with_reducible exact HR284_1.out) | (with_reducible refine Kd.C_alloc ?_ _) | (with_reducible refine Kd.C_drewN ?_ _) | (with_reducible refine Kd.C_drew ?_) | exact HR284_1.out)⟩, ⟨by repeat (first | (with_reducible exact HR284_2.out) | (with_reducible refine Kd.C_alloc ?_ _) | (with_reducible refine Kd.C_drewN ?_ _) | (with_reducible refine Kd.C_drew ?_) | exact HR284_2.out)⟩, ⟨by repeat (first | (with_reducible exact HR284_3.out) | (with_reducible refine Kd.C_alloc ?_ _) | (with_reducible refine Kd.C_drewN ?_ _) | (with_reducible refine Kd.C_drew ?_) | exact HR284_3.out)⟩, ⟨by repeat (first | (with_reducible first | exact HB.out | apply below_alloc | apply pw_below_drewN | apply below_drew1) | exact HB.out)⟩⟩
               ·rw [if_neg c25] at H
                exact absurd H (by simp)
              ·rw [if_neg c24] at H
               have c24b0 : decide (x14_4 < (((rd_T36 x12_7 x13_2).f3).length : Int)) = false := decide_eq_false c24
               clear c24
               have H' := Aside0.mk H
               clear H
               have p287 : 0 ≤ (x13_2 : Int) := of_decide_eq_true (by first | (with_reducible assumption) | assumption)
               have q287 : x13_2 < (x12_7.length : Int) := of_decide_eq_true (by first | (with_reducible assumption) | assumption)
               obtain ⟨ad287, A287_1, c287_1, A287_2, c287_2, A287_3, c287_3, e287, hx287_0, hx287_1, hx287_2, hx287_3, hl287_1, hi287_1, hl287_2, hi287_2, hl287_3, hi287_3⟩ := at_T36 (Kd.V_reads' HO_12.out).2.2 x13_2 p287 q287
               obtain rfl : ad283 = ad287 := (by injection e287)
               obtain ⟨ce287, hce287, hMe287, hcc287⟩ := Kd.V_get HO_12.out z36 x13_2 p287 (by first | exact q287 | exact of_decide_eq_true (by first | (with_reducible assumption) | assumption) | (have e_ := (Kd.V_reads' HO_12.out).1; omega))
               obtain ⟨ua287_1, uc287_1, ua287_2, uc287_2, ua287_3, uc287_3, rfl, ul287_1, ge287_1, ul287_2, ge287_2, ul287_3, ge287_3⟩ := k36_openF hMe287
               have hv287_1 := hcc287 1 _ rfl
               rw [add_field _ _ 1 (by omega)] at hv287_1
               replace hv287_1 := Option.some.inj (hv287_1.symm.trans hx287_1)
               injection hv287_1 with hva_ hvn_ hvc_
               rw [hva_] at ge287_1
               rw [hvc_] at ul287_1
               have HL287_1 := Aside0.mk (show Kd.V Kd.string 9 _ w.heap.size _ _ ((rd_T36 x12_7 x13_2).f1) from Kd.V_mk ul287_1 ge287_1)
               clear hva_ hvn_ hvc_ ge287_1 ul287_1
               have hv287_2 := hcc287 2 _ rfl
               rw [add_field _ _ 2 (by omega)] at hv287_2
               replace hv287_2 := Option.some.inj (hv287_2.symm.trans hx287_2)
               injection hv287_2 with hva_ hvn_ hvc_
               rw [hva_] at ge287_2
               rw [hvc_] at ul287_2
               have HL287_2 := Aside0.mk (show Kd.V Kd.string 9 _ w.heap.size _ _ ((rd_T36 x12_7 x13_2).f2) from Kd.V_mk ul287_2 ge287_2)
               clear hva_ hvn_ hvc_ ge287_2 ul287_2
               have hv287_3 := hcc287 3 _ rfl
               rw [add_field _ _ 3 (by omega)] at hv287_3
               replace hv287_3 := Option.some.inj (hv287_3.symm.trans hx287_3)
               injection hv287_3 with hva_ hvn_ hvc_
               rw [hva_] at ge287_3
               rw [hvc_] at ul287_3
               have HL287_3 := Aside0.mk (show Kd.V (Kd.slice 9 Kd.string) 25 _ w.heap.size _ _ ((rd_T36 x12_7 x13_2).f3) from Kd.V_mk ul287_3 ge287_3)
               clear hva_ hvn_ hvc_ ge287_3 ul287_3
               clear hcc287 hce287
               have HR287_1 := Aside0.mk hi287_1
               have HC287_1 := Aside0.mk hl287_1
               clear hi287_1 hl287_1
               have HR287_2 := Aside0.mk hi287_2
               have HC287_2 := Aside0.mk hl287_2
               clear hi287_2 hl287_2
               have HR287_3 := Aside0.mk hi287_3
               have HC287_3 := Aside0.mk hl287_3
               clear hi287_3 hl287_3
               replace p287 := eq_true p287
               replace q287 := eq_true q287
               go_wp2
               go_roundg k4
               case measure => have := HJ7.out; have := HK2.out; have := HJ16.out; have := HK4.out; omega
               case rel => exact ⟨(x10_4), (x11_16), (wrap64 (x13_2 + 1)), (by first | rfl | (simp; done) | (simp [*]; done)), (by first | rfl | (simp; done) | (simp [*]; done)), (by first | rfl | (simp; done) | (simp [*]; done)), H', ⟨by have := HJ7.out; have := HK2.out; have := HJ16.out; have := HK4.out; omega⟩, ⟨by (with_reducible repeat (first | apply Kd.V_alloc | apply Kd.V_drewN | apply Kd.V_drew)); exact HO_8.out⟩, ⟨by (with_reducible repeat (first | apply Kd.V_alloc | apply Kd.V_drewN | apply Kd.V_drew)); exact HO_12.out⟩, ⟨by repeat (first | (with_reducible first | exact HB.out | apply below_alloc | apply pw_below_drewN | apply below_drew1) | exact HB.out)⟩⟩
             ·rw [if_neg c23] at H
              exact absurd H (by simp)
            ·rw [if_neg c22] at H
             exact absurd H (by simp)
       ·rw [if_neg c16] at H
        exact absurd H (by simp)
      ·rw [if_neg c15] at H
       have c15b0 : decide (x13_2 < (x12_7.length : Int)) = false := decide_eq_false c15
       clear c15
       have H' := Aside0.mk H
       clear H
       obtain ⟨Ao26, co26, eo26⟩ := Kd.V_slice HO_12.out
       subst eo26
       go_wp2
       go_loopg [15, 16] k2 (fun kq v15 v16 w' => ∃ (x15_3 : Int) (x16_3 : Int), v15 = .int .i64 x15_3 ∧ v16 = .int .i64 x16_3 ∧ Aside0 (sennitlaw12_MarkLines.l2 kq a2 t274 t276 t279 x10_2 x11_2 x15_3 x16_3 = some r) ∧ Aside0 (kq ≤ k2) ∧ Aside0 (Kd.V Kd.string 9 w' w.heap.size (fun k_ => (P0_ k_ ∨ w.heap.size ≤ k_)) v277 t276) ∧ Aside0 (Below w.heap.size w w'))
       case atStart => exact ⟨(0), (0), (by first | rfl | (simp; done) | (simp [*]; done)), (by first | rfl | (simp; done) | (simp [*]; done)), H', ⟨Nat.le_refl _⟩, ⟨by (with_reducible repeat (first | apply Kd.V_alloc | apply Kd.V_drewN | apply Kd.V_drew)); exact HO_8.out⟩, ⟨by repeat (first | (with_reducible first | exact HB.out | apply below_alloc | apply pw_below_drewN | apply below_drew1) | exact HB.out)⟩⟩
       case round =>
        clear H'
        try clear c1
        try clear q1
        try clear c2
        try clear p2
        try clear q2
        try clear hx2
        try clear c4
        try clear c6
        try clear p6
        try clear c10
        try clear c12
        try clear c12b0
        try clear c12b1
        try clear c15
        try clear c15b0
        try clear c16
        try clear c16b0
        try clear q19
        try clear c20
        try clear c21
        try clear c21b0
        try clear c21b1
        try clear c22
        try clear c22b0
        try clear c23
        try clear c23b0
        try clear c24
        try clear c24b0
        try clear c25
        try clear c25b0
        try clear hx283_0
        try clear hx283_1
        try clear hx283_2
        try clear hx283_3
        try clear hx284_0
        try clear hx284_1
        try clear hx284_2
        try clear hx284_3
        try clear hx285_0
        try clear hx285_1
        try clear hx285_2
        try clear hx285_3
        try clear hx286_0
        try clear hx286_1
        try clear hx286_2
        try clear hx286_3
        try clear hx287_0
        try clear hx287_1
        try clear hx287_2
        try clear hx287_3
        try clear hx288_0
        try clear hx288_1
        try clear hx288_2
        try clear hx288_3
        try clear hx289_0
        try clear p2
        try clear p283
        try clear p284
        try clear p285
        try clear p286
        try clear p287
        try clear p288
        try clear p289
        try clear p6
        try clear q1
        try clear q19
        try clear q2
        try clear q283
        try clear q284
        try clear q285
        try clear q286
        try clear q287
        try clear q288
        try clear q289
        obtain ⟨x15_3, x16_3, rfl, rfl, HA, HK3, HO_8, HB⟩ := hrel
        cases gk with
        | zero => exact absurd HA.out (by simp [sennitlaw12_MarkLines.l2])
        | succ k3 =>
         have H := HA.out
         clear HA
         simp only [sennitlaw12_MarkLines.l2] at H
         by_cases c27 : x16_3 < (t276.length : Int)
         ·rw [if_pos c27] at H
          have c27b0 : decide (x16_3 < (t276.length : Int)) = true := decide_eq_true c27
          clear c27
          by_cases c28 : 0 ≤ x16_3
          ·rw [if_pos c28] at H
           have c28b0 : decide (0 ≤ x16_3) = true := decide_eq_true c28
           clear c28
           replace H := Option.bind_eq_some_iff.mp H
           obtain ⟨t291, A290, H⟩ := H
           replace H : (if t291 ≥ a2 then (sennitlaw12_MarkLines.l2 k3 a2 t274 t276 t279 x10_2 x11_2 (wrap64 (x15_3 + 1)) (wrap64 (x16_3 + 1))) else (sennitlaw12_MarkLines.l2 k3 a2 t274 t276 t279 x10_2 x11_2 x15_3 (wrap64 (x16_3 + 1)))) = some r := H
           have A29 := Aside0.mk A290
           clear A290
           by_cases c30 : t291 ≥ a2
           ·rw [if_pos c30] at H
            have c30b0 : decide (a2 ≤ t291) = true := decide_eq_true c30
            clear c30
            have H' := Aside0.mk H
            clear H
            obtain ⟨Ao31, co31, eo31⟩ := Kd.V_slice HO_8.out
            subst eo31
            have p290 : 0 ≤ (x16_3 : Int) := of_decide_eq_true (by first | (with_reducible assumption) | assumption)
            have q290 : x16_3 < (t276.length : Int) := of_decide_eq_true (by first | (with_reducible assumption) | assumption)
            obtain ⟨ad290, e290, hx290_0⟩ := Kd.at_string (Kd.V_reads' HO_8.out).2.2 x16_3 p290 q290
            cases e290
            replace p290 := eq_true p290
            replace q290 := eq_true q290
            go_wp2_with (first | ((with_reducible refine gate_callee (f := 17) rfl ?_); refine goesL_ (some 107) rfl rfl Tryz.func17 (by kernel_rfl) rfl #[.string (rdOf ByteArray.empty t276 x16_3)] rfl (by (try simp only [List.map_toArray, List.map_cons, List.map_nil]); first | done | rfl | (simp only [List.length_drop, List.length_take]; rfl)) ?_; (with_reducible refine (sennitref11_Run.calls k3 (rdOf ByteArray.empty t276 x16_3) t291 _ A29.out).mono ?_); rintro e w' ⟨rfl, ⟨nd, rfl⟩⟩; refine ⟨_, rfl, ?_⟩))
            go_roundg k3
            case measure => have := HJ7.out; have := HK2.out; have := HK3.out; omega
            case rel => exact ⟨(wrap64 (x15_3 + 1)), (wrap64 (x16_3 + 1)), (by first | rfl | (simp; done) | (simp [*]; done)), (by first | rfl | (simp; done) | (simp [*]; done)), H', ⟨by have := HJ7.out; have := HK2.out; have := HK3.out; omega⟩, ⟨by (with_reducible repeat (first | apply Kd.V_alloc | apply Kd.V_drewN | apply Kd.V_drew)); exact HO_8.out⟩, ⟨by repeat (first | (with_reducible first | exact HB.out | apply below_alloc | apply pw_below_drewN | apply below_drew1) | exact HB.out)⟩⟩
           ·rw [if_neg c30] at H
            have c30b0 : decide (a2 ≤ t291) = false := decide_eq_false c30
            clear c30
            have H' := Aside0.mk H
            clear H
            obtain ⟨Ao32, co32, eo32⟩ := Kd.V_slice HO_8.out
            subst eo32
            have p290 : 0 ≤ (x16_3 : Int) := of_decide_eq_true (by first | (with_reducible assumption) | assumption)
            have q290 : x16_3 < (t276.length : Int) := of_decide_eq_true (by first | (with_reducible assumption) | assumption)
            obtain ⟨ad290, e290, hx290_0⟩ := Kd.at_string (Kd.V_reads' HO_8.out).2.2 x16_3 p290 q290
            cases e290
            replace p290 := eq_true p290
            replace q290 := eq_true q290
            go_wp2_with (first | ((with_reducible refine gate_callee (f := 17) rfl ?_); refine goesL_ (some 107) rfl rfl Tryz.func17 (by kernel_rfl) rfl #[.string (rdOf ByteArray.empty t276 x16_3)] rfl (by (try simp only [List.map_toArray, List.map_cons, List.map_nil]); first | done | rfl | (simp only [List.length_drop, List.length_take]; rfl)) ?_; (with_reducible refine (sennitref11_Run.calls k3 (rdOf ByteArray.empty t276 x16_3) t291 _ A29.out).mono ?_); rintro e w' ⟨rfl, ⟨nd, rfl⟩⟩; refine ⟨_, rfl, ?_⟩))
            go_roundg k3
            case measure => have := HJ7.out; have := HK2.out; have := HK3.out; omega
            case rel => exact ⟨(x15_3), (wrap64 (x16_3 + 1)), (by first | rfl | (simp; done) | (simp [*]; done)), (by first | rfl | (simp; done) | (simp [*]; done)), H', ⟨by have := HJ7.out; have := HK2.out; have := HK3.out; omega⟩, ⟨by (with_reducible repeat (first | apply Kd.V_alloc | apply Kd.V_drewN | apply Kd.V_drew)); exact HO_8.out⟩, ⟨by repeat (first | (with_reducible first | exact HB.out | apply below_alloc | apply pw_below_drewN | apply below_drew1) | exact HB.out)⟩⟩
          ·rw [if_neg c28] at H
           exact absurd H (by simp)
         ·rw [if_neg c27] at H
          have c27b0 : decide (x16_3 < (t276.length : Int)) = false := decide_eq_false c27
          clear c27
          by_cases c33 : t274 = true
          ·subst c33
           have H1 : (if t279 = 0 then ((sennitref01_May.f k3 t276).bind fun t292 => (if t292 = true then (if x15_3 = x11_2 then (some ((t276.length : Int) == (wrap64 (x10_2 + x11_2)))) else (some false)) else (some false))) else (some false)) = some r := by rw [if_pos rfl] at H; exact H
           clear H
           have H := H1
           clear H1
           by_cases c34 : t279 = 0
           ·rw [if_pos c34] at H
            have c34b0 : (t279 == 0) = true := beq_iff_eq.mpr c34
            have c34b1 : (t279 != 0) = false := bne_eq_false_iff_eq.mpr c34
            clear c34
            replace H := Option.bind_eq_some_iff.mp H
            obtain ⟨t292, A350, H⟩ := H
            replace H : (if t292 = true then (if x15_3 = x11_2 then (some ((t276.length : Int) == (wrap64 (x10_2 + x11_2)))) else (some false)) else (some false)) = some r := H
            have A35 := Aside0.mk A350
            clear A350
            by_cases c36 : t292 = true
            ·subst c36
             have H1 : (if x15_3 = x11_2 then (some ((t276.length : Int) == (wrap64 (x10_2 + x11_2)))) else (some false)) = some r := by rw [if_pos rfl] at H; exact H
             clear H
             have H := H1
             clear H1
             by_cases c37 : x15_3 = x11_2
             ·rw [if_pos c37] at H
              have c37b0 : (x15_3 == x11_2) = true := beq_iff_eq.mpr c37
              have c37b1 : (x15_3 != x11_2) = false := bne_eq_false_iff_eq.mpr c37
              clear c37
              obtain rfl := Option.some.inj H
              obtain ⟨Ao38, co38, eo38⟩ := Kd.V_slice HO_8.out
              subst eo38
              go_wp2_with (first | (go_at_call 18; (with_reducible refine (sennitref01_May.calls k3 _ _ t276 true _ ?side1 ?side2 A35.out).mono ?_); (case side1 => repeat (first | exact (Kd.V_reads' HO_8.out).2.2 | (with_reducible refine Kd.C_alloc ?_ _) | (with_reducible refine Kd.C_drewN ?_ _) | (with_reducible refine Kd.C_drew ?_))); (case side2 => exact (Kd.V_reads' HO_8.out).2.1); rintro e w' ⟨rfl, ⟨nd, rfl⟩⟩))
              go_ret
              exact ⟨by first | rfl | (simp [errW_none, errW_some] <;> rfl) | (simp [*, errW_none, errW_some] <;> rfl), by repeat (first | (with_reducible first | exact HB.out | apply below_alloc | apply pw_below_drewN | apply below_drew1) | exact HB.out)⟩
             ·rw [if_neg c37] at H
              have c37b0 : (x15_3 == x11_2) = false := beq_eq_false_iff_ne.mpr c37
              have c37b1 : (x15_3 != x11_2) = true := bne_iff_ne.mpr c37
              obtain rfl := Option.some.inj H
              obtain ⟨Ao39, co39, eo39⟩ := Kd.V_slice HO_8.out
              subst eo39
              go_wp2_with (first | (go_at_call 18; (with_reducible refine (sennitref01_May.calls k3 _ _ t276 true _ ?side1 ?side2 A35.out).mono ?_); (case side1 => repeat (first | exact (Kd.V_reads' HO_8.out).2.2 | (with_reducible refine Kd.C_alloc ?_ _) | (with_reducible refine Kd.C_drewN ?_ _) | (with_reducible refine Kd.C_drew ?_))); (case side2 => exact (Kd.V_reads' HO_8.out).2.1); rintro e w' ⟨rfl, ⟨nd, rfl⟩⟩))
              go_ret
              exact ⟨by first | rfl | (simp [errW_none, errW_some] <;> rfl) | (simp [*, errW_none, errW_some] <;> rfl), by repeat (first | (with_reducible first | exact HB.out | apply below_alloc | apply pw_below_drewN | apply below_drew1) | exact HB.out)⟩
            ·replace c36 := Bool.eq_false_iff.mpr c36
             subst c36
             have H1 : (some false) = some r := by rw [if_neg (show ¬ (false = true) by decide)] at H; exact H
             clear H
             have H := H1
             clear H1
             obtain rfl := Option.some.inj H
             obtain ⟨Ao40, co40, eo40⟩ := Kd.V_slice HO_8.out
             subst eo40
             go_wp2_with (first | (go_at_call 18; (with_reducible refine (sennitref01_May.calls k3 _ _ t276 false _ ?side1 ?side2 A35.out).mono ?_); (case side1 => repeat (first | exact (Kd.V_reads' HO_8.out).2.2 | (with_reducible refine Kd.C_alloc ?_ _) | (with_reducible refine Kd.C_drewN ?_ _) | (with_reducible refine Kd.C_drew ?_))); (case side2 => exact (Kd.V_reads' HO_8.out).2.1); rintro e w' ⟨rfl, ⟨nd, rfl⟩⟩))
             go_ret
             exact ⟨by first | rfl | (simp [errW_none, errW_some] <;> rfl) | (simp [*, errW_none, errW_some] <;> rfl), by repeat (first | (with_reducible first | exact HB.out | apply below_alloc | apply pw_below_drewN | apply below_drew1) | exact HB.out)⟩
           ·rw [if_neg c34] at H
            have c34b0 : (t279 == 0) = false := beq_eq_false_iff_ne.mpr c34
            have c34b1 : (t279 != 0) = true := bne_iff_ne.mpr c34
            obtain rfl := Option.some.inj H
            obtain ⟨Ao41, co41, eo41⟩ := Kd.V_slice HO_8.out
            subst eo41
            go_wp2
            go_ret
            exact ⟨by first | rfl | (simp [errW_none, errW_some] <;> rfl) | (simp [*, errW_none, errW_some] <;> rfl), by repeat (first | (with_reducible first | exact HB.out | apply below_alloc | apply pw_below_drewN | apply below_drew1) | exact HB.out)⟩
          ·replace c33 := Bool.eq_false_iff.mpr c33
           subst c33
           have H1 : (some false) = some r := by rw [if_neg (show ¬ (false = true) by decide)] at H; exact H
           clear H
           have H := H1
           clear H1
           obtain rfl := Option.some.inj H
           obtain ⟨Ao42, co42, eo42⟩ := Kd.V_slice HO_8.out
           subst eo42
           go_wp2
           go_ret
           exact ⟨by first | rfl | (simp [errW_none, errW_some] <;> rfl) | (simp [*, errW_none, errW_some] <;> rfl), by repeat (first | (with_reducible first | exact HB.out | apply below_alloc | apply pw_below_drewN | apply below_drew1) | exact HB.out)⟩
 ·replace c6 := Bool.eq_false_iff.mpr c6
  subst c6
  have H1 : (some t274) = some r := by rw [if_neg (show ¬ (false = true) by decide)] at H; exact H
  clear H
  have H := H1
  clear H1
  obtain rfl := Option.some.inj H
  go_enter Tryz.func4, Tryz.ntmps4
  go_wp2_with (first | ((with_reducible refine gate_callee (f := 10) rfl ?_); refine goesL_ (some 17) rfl rfl Tryz.func10 (by kernel_rfl) rfl #[] rfl (by (try simp only [List.map_toArray, List.map_cons, List.map_nil]); first | done | rfl | (simp only [List.length_drop, List.length_take]; rfl)) ?_; (with_reducible refine (sennitlaw12_awake.calls  t274 _ A4.out).mono ?_); rintro e w43 ⟨rfl, hb⟩; refine ⟨_, rfl, ?_⟩; have n0_ := Aside0.mk (Kd.V_below (by (with_reducible repeat (first | apply Kd.V_alloc | apply Kd.V_drewN | apply Kd.V_drew)); exact HO0.out) hb); have n1_ := Aside0.mk (below_step (by repeat (first | (with_reducible first | exact HB.out | apply below_alloc | apply pw_below_drewN | apply below_drew1) | exact HB.out)) hb); clear HO0; clear HB; have HO0 := n0_; have HB := n1_; clear n0_ n1_; (try clear hb); (try clear hb2); (try clear hk); (try clear hi)) | ((with_reducible refine gate_callee (f := 15) rfl ?_); refine goesL_ (some 21) rfl rfl Tryz.func15 (by kernel_rfl) rfl #[.slice A0 l0.length c0, .int .i64 a1, .int .i64 a2] rfl (by (try simp only [List.map_toArray, List.map_cons, List.map_nil]); first | done | rfl | (simp only [List.length_drop, List.length_take]; rfl)) ?_; (with_reducible refine (sennitref12_May.calls k _ _ l0 a1 a2 false _ ?side1 ?side2 A5.out).mono ?_); (case side1 => repeat (first | exact (Kd.V_reads' HO0.out).2.2 | (with_reducible refine Kd.C_alloc ?_ _) | (with_reducible refine Kd.C_drewN ?_ _) | (with_reducible refine Kd.C_drew ?_))); (case side2 => exact (Kd.V_reads' HO0.out).2.1); rintro e w44 ⟨rfl, hb⟩; refine ⟨_, rfl, ?_⟩; have n0_ := Aside0.mk (Kd.V_below (by (with_reducible repeat (first | apply Kd.V_alloc | apply Kd.V_drewN | apply Kd.V_drew)); exact HO0.out) hb); have n1_ := Aside0.mk (below_step (by repeat (first | (with_reducible first | exact HB.out | apply below_alloc | apply pw_below_drewN | apply below_drew1) | exact HB.out)) hb); clear HO0; clear HB; have HO0 := n0_; have HB := n1_; clear n0_ n1_; (try clear hb); (try clear hb2); (try clear hk); (try clear hi)))
  go_ret
  exact ⟨by first | rfl | (simp [errW_none, errW_some] <;> rfl) | (simp [*, errW_none, errW_some] <;> rfl), by repeat (first | (with_reducible first | exact HB.out | apply below_alloc | apply pw_below_drewN | apply below_drew1) | exact HB.out)⟩

end Go.Proofs.YtcnjbmdnnhbfkaaGreatDoor.XD
