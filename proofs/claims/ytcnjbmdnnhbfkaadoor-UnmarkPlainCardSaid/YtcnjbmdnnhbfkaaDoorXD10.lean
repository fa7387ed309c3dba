-- Printed by this session's xprint.sh (a patched copy of the kit's print program). Not trusted: Lean checks it.
import Derived.Test.YtcnjbmdnnhbfkaaDoorXD0
import Derived.Test.YtcnjbmdnnhbfkaaDoorXD1
import Derived.Test.YtcnjbmdnnhbfkaaDoorXD4
import Derived.Test.YtcnjbmdnnhbfkaaDoorXD7
import Derived.Test.YtcnjbmdnnhbfkaaDoorXD8
import Derived.Test.YtcnjbmdnnhbfkaaDoorXD9
import Derived.Test.YtcnjbmdnnhbfkaaDoorUnmark5
namespace Go.Proofs.YtcnjbmdnnhbfkaaDoor.XD
open Go.RowKit Go.Proofs.YtcnjbmdnnhbfkaaDoor.Unmark Go.Proofs.YtcnjbmdnnhbfkaaDoorW.PrintWords Go.Proofs.YtcnjbmdnnhbfkaaDoorW.PrintLast Go.Proofs.YtcnjbmdnnhbfkaaDoorW.PrintMore
attribute [local go_sem] max2_int min2_int max_two min_two max_three min_three max_four min_four   -- for this text's walks alone
set_option linter.unusedVariables false
set_option linter.unusedSimpArgs false

/-! ### sennitlaw13_UnmarkPlain: function 4 -/
mutual
def sennitlaw13_UnmarkPlain.j0 : Nat → List ByteArray → Bool → Int → Bool → Option (Bool)
 | 0, _, _, _, _ => none
 | k + 1, x0, x5, x6, x37 => if x37 = true then (some x5) else ((unmark_Parse.f x0 x6).bind fun bt271 => ((sennitref07_Normal.f k (([(⟨false, x0, ([] : List ByteArray), ([] : List (List ByteArray))⟩ : S37)] : List (S37)))).bind fun t280 => ((sennitref12_Mark.f k (⟨#[60]⟩ : ByteArray) x6 ([] : List ByteArray) (⟨#[32, 49]⟩ : ByteArray)).bind fun t283 => ((some (([t283] : List ByteArray) : List ByteArray)).bind fun y284 => (if y284.length + x0.length < 8796093022208 then ((some (y284 ++ x0 : List ByteArray)).bind fun y287 => ((unmark_Parse.f y287 x6).bind fun bt290 => ((sennitref01_Open.f x0).bind fun t296 => (if t296 = true then (sennitlaw13_UnmarkPlain.j1 k x5 bt271.1 bt271.2.1 bt271.2.2.2 t280 bt290.2.2.1 bt290.2.2.2 (wrap64 ((wrap64 ((y287.length : Int) + 1)) - 1))) else (sennitlaw13_UnmarkPlain.j1 k x5 bt271.1 bt271.2.1 bt271.2.2.2 t280 bt290.2.2.1 bt290.2.2.2 (wrap64 ((y287.length : Int) + 1))))))) else (none))))))
def sennitlaw13_UnmarkPlain.j1 : Nat → Bool → List (S37) → Int → Int → List (S37) → Int → Int → Int → Option (Bool)
 | 0, _, _, _, _, _, _, _, _ => none
 | k + 1, x5, x7, x8, x10, x11, x15, x16, x17 => if x5 = true then (if x10 = 0 then (if x8 = 1 then ((sennitref07_Same.f k x7 x11).bind fun t297 => (if t297 = true then (if x16 = 2 then (some (x15 == x17)) else (some false)) else (some false))) else (some false)) else (some false)) else (some false)
end
def sennitlaw13_UnmarkPlain.f (k : Nat) (l0 : List ByteArray) (a1 : Int) : Option (Bool) := (sennitlaw13_awake.f).bind fun t264 => ((sennitref01_Few.f k l0 30).bind fun t265 => (if t265 = true then ((sennitref01_May.f k l0).bind fun t266 => (if t266 = true then ((sennitref11_Fits.f k (wrap64 (1 + (Int.tmod (wrap64 (a1)) 40))) (([l0] : List (List ByteArray)))).bind fun t270 => (sennitlaw13_UnmarkPlain.j0 k l0 t264 (wrap64 (1 + (Int.tmod (wrap64 (a1)) 40))) (!t270))) else (sennitlaw13_UnmarkPlain.j0 k l0 t264 (wrap64 (1 + (Int.tmod (wrap64 (a1)) 40))) true))) else (sennitlaw13_UnmarkPlain.j0 k l0 t264 (wrap64 (1 + (Int.tmod (wrap64 (a1)) 40))) true)))
theorem sennitlaw13_UnmarkPlain.mono_l : ∀ k, (∀ y0 y1 y2 y3, LeO (sennitlaw13_UnmarkPlain.j0 k y0 y1 y2 y3) (sennitlaw13_UnmarkPlain.j0 (k + 1) y0 y1 y2 y3)) ∧ (∀ y0 y1 y2 y3 y4 y5 y6 y7, LeO (sennitlaw13_UnmarkPlain.j1 k y0 y1 y2 y3 y4 y5 y6 y7) (sennitlaw13_UnmarkPlain.j1 (k + 1) y0 y1 y2 y3 y4 y5 y6 y7))
 | 0 => ⟨fun _ _ _ _ r h => by simp [sennitlaw13_UnmarkPlain.j0] at h, fun _ _ _ _ _ _ _ _ r h => by simp [sennitlaw13_UnmarkPlain.j1] at h⟩
 | k + 1 => by
  obtain ⟨ih0, ih1⟩ := sennitlaw13_UnmarkPlain.mono_l k
  refine ⟨?_, ?_⟩
  ·intro y0 y1 y2 y3
   unfold sennitlaw13_UnmarkPlain.j0
   repeat' first
   | (with_reducible exact ih0 _ _ _ _)
   | (with_reducible exact ih1 _ _ _ _ _ _ _ _)
   | (with_reducible exact sennitref01_Few.mono _ _ _)
   | (with_reducible exact sennitref01_May.mono _ _)
   | (with_reducible exact sennitref07_Normal.mono _ _)
   | (with_reducible exact sennitref07_Same.mono _ _ _)
   | (with_reducible exact sennitref11_Fits.mono _ _ _)
   | (with_reducible exact sennitref12_Mark.mono _ _ _ _ _)
   | (with_reducible exact LeO.refl _)
   | (with_reducible exact LeO.none _)
   | (with_reducible refine LeO.ite ?_ ?_)
   | (with_reducible refine LeO.bind ?_ (fun _ => ?_))
   | exact ih0 _ _ _ _
   | exact ih1 _ _ _ _ _ _ _ _
   | exact sennitref01_Few.mono _ _ _
   | exact sennitref01_May.mono _ _
   | exact sennitref07_Normal.mono _ _
   | exact sennitref07_Same.mono _ _ _
   | exact sennitref11_Fits.mono _ _ _
   | exact sennitref12_Mark.mono _ _ _ _ _
   | exact LeO.none _
   | refine LeO.ite ?_ ?_
   | refine LeO.bind ?_ (fun _ => ?_)
  ·intro y0 y1 y2 y3 y4 y5 y6 y7
   unfold sennitlaw13_UnmarkPlain.j1
   repeat' first
   | (with_reducible exact ih0 _ _ _ _)
   | (with_reducible exact ih1 _ _ _ _ _ _ _ _)
   | (with_reducible exact sennitref01_Few.mono _ _ _)
   | (with_reducible exact sennitref01_May.mono _ _)
   | (with_reducible exact sennitref07_Normal.mono _ _)
   | (with_reducible exact sennitref07_Same.mono _ _ _)
   | (with_reducible exact sennitref11_Fits.mono _ _ _)
   | (with_reducible exact sennitref12_Mark.mono _ _ _ _ _)
   | (with_reducible exact LeO.refl _)
   | (with_reducible exact LeO.none _)
   | (with_reducible refine LeO.ite ?_ ?_)
   | (with_reducible refine LeO.bind ?_ (fun _ => ?_))
   | exact ih0 _ _ _ _
   | exact ih1 _ _ _ _ _ _ _ _
   | exact sennitref01_Few.mono _ _ _
   | exact sennitref01_May.mono _ _
   | exact sennitref07_Normal.mono _ _
   | exact sennitref07_Same.mono _ _ _
   | exact sennitref11_Fits.mono _ _ _
   | exact sennitref12_Mark.mono _ _ _ _ _
   | exact LeO.none _
   | refine LeO.ite ?_ ?_
   | refine LeO.bind ?_ (fun _ => ?_)
theorem sennitlaw13_UnmarkPlain.mono : ∀ a0 a1 k, LeO (sennitlaw13_UnmarkPlain.f k a0 a1) (sennitlaw13_UnmarkPlain.f (k + 1) a0 a1) := by
 intro a0 a1 k
 obtain ⟨ih0, ih1⟩ := sennitlaw13_UnmarkPlain.mono_l k
 unfold sennitlaw13_UnmarkPlain.f
 repeat' first
   | (with_reducible exact ih0 _ _ _ _)
   | (with_reducible exact ih1 _ _ _ _ _ _ _ _)
   | (with_reducible exact sennitref01_Few.mono _ _ _)
   | (with_reducible exact sennitref01_May.mono _ _)
   | (with_reducible exact sennitref07_Normal.mono _ _)
   | (with_reducible exact sennitref07_Same.mono _ _ _)
   | (with_reducible exact sennitref11_Fits.mono _ _ _)
   | (with_reducible exact sennitref12_Mark.mono _ _ _ _ _)
   | (with_reducible exact LeO.refl _)
   | (with_reducible exact LeO.none _)
   | (with_reducible refine LeO.ite ?_ ?_)
   | (with_reducible refine LeO.bind ?_ (fun _ => ?_))
   | exact ih0 _ _ _ _
   | exact ih1 _ _ _ _ _ _ _ _
   | exact sennitref01_Few.mono _ _ _
   | exact sennitref01_May.mono _ _
   | exact sennitref07_Normal.mono _ _
   | exact sennitref07_Same.mono _ _ _
   | exact sennitref11_Fits.mono _ _ _
   | exact sennitref12_Mark.mono _ _ _ _ _
   | exact LeO.none _
   | refine LeO.ite ?_ ?_
   | refine LeO.bind ?_ (fun _ => ?_)
set_option maxHeartbeats 8000000 in
set_option maxRecDepth 100000 in
theorem sennitlaw13_UnmarkPlain.calls (k : Nat) (P0_ : Nat → Prop) (A0 : Option Addr) (c0 : Nat) (l0 : List ByteArray) (a1 : Int) (r : Bool) (w : World) (hs0 : Kd.V Kd.string 9 w w.heap.size (fun k_ => P0_ k_) (.slice A0 l0.length c0) l0) (h : sennitlaw13_UnmarkPlain.f k l0 a1 = some r) :
  Calls Tryd.prog 4 #[.slice A0 l0.length c0, .int .u8 a1] w fun e w' => e = .returned (.bool r) ∧ Below w.heap.size w w' := by
 have hu37 := Tryd.underlying37
 have HO0 := Aside0.mk (show Kd.V Kd.string 9 w w.heap.size (fun k_ => (P0_ k_ ∨ w.heap.size ≤ k_)) (.slice A0 l0.length c0) l0 from Kd.V_mono hs0 (fun k_ hk => .inl hk))
 have HB := Aside0.mk (Below.refl w.heap.size w)
 have H : ((sennitlaw13_awake.f).bind fun t264 => ((sennitref01_Few.f k l0 30).bind fun t265 => (if t265 = true then ((sennitref01_May.f k l0).bind fun t266 => (if t266 = true then ((sennitref11_Fits.f k (wrap64 (1 + (Int.tmod (wrap64 (a1)) 40))) (([l0] : List (List ByteArray)))).bind fun t270 => (sennitlaw13_UnmarkPlain.j0 k l0 t264 (wrap64 (1 + (Int.tmod (wrap64 (a1)) 40))) (!t270))) else (sennitlaw13_UnmarkPlain.j0 k l0 t264 (wrap64 (1 + (Int.tmod (wrap64 (a1)) 40))) true))) else (sennitlaw13_UnmarkPlain.j0 k l0 t264 (wrap64 (1 + (Int.tmod (wrap64 (a1)) 40))) true)))) = some r := h
 clear h
 replace H := Option.bind_eq_some_iff.mp H
 obtain ⟨t264, A30, H⟩ := H
 replace H : ((sennitref01_Few.f k l0 30).bind fun t265 => (if t265 = true then ((sennitref01_May.f k l0).bind fun t266 => (if t266 = true then ((sennitref11_Fits.f k (wrap64 (1 + (Int.tmod (wrap64 (a1)) 40))) (([l0] : List (List ByteArray)))).bind fun t270 => (sennitlaw13_UnmarkPlain.j0 k l0 t264 (wrap64 (1 + (Int.tmod (wrap64 (a1)) 40))) (!t270))) else (sennitlaw13_UnmarkPlain.j0 k l0 t264 (wrap64 (1 + (Int.tmod (wrap64 (a1)) 40))) true))) else (sennitlaw13_UnmarkPlain.j0 k l0 t264 (wrap64 (1 + (Int.tmod (wrap64 (a1)) 40))) true))) = some r := H
 have A3 := Aside0.mk A30
 clear A30
 have HC4 := Aside0.mk H
 clear H
 go_enter Tryd.func4, Tryd.ntmps4
 go_upto_region 3 with (first | ((with_reducible refine gate_callee (f := 7) rfl ?_); refine goesL_ (some 18) rfl rfl Tryd.func7 (by kernel_rfl) rfl #[] rfl (by (try simp only [List.map_toArray, List.map_cons, List.map_nil]); first | done | rfl | (simp only [List.length_drop, List.length_take]; rfl)) ?_; (with_reducible refine (sennitlaw13_awake.calls  t264 _ A3.out).mono ?_); rintro e w5 ⟨rfl, hb⟩; refine ⟨_, rfl, ?_⟩; have n0_ := Aside0.mk (Kd.V_below (by (with_reducible repeat (first | apply Kd.V_alloc | apply Kd.V_drewN | apply Kd.V_drew)); exact HO0.out) hb); have n1_ := Aside0.mk (below_step (by repeat (first | (with_reducible first | exact HB.out | apply below_alloc | apply pw_below_drewN | apply below_drew1) | exact HB.out)) hb); clear HO0; clear HB; have HO0 := n0_; have HB := n1_; clear n0_ n1_; (try clear hb); (try clear hb2); (try clear hk); (try clear hi)))
 (try simp only [Act.put, List.setIfInBounds_toArray, List.set_cons_zero, List.set_cons_succ])
 go_cut [37] (fun v37 wc => ∃ (kq : Nat) (x37_3 : Bool), v37 = .bool x37_3 ∧ Aside0 (sennitlaw13_UnmarkPlain.j0 kq l0 t264 (wrap64 (1 + (Int.tmod (wrap64 (a1)) 40))) x37_3 = some r) ∧ Aside0 (kq ≤ k) ∧ Aside0 (Kd.V Kd.string 9 wc w.heap.size (fun k_ => (P0_ k_ ∨ w.heap.size ≤ k_)) (.slice A0 l0.length c0) l0) ∧ Aside0 (Below w.heap.size w wc))
 case first =>
  have H := HC4.out
  clear HC4
  replace H := Option.bind_eq_some_iff.mp H
  obtain ⟨t265, A60, H⟩ := H
  replace H : (if t265 = true then ((sennitref01_May.f k l0).bind fun t266 => (if t266 = true then ((sennitref11_Fits.f k (wrap64 (1 + (Int.tmod (wrap64 (a1)) 40))) (([l0] : List (List ByteArray)))).bind fun t270 => (sennitlaw13_UnmarkPlain.j0 k l0 t264 (wrap64 (1 + (Int.tmod (wrap64 (a1)) 40))) (!t270))) else (sennitlaw13_UnmarkPlain.j0 k l0 t264 (wrap64 (1 + (Int.tmod (wrap64 (a1)) 40))) true))) else (sennitlaw13_UnmarkPlain.j0 k l0 t264 (wrap64 (1 + (Int.tmod (wrap64 (a1)) 40))) true)) = some r := H
  have A6 := Aside0.mk A60
  clear A60
  by_cases c7 : t265 = true
  ·subst c7
   have H1 : ((sennitref01_May.f k l0).bind fun t266 => (if t266 = true then ((sennitref11_Fits.f k (wrap64 (1 + (Int.tmod (wrap64 (a1)) 40))) (([l0] : List (List ByteArray)))).bind fun t270 => (sennitlaw13_UnmarkPlain.j0 k l0 t264 (wrap64 (1 + (Int.tmod (wrap64 (a1)) 40))) (!t270))) else (sennitlaw13_UnmarkPlain.j0 k l0 t264 (wrap64 (1 + (Int.tmod (wrap64 (a1)) 40))) true))) = some r := by rw [if_pos rfl] at H; exact H
   clear H
   have H := H1
   clear H1
   replace H := Option.bind_eq_some_iff.mp H
   obtain ⟨t266, A80, H⟩ := H
   replace H : (if t266 = true then ((sennitref11_Fits.f k (wrap64 (1 + (Int.tmod (wrap64 (a1)) 40))) (([l0] : List (List ByteArray)))).bind fun t270 => (sennitlaw13_UnmarkPlain.j0 k l0 t264 (wrap64 (1 + (Int.tmod (wrap64 (a1)) 40))) (!t270))) else (sennitlaw13_UnmarkPlain.j0 k l0 t264 (wrap64 (1 + (Int.tmod (wrap64 (a1)) 40))) true)) = some r := H
   have A8 := Aside0.mk A80
   clear A80
   by_cases c9 : t266 = true
   ·subst c9
    have H1 : ((sennitref11_Fits.f k (wrap64 (1 + (Int.tmod (wrap64 (a1)) 40))) (([l0] : List (List ByteArray)))).bind fun t270 => (sennitlaw13_UnmarkPlain.j0 k l0 t264 (wrap64 (1 + (Int.tmod (wrap64 (a1)) 40))) (!t270))) = some r := by rw [if_pos rfl] at H; exact H
    clear H
    have H := H1
    clear H1
    obtain ⟨y267, hy267⟩ : ∃ y_ : List (List ByteArray), y_ = (([l0] : List (List ByteArray))) := ⟨_, rfl⟩
    replace H : ((sennitref11_Fits.f k (wrap64 (1 + (Int.tmod (wrap64 (a1)) 40))) y267).bind fun t270 => (sennitlaw13_UnmarkPlain.j0 k l0 t264 (wrap64 (1 + (Int.tmod (wrap64 (a1)) 40))) (!t270))) = some r := by first | (rw [hy267]; with_reducible exact H) | (have H2_ := (Option.bind_some _ _).symm.trans H; rw [hy267]; with_reducible exact H2_) | (have H2_ := (Option.bind_some _ _).symm.trans H; with_reducible exact H2_) | with_reducible exact H | (rw [hy267]; exact H) | exact H
    have Ny267 := Aside0.mk hy267
    clear hy267
    replace H := Option.bind_eq_some_iff.mp H
    obtain ⟨t270, A100, H⟩ := H
    replace H : (sennitlaw13_UnmarkPlain.j0 k l0 t264 (wrap64 (1 + (Int.tmod (wrap64 (a1)) 40))) (!t270)) = some r := H
    have A10 := Aside0.mk A100
    clear A100
    have H' := Aside0.mk H
    clear H
    go_wp2_with (first | ((with_reducible refine gate_callee (f := 8) rfl ?_); refine goesL_ (some 24) rfl rfl Tryd.func8 (by kernel_rfl) rfl #[.slice A0 l0.length c0, .int .i64 30] rfl (by (try simp only [List.map_toArray, List.map_cons, List.map_nil]); first | done | rfl | (simp only [List.length_drop, List.length_take]; rfl)) ?_; (with_reducible refine (sennitref01_Few.calls k _ _ l0 30 true _ ?side1 ?side2 A6.out).mono ?_); (case side1 => repeat (first | exact (Kd.V_reads' HO0.out).2.2 | (with_reducible refine Kd.C_alloc ?_ _) | (with_reducible refine Kd.C_drewN ?_ _) | (with_reducible refine Kd.C_drew ?_))); (case side2 => exact (Kd.V_reads' HO0.out).2.1); rintro e w' ⟨rfl, ⟨nd, rfl⟩⟩; refine ⟨_, rfl, ?_⟩) | (go_at_call 12; (with_reducible refine (sennitref01_May.calls k _ _ l0 true _ ?side1 ?side2 A8.out).mono ?_); (case side1 => repeat (first | exact (Kd.V_reads' HO0.out).2.2 | (with_reducible refine Kd.C_alloc ?_ _) | (with_reducible refine Kd.C_drewN ?_ _) | (with_reducible refine Kd.C_drew ?_))); (case side2 => exact (Kd.V_reads' HO0.out).2.1); rintro e w' ⟨rfl, ⟨nd, rfl⟩⟩) | ((with_reducible refine gate_dst (N := 34) rfl ?_); (try (refine gate_guard (by rfl) ?_; dsimp only)); refine Kd.N_lit (Kd.slice 9 Kd.string) _ 22 ?hg (N' := 34) ?hd (xs := ([l0] : List (List ByteArray))) (inner := [.slice A0 l0.length c0]) (ok := (fun k_ => (P0_ k_ ∨ w.heap.size ≤ k_))) (okp := (fun k_ => (P0_ k_ ∨ w.heap.size ≤ k_))) ?hr ?hp (fun _ hk => hk) ((show ∀ k_, w5.heap.size ≤ k_ → (fun k_ => (P0_ k_ ∨ w.heap.size ≤ k_)) k_ from fun k_ hk => (.inr (Nat.le_trans (below_size (by repeat (first | (with_reducible first | exact HB.out | apply below_alloc | apply pw_below_drewN | apply below_drew1) | exact HB.out))) hk))) _ (Nat.le_refl _)) (Below.refl _ _) (Nat.le_refl _) (by simp) ?_; (case hd => rfl); (case hg => rfl); (case hr => first | (go_simp; done) | (go_simp; rfl)); (case hp => first | exact (Reps.one (show Kd.FK (Kd.slice 9 Kd.string) _ _ l0 [.slice A0 l0.length c0] from (Kd.FK_slice_mk (Kd.V_reads' (Kd.V_mono (ok' := (fun k_ => (P0_ k_ ∨ w.heap.size ≤ k_))) (HO0.out) (fun k_ hk => hk))).2.1 (Kd.V_F (Kd.V_mono (ok' := (fun k_ => (P0_ k_ ∨ w.heap.size ≤ k_))) (HO0.out) (fun k_ hk => hk))))) (Reps.none _ _)) | exact (Reps.one (show Kd.FK (Kd.slice 9 Kd.string) _ _ l0 [.slice A0 l0.length c0] from (Kd.FK_slice_mk (Kd.V_reads' (Kd.V_mono (ok' := (fun k_ => (P0_ k_ ∨ w.heap.size ≤ k_))) (HO0.out) (fun k_ hk => hk))).2.1 (Kd.V_F (Kd.V_mono (ok' := (fun k_ => (P0_ k_ ∨ w.heap.size ≤ k_))) (by (with_reducible repeat (first | apply Kd.V_alloc | apply Kd.V_drewN | apply Kd.V_drew)); exact HO0.out) (fun k_ hk => hk))))) (Reps.none _ _))); intro v268 w11 ho12 hb hg_ hnew_; clear hg_ hnew_; (first | rw [← Ny267.out] at ho12 | (simp only [Int.reduceToNat] at ho12; rw [← Ny267.out] at ho12)); have n0_ := Aside0.mk (Kd.V_elder' (by (with_reducible repeat (first | apply Kd.V_alloc | apply Kd.V_drewN | apply Kd.V_drew)); exact HO0.out) (Kd.N_base ho12) hb); have n1_ := Aside0.mk (Kd.N_lower ho12 (below_size (by repeat (first | (with_reducible first | exact HB.out | apply below_alloc | apply pw_below_drewN | apply below_drew1) | exact HB.out)))); have n2_ := Aside0.mk (below_step (by repeat (first | (with_reducible first | exact HB.out | apply below_alloc | apply pw_below_drewN | apply below_drew1) | exact HB.out)) hb); clear HO0; clear HB; have HO0 := n0_; have HO269 := n1_; have HB := n2_; clear n0_ n1_ n2_; clear hb ho12; obtain ⟨Ao13, co13, eo13⟩ := Kd.N_slice HO269.out; subst eo13) | (go_at_call 13; (with_reducible refine (sennitref11_Fits.calls k (wrap64 (1 + (Int.tmod (wrap64 (a1)) 40))) _ _ y267 t270 _ ?side1 ?side2 A10.out).mono ?_); (case side1 => repeat (first | exact (Kd.N_reads' HO269.out).2.2 | (with_reducible refine Kd.C_alloc ?_ _) | (with_reducible refine Kd.C_drewN ?_ _) | (with_reducible refine Kd.C_drew ?_))); (case side2 => exact (Kd.N_reads' HO269.out).2.1); rintro e w' ⟨rfl, ⟨nd, rfl⟩⟩))
    go_meet
    case rel => exact ⟨_, (!t270), (by first | rfl | (simp; done) | (simp [*]; done)), H', ⟨by first | omega | exact Nat.le_refl _⟩, ⟨by (with_reducible repeat (first | apply Kd.V_alloc | apply Kd.V_drewN | apply Kd.V_drew)); exact Kd.V_mono HO0.out (fun _ hk => hk.1)⟩, ⟨by repeat (first | (with_reducible first | exact HB.out | apply below_alloc | apply pw_below_drewN | apply below_drew1) | exact HB.out)⟩⟩
   ·replace c9 := Bool.eq_false_iff.mpr c9
    subst c9
    have H1 : (sennitlaw13_UnmarkPlain.j0 k l0 t264 (wrap64 (1 + (Int.tmod (wrap64 (a1)) 40))) true) = some r := by rw [if_neg (show ¬ (false = true) by decide)] at H; exact H
    clear H
    have H := H1
    clear H1
    have H' := Aside0.mk H
    clear H
    go_wp2_with (first | ((with_reducible refine gate_callee (f := 8) rfl ?_); refine goesL_ (some 24) rfl rfl Tryd.func8 (by kernel_rfl) rfl #[.slice A0 l0.length c0, .int .i64 30] rfl (by (try simp only [List.map_toArray, List.map_cons, List.map_nil]); first | done | rfl | (simp only [List.length_drop, List.length_take]; rfl)) ?_; (with_reducible refine (sennitref01_Few.calls k _ _ l0 30 true _ ?side1 ?side2 A6.out).mono ?_); (case side1 => repeat (first | exact (Kd.V_reads' HO0.out).2.2 | (with_reducible refine Kd.C_alloc ?_ _) | (with_reducible refine Kd.C_drewN ?_ _) | (with_reducible refine Kd.C_drew ?_))); (case side2 => exact (Kd.V_reads' HO0.out).2.1); rintro e w' ⟨rfl, ⟨nd, rfl⟩⟩; refine ⟨_, rfl, ?_⟩) | (go_at_call 12; (with_reducible refine (sennitref01_May.calls k _ _ l0 false _ ?side1 ?side2 A8.out).mono ?_); (case side1 => repeat (first | exact (Kd.V_reads' HO0.out).2.2 | (with_reducible refine Kd.C_alloc ?_ _) | (with_reducible refine Kd.C_drewN ?_ _) | (with_reducible refine Kd.C_drew ?_))); (case side2 => exact (Kd.V_reads' HO0.out).2.1); rintro e w' ⟨rfl, ⟨nd, rfl⟩⟩))
    go_meet
    case rel => exact ⟨_, (true), (by first | rfl | (simp; done) | (simp [*]; done)), H', ⟨by first | omega | exact Nat.le_refl _⟩, ⟨by (with_reducible repeat (first | apply Kd.V_alloc | apply Kd.V_drewN | apply Kd.V_drew)); exact HO0.out⟩, ⟨by repeat (first | (with_reducible first | exact HB.out | apply below_alloc | apply pw_below_drewN | apply below_drew1) | exact HB.out)⟩⟩
  ·replace c7 := Bool.eq_false_iff.mpr c7
   subst c7
   have H1 : (sennitlaw13_UnmarkPlain.j0 k l0 t264 (wrap64 (1 + (Int.tmod (wrap64 (a1)) 40))) true) = some r := by rw [if_neg (show ¬ (false = true) by decide)] at H; exact H
   clear H
   have H := H1
   clear H1
   have H' := Aside0.mk H
   clear H
   go_wp2_with (first | ((with_reducible refine gate_callee (f := 8) rfl ?_); refine goesL_ (some 24) rfl rfl Tryd.func8 (by kernel_rfl) rfl #[.slice A0 l0.length c0, .int .i64 30] rfl (by (try simp only [List.map_toArray, List.map_cons, List.map_nil]); first | done | rfl | (simp only [List.length_drop, List.length_take]; rfl)) ?_; (with_reducible refine (sennitref01_Few.calls k _ _ l0 30 false _ ?side1 ?side2 A6.out).mono ?_); (case side1 => repeat (first | exact (Kd.V_reads' HO0.out).2.2 | (with_reducible refine Kd.C_alloc ?_ _) | (with_reducible refine Kd.C_drewN ?_ _) | (with_reducible refine Kd.C_drew ?_))); (case side2 => exact (Kd.V_reads' HO0.out).2.1); rintro e w' ⟨rfl, ⟨nd, rfl⟩⟩; refine ⟨_, rfl, ?_⟩))
   go_meet
   case rel => exact ⟨_, (true), (by first | rfl | (simp; done) | (simp [*]; done)), H', ⟨by first | omega | exact Nat.le_refl _⟩, ⟨by (with_reducible repeat (first | apply Kd.V_alloc | apply Kd.V_drewN | apply Kd.V_drew)); exact HO0.out⟩, ⟨by repeat (first | (with_reducible first | exact HB.out | apply below_alloc | apply pw_below_drewN | apply below_drew1) | exact HB.out)⟩⟩
 case rest =>
  clear HC4
  try clear p2
  try clear c4
  try clear p6
  try clear c7
  try clear c8
  try clear c9
  obtain ⟨kq, x37_3, rfl, HA, HJ3, HO_0, HB⟩ := hcut
  cases kq with
  | zero => exact absurd HA.out (by simp [sennitlaw13_UnmarkPlain.j0])
  | succ kj3 =>
   have H := HA.out
   clear HA
   simp only [sennitlaw13_UnmarkPlain.j0] at H
   by_cases c14 : x37_3 = true
   ·subst c14
    have H1 : (some t264) = some r := by rw [if_pos rfl] at H; exact H
    clear H
    have H := H1
    clear H1
    obtain rfl := Option.some.inj H
    go_wp2
    go_ret
    exact ⟨by first | rfl | (simp [errW_none, errW_some] <;> rfl) | (simp [*, errW_none, errW_some] <;> rfl), by repeat (first | (with_reducible first | exact HB.out | apply below_alloc | apply pw_below_drewN | apply below_drew1) | exact HB.out)⟩
   ·replace c14 := Bool.eq_false_iff.mpr c14
    subst c14
    have H1 : ((unmark_Parse.f l0 (wrap64 (1 + (Int.tmod (wrap64 (a1)) 40)))).bind fun bt271 => ((sennitref07_Normal.f kj3 (([(⟨false, l0, ([] : List ByteArray), ([] : List (List ByteArray))⟩ : S37)] : List (S37)))).bind fun t280 => ((sennitref12_Mark.f kj3 (⟨#[60]⟩ : ByteArray) (wrap64 (1 + (Int.tmod (wrap64 (a1)) 40))) ([] : List ByteArray) (⟨#[32, 49]⟩ : ByteArray)).bind fun t283 => ((some (([t283] : List ByteArray) : List ByteArray)).bind fun y284 => (if y284.length + l0.length < 8796093022208 then ((some (y284 ++ l0 : List ByteArray)).bind fun y287 => ((unmark_Parse.f y287 (wrap64 (1 + (Int.tmod (wrap64 (a1)) 40)))).bind fun bt290 => ((sennitref01_Open.f l0).bind fun t296 => (if t296 = true then (sennitlaw13_UnmarkPlain.j1 kj3 t264 bt271.1 bt271.2.1 bt271.2.2.2 t280 bt290.2.2.1 bt290.2.2.2 (wrap64 ((wrap64 ((y287.length : Int) + 1)) - 1))) else (sennitlaw13_UnmarkPlain.j1 kj3 t264 bt271.1 bt271.2.1 bt271.2.2.2 t280 bt290.2.2.1 bt290.2.2.2 (wrap64 ((y287.length : Int) + 1))))))) else (none)))))) = some r := by rw [if_neg (show ¬ (false = true) by decide)] at H; exact H
    clear H
    have H := H1
    clear H1
    replace H := Option.bind_eq_some_iff.mp H
    obtain ⟨⟨t271, t274, t275, t276⟩, A150, H⟩ := H
    replace H : ((sennitref07_Normal.f kj3 (([(⟨false, l0, ([] : List ByteArray), ([] : List (List ByteArray))⟩ : S37)] : List (S37)))).bind fun t280 => ((sennitref12_Mark.f kj3 (⟨#[60]⟩ : ByteArray) (wrap64 (1 + (Int.tmod (wrap64 (a1)) 40))) ([] : List ByteArray) (⟨#[32, 49]⟩ : ByteArray)).bind fun t283 => ((some (([t283] : List ByteArray) : List ByteArray)).bind fun y284 => (if y284.length + l0.length < 8796093022208 then ((some (y284 ++ l0 : List ByteArray)).bind fun y287 => ((unmark_Parse.f y287 (wrap64 (1 + (Int.tmod (wrap64 (a1)) 40)))).bind fun bt290 => ((sennitref01_Open.f l0).bind fun t296 => (if t296 = true then (sennitlaw13_UnmarkPlain.j1 kj3 t264 t271 t274 t276 t280 bt290.2.2.1 bt290.2.2.2 (wrap64 ((wrap64 ((y287.length : Int) + 1)) - 1))) else (sennitlaw13_UnmarkPlain.j1 kj3 t264 t271 t274 t276 t280 bt290.2.2.1 bt290.2.2.2 (wrap64 ((y287.length : Int) + 1))))))) else (none))))) = some r := H
    have A15 := Aside0.mk A150
    clear A150
    obtain ⟨y277, hy277⟩ : ∃ y_ : List (S37), y_ = (([(⟨false, l0, ([] : List ByteArray), ([] : List (List ByteArray))⟩ : S37)] : List (S37))) := ⟨_, rfl⟩
    replace H : ((sennitref07_Normal.f kj3 y277).bind fun t280 => ((sennitref12_Mark.f kj3 (⟨#[60]⟩ : ByteArray) (wrap64 (1 + (Int.tmod (wrap64 (a1)) 40))) ([] : List ByteArray) (⟨#[32, 49]⟩ : ByteArray)).bind fun t283 => ((some (([t283] : List ByteArray) : List ByteArray)).bind fun y284 => (if y284.length + l0.length < 8796093022208 then ((some (y284 ++ l0 : List ByteArray)).bind fun y287 => ((unmark_Parse.f y287 (wrap64 (1 + (Int.tmod (wrap64 (a1)) 40)))).bind fun bt290 => ((sennitref01_Open.f l0).bind fun t296 => (if t296 = true then (sennitlaw13_UnmarkPlain.j1 kj3 t264 t271 t274 t276 t280 bt290.2.2.1 bt290.2.2.2 (wrap64 ((wrap64 ((y287.length : Int) + 1)) - 1))) else (sennitlaw13_UnmarkPlain.j1 kj3 t264 t271 t274 t276 t280 bt290.2.2.1 bt290.2.2.2 (wrap64 ((y287.length : Int) + 1))))))) else (none))))) = some r := by first | (rw [hy277]; with_reducible exact H) | (have H2_ := (Option.bind_some _ _).symm.trans H; rw [hy277]; with_reducible exact H2_) | (have H2_ := (Option.bind_some _ _).symm.trans H; with_reducible exact H2_) | with_reducible exact H | (rw [hy277]; exact H) | exact H
    have Ny277 := Aside0.mk hy277
    clear hy277
    replace H := Option.bind_eq_some_iff.mp H
    obtain ⟨t280, A160, H⟩ := H
    replace H : ((sennitref12_Mark.f kj3 (⟨#[60]⟩ : ByteArray) (wrap64 (1 + (Int.tmod (wrap64 (a1)) 40))) ([] : List ByteArray) (⟨#[32, 49]⟩ : ByteArray)).bind fun t283 => ((some (([t283] : List ByteArray) : List ByteArray)).bind fun y284 => (if y284.length + l0.length < 8796093022208 then ((some (y284 ++ l0 : List ByteArray)).bind fun y287 => ((unmark_Parse.f y287 (wrap64 (1 + (Int.tmod (wrap64 (a1)) 40)))).bind fun bt290 => ((sennitref01_Open.f l0).bind fun t296 => (if t296 = true then (sennitlaw13_UnmarkPlain.j1 kj3 t264 t271 t274 t276 t280 bt290.2.2.1 bt290.2.2.2 (wrap64 ((wrap64 ((y287.length : Int) + 1)) - 1))) else (sennitlaw13_UnmarkPlain.j1 kj3 t264 t271 t274 t276 t280 bt290.2.2.1 bt290.2.2.2 (wrap64 ((y287.length : Int) + 1))))))) else (none)))) = some r := H
    have A16 := Aside0.mk A160
    clear A160
    replace H := Option.bind_eq_some_iff.mp H
    obtain ⟨t283, A170, H⟩ := H
    replace H : ((some (([t283] : List ByteArray) : List ByteArray)).bind fun y284 => (if y284.length + l0.length < 8796093022208 then ((some (y284 ++ l0 : List ByteArray)).bind fun y287 => ((unmark_Parse.f y287 (wrap64 (1 + (Int.tmod (wrap64 (a1)) 40)))).bind fun bt290 => ((sennitref01_Open.f l0).bind fun t296 => (if t296 = true then (sennitlaw13_UnmarkPlain.j1 kj3 t264 t271 t274 t276 t280 bt290.2.2.1 bt290.2.2.2 (wrap64 ((wrap64 ((y287.length : Int) + 1)) - 1))) else (sennitlaw13_UnmarkPlain.j1 kj3 t264 t271 t274 t276 t280 bt290.2.2.1 bt290.2.2.2 (wrap64 ((y287.length : Int) + 1))))))) else (none))) = some r := H
    have A17 := Aside0.mk A170
    clear A170
    obtain ⟨y284, hy284⟩ : ∃ y_ : List ByteArray, y_ = (([t283] : List ByteArray)) := ⟨_, rfl⟩
    replace H : (if y284.length + l0.length < 8796093022208 then ((some (y284 ++ l0 : List ByteArray)).bind fun y287 => ((unmark_Parse.f y287 (wrap64 (1 + (Int.tmod (wrap64 (a1)) 40)))).bind fun bt290 => ((sennitref01_Open.f l0).bind fun t296 => (if t296 = true then (sennitlaw13_UnmarkPlain.j1 kj3 t264 t271 t274 t276 t280 bt290.2.2.1 bt290.2.2.2 (wrap64 ((wrap64 ((y287.length : Int) + 1)) - 1))) else (sennitlaw13_UnmarkPlain.j1 kj3 t264 t271 t274 t276 t280 bt290.2.2.1 bt290.2.2.2 (wrap64 ((y287.length : Int) + 1))))))) else (none)) = some r := by first | (rw [hy284]; with_reducible exact H) | (have H2_ := (Option.bind_some _ _).symm.trans H; rw [hy284]; with_reducible exact H2_) | (have H2_ := (Option.bind_some _ _).symm.trans H; with_reducible exact H2_) | with_reducible exact H | (rw [hy284]; exact H) | exact H
    have Ny284 := Aside0.mk hy284
    clear hy284
    by_cases c18 : y284.length + l0.length < 8796093022208
    ·rw [if_pos c18] at H
     have LMc18 := Aside0.mk c18
     clear c18
     obtain ⟨y287, hy287⟩ : ∃ y_ : List ByteArray, y_ = (y284 ++ l0) := ⟨_, rfl⟩
     replace H : ((unmark_Parse.f y287 (wrap64 (1 + (Int.tmod (wrap64 (a1)) 40)))).bind fun bt290 => ((sennitref01_Open.f l0).bind fun t296 => (if t296 = true then (sennitlaw13_UnmarkPlain.j1 kj3 t264 t271 t274 t276 t280 bt290.2.2.1 bt290.2.2.2 (wrap64 ((wrap64 ((y287.length : Int) + 1)) - 1))) else (sennitlaw13_UnmarkPlain.j1 kj3 t264 t271 t274 t276 t280 bt290.2.2.1 bt290.2.2.2 (wrap64 ((y287.length : Int) + 1)))))) = some r := by first | (rw [hy287]; with_reducible exact H) | (have H2_ := (Option.bind_some _ _).symm.trans H; rw [hy287]; with_reducible exact H2_) | (have H2_ := (Option.bind_some _ _).symm.trans H; with_reducible exact H2_) | with_reducible exact H | (rw [hy287]; exact H) | exact H
     have Ny287 := Aside0.mk hy287
     clear hy287
     replace H := Option.bind_eq_some_iff.mp H
     obtain ⟨⟨t290, t293, t294, t295⟩, A190, H⟩ := H
     replace H : ((sennitref01_Open.f l0).bind fun t296 => (if t296 = true then (sennitlaw13_UnmarkPlain.j1 kj3 t264 t271 t274 t276 t280 t294 t295 (wrap64 ((wrap64 ((y287.length : Int) + 1)) - 1))) else (sennitlaw13_UnmarkPlain.j1 kj3 t264 t271 t274 t276 t280 t294 t295 (wrap64 ((y287.length : Int) + 1))))) = some r := H
     have A19 := Aside0.mk A190
     clear A190
     replace H := Option.bind_eq_some_iff.mp H
     obtain ⟨t296, A200, H⟩ := H
     replace H : (if t296 = true then (sennitlaw13_UnmarkPlain.j1 kj3 t264 t271 t274 t276 t280 t294 t295 (wrap64 ((wrap64 ((y287.length : Int) + 1)) - 1))) else (sennitlaw13_UnmarkPlain.j1 kj3 t264 t271 t274 t276 t280 t294 t295 (wrap64 ((y287.length : Int) + 1)))) = some r := H
     have A20 := Aside0.mk A200
     clear A200
     have HC21 := Aside0.mk H
     clear H
     go_upto_if 68 with (first | ((with_reducible refine gate_callee (f := 9) rfl ?_); refine goesL_ (some 42) rfl rfl Tryd.func9 (by kernel_rfl) rfl #[.slice A0 l0.length c0, .int .i64 (wrap64 (1 + (Int.tmod (wrap64 (a1)) 40)))] rfl (by (try simp only [List.map_toArray, List.map_cons, List.map_nil]); first | done | rfl | (simp only [List.length_drop, List.length_take]; rfl)) ?_; (with_reducible refine (unmark_Parse.calls _ _ l0 (wrap64 (1 + (Int.tmod (wrap64 (a1)) 40))) t271 t274 t275 t276 _ ?side1 ?side2 A15.out).mono ?_); (case side1 => repeat (first | exact (Kd.V_reads' HO_0.out).2.2 | (with_reducible refine Kd.C_alloc ?_ _) | (with_reducible refine Kd.C_drewN ?_ _) | (with_reducible refine Kd.C_drew ?_))); (case side2 => exact (Kd.V_reads' HO_0.out).2.1); rintro e w22 ⟨v272, rfl, ho0, hb⟩; refine ⟨_, rfl, ?_⟩; have n0_ := Aside0.mk (Kd.V_below (by (with_reducible repeat (first | apply Kd.V_alloc | apply Kd.V_drewN | apply Kd.V_drew)); exact HO_0.out) hb); have n1_ := Aside0.mk (Kd.V_lower (Kd.V_mono (ok' := fun k_ => (P0_ k_ ∨ w.heap.size ≤ k_)) ho0 (fun k_ hk_ => (.inr (Nat.le_trans (below_size (by repeat (first | (with_reducible first | exact HB.out | apply below_alloc | apply pw_below_drewN | apply below_drew1) | exact HB.out))) hk_)))) (below_size (by repeat (first | (with_reducible first | exact HB.out | apply below_alloc | apply pw_below_drewN | apply below_drew1) | exact HB.out)))); have n2_ := Aside0.mk (below_step (by repeat (first | (with_reducible first | exact HB.out | apply below_alloc | apply pw_below_drewN | apply below_drew1) | exact HB.out)) hb); clear HO_0; clear HB; have HO_0 := n0_; have HO273 := n1_; have HB := n2_; clear n0_ n1_ n2_; (try clear hb); (try clear hb2); (try clear hk); (try clear hi); (try clear ho0)) | ((with_reducible refine gate_dst (N := 49) rfl ?_); (try (refine gate_guard (by rfl) ?_; dsimp only)); refine Kd.N_lit k37 _ 37 ?hg (N' := 49) ?hd (xs := ([(⟨false, l0, ([] : List ByteArray), ([] : List (List ByteArray))⟩ : S37)] : List (S37))) (inner := [.bool false, .slice A0 l0.length c0, .slice none 0 0, .slice none 0 0]) (ok := (fun k_ => (P0_ k_ ∨ w.heap.size ≤ k_))) (okp := (fun k_ => (P0_ k_ ∨ w.heap.size ≤ k_))) ?hr ?hp (fun _ hk => hk) ((show ∀ k_, w22.heap.size ≤ k_ → (fun k_ => (P0_ k_ ∨ w.heap.size ≤ k_)) k_ from fun k_ hk => (.inr (Nat.le_trans (below_size (by repeat (first | (with_reducible first | exact HB.out | apply below_alloc | apply pw_below_drewN | apply below_drew1) | exact HB.out))) hk))) _ (Nat.le_refl _)) (Below.refl _ _) (Nat.le_refl _) (by simp) ?_; (case hd => rfl); (case hg => rfl); (case hr => first | (go_simp; done) | (go_simp; rfl)); (case hp => first | exact (Reps.c4 (show Kd.FK k37 _ _ (⟨false, l0, ([] : List ByteArray), ([] : List (List ByteArray))⟩ : S37) [.bool false, .slice A0 l0.length c0, .slice none 0 0, .slice none 0 0] from (k37_mkF _ _ (⟨false, l0, ([] : List ByteArray), ([] : List (List ByteArray))⟩ : S37) (Kd.V_reads' (Kd.V_mono (ok' := (fun k_ => (P0_ k_ ∨ w.heap.size ≤ k_))) (HO_0.out) (fun k_ hk => hk))).2.1 (Kd.V_F (Kd.V_mono (ok' := (fun k_ => (P0_ k_ ∨ w.heap.size ≤ k_))) (HO_0.out) (fun k_ hk => hk))) (Nat.le_refl _) (Kd.F_nil _ _ _) (Nat.le_refl _) (Kd.F_nil _ _ _))) (Reps.none _ _)) | exact (Reps.c4 (show Kd.FK k37 _ _ (⟨false, l0, ([] : List ByteArray), ([] : List (List ByteArray))⟩ : S37) [.bool false, .slice A0 l0.length c0, .slice none 0 0, .slice none 0 0] from (k37_mkF _ _ (⟨false, l0, ([] : List ByteArray), ([] : List (List ByteArray))⟩ : S37) (Kd.V_reads' (Kd.V_mono (ok' := (fun k_ => (P0_ k_ ∨ w.heap.size ≤ k_))) (HO_0.out) (fun k_ hk => hk))).2.1 (Kd.V_F (Kd.V_mono (ok' := (fun k_ => (P0_ k_ ∨ w.heap.size ≤ k_))) (by (with_reducible repeat (first | apply Kd.V_alloc | apply Kd.V_drewN | apply Kd.V_drew)); exact HO_0.out) (fun k_ hk => hk))) (Nat.le_refl _) (Kd.F_nil _ _ _) (Nat.le_refl _) (Kd.F_nil _ _ _))) (Reps.none _ _))); intro v278 w23 ho24 hb hg_ hnew_; clear hg_ hnew_; (first | rw [← Ny277.out] at ho24 | (simp only [Int.reduceToNat] at ho24; rw [← Ny277.out] at ho24)); have n0_ := Aside0.mk (Kd.V_elder' (by (with_reducible repeat (first | apply Kd.V_alloc | apply Kd.V_drewN | apply Kd.V_drew)); exact HO_0.out) (Kd.N_base ho24) hb); have n1_ := Aside0.mk (Kd.V_elder' (by (with_reducible repeat (first | apply Kd.V_alloc | apply Kd.V_drewN | apply Kd.V_drew)); exact HO273.out) (Kd.N_base ho24) hb); have n2_ := Aside0.mk (Kd.N_lower ho24 (below_size (by repeat (first | (with_reducible first | exact HB.out | apply below_alloc | apply pw_below_drewN | apply below_drew1) | exact HB.out)))); have n3_ := Aside0.mk (below_step (by repeat (first | (with_reducible first | exact HB.out | apply below_alloc | apply pw_below_drewN | apply below_drew1) | exact HB.out)) hb); clear HO_0; clear HO273; clear HB; have HO_0 := n0_; have HO273 := n1_; have HO279 := n2_; have HB := n3_; clear n0_ n1_ n2_ n3_; clear hb ho24; obtain ⟨Ao25, co25, eo25⟩ := Kd.N_slice HO279.out; subst eo25) | ((with_reducible refine gate_callee (f := 14) rfl ?_); refine goesL_ (some 50) rfl rfl Tryd.func14 (by kernel_rfl) rfl #[.slice Ao25 y277.length co25] rfl (by (try simp only [List.map_toArray, List.map_cons, List.map_nil]); first | done | rfl | (simp only [List.length_drop, List.length_take]; rfl)) ?_; (with_reducible refine (sennitref07_Normal.calls kj3 (fun k_ => (P0_ k_ ∨ w.heap.size ≤ k_)) _ _ y277 t280 _ ?side1 A16.out).mono ?_); (case side1 => exact Kd.N_V (HO279.out)); rintro e w26 ⟨v281, rfl, ho0, hb⟩; refine ⟨_, rfl, ?_⟩; have n0_ := Aside0.mk (Kd.V_elder' (by (with_reducible repeat (first | apply Kd.V_alloc | apply Kd.V_drewN | apply Kd.V_drew)); exact HO_0.out) (Kd.N_base ho0) hb); have n1_ := Aside0.mk (Kd.V_elder' (by (with_reducible repeat (first | apply Kd.V_alloc | apply Kd.V_drewN | apply Kd.V_drew)); exact HO273.out) (Kd.N_base ho0) hb); have n2_ := Aside0.mk (Kd.N_elder' (by (with_reducible repeat (first | apply Kd.N_alloc | apply Kd.N_drewN | apply Kd.N_drew)); exact HO279.out) (Kd.N_base ho0) hb); have n3_ := Aside0.mk (Kd.N_lower (Kd.N_mono (ok' := fun k_ => (P0_ k_ ∨ w.heap.size ≤ k_)) ho0 (fun k_ hk_ => Or.elim hk_ (fun hs_ => hs_) (fun hn_ => (.inr (Nat.le_trans (below_size (by repeat (first | (with_reducible first | exact HB.out | apply below_alloc | apply pw_below_drewN | apply below_drew1) | exact HB.out))) hn_))))) (below_size (by repeat (first | (with_reducible first | exact HB.out | apply below_alloc | apply pw_below_drewN | apply below_drew1) | exact HB.out)))); have n4_ := Aside0.mk (below_step (by repeat (first | (with_reducible first | exact HB.out | apply below_alloc | apply pw_below_drewN | apply below_drew1) | exact HB.out)) hb); clear HO_0; clear HO273; clear HO279; clear HB; have HO_0 := n0_; have HO273 := n1_; have HO279 := n2_; have HO282 := n3_; have HB := n4_; clear n0_ n1_ n2_ n3_ n4_; (try clear hb); (try clear hb2); (try clear hk); (try clear hi); (try clear ho0)) | ((with_reducible refine gate_callee (f := 15) rfl ?_); refine goesL_ (some 52) rfl rfl Tryd.func15 (by kernel_rfl) rfl #[.string (⟨#[60]⟩ : ByteArray), .int .i64 (wrap64 (1 + (Int.tmod (wrap64 (a1)) 40))), .slice none 0 0, .string (⟨#[32, 49]⟩ : ByteArray)] rfl (by (try simp only [List.map_toArray, List.map_cons, List.map_nil]); first | done | rfl | (simp only [List.length_drop, List.length_take]; rfl)) ?_; (refine (sennitref12_Mark.calls kj3 (⟨#[60]⟩ : ByteArray) (wrap64 (1 + (Int.tmod (wrap64 (a1)) 40))) _ _ ([] : List ByteArray) (⟨#[32, 49]⟩ : ByteArray) t283 _ ?side1 ?side2 A17.out).mono ?_); (case side1 => exact Kd.C_nil _ _); (case side2 => exact Nat.le_refl _); rintro e w' ⟨rfl, ⟨nd, rfl⟩⟩; refine ⟨_, rfl, ?_⟩) | ((with_reducible refine gate_dst (N := 53) rfl ?_); (try (refine gate_guard (by rfl) ?_; dsimp only)); refine Kd.R_lit Kd.string _ 9 ?hg (N := 53) ?hd (xs := ([t283] : List ByteArray)) (inner := [.string t283]) (ok := fun _ => True) (okp := fun _ => True) ?hr ?hp (fun _ hk => hk) trivial (Below.refl _ _) (Nat.le_refl _) (by simp) ?_; (case hd => rfl); (case hg => rfl); (case hr => first | (go_simp; done) | (go_simp; rfl)); (case hp => exact (Reps.one (show Kd.M Kd.string _ _ _ t283 [.string t283] from rfl) (Reps.none _ _))); intro v285 w27 ho28 hb hg_ hnew_; clear hg_ hnew_; (first | rw [← Ny284.out] at ho28 | (simp only [Int.reduceToNat] at ho28; rw [← Ny284.out] at ho28)); have n0_ := Aside0.mk (Kd.V_elder' (by (with_reducible repeat (first | apply Kd.V_alloc | apply Kd.V_drewN | apply Kd.V_drew)); exact HO_0.out) (Kd.R_base ho28) hb); have n1_ := Aside0.mk (Kd.V_elder' (by (with_reducible repeat (first | apply Kd.V_alloc | apply Kd.V_drewN | apply Kd.V_drew)); exact HO273.out) (Kd.R_base ho28) hb); have n2_ := Aside0.mk (Kd.N_elder' (by (with_reducible repeat (first | apply Kd.N_alloc | apply Kd.N_drewN | apply Kd.N_drew)); exact HO279.out) (Kd.R_base ho28) hb); have n3_ := Aside0.mk (Kd.N_elder' (by (with_reducible repeat (first | apply Kd.N_alloc | apply Kd.N_drewN | apply Kd.N_drew)); exact HO282.out) (Kd.R_base ho28) hb); have n4_ := Aside0.mk (Kd.R_lower (Kd.R_newM (M := fun k_ => (w.heap.size ≤ k_)) ho28 (below_size (by repeat (first | (with_reducible first | exact HB.out | apply below_alloc | apply pw_below_drewN | apply below_drew1) | exact HB.out))) (fun k_ h_ => h_)) (below_size (by repeat (first | (with_reducible first | exact HB.out | apply below_alloc | apply pw_below_drewN | apply below_drew1) | exact HB.out)))); have n5_ := Aside0.mk (below_step (by repeat (first | (with_reducible first | exact HB.out | apply below_alloc | apply pw_below_drewN | apply below_drew1) | exact HB.out)) hb); clear HO_0; clear HO273; clear HO279; clear HO282; clear HB; have HO_0 := n0_; have HO273 := n1_; have HO279 := n2_; have HO282 := n3_; have HO286 := n4_; have HB := n5_; clear n0_ n1_ n2_ n3_ n4_ n5_; clear hb ho28) | ((with_reducible refine gate_builtin (b := .append) (xs := #[.tmp 53, .tmp 54]) rfl ?_); (try (refine gate_guard (by rfl) ?_; dsimp only)); at_builtin; refine Kd.R_append_rows Kd.string (w0 := w) w.heap.size rfl (.tmp 53) (.tmp 54) 22 9 (.string ⟨#[]⟩) 16 rfl Tryd.underlying22 info9 rfl (by decide) (by omega) v285 y284 l0 _ _ _ (fun k_ => (w.heap.size ≤ k_)) (fun _ => False) rfl rfl ?aO ?aR (fun _ _ h => h) (fun _ h => h.elim) ?aF ?aB ?aS ?aL ?_; (case aR => repeat (first | exact (Kd.V_reads' HO_0.out).2.2 | (with_reducible refine Kd.C_alloc ?_ _) | (with_reducible refine Kd.C_drewN ?_ _) | (with_reducible refine Kd.C_drew ?_))); (case aB => exact (by repeat (first | (with_reducible first | exact HB.out | apply below_alloc | apply pw_below_drewN | apply below_drew1) | exact HB.out))); (case aF => exact (fun k_ hk => (Nat.le_trans (below_size (by repeat (first | (with_reducible first | exact HB.out | apply below_alloc | apply pw_below_drewN | apply below_drew1) | exact HB.out))) hk))); (case aO => exact (by (with_reducible repeat (first | apply Kd.R_alloc | apply Kd.R_drewN | apply Kd.R_drew)); exact Kd.R_mono HO286.out (fun _ hk => hk.1))); (case aS => exact (below_size (by repeat (first | (with_reducible first | exact HB.out | apply below_alloc | apply pw_below_drewN | apply below_drew1) | exact HB.out)))); (case aL => have := LMc18.out; omega); intro v288 w29 ho hb hg hat; rw [← Ny287.out] at ho; have n0_ := Aside0.mk (Kd.V_afterv (ok := (fun k_ => (P0_ k_ ∨ w.heap.size ≤ k_) ∧ some k_ ≠ (.slice Ao25 y277.length co25 : Value).ownBlock ∧ some k_ ≠ (v281 : Value).ownBlock)) (by (with_reducible repeat (first | apply Kd.V_alloc | apply Kd.V_drewN | apply Kd.V_drew)); exact Kd.V_mono HO_0.out (fun _ hk => ⟨⟨hk.1.1.1, ⟨hk.1.1.2, hk.1.2⟩⟩, hk.2⟩)) hg hat); have n1_ := Aside0.mk (Kd.V_afterv (ok := (fun k_ => (P0_ k_ ∨ w.heap.size ≤ k_) ∧ some k_ ≠ (.slice Ao25 y277.length co25 : Value).ownBlock ∧ some k_ ≠ (v281 : Value).ownBlock)) (by (with_reducible repeat (first | apply Kd.V_alloc | apply Kd.V_drewN | apply Kd.V_drew)); exact Kd.V_mono HO273.out (fun _ hk => ⟨⟨hk.1.1.1, ⟨hk.1.1.2, hk.1.2⟩⟩, hk.2⟩)) hg hat); have n2_ := Aside0.mk (Kd.N_afterv (ok := (fun k_ => (P0_ k_ ∨ w.heap.size ≤ k_) ∧ some k_ ≠ (v281 : Value).ownBlock)) (by (with_reducible repeat (first | apply Kd.N_alloc | apply Kd.N_drewN | apply Kd.N_drew)); exact HO279.out) hg hat); have n3_ := Aside0.mk (Kd.N_afterv (ok := (fun k_ => (P0_ k_ ∨ w.heap.size ≤ k_))) (by (with_reducible repeat (first | apply Kd.N_alloc | apply Kd.N_drewN | apply Kd.N_drew)); exact HO282.out) hg hat); have n4_ := Aside0.mk (hb); have n5_ := Aside0.mk (ho); clear HO_0; clear HO273; clear HO279; clear HO282; clear HB; clear HO286; have HO_0 := n0_; have HO273 := n1_; have HO279 := n2_; have HO282 := n3_; have HB := n4_; have HO289 := n5_; clear n0_ n1_ n2_ n3_ n4_ n5_; clear ho hb hg hat; obtain ⟨Ao30, co30, eo30⟩ := Kd.R_slice HO289.out; subst eo30) | ((with_reducible refine gate_callee (f := 9) rfl ?_); refine goesL_ (some 59) rfl rfl Tryd.func9 (by kernel_rfl) rfl #[.slice Ao30 y287.length co30, .int .i64 (wrap64 (1 + (Int.tmod (wrap64 (a1)) 40)))] rfl (by (try simp only [List.map_toArray, List.map_cons, List.map_nil]); first | done | rfl | (simp only [List.length_drop, List.length_take]; rfl)) ?_; (with_reducible refine (unmark_Parse.calls _ _ y287 (wrap64 (1 + (Int.tmod (wrap64 (a1)) 40))) t290 t293 t294 t295 _ ?side1 ?side2 A19.out).mono ?_); (case side1 => repeat (first | exact (Kd.R_reads' HO289.out).2.2 | (with_reducible refine Kd.C_alloc ?_ _) | (with_reducible refine Kd.C_drewN ?_ _) | (with_reducible refine Kd.C_drew ?_))); (case side2 => exact (Kd.R_reads' HO289.out).2.1); rintro e w31 ⟨v291, rfl, ho0, hb⟩; refine ⟨_, rfl, ?_⟩; have n0_ := Aside0.mk (Kd.V_below (by (with_reducible repeat (first | apply Kd.V_alloc | apply Kd.V_drewN | apply Kd.V_drew)); exact HO_0.out) hb); have n1_ := Aside0.mk (Kd.V_below (by (with_reducible repeat (first | apply Kd.V_alloc | apply Kd.V_drewN | apply Kd.V_drew)); exact HO273.out) hb); have n2_ := Aside0.mk (Kd.N_below (by (with_reducible repeat (first | apply Kd.N_alloc | apply Kd.N_drewN | apply Kd.N_drew)); exact HO279.out) hb); have n3_ := Aside0.mk (Kd.N_below (by (with_reducible repeat (first | apply Kd.N_alloc | apply Kd.N_drewN | apply Kd.N_drew)); exact HO282.out) hb); have n4_ := Aside0.mk (Kd.R_below (by (with_reducible repeat (first | apply Kd.R_alloc | apply Kd.R_drewN | apply Kd.R_drew)); exact HO289.out) hb); have n5_ := Aside0.mk (Kd.V_lower (Kd.V_mono (ok' := fun k_ => (P0_ k_ ∨ w.heap.size ≤ k_) ∧ some k_ ≠ (.slice Ao25 y277.length co25 : Value).ownBlock ∧ some k_ ≠ (v281 : Value).ownBlock ∧ some k_ ≠ (.slice Ao30 y287.length co30 : Value).ownBlock) ho0 (fun k_ hk_ => ⟨(.inr (Nat.le_trans (below_size (by repeat (first | (with_reducible first | exact HB.out | apply below_alloc | apply pw_below_drewN | apply below_drew1) | exact HB.out))) hk_)), (Kd.fresh' (Kd.N_lt (by (with_reducible repeat (first | apply Kd.N_alloc | apply Kd.N_drewN | apply Kd.N_drew)); exact HO279.out)) k_ hk_), (Kd.fresh' (Kd.N_lt (by (with_reducible repeat (first | apply Kd.N_alloc | apply Kd.N_drewN | apply Kd.N_drew)); exact HO282.out)) k_ hk_), (Kd.fresh' (Kd.R_lt (by (with_reducible repeat (first | apply Kd.R_alloc | apply Kd.R_drewN | apply Kd.R_drew)); exact HO289.out)) k_ hk_)⟩)) (below_size (by repeat (first | (with_reducible first | exact HB.out | apply below_alloc | apply pw_below_drewN | apply below_drew1) | exact HB.out)))); have n6_ := Aside0.mk (below_step (by repeat (first | (with_reducible first | exact HB.out | apply below_alloc | apply pw_below_drewN | apply below_drew1) | exact HB.out)) hb); clear HO_0; clear HO273; clear HO279; clear HO282; clear HO289; clear HB; have HO_0 := n0_; have HO273 := n1_; have HO279 := n2_; have HO282 := n3_; have HO289 := n4_; have HO292 := n5_; have HB := n6_; clear n0_ n1_ n2_ n3_ n4_ n5_ n6_; (try clear hb); (try clear hb2); (try clear hk); (try clear hi); (try clear ho0)) | ((with_reducible refine gate_callee (f := 16) rfl ?_); refine goesL_ (some 68) rfl rfl Tryd.func16 (by kernel_rfl) rfl #[.slice A0 l0.length c0] rfl (by (try simp only [List.map_toArray, List.map_cons, List.map_nil]); first | done | rfl | (simp only [List.length_drop, List.length_take]; rfl)) ?_; (with_reducible refine (sennitref01_Open.calls _ _ l0 t296 _ ?side1 ?side2 A20.out).mono ?_); (case side1 => repeat (first | exact (Kd.V_reads' HO_0.out).2.2 | (with_reducible refine Kd.C_alloc ?_ _) | (with_reducible refine Kd.C_drewN ?_ _) | (with_reducible refine Kd.C_drew ?_))); (case side2 => exact (Kd.V_reads' HO_0.out).2.1); rintro e w' ⟨rfl, ⟨nd, rfl⟩⟩; refine ⟨_, rfl, ?_⟩))
     (try simp only [Act.put, List.setIfInBounds_toArray, List.set_cons_zero, List.set_cons_succ])
     go_cut [17] (fun v17 wc => ∃ (kq : Nat) (x17_20 : Int), v17 = .int .i64 x17_20 ∧ Aside0 (sennitlaw13_UnmarkPlain.j1 kq t264 t271 t274 t276 t280 t294 t295 x17_20 = some r) ∧ Aside0 (kq ≤ kj3) ∧ Aside0 (Kd.V k37 37 wc w.heap.size (fun k_ => (P0_ k_ ∨ w.heap.size ≤ k_) ∧ some k_ ≠ (v281 : Value).ownBlock) v272 t271) ∧ Aside0 (Kd.N k37 37 wc w.heap.size (fun k_ => (P0_ k_ ∨ w.heap.size ≤ k_)) v281 t280) ∧ Aside0 (Below w.heap.size w wc))
     case first =>
      have H := HC21.out
      clear HC21
      by_cases c32 : t296 = true
      ·subst c32
       have H1 : (sennitlaw13_UnmarkPlain.j1 kj3 t264 t271 t274 t276 t280 t294 t295 (wrap64 ((wrap64 ((y287.length : Int) + 1)) - 1))) = some r := by rw [if_pos rfl] at H; exact H
       clear H
       have H := H1
       clear H1
       have H' := Aside0.mk H
       clear H
       go_wp2
       go_meet
       case rel => exact ⟨_, (wrap64 ((wrap64 ((y287.length : Int) + 1)) - 1)), (by first | rfl | (simp; done) | (simp [*]; done)), H', ⟨by have := HJ3.out; first | omega | exact Nat.le_refl _⟩, ⟨by (with_reducible repeat (first | apply Kd.V_alloc | apply Kd.V_drewN | apply Kd.V_drew)); exact Kd.V_mono HO273.out (fun _ hk => ⟨hk.1.1, hk.1.2.2⟩)⟩, ⟨by (with_reducible repeat (first | apply Kd.N_alloc | apply Kd.N_drewN | apply Kd.N_drew)); exact Kd.N_mono HO282.out (fun _ hk => hk.1)⟩, ⟨by repeat (first | (with_reducible first | exact HB.out | apply below_alloc | apply pw_below_drewN | apply below_drew1) | exact HB.out)⟩⟩
      ·replace c32 := Bool.eq_false_iff.mpr c32
       subst c32
       have H1 : (sennitlaw13_UnmarkPlain.j1 kj3 t264 t271 t274 t276 t280 t294 t295 (wrap64 ((y287.length : Int) + 1))) = some r := by rw [if_neg (show ¬ (false = true) by decide)] at H; exact H
       clear H
       have H := H1
       clear H1
       have H' := Aside0.mk H
       clear H
       go_wp2
       go_meet
       case rel => exact ⟨_, (wrap64 ((y287.length : Int) + 1)), (by first | rfl | (simp; done) | (simp [*]; done)), H', ⟨by have := HJ3.out; first | omega | exact Nat.le_refl _⟩, ⟨by (with_reducible repeat (first | apply Kd.V_alloc | apply Kd.V_drewN | apply Kd.V_drew)); exact Kd.V_mono HO273.out (fun _ hk => ⟨hk.1.1, hk.1.2.2⟩)⟩, ⟨by (with_reducible repeat (first | apply Kd.N_alloc | apply Kd.N_drewN | apply Kd.N_drew)); exact Kd.N_mono HO282.out (fun _ hk => hk.1)⟩, ⟨by repeat (first | (with_reducible first | exact HB.out | apply below_alloc | apply pw_below_drewN | apply below_drew1) | exact HB.out)⟩⟩
     case rest =>
      clear HC21
      try clear c1
      try clear p2
      try clear c3
      try clear c4
      try clear p6
      try clear c7
      try clear c8
      try clear c9
      try clear c14
      try clear c15
      try clear c16
      try clear c18
      try clear c32
      try clear p2
      try clear p6
      obtain ⟨kq, x17_20, rfl, HA, HJ20, HO_7, HO_11, HB⟩ := hcut
      cases kq with
      | zero => exact absurd HA.out (by simp [sennitlaw13_UnmarkPlain.j1])
      | succ kj20 =>
       have H := HA.out
       clear HA
       simp only [sennitlaw13_UnmarkPlain.j1] at H
       by_cases c33 : t264 = true
       ·subst c33
        have H1 : (if t276 = 0 then (if t274 = 1 then ((sennitref07_Same.f kj20 t271 t280).bind fun t297 => (if t297 = true then (if t295 = 2 then (some (t294 == x17_20)) else (some false)) else (some false))) else (some false)) else (some false)) = some r := by rw [if_pos rfl] at H; exact H
        clear H
        have H := H1
        clear H1
        by_cases c34 : t276 = 0
        ·rw [if_pos c34] at H
         have c34b0 : (t276 == 0) = true := beq_iff_eq.mpr c34
         have c34b1 : (t276 != 0) = false := bne_eq_false_iff_eq.mpr c34
         clear c34
         by_cases c35 : t274 = 1
         ·rw [if_pos c35] at H
          have c35b0 : (t274 == 1) = true := beq_iff_eq.mpr c35
          have c35b1 : (t274 != 1) = false := bne_eq_false_iff_eq.mpr c35
          clear c35
          replace H := Option.bind_eq_some_iff.mp H
          obtain ⟨t297, A360, H⟩ := H
          replace H : (if t297 = true then (if t295 = 2 then (some (t294 == x17_20)) else (some false)) else (some false)) = some r := H
          have A36 := Aside0.mk A360
          clear A360
          by_cases c37 : t297 = true
          ·subst c37
           have H1 : (if t295 = 2 then (some (t294 == x17_20)) else (some false)) = some r := by rw [if_pos rfl] at H; exact H
           clear H
           have H := H1
           clear H1
           by_cases c38 : t295 = 2
           ·rw [if_pos c38] at H
            have c38b0 : (t295 == 2) = true := beq_iff_eq.mpr c38
            have c38b1 : (t295 != 2) = false := bne_eq_false_iff_eq.mpr c38
            clear c38
            obtain rfl := Option.some.inj H
            obtain ⟨Ao39, co39, eo39⟩ := Kd.V_slice HO_7.out
            subst eo39
            obtain ⟨Ao40, co40, eo40⟩ := Kd.N_slice HO_11.out
            subst eo40
            go_wp2_with (first | (go_at_call 11; (with_reducible refine (sennitref07_Same.calls kj20 _ _ t271 _ _ t280 true _ ?side1 ?side2 ?side3 ?side4 A36.out).mono ?_); (case side1 => repeat (first | exact (Kd.V_reads' HO_7.out).2.2 | (with_reducible refine Kd.C_alloc ?_ _) | (with_reducible refine Kd.C_drewN ?_ _) | (with_reducible refine Kd.C_drew ?_))); (case side2 => exact (Kd.V_reads' HO_7.out).2.1); (case side3 => repeat (first | exact (Kd.N_reads' HO_11.out).2.2 | (with_reducible refine Kd.C_alloc ?_ _) | (with_reducible refine Kd.C_drewN ?_ _) | (with_reducible refine Kd.C_drew ?_))); (case side4 => exact (Kd.N_reads' HO_11.out).2.1); rintro e w41 ⟨rfl, hb⟩; have n0_ := Aside0.mk (Kd.V_below (by (with_reducible repeat (first | apply Kd.V_alloc | apply Kd.V_drewN | apply Kd.V_drew)); exact HO_7.out) hb); have n1_ := Aside0.mk (Kd.N_below (by (with_reducible repeat (first | apply Kd.N_alloc | apply Kd.N_drewN | apply Kd.N_drew)); exact HO_11.out) hb); have n2_ := Aside0.mk (below_step (by repeat (first | (with_reducible first | exact HB.out | apply below_alloc | apply pw_below_drewN | apply below_drew1) | exact HB.out)) hb); clear HO_7; clear HO_11; clear HB; have HO_7 := n0_; have HO_11 := n1_; have HB := n2_; clear n0_ n1_ n2_; (try clear hb); (try clear hb2); (try clear hk); (try clear hi)))
            go_ret
            exact ⟨by first | rfl | (simp [errW_none, errW_some] <;> rfl) | (simp [*, errW_none, errW_some] <;> rfl), by repeat (first | (with_reducible first | exact HB.out | apply below_alloc | apply pw_below_drewN | apply below_drew1) | exact HB.out)⟩
           ·rw [if_neg c38] at H
            have c38b0 : (t295 == 2) = false := beq_eq_false_iff_ne.mpr c38
            have c38b1 : (t295 != 2) = true := bne_iff_ne.mpr c38
            obtain rfl := Option.some.inj H
            obtain ⟨Ao42, co42, eo42⟩ := Kd.V_slice HO_7.out
            subst eo42
            obtain ⟨Ao43, co43, eo43⟩ := Kd.N_slice HO_11.out
            subst eo43
            go_wp2_with (first | (go_at_call 11; (with_reducible refine (sennitref07_Same.calls kj20 _ _ t271 _ _ t280 true _ ?side1 ?side2 ?side3 ?side4 A36.out).mono ?_); (case side1 => repeat (first | exact (Kd.V_reads' HO_7.out).2.2 | (with_reducible refine Kd.C_alloc ?_ _) | (with_reducible refine Kd.C_drewN ?_ _) | (with_reducible refine Kd.C_drew ?_))); (case side2 => exact (Kd.V_reads' HO_7.out).2.1); (case side3 => repeat (first | exact (Kd.N_reads' HO_11.out).2.2 | (with_reducible refine Kd.C_alloc ?_ _) | (with_reducible refine Kd.C_drewN ?_ _) | (with_reducible refine Kd.C_drew ?_))); (case side4 => exact (Kd.N_reads' HO_11.out).2.1); rintro e w44 ⟨rfl, hb⟩; have n0_ := Aside0.mk (Kd.V_below (by (with_reducible repeat (first | apply Kd.V_alloc | apply Kd.V_drewN | apply Kd.V_drew)); exact HO_7.out) hb); have n1_ := Aside0.mk (Kd.N_below (by (with_reducible repeat (first | apply Kd.N_alloc | apply Kd.N_drewN | apply Kd.N_drew)); exact HO_11.out) hb); have n2_ := Aside0.mk (below_step (by repeat (first | (with_reducible first | exact HB.out | apply below_alloc | apply pw_below_drewN | apply below_drew1) | exact HB.out)) hb); clear HO_7; clear HO_11; clear HB; have HO_7 := n0_; have HO_11 := n1_; have HB := n2_; clear n0_ n1_ n2_; (try clear hb); (try clear hb2); (try clear hk); (try clear hi)))
            go_ret
            exact ⟨by first | rfl | (simp [errW_none, errW_some] <;> rfl) | (simp [*, errW_none, errW_some] <;> rfl), by repeat (first | (with_reducible first | exact HB.out | apply below_alloc | apply pw_below_drewN | apply below_drew1) | exact HB.out)⟩
          ·replace c37 := Bool.eq_false_iff.mpr c37
           subst c37
           have H1 : (some false) = some r := by rw [if_neg (show ¬ (false = true) by decide)] at H; exact H
           clear H
           have H := H1
           clear H1
           obtain rfl := Option.some.inj H
           obtain ⟨Ao45, co45, eo45⟩ := Kd.V_slice HO_7.out
           subst eo45
           obtain ⟨Ao46, co46, eo46⟩ := Kd.N_slice HO_11.out
           subst eo46
           go_wp2_with (first | (go_at_call 11; (with_reducible refine (sennitref07_Same.calls kj20 _ _ t271 _ _ t280 false _ ?side1 ?side2 ?side3 ?side4 A36.out).mono ?_); (case side1 => repeat (first | exact (Kd.V_reads' HO_7.out).2.2 | (with_reducible refine Kd.C_alloc ?_ _) | (with_reducible refine Kd.C_drewN ?_ _) | (with_reducible refine Kd.C_drew ?_))); (case side2 => exact (Kd.V_reads' HO_7.out).2.1); (case side3 => repeat (first | exact (Kd.N_reads' HO_11.out).2.2 | (with_reducible refine Kd.C_alloc ?_ _) | (with_reducible refine Kd.C_drewN ?_ _) | (with_reducible refine Kd.C_drew ?_))); (case side4 => exact (Kd.N_reads' HO_11.out).2.1); rintro e w47 ⟨rfl, hb⟩; have n0_ := Aside0.mk (Kd.V_below (by (with_reducible repeat (first | apply Kd.V_alloc | apply Kd.V_drewN | apply Kd.V_drew)); exact HO_7.out) hb); have n1_ := Aside0.mk (Kd.N_below (by (with_reducible repeat (first | apply Kd.N_alloc | apply Kd.N_drewN | apply Kd.N_drew)); exact HO_11.out) hb); have n2_ := Aside0.mk (below_step (by repeat (first | (with_reducible first | exact HB.out | apply below_alloc | apply pw_below_drewN | apply below_drew1) | exact HB.out)) hb); clear HO_7; clear HO_11; clear HB; have HO_7 := n0_; have HO_11 := n1_; have HB := n2_; clear n0_ n1_ n2_; (try clear hb); (try clear hb2); (try clear hk); (try clear hi)))
           go_ret
           exact ⟨by first | rfl | (simp [errW_none, errW_some] <;> rfl) | (simp [*, errW_none, errW_some] <;> rfl), by repeat (first | (with_reducible first | exact HB.out | apply below_alloc | apply pw_below_drewN | apply below_drew1) | exact HB.out)⟩
         ·rw [if_neg c35] at H
          have c35b0 : (t274 == 1) = false := beq_eq_false_iff_ne.mpr c35
          have c35b1 : (t274 != 1) = true := bne_iff_ne.mpr c35
          obtain rfl := Option.some.inj H
          go_wp2
          go_ret
          exact ⟨by first | rfl | (simp [errW_none, errW_some] <;> rfl) | (simp [*, errW_none, errW_some] <;> rfl), by repeat (first | (with_reducible first | exact HB.out | apply below_alloc | apply pw_below_drewN | apply below_drew1) | exact HB.out)⟩
        ·rw [if_neg c34] at H
         have c34b0 : (t276 == 0) = false := beq_eq_false_iff_ne.mpr c34
         have c34b1 : (t276 != 0) = true := bne_iff_ne.mpr c34
         obtain rfl := Option.some.inj H
         go_wp2
         go_ret
         exact ⟨by first | rfl | (simp [errW_none, errW_some] <;> rfl) | (simp [*, errW_none, errW_some] <;> rfl), by repeat (first | (with_reducible first | exact HB.out | apply below_alloc | apply pw_below_drewN | apply below_drew1) | exact HB.out)⟩
       ·replace c33 := Bool.eq_false_iff.mpr c33
        subst c33
        have H1 : (some false) = some r := by rw [if_neg (show ¬ (false = true) by decide)] at H; exact H
        clear H
        have H := H1
        clear H1
        obtain rfl := Option.some.inj H
        go_wp2
        go_ret
        exact ⟨by first | rfl | (simp [errW_none, errW_some] <;> rfl) | (simp [*, errW_none, errW_some] <;> rfl), by repeat (first | (with_reducible first | exact HB.out | apply below_alloc | apply pw_below_drewN | apply below_drew1) | exact HB.out)⟩
    ·rw [if_neg c18] at H
     exact absurd H (by simp)

end Go.Proofs.YtcnjbmdnnhbfkaaDoor.XD
