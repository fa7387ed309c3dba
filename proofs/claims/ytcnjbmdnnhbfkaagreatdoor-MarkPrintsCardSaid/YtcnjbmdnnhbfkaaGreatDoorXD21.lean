-- Printed by this session's xprint.sh (a patched copy of the kit's print program). Not trusted: Lean checks it.
import Derived.Test.YtcnjbmdnnhbfkaaGreatDoorXD0
import Derived.Test.YtcnjbmdnnhbfkaaGreatDoorXD5
import Derived.Test.YtcnjbmdnnhbfkaaGreatDoorRef2
import Derived.Test.YtcnjbmdnnhbfkaaGreatDoorRefJ
namespace Go.Proofs.YtcnjbmdnnhbfkaaGreatDoor.XD
open Go.RowKit Go.Proofs.YtcnjbmdnnhbfkaaGreatDoor.Ref Go.Proofs.YtcnjbmdnnhbfkaaGreatDoorW.PrintWords Go.Proofs.YtcnjbmdnnhbfkaaGreatDoorW.PrintLast Go.Proofs.YtcnjbmdnnhbfkaaGreatDoorW.PrintMore
attribute [local go_sem] max2_int min2_int max_two min_two max_three min_three max_four min_four   -- for this text's walks alone
set_option linter.unusedVariables false
set_option linter.unusedSimpArgs false

/-! ### sennitref12_Print: function 13 -/
mutual
def sennitref12_Print.j0 : Nat → List (S36) → Int → Int → Option (List ByteArray × Int)
 | 0, _, _, _ => none
 | k + 1, x0, x1, x2 => sennitref12_Print.l0 k x0 x1 x2 ([] : List ByteArray) 0
def sennitref12_Print.l0 : Nat → List (S36) → Int → Int → List ByteArray → Int → Option (List ByteArray × Int)
 | 0, _, _, _, _, _ => none
 | k + 1, x0, x1, x2, x9, x10 => if x10 < (x0.length : Int) then (if 0 ≤ x10 then (if (rd_T36 x0 x10).f0 = true then ((sennitref12_conflict.f ((rd_T36 x0 x10).f0) ((rd_T36 x0 x10).f1) ((rd_T36 x0 x10).f2) ((rd_T36 x0 x10).f3) x1 x2).bind fun t198 => (if x9.length + t198.length < 8796093022208 then (sennitref12_Print.l0 k x0 x1 x2 (x9 ++ t198) (wrap64 (x10 + 1))) else (none))) else (if x9.length + ((rd_T36 x0 x10).f1).length < 8796093022208 then (sennitref12_Print.l0 k x0 x1 x2 (x9 ++ ((rd_T36 x0 x10).f1)) (wrap64 (x10 + 1))) else (none))) else (none)) else (some (x9, 0))
end
def sennitref12_Print.f (k : Nat) (l0 : List (S36)) (a1 : Int) (a2 : Int) : Option (List ByteArray × Int) := (sennitref12_wrong.f k l0 a1 a2).bind fun t192 => (if t192 = 0 then (if a1 = 3 then ((sennitref10_Zeal.f l0).bind fun t193 => (sennitref12_Print.j0 k t193 a1 a2)) else (sennitref12_Print.j0 k l0 a1 a2)) else (some (([] : List ByteArray), t192)))
theorem sennitref12_Print.mono_l : ∀ k, (∀ y0 y1 y2, LeO (sennitref12_Print.j0 k y0 y1 y2) (sennitref12_Print.j0 (k + 1) y0 y1 y2)) ∧ (∀ y0 y1 y2 y3 y4, LeO (sennitref12_Print.l0 k y0 y1 y2 y3 y4) (sennitref12_Print.l0 (k + 1) y0 y1 y2 y3 y4))
 | 0 => ⟨fun _ _ _ r h => by simp [sennitref12_Print.j0] at h, fun _ _ _ _ _ r h => by simp [sennitref12_Print.l0] at h⟩
 | k + 1 => by
  obtain ⟨ih0, ih1⟩ := sennitref12_Print.mono_l k
  refine ⟨?_, ?_⟩
  ·intro y0 y1 y2
   unfold sennitref12_Print.j0
   repeat' first
   | (with_reducible exact ih0 _ _ _)
   | (with_reducible exact ih1 _ _ _ _ _)
   | (with_reducible exact sennitref12_wrong.mono _ _ _ _)
   | (with_reducible exact LeO.refl _)
   | (with_reducible exact LeO.none _)
   | (with_reducible refine LeO.ite ?_ ?_)
   | (with_reducible refine LeO.bind ?_ (fun _ => ?_))
   | exact ih0 _ _ _
   | exact ih1 _ _ _ _ _
   | exact sennitref12_wrong.mono _ _ _ _
   | exact LeO.none _
   | refine LeO.ite ?_ ?_
   | refine LeO.bind ?_ (fun _ => ?_)
  ·intro y0 y1 y2 y3 y4
   unfold sennitref12_Print.l0
   repeat' first
   | (with_reducible exact ih0 _ _ _)
   | (with_reducible exact ih1 _ _ _ _ _)
   | (with_reducible exact sennitref12_wrong.mono _ _ _ _)
   | (with_reducible exact LeO.refl _)
   | (with_reducible exact LeO.none _)
   | (with_reducible refine LeO.ite ?_ ?_)
   | (with_reducible refine LeO.bind ?_ (fun _ => ?_))
   | exact ih0 _ _ _
   | exact ih1 _ _ _ _ _
   | exact sennitref12_wrong.mono _ _ _ _
   | exact LeO.none _
   | refine LeO.ite ?_ ?_
   | refine LeO.bind ?_ (fun _ => ?_)
theorem sennitref12_Print.mono : ∀ a0 a1 a2 k, LeO (sennitref12_Print.f k a0 a1 a2) (sennitref12_Print.f (k + 1) a0 a1 a2) := by
 intro a0 a1 a2 k
 obtain ⟨ih0, ih1⟩ := sennitref12_Print.mono_l k
 unfold sennitref12_Print.f
 repeat' first
   | (with_reducible exact ih0 _ _ _)
   | (with_reducible exact ih1 _ _ _ _ _)
   | (with_reducible exact sennitref12_wrong.mono _ _ _ _)
   | (with_reducible exact LeO.refl _)
   | (with_reducible exact LeO.none _)
   | (with_reducible refine LeO.ite ?_ ?_)
   | (with_reducible refine LeO.bind ?_ (fun _ => ?_))
   | exact ih0 _ _ _
   | exact ih1 _ _ _ _ _
   | exact sennitref12_wrong.mono _ _ _ _
   | exact LeO.none _
   | refine LeO.ite ?_ ?_
   | refine LeO.bind ?_ (fun _ => ?_)
set_option maxHeartbeats 8000000 in
set_option maxRecDepth 100000 in
theorem sennitref12_Print.calls (k : Nat) (P0_ : Nat → Prop) (A0 : Option Addr) (c0 : Nat) (l0 : List (S36)) (a1 : Int) (a2 : Int) (r1 : List ByteArray) (r2 : Int) (w : World) (hs0 : Kd.V k36 36 w w.heap.size (fun k_ => P0_ k_) (.slice A0 l0.length c0) l0) (h : sennitref12_Print.f k l0 a1 a2 = some (r1, r2)) :
  Calls Tryz.prog 13 #[.slice A0 l0.length c0, .int .i64 a1, .int .i64 a2] w fun e w' => ∃ v0_ : Value, e = .returned (.tuple #[v0_, .int .i64 r2]) ∧ Kd.R Kd.string 9 w' w.heap.size (fun k_ => (w.heap.size ≤ k_)) v0_ r1 ∧ Below w.heap.size w w' := by
 have hu36 := Tryz.underlying36
 have HO0 := Aside0.mk (show Kd.V k36 36 w w.heap.size (fun k_ => (P0_ k_ ∨ w.heap.size ≤ k_)) (.slice A0 l0.length c0) l0 from Kd.V_mono hs0 (fun k_ hk => .inl hk))
 have HB := Aside0.mk (Below.refl w.heap.size w)
 have H : ((sennitref12_wrong.f k l0 a1 a2).bind fun t192 => (if t192 = 0 then (if a1 = 3 then ((sennitref10_Zeal.f l0).bind fun t193 => (sennitref12_Print.j0 k t193 a1 a2)) else (sennitref12_Print.j0 k l0 a1 a2)) else (some (([] : List ByteArray), t192)))) = some (r1, r2) := h
 clear h
 replace H := Option.bind_eq_some_iff.mp H
 obtain ⟨t192, A40, H⟩ := H
 replace H : (if t192 = 0 then (if a1 = 3 then ((sennitref10_Zeal.f l0).bind fun t193 => (sennitref12_Print.j0 k t193 a1 a2)) else (sennitref12_Print.j0 k l0 a1 a2)) else (some (([] : List ByteArray), t192))) = some (r1, r2) := H
 have A4 := Aside0.mk A40
 clear A40
 by_cases c5 : t192 = 0
 ·rw [if_pos c5] at H
  have c5b0 : (t192 == 0) = true := beq_iff_eq.mpr c5
  have c5b1 : (t192 != 0) = false := bne_eq_false_iff_eq.mpr c5
  clear c5
  have HC6 := Aside0.mk H
  clear H
  go_enter Tryz.func13, Tryz.ntmps13
  go_upto_if 19 with (first | ((with_reducible refine gate_callee (f := 34) rfl ?_); refine goesL_ (some 14) rfl rfl Tryz.func34 (by kernel_rfl) rfl #[.slice A0 l0.length c0, .int .i64 a1, .int .i64 a2] rfl (by (try simp only [List.map_toArray, List.map_cons, List.map_nil]); first | done | rfl | (simp only [List.length_drop, List.length_take]; rfl)) ?_; (with_reducible refine (sennitref12_wrong.calls k _ _ l0 a1 a2 t192 _ ?side1 ?side2 A4.out).mono ?_); (case side1 => repeat (first | exact (Kd.V_reads' HO0.out).2.2 | (with_reducible refine Kd.C_alloc ?_ _) | (with_reducible refine Kd.C_drewN ?_ _) | (with_reducible refine Kd.C_drew ?_))); (case side2 => exact (Kd.V_reads' HO0.out).2.1); rintro e w7 ⟨rfl, hb⟩; refine ⟨_, rfl, ?_⟩; have n0_ := Aside0.mk (Kd.V_below (by (with_reducible repeat (first | apply Kd.V_alloc | apply Kd.V_drewN | apply Kd.V_drew)); exact HO0.out) hb); have n1_ := Aside0.mk (below_step (by repeat (first | (with_reducible first | exact HB.out | apply below_alloc | apply pw_below_drewN | apply below_drew1) | exact HB.out)) hb); clear HO0; clear HB; have HO0 := n0_; have HB := n1_; clear n0_ n1_; (try clear hb); (try clear hb2); (try clear hk); (try clear hi)))
  (try simp only [Act.put, List.setIfInBounds_toArray, List.set_cons_zero, List.set_cons_succ])
  go_cut [0] (fun v0 wc => ∃ (kq : Nat) (x0_5 : List (S36)), Aside0 (sennitref12_Print.j0 kq x0_5 a1 a2 = some (r1, r2)) ∧ Aside0 (kq ≤ k) ∧ Aside0 (Kd.V k36 36 wc w.heap.size (fun k_ => (P0_ k_ ∨ w.heap.size ≤ k_)) v0 x0_5) ∧ Aside0 (Below w.heap.size w wc))
  case first =>
   have H := HC6.out
   clear HC6
   by_cases c8 : a1 = 3
   ·rw [if_pos c8] at H
    have c8b0 : (a1 == 3) = true := beq_iff_eq.mpr c8
    have c8b1 : (a1 != 3) = false := bne_eq_false_iff_eq.mpr c8
    clear c8
    (first | rw [c8b0] | (simp only [i64_w, i32_w]; rw [c8b0]) | skip)
    replace H := Option.bind_eq_some_iff.mp H
    obtain ⟨t193, A90, H⟩ := H
    replace H : (sennitref12_Print.j0 k t193 a1 a2) = some (r1, r2) := H
    have A9 := Aside0.mk A90
    clear A90
    have H' := Aside0.mk H
    clear H
    go_wp2_with (first | ((with_reducible refine gate_callee (f := 16) rfl ?_); refine goesL_ (some 21) rfl rfl Tryz.func16 (by kernel_rfl) rfl #[.slice A0 l0.length c0] rfl (by (try simp only [List.map_toArray, List.map_cons, List.map_nil]); first | done | rfl | (simp only [List.length_drop, List.length_take]; rfl)) ?_; (with_reducible refine (sennitref10_Zeal.calls (fun k_ => (P0_ k_ ∨ w.heap.size ≤ k_)) _ _ l0 t193 _ ?side1 A9.out).mono ?_); (case side1 => exact HO0.out); rintro e w10 ⟨v194, rfl, ho0, hb⟩; refine ⟨_, rfl, ?_⟩; have n0_ := Aside0.mk (Kd.V_elder' (by (with_reducible repeat (first | apply Kd.V_alloc | apply Kd.V_drewN | apply Kd.V_drew)); exact HO0.out) (Kd.N_base ho0) hb); have n1_ := Aside0.mk (Kd.N_lower (Kd.N_mono (ok' := fun k_ => (P0_ k_ ∨ w.heap.size ≤ k_)) ho0 (fun k_ hk_ => Or.elim hk_ (fun hs_ => hs_) (fun hn_ => (.inr (Nat.le_trans (below_size (by repeat (first | (with_reducible first | exact HB.out | apply below_alloc | apply pw_below_drewN | apply below_drew1) | exact HB.out))) hn_))))) (below_size (by repeat (first | (with_reducible first | exact HB.out | apply below_alloc | apply pw_below_drewN | apply below_drew1) | exact HB.out)))); have n2_ := Aside0.mk (below_step (by repeat (first | (with_reducible first | exact HB.out | apply below_alloc | apply pw_below_drewN | apply below_drew1) | exact HB.out)) hb); clear HO0; clear HB; have HO0 := n0_; have HO195 := n1_; have HB := n2_; clear n0_ n1_ n2_; (try clear hb); (try clear hb2); (try clear hk); (try clear hi); (try clear ho0)))
    go_meet
    case rel => exact ⟨_, (t193), H', ⟨by first | omega | exact Nat.le_refl _⟩, ⟨Kd.N_V (by (with_reducible repeat (first | apply Kd.N_alloc | apply Kd.N_drewN | apply Kd.N_drew)); exact HO195.out)⟩, ⟨by repeat (first | (with_reducible first | exact HB.out | apply below_alloc | apply pw_below_drewN | apply below_drew1) | exact HB.out)⟩⟩
   ·rw [if_neg c8] at H
    have c8b0 : (a1 == 3) = false := beq_eq_false_iff_ne.mpr c8
    have c8b1 : (a1 != 3) = true := bne_iff_ne.mpr c8
    (first | rw [c8b0] | (simp only [i64_w, i32_w]; rw [c8b0]) | skip)
    have H' := Aside0.mk H
    clear H
    go_wp2
    go_meet
    case rel => exact ⟨_, (l0), H', ⟨by first | omega | exact Nat.le_refl _⟩, ⟨by (with_reducible repeat (first | apply Kd.V_alloc | apply Kd.V_drewN | apply Kd.V_drew)); exact HO0.out⟩, ⟨by repeat (first | (with_reducible first | exact HB.out | apply below_alloc | apply pw_below_drewN | apply below_drew1) | exact HB.out)⟩⟩
  case rest =>
   clear HC6
   try clear c1
   try clear p2
   try clear c3
   try clear c5
   try clear c5b0
   try clear c5b1
   try clear c8
   try clear c8b0
   try clear c8b1
   obtain ⟨kq, x0_5, HA, HJ5, HO_0, HB⟩ := hcut
   cases kq with
   | zero => exact absurd HA.out (by simp [sennitref12_Print.j0])
   | succ kj5 =>
    have H := HA.out
    clear HA
    simp only [sennitref12_Print.j0] at H
    have H' := Aside0.mk H
    clear H
    go_wp2
    go_loopg [9, 10] kj5 (fun kq v9 v10 w' => ∃ (x9_2 : List ByteArray) (x10_2 : Int), v10 = .int .i64 x10_2 ∧ Aside0 (sennitref12_Print.l0 kq x0_5 a1 a2 x9_2 x10_2 = some (r1, r2)) ∧ Aside0 (kq ≤ kj5) ∧ Aside0 (Kd.V k36 36 w' w.heap.size (fun k_ => (P0_ k_ ∨ w.heap.size ≤ k_) ∧ some k_ ≠ (v9 : Value).ownBlock) u0 x0_5) ∧ Aside0 (Kd.R Kd.string 9 w' w.heap.size (fun k_ => (w.heap.size ≤ k_)) v9 x9_2) ∧ Aside0 (Below w.heap.size w w'))
    case atStart => exact ⟨(([] : List ByteArray)), (0), (by first | rfl | (simp; done) | (simp [*]; done)), H', ⟨Nat.le_refl _⟩, ⟨by (with_reducible repeat (first | apply Kd.V_alloc | apply Kd.V_drewN | apply Kd.V_drew)); exact Kd.V_mono HO_0.out (fun _ hk => ⟨hk, (by simp [Value.ownBlock])⟩)⟩, ⟨by first | exact Kd.R_nil _ _ _ _ _ | exact Kd.N_nil _ _ _ _ _ | exact Kd.V_nil _ _ _ _ _ | exact Kd.Q_nil _ _ _ _ _ | exact Kd.S_nil _ _ _ _ _⟩, ⟨by repeat (first | (with_reducible first | exact HB.out | apply below_alloc | apply pw_below_drewN | apply below_drew1) | exact HB.out)⟩⟩
    case round =>
     clear H'
     try clear c1
     try clear p2
     try clear c3
     try clear c5
     try clear c5b0
     try clear c5b1
     try clear c8
     try clear c8b0
     try clear c8b1
     try clear p2
     obtain ⟨x9_2, x10_2, rfl, HA, HK2, HO_0, HO_9, HB⟩ := hrel
     cases gk with
     | zero => exact absurd HA.out (by simp [sennitref12_Print.l0])
     | succ k2 =>
      have H := HA.out
      clear HA
      simp only [sennitref12_Print.l0] at H
      by_cases c11 : x10_2 < (x0_5.length : Int)
      ·rw [if_pos c11] at H
       have c11b0 : decide (x10_2 < (x0_5.length : Int)) = true := decide_eq_true c11
       clear c11
       by_cases c12 : 0 ≤ x10_2
       ·rw [if_pos c12] at H
        have c12b0 : decide (0 ≤ x10_2) = true := decide_eq_true c12
        clear c12
        obtain ⟨bq13, hbq13⟩ : ∃ b_ : Bool, b_ = ((rd_T36 x0_5 x10_2).f0) := ⟨_, rfl⟩
        replace H : (if bq13 = true then ((sennitref12_conflict.f (bq13) ((rd_T36 x0_5 x10_2).f1) ((rd_T36 x0_5 x10_2).f2) ((rd_T36 x0_5 x10_2).f3) a1 a2).bind fun t198 => (if x9_2.length + t198.length < 8796093022208 then (sennitref12_Print.l0 k2 x0_5 a1 a2 (x9_2 ++ t198) (wrap64 (x10_2 + 1))) else (none))) else (if x9_2.length + ((rd_T36 x0_5 x10_2).f1).length < 8796093022208 then (sennitref12_Print.l0 k2 x0_5 a1 a2 (x9_2 ++ ((rd_T36 x0_5 x10_2).f1)) (wrap64 (x10_2 + 1))) else (none))) = some (r1, r2) := by rw [← hbq13] at H; exact H
        have Nbq13 := Aside0.mk hbq13
        clear hbq13
        by_cases c14 : bq13 = true
        ·subst c14
         have H1 : ((sennitref12_conflict.f (true) ((rd_T36 x0_5 x10_2).f1) ((rd_T36 x0_5 x10_2).f2) ((rd_T36 x0_5 x10_2).f3) a1 a2).bind fun t198 => (if x9_2.length + t198.length < 8796093022208 then (sennitref12_Print.l0 k2 x0_5 a1 a2 (x9_2 ++ t198) (wrap64 (x10_2 + 1))) else (none))) = some (r1, r2) := by rw [if_pos rfl] at H; exact H
         clear H
         have H := H1
         clear H1
         replace H := Option.bind_eq_some_iff.mp H
         obtain ⟨t198, A150, H⟩ := H
         replace H : (if x9_2.length + t198.length < 8796093022208 then (sennitref12_Print.l0 k2 x0_5 a1 a2 (x9_2 ++ t198) (wrap64 (x10_2 + 1))) else (none)) = some (r1, r2) := H
         have A15 := Aside0.mk A150
         clear A150
         by_cases c16 : x9_2.length + t198.length < 8796093022208
         ·rw [if_pos c16] at H
          have LMc16 := Aside0.mk c16
          clear c16
          obtain ⟨y201, hy201⟩ : ∃ y_ : List ByteArray, y_ = (x9_2 ++ t198) := ⟨_, rfl⟩
          replace H : (sennitref12_Print.l0 k2 x0_5 a1 a2 y201 (wrap64 (x10_2 + 1))) = some (r1, r2) := by first | (rw [hy201]; with_reducible exact H) | (have H2_ := (Option.bind_some _ _).symm.trans H; rw [hy201]; with_reducible exact H2_) | (have H2_ := (Option.bind_some _ _).symm.trans H; with_reducible exact H2_) | with_reducible exact H | (rw [hy201]; exact H) | exact H
          have Ny201 := Aside0.mk hy201
          clear hy201
          have H' := Aside0.mk H
          clear H
          obtain ⟨Ao17, co17, eo17⟩ := Kd.V_slice HO_0.out
          subst eo17
          have p196 : 0 ≤ (x10_2 : Int) := of_decide_eq_true (by first | (with_reducible assumption) | assumption)
          have q196 : x10_2 < (x0_5.length : Int) := of_decide_eq_true (by first | (with_reducible assumption) | assumption)
          obtain ⟨ad196, A196_1, c196_1, A196_2, c196_2, A196_3, c196_3, e196, hx196_0, hx196_1, hx196_2, hx196_3, hl196_1, hi196_1, hl196_2, hi196_2, hl196_3, hi196_3⟩ := at_T36 (Kd.V_reads' HO_0.out).2.2 x10_2 p196 q196
          (try rw [← Nbq13.out] at hx196_0)
          cases e196
          obtain ⟨ce196, hce196, hMe196, hcc196⟩ := Kd.V_get HO_0.out z36 x10_2 p196 (by first | exact q196 | exact of_decide_eq_true (by first | (with_reducible assumption) | assumption) | (have e_ := (Kd.V_reads' HO_0.out).1; omega))
          obtain ⟨ua196_1, uc196_1, ua196_2, uc196_2, ua196_3, uc196_3, rfl, ul196_1, ge196_1, ul196_2, ge196_2, ul196_3, ge196_3⟩ := k36_openF hMe196
          have hv196_1 := hcc196 1 _ rfl
          rw [add_field _ _ 1 (by omega)] at hv196_1
          replace hv196_1 := Option.some.inj (hv196_1.symm.trans hx196_1)
          injection hv196_1 with hva_ hvn_ hvc_
          rw [hva_] at ge196_1
          rw [hvc_] at ul196_1
          have HL196_1 := Aside0.mk (show Kd.V Kd.string 9 _ w.heap.size _ _ ((rd_T36 x0_5 x10_2).f1) from Kd.V_mk ul196_1 ge196_1)
          clear hva_ hvn_ hvc_ ge196_1 ul196_1
          have hv196_2 := hcc196 2 _ rfl
          rw [add_field _ _ 2 (by omega)] at hv196_2
          replace hv196_2 := Option.some.inj (hv196_2.symm.trans hx196_2)
          injection hv196_2 with hva_ hvn_ hvc_
          rw [hva_] at ge196_2
          rw [hvc_] at ul196_2
          have HL196_2 := Aside0.mk (show Kd.V Kd.string 9 _ w.heap.size _ _ ((rd_T36 x0_5 x10_2).f2) from Kd.V_mk ul196_2 ge196_2)
          clear hva_ hvn_ hvc_ ge196_2 ul196_2
          have hv196_3 := hcc196 3 _ rfl
          rw [add_field _ _ 3 (by omega)] at hv196_3
          replace hv196_3 := Option.some.inj (hv196_3.symm.trans hx196_3)
          injection hv196_3 with hva_ hvn_ hvc_
          rw [hva_] at ge196_3
          rw [hvc_] at ul196_3
          have HL196_3 := Aside0.mk (show Kd.V (Kd.slice 9 Kd.string) 25 _ w.heap.size _ _ ((rd_T36 x0_5 x10_2).f3) from Kd.V_mk ul196_3 ge196_3)
          clear hva_ hvn_ hvc_ ge196_3 ul196_3
          clear hcc196 hce196
          have HR196_1 := Aside0.mk hi196_1
          have HC196_1 := Aside0.mk hl196_1
          clear hi196_1 hl196_1
          have HR196_2 := Aside0.mk hi196_2
          have HC196_2 := Aside0.mk hl196_2
          clear hi196_2 hl196_2
          have HR196_3 := Aside0.mk hi196_3
          have HC196_3 := Aside0.mk hl196_3
          clear hi196_3 hl196_3
          replace p196 := eq_true p196
          replace q196 := eq_true q196
          have p197 : 0 ≤ (x10_2 : Int) := of_decide_eq_true (by first | (with_reducible assumption) | assumption)
          have q197 : x10_2 < (x0_5.length : Int) := of_decide_eq_true (by first | (with_reducible assumption) | assumption)
          obtain ⟨ad197, A197_1, c197_1, A197_2, c197_2, A197_3, c197_3, e197, hx197_0, hx197_1, hx197_2, hx197_3, hl197_1, hi197_1, hl197_2, hi197_2, hl197_3, hi197_3⟩ := at_T36 (Kd.V_reads' HO_0.out).2.2 x10_2 p197 q197
          (try rw [← Nbq13.out] at hx197_0)
          obtain rfl : ad196 = ad197 := (by injection e197)
          obtain ⟨ce197, hce197, hMe197, hcc197⟩ := Kd.V_get HO_0.out z36 x10_2 p197 (by first | exact q197 | exact of_decide_eq_true (by first | (with_reducible assumption) | assumption) | (have e_ := (Kd.V_reads' HO_0.out).1; omega))
          obtain ⟨ua197_1, uc197_1, ua197_2, uc197_2, ua197_3, uc197_3, rfl, ul197_1, ge197_1, ul197_2, ge197_2, ul197_3, ge197_3⟩ := k36_openF hMe197
          have hv197_1 := hcc197 1 _ rfl
          rw [add_field _ _ 1 (by omega)] at hv197_1
          replace hv197_1 := Option.some.inj (hv197_1.symm.trans hx197_1)
          injection hv197_1 with hva_ hvn_ hvc_
          rw [hva_] at ge197_1
          rw [hvc_] at ul197_1
          have HL197_1 := Aside0.mk (show Kd.V Kd.string 9 _ w.heap.size _ _ ((rd_T36 x0_5 x10_2).f1) from Kd.V_mk ul197_1 ge197_1)
          clear hva_ hvn_ hvc_ ge197_1 ul197_1
          have hv197_2 := hcc197 2 _ rfl
          rw [add_field _ _ 2 (by omega)] at hv197_2
          replace hv197_2 := Option.some.inj (hv197_2.symm.trans hx197_2)
          injection hv197_2 with hva_ hvn_ hvc_
          rw [hva_] at ge197_2
          rw [hvc_] at ul197_2
          have HL197_2 := Aside0.mk (show Kd.V Kd.string 9 _ w.heap.size _ _ ((rd_T36 x0_5 x10_2).f2) from Kd.V_mk ul197_2 ge197_2)
          clear hva_ hvn_ hvc_ ge197_2 ul197_2
          have hv197_3 := hcc197 3 _ rfl
          rw [add_field _ _ 3 (by omega)] at hv197_3
          replace hv197_3 := Option.some.inj (hv197_3.symm.trans hx197_3)
          injection hv197_3 with hva_ hvn_ hvc_
          rw [hva_] at ge197_3
          rw [hvc_] at ul197_3
          have HL197_3 := Aside0.mk (show Kd.V (Kd.slice 9 Kd.string) 25 _ w.heap.size _ _ ((rd_T36 x0_5 x10_2).f3) from Kd.V_mk ul197_3 ge197_3)
          clear hva_ hvn_ hvc_ ge197_3 ul197_3
          clear hcc197 hce197
          have HR197_1 := Aside0.mk hi197_1
          have HC197_1 := Aside0.mk hl197_1
          clear hi197_1 hl197_1
          have HR197_2 := Aside0.mk hi197_2
          have HC197_2 := Aside0.mk hl197_2
          clear hi197_2 hl197_2
          have HR197_3 := Aside0.mk hi197_3
          have HC197_3 := Aside0.mk hl197_3
          clear hi197_3 hl197_3
          replace p197 := eq_true p197
          replace q197 := eq_true q197
          have ea_ := Option.some.inj (hx196_1.symm.trans hx197_1)
          injection ea_ with ea_ en_ ec_
          subst ea_
          subst ec_
          clear en_
          have ea_ := Option.some.inj (hx196_2.symm.trans hx197_2)
          injection ea_ with ea_ en_ ec_
          subst ea_
          subst ec_
          clear en_
          have ea_ := Option.some.inj (hx196_3.symm.trans hx197_3)
          injection ea_ with ea_ en_ ec_
          subst ea_
          subst ec_
          clear en_
          go_wp2_with (first | (go_at_call 35; (refine (sennitref12_conflict.calls true _ _ ((rd_T36 x0_5 x10_2).f1) _ _ ((rd_T36 x0_5 x10_2).f2) _ _ ((rd_T36 x0_5 x10_2).f3) a1 a2 t198 _ ?side1 ?side2 ?side3 ?side4 ?side5 ?side6 A15.out).mono ?_); (case side1 => repeat (first | exact (by repeat (first | (with_reducible exact HR197_1.out) | (with_reducible refine Kd.C_alloc ?_ _) | (with_reducible refine Kd.C_drewN ?_ _) | (with_reducible refine Kd.C_drew ?_) | exact HR197_1.out)) | (with_reducible refine Kd.C_alloc ?_ _) | (with_reducible refine Kd.C_drewN ?_ _) | (with_reducible refine Kd.C_drew ?_))); (case side2 => exact HC197_1.out); (case side3 => repeat (first | exact (by repeat (first | (with_reducible exact HR197_2.out) | (with_reducible refine Kd.C_alloc ?_ _) | (with_reducible refine Kd.C_drewN ?_ _) | (with_reducible refine Kd.C_drew ?_) | exact HR197_2.out)) | (with_reducible refine Kd.C_alloc ?_ _) | (with_reducible refine Kd.C_drewN ?_ _) | (with_reducible refine Kd.C_drew ?_))); (case side4 => exact HC197_2.out); (case side5 => repeat (first | exact (by repeat (first | (with_reducible exact HR197_3.out) | (with_reducible refine Kd.C_alloc ?_ _) | (with_reducible refine Kd.C_drewN ?_ _) | (with_reducible refine Kd.C_drew ?_) | exact HR197_3.out)) | (with_reducible refine Kd.C_alloc ?_ _) | (with_reducible refine Kd.C_drewN ?_ _) | (with_reducible refine Kd.C_drew ?_))); (case side6 => exact HC197_3.out); rintro e w18 ⟨v199, rfl, ho0, hb⟩; have n0_ := Aside0.mk (Kd.V_elder' (by (with_reducible repeat (first | apply Kd.V_alloc | apply Kd.V_drewN | apply Kd.V_drew)); exact HO_0.out) (Kd.R_base ho0) hb); have n1_ := Aside0.mk (Kd.R_elder' (by (with_reducible repeat (first | apply Kd.R_alloc | apply Kd.R_drewN | apply Kd.R_drew)); exact HO_9.out) (Kd.R_base ho0) hb); have n2_ := Aside0.mk (Kd.V_elder' (by (with_reducible repeat (first | apply Kd.V_alloc | apply Kd.V_drewN | apply Kd.V_drew)); exact HL196_1.out) (Kd.R_base ho0) hb); have n3_ := Aside0.mk (Kd.V_elder' (by (with_reducible repeat (first | apply Kd.V_alloc | apply Kd.V_drewN | apply Kd.V_drew)); exact HL196_2.out) (Kd.R_base ho0) hb); have n4_ := Aside0.mk (Kd.V_elder' (by (with_reducible repeat (first | apply Kd.V_alloc | apply Kd.V_drewN | apply Kd.V_drew)); exact HL196_3.out) (Kd.R_base ho0) hb); have n5_ := Aside0.mk (Kd.V_elder' (by (with_reducible repeat (first | apply Kd.V_alloc | apply Kd.V_drewN | apply Kd.V_drew)); exact HL197_1.out) (Kd.R_base ho0) hb); have n6_ := Aside0.mk (Kd.V_elder' (by (with_reducible repeat (first | apply Kd.V_alloc | apply Kd.V_drewN | apply Kd.V_drew)); exact HL197_2.out) (Kd.R_base ho0) hb); have n7_ := Aside0.mk (Kd.V_elder' (by (with_reducible repeat (first | apply Kd.V_alloc | apply Kd.V_drewN | apply Kd.V_drew)); exact HL197_3.out) (Kd.R_base ho0) hb); have n8_ := Aside0.mk (Kd.R_lower (Kd.R_new' (Kd.R_newM (M := fun k_ => (w.heap.size ≤ k_)) ho0 (below_size (by repeat (first | (with_reducible first | exact HB.out | apply below_alloc | apply pw_below_drewN | apply below_drew1) | exact HB.out))) (fun k_ h_ => h_)) (Kd.R_lt (by (with_reducible repeat (first | apply Kd.R_alloc | apply Kd.R_drewN | apply Kd.R_drew)); exact HO_9.out))) (below_size (by repeat (first | (with_reducible first | exact HB.out | apply below_alloc | apply pw_below_drewN | apply below_drew1) | exact HB.out)))); have n9_ := Aside0.mk (Kd.C_below (by repeat (first | (with_reducible exact HR196_1.out) | (with_reducible refine Kd.C_alloc ?_ _) | (with_reducible refine Kd.C_drewN ?_ _) | (with_reducible refine Kd.C_drew ?_) | exact HR196_1.out)) hb); have n10_ := Aside0.mk (Kd.C_below (by repeat (first | (with_reducible exact HR196_2.out) | (with_reducible refine Kd.C_alloc ?_ _) | (with_reducible refine Kd.C_drewN ?_ _) | (with_reducible refine Kd.C_drew ?_) | exact HR196_2.out)) hb); have n11_ := Aside0.mk (Kd.C_below (by repeat (first | (with_reducible exact HR196_3.out) | (with_reducible refine Kd.C_alloc ?_ _) | (with_reducible refine Kd.C_drewN ?_ _) | (with_reducible refine Kd.C_drew ?_) | exact HR196_3.out)) hb); have n12_ := Aside0.mk (Kd.C_below (by repeat (first | (with_reducible exact HR197_1.out) | (with_reducible refine Kd.C_alloc ?_ _) | (with_reducible refine Kd.C_drewN ?_ _) | (with_reducible refine Kd.C_drew ?_) | exact HR197_1.out)) hb); have n13_ := Aside0.mk (Kd.C_below (by repeat (first | (with_reducible exact HR197_2.out) | (with_reducible refine Kd.C_alloc ?_ _) | (with_reducible refine Kd.C_drewN ?_ _) | (with_reducible refine Kd.C_drew ?_) | exact HR197_2.out)) hb); have n14_ := Aside0.mk (Kd.C_below (by repeat (first | (with_reducible exact HR197_3.out) | (with_reducible refine Kd.C_alloc ?_ _) | (with_reducible refine Kd.C_drewN ?_ _) | (with_reducible refine Kd.C_drew ?_) | exact HR197_3.out)) hb); have n15_ := Aside0.mk (below_step (by repeat (first | (with_reducible first | exact HB.out | apply below_alloc | apply pw_below_drewN | apply below_drew1) | exact HB.out)) hb); clear HO_0; clear HO_9; clear HL196_1; clear HL196_2; clear HL196_3; clear HL197_1; clear HL197_2; clear HL197_3; clear HR196_1; clear HR196_2; clear HR196_3; clear HR197_1; clear HR197_2; clear HR197_3; clear HB; have HO_0 := n0_; have HO_9 := n1_; have HL196_1 := n2_; have HL196_2 := n3_; have HL196_3 := n4_; have HL197_1 := n5_; have HL197_2 := n6_; have HL197_3 := n7_; have HO200 := n8_; have HR196_1 := n9_; have HR196_2 := n10_; have HR196_3 := n11_; have HR197_1 := n12_; have HR197_2 := n13_; have HR197_3 := n14_; have HB := n15_; clear n0_ n1_ n2_ n3_ n4_ n5_ n6_ n7_ n8_ n9_ n10_ n11_ n12_ n13_ n14_ n15_; (try clear hb); (try clear hb2); (try clear hk); (try clear hi); (try clear ho0); obtain ⟨Ao20, co20, eo20⟩ := Kd.R_slice HO200.out; subst eo20) | ((with_reducible refine gate_builtin (b := .append) (xs := #[.tmp 33, .tmp 40]) rfl ?_); at_builtin; refine Kd.R_append_rows Kd.string (w0 := w) w.heap.size rfl (.tmp 33) (.tmp 40) 25 9 (.string ⟨#[]⟩) 16 rfl Tryz.underlying25 info9 rfl (by decide) (by omega) u9 x9_2 t198 _ _ _ (fun k_ => (w.heap.size ≤ k_) ∧ some k_ ≠ (.slice Ao20 t198.length co20 : Value).ownBlock) (fun _ => False) rfl rfl ?aO ?aR (fun _ _ h => h) (fun _ h => h.elim) ?aF ?aB ?aS ?aL ?_; (case aR => repeat (first | exact (Kd.R_reads' HO200.out).2.2 | (with_reducible refine Kd.C_alloc ?_ _) | (with_reducible refine Kd.C_drewN ?_ _) | (with_reducible refine Kd.C_drew ?_))); (case aB => exact (by repeat (first | (with_reducible first | exact HB.out | apply below_alloc | apply pw_below_drewN | apply below_drew1) | exact HB.out))); (case aF => exact (fun k_ hk => ⟨(Nat.le_trans (below_size (by repeat (first | (with_reducible first | exact HB.out | apply below_alloc | apply pw_below_drewN | apply below_drew1) | exact HB.out))) hk), Kd.fresh' (Kd.R_lt (by (with_reducible repeat (first | apply Kd.R_alloc | apply Kd.R_drewN | apply Kd.R_drew)); exact HO200.out)) k_ hk⟩)); (case aO => exact (by (with_reducible repeat (first | apply Kd.R_alloc | apply Kd.R_drewN | apply Kd.R_drew)); exact HO_9.out)); (case aS => exact (below_size (by repeat (first | (with_reducible first | exact HB.out | apply below_alloc | apply pw_below_drewN | apply below_drew1) | exact HB.out)))); (case aL => have := LMc16.out; omega); intro v202 w19 ho hb hg hat; rw [← Ny201.out] at ho; have n0_ := Aside0.mk (Kd.V_afterv (ok := (fun k_ => (P0_ k_ ∨ w.heap.size ≤ k_) ∧ some k_ ≠ (.slice Ao20 t198.length co20 : Value).ownBlock)) (by (with_reducible repeat (first | apply Kd.V_alloc | apply Kd.V_drewN | apply Kd.V_drew)); exact Kd.V_mono HO_0.out (fun _ hk => ⟨⟨hk.1.1, hk.2⟩, hk.1.2⟩)) hg hat); have n1_ := Aside0.mk (Kd.V_afterv (ok := (fun k_ => (P0_ k_ ∨ w.heap.size ≤ k_) ∧ some k_ ≠ (.slice Ao20 t198.length co20 : Value).ownBlock)) (by (with_reducible repeat (first | apply Kd.V_alloc | apply Kd.V_drewN | apply Kd.V_drew)); exact Kd.V_mono HL196_1.out (fun _ hk => ⟨⟨hk.1.1, hk.2⟩, hk.1.2⟩)) hg hat); have n2_ := Aside0.mk (Kd.V_afterv (ok := (fun k_ => (P0_ k_ ∨ w.heap.size ≤ k_) ∧ some k_ ≠ (.slice Ao20 t198.length co20 : Value).ownBlock)) (by (with_reducible repeat (first | apply Kd.V_alloc | apply Kd.V_drewN | apply Kd.V_drew)); exact Kd.V_mono HL196_2.out (fun _ hk => ⟨⟨hk.1.1, hk.2⟩, hk.1.2⟩)) hg hat); have n3_ := Aside0.mk (Kd.V_afterv (ok := (fun k_ => (P0_ k_ ∨ w.heap.size ≤ k_) ∧ some k_ ≠ (.slice Ao20 t198.length co20 : Value).ownBlock)) (by (with_reducible repeat (first | apply Kd.V_alloc | apply Kd.V_drewN | apply Kd.V_drew)); exact Kd.V_mono HL196_3.out (fun _ hk => ⟨⟨hk.1.1, hk.2⟩, hk.1.2⟩)) hg hat); have n4_ := Aside0.mk (Kd.V_afterv (ok := (fun k_ => (P0_ k_ ∨ w.heap.size ≤ k_) ∧ some k_ ≠ (.slice Ao20 t198.length co20 : Value).ownBlock)) (by (with_reducible repeat (first | apply Kd.V_alloc | apply Kd.V_drewN | apply Kd.V_drew)); exact Kd.V_mono HL197_1.out (fun _ hk => ⟨⟨hk.1.1, hk.2⟩, hk.1.2⟩)) hg hat); have n5_ := Aside0.mk (Kd.V_afterv (ok := (fun k_ => (P0_ k_ ∨ w.heap.size ≤ k_) ∧ some k_ ≠ (.slice Ao20 t198.length co20 : Value).ownBlock)) (by (with_reducible repeat (first | apply Kd.V_alloc | apply Kd.V_drewN | apply Kd.V_drew)); exact Kd.V_mono HL197_2.out (fun _ hk => ⟨⟨hk.1.1, hk.2⟩, hk.1.2⟩)) hg hat); have n6_ := Aside0.mk (Kd.V_afterv (ok := (fun k_ => (P0_ k_ ∨ w.heap.size ≤ k_) ∧ some k_ ≠ (.slice Ao20 t198.length co20 : Value).ownBlock)) (by (with_reducible repeat (first | apply Kd.V_alloc | apply Kd.V_drewN | apply Kd.V_drew)); exact Kd.V_mono HL197_3.out (fun _ hk => ⟨⟨hk.1.1, hk.2⟩, hk.1.2⟩)) hg hat); have n7_ := Aside0.mk (Kd.R_after (ok := (fun k_ => (w.heap.size ≤ k_))) (by (with_reducible repeat (first | apply Kd.R_alloc | apply Kd.R_drewN | apply Kd.R_drew)); exact Kd.R_mono HO200.out (fun _ hk => ⟨hk.1.1, hk.2⟩)) hg hat); have n8_ := Aside0.mk (hb); have n9_ := Aside0.mk (ho); clear HO_0; clear HL196_1; clear HL196_2; clear HL196_3; clear HL197_1; clear HL197_2; clear HL197_3; clear HO200; clear HB; clear HO_9; have HO_0 := n0_; have HL196_1 := n1_; have HL196_2 := n2_; have HL196_3 := n3_; have HL197_1 := n4_; have HL197_2 := n5_; have HL197_3 := n6_; have HO200 := n7_; have HB := n8_; have HO203 := n9_; clear n0_ n1_ n2_ n3_ n4_ n5_ n6_ n7_ n8_ n9_; clear ho hb hg hat))
          go_roundg k2
          case measure => have := HJ5.out; have := HK2.out; omega
          case rel => exact ⟨(y201), (wrap64 (x10_2 + 1)), (by first | rfl | (simp; done) | (simp [*]; done)), H', ⟨by have := HJ5.out; have := HK2.out; omega⟩, ⟨by (with_reducible repeat (first | apply Kd.V_alloc | apply Kd.V_drewN | apply Kd.V_drew)); exact Kd.V_mono HO_0.out (fun _ hk => ⟨hk.1.1, hk.2⟩)⟩, ⟨by (with_reducible repeat (first | apply Kd.R_alloc | apply Kd.R_drewN | apply Kd.R_drew)); exact Kd.R_mono HO203.out (fun _ hk => hk.1)⟩, ⟨by repeat (first | (with_reducible first | exact HB.out | apply below_alloc | apply pw_below_drewN | apply below_drew1) | exact HB.out)⟩⟩
         ·rw [if_neg c16] at H
          exact absurd H (by simp)
        ·replace c14 := Bool.eq_false_iff.mpr c14
         subst c14
         have H1 : (if x9_2.length + ((rd_T36 x0_5 x10_2).f1).length < 8796093022208 then (sennitref12_Print.l0 k2 x0_5 a1 a2 (x9_2 ++ ((rd_T36 x0_5 x10_2).f1)) (wrap64 (x10_2 + 1))) else (none)) = some (r1, r2) := by rw [if_neg (show ¬ (false = true) by decide)] at H; exact H
         clear H
         have H := H1
         clear H1
         by_cases c21 : x9_2.length + ((rd_T36 x0_5 x10_2).f1).length < 8796093022208
         ·rw [if_pos c21] at H
          have LMc21 := Aside0.mk c21
          clear c21
          obtain ⟨y205, hy205⟩ : ∃ y_ : List ByteArray, y_ = (x9_2 ++ ((rd_T36 x0_5 x10_2).f1)) := ⟨_, rfl⟩
          replace H : (sennitref12_Print.l0 k2 x0_5 a1 a2 y205 (wrap64 (x10_2 + 1))) = some (r1, r2) := by first | (rw [hy205]; with_reducible exact H) | (have H2_ := (Option.bind_some _ _).symm.trans H; rw [hy205]; with_reducible exact H2_) | (have H2_ := (Option.bind_some _ _).symm.trans H; with_reducible exact H2_) | with_reducible exact H | (rw [hy205]; exact H) | exact H
          have Ny205 := Aside0.mk hy205
          clear hy205
          have H' := Aside0.mk H
          clear H
          obtain ⟨Ao22, co22, eo22⟩ := Kd.V_slice HO_0.out
          subst eo22
          have p196 : 0 ≤ (x10_2 : Int) := of_decide_eq_true (by first | (with_reducible assumption) | assumption)
          have q196 : x10_2 < (x0_5.length : Int) := of_decide_eq_true (by first | (with_reducible assumption) | assumption)
          obtain ⟨ad196, A196_1, c196_1, A196_2, c196_2, A196_3, c196_3, e196, hx196_0, hx196_1, hx196_2, hx196_3, hl196_1, hi196_1, hl196_2, hi196_2, hl196_3, hi196_3⟩ := at_T36 (Kd.V_reads' HO_0.out).2.2 x10_2 p196 q196
          (try rw [← Nbq13.out] at hx196_0)
          cases e196
          obtain ⟨ce196, hce196, hMe196, hcc196⟩ := Kd.V_get HO_0.out z36 x10_2 p196 (by first | exact q196 | exact of_decide_eq_true (by first | (with_reducible assumption) | assumption) | (have e_ := (Kd.V_reads' HO_0.out).1; omega))
          obtain ⟨ua196_1, uc196_1, ua196_2, uc196_2, ua196_3, uc196_3, rfl, ul196_1, ge196_1, ul196_2, ge196_2, ul196_3, ge196_3⟩ := k36_openF hMe196
          have hv196_1 := hcc196 1 _ rfl
          rw [add_field _ _ 1 (by omega)] at hv196_1
          replace hv196_1 := Option.some.inj (hv196_1.symm.trans hx196_1)
          injection hv196_1 with hva_ hvn_ hvc_
          rw [hva_] at ge196_1
          rw [hvc_] at ul196_1
          have HL196_1 := Aside0.mk (show Kd.V Kd.string 9 _ w.heap.size _ _ ((rd_T36 x0_5 x10_2).f1) from Kd.V_mk ul196_1 ge196_1)
          clear hva_ hvn_ hvc_ ge196_1 ul196_1
          have hv196_2 := hcc196 2 _ rfl
          rw [add_field _ _ 2 (by omega)] at hv196_2
          replace hv196_2 := Option.some.inj (hv196_2.symm.trans hx196_2)
          injection hv196_2 with hva_ hvn_ hvc_
          rw [hva_] at ge196_2
          rw [hvc_] at ul196_2
          have HL196_2 := Aside0.mk (show Kd.V Kd.string 9 _ w.heap.size _ _ ((rd_T36 x0_5 x10_2).f2) from Kd.V_mk ul196_2 ge196_2)
          clear hva_ hvn_ hvc_ ge196_2 ul196_2
          have hv196_3 := hcc196 3 _ rfl
          rw [add_field _ _ 3 (by omega)] at hv196_3
          replace hv196_3 := Option.some.inj (hv196_3.symm.trans hx196_3)
          injection hv196_3 with hva_ hvn_ hvc_
          rw [hva_] at ge196_3
          rw [hvc_] at ul196_3
          have HL196_3 := Aside0.mk (show Kd.V (Kd.slice 9 Kd.string) 25 _ w.heap.size _ _ ((rd_T36 x0_5 x10_2).f3) from Kd.V_mk ul196_3 ge196_3)
          clear hva_ hvn_ hvc_ ge196_3 ul196_3
          clear hcc196 hce196
          have HR196_1 := Aside0.mk hi196_1
          have HC196_1 := Aside0.mk hl196_1
          clear hi196_1 hl196_1
          have HR196_2 := Aside0.mk hi196_2
          have HC196_2 := Aside0.mk hl196_2
          clear hi196_2 hl196_2
          have HR196_3 := Aside0.mk hi196_3
          have HC196_3 := Aside0.mk hl196_3
          clear hi196_3 hl196_3
          replace p196 := eq_true p196
          replace q196 := eq_true q196
          have p204 : 0 ≤ (x10_2 : Int) := of_decide_eq_true (by first | (with_reducible assumption) | assumption)
          have q204 : x10_2 < (x0_5.length : Int) := of_decide_eq_true (by first | (with_reducible assumption) | assumption)
          obtain ⟨ad204, A204_1, c204_1, A204_2, c204_2, A204_3, c204_3, e204, hx204_0, hx204_1, hx204_2, hx204_3, hl204_1, hi204_1, hl204_2, hi204_2, hl204_3, hi204_3⟩ := at_T36 (Kd.V_reads' HO_0.out).2.2 x10_2 p204 q204
          (try rw [← Nbq13.out] at hx204_0)
          obtain rfl : ad196 = ad204 := (by injection e204)
          obtain ⟨ce204, hce204, hMe204, hcc204⟩ := Kd.V_get HO_0.out z36 x10_2 p204 (by first | exact q204 | exact of_decide_eq_true (by first | (with_reducible assumption) | assumption) | (have e_ := (Kd.V_reads' HO_0.out).1; omega))
          obtain ⟨ua204_1, uc204_1, ua204_2, uc204_2, ua204_3, uc204_3, rfl, ul204_1, ge204_1, ul204_2, ge204_2, ul204_3, ge204_3⟩ := k36_openF hMe204
          have hv204_1 := hcc204 1 _ rfl
          rw [add_field _ _ 1 (by omega)] at hv204_1
          replace hv204_1 := Option.some.inj (hv204_1.symm.trans hx204_1)
          injection hv204_1 with hva_ hvn_ hvc_
          rw [hva_] at ge204_1
          rw [hvc_] at ul204_1
          have HL204_1 := Aside0.mk (show Kd.V Kd.string 9 _ w.heap.size _ _ ((rd_T36 x0_5 x10_2).f1) from Kd.V_mk ul204_1 ge204_1)
          clear hva_ hvn_ hvc_ ge204_1 ul204_1
          have hv204_2 := hcc204 2 _ rfl
          rw [add_field _ _ 2 (by omega)] at hv204_2
          replace hv204_2 := Option.some.inj (hv204_2.symm.trans hx204_2)
          injection hv204_2 with hva_ hvn_ hvc_
          rw [hva_] at ge204_2
          rw [hvc_] at ul204_2
          have HL204_2 := Aside0.mk (show Kd.V Kd.string 9 _ w.heap.size _ _ ((rd_T36 x0_5 x10_2).f2) from Kd.V_mk ul204_2 ge204_2)
          clear hva_ hvn_ hvc_ ge204_2 ul204_2
          have hv204_3 := hcc204 3 _ rfl
          rw [add_field _ _ 3 (by omega)] at hv204_3
          replace hv204_3 := Option.some.inj (hv204_3.symm.trans hx204_3)
          injection hv204_3 with hva_ hvn_ hvc_
          rw [hva_] at ge204_3
          rw [hvc_] at ul204_3
          have HL204_3 := Aside0.mk (show Kd.V (Kd.slice 9 Kd.string) 25 _ w.heap.size _ _ ((rd_T36 x0_5 x10_2).f3) from Kd.V_mk ul204_3 ge204_3)
          clear hva_ hvn_ hvc_ ge204_3 ul204_3
          clear hcc204 hce204
          have HR204_1 := Aside0.mk hi204_1
          have HC204_1 := Aside0.mk hl204_1
          clear hi204_1 hl204_1
          have HR204_2 := Aside0.mk hi204_2
          have HC204_2 := Aside0.mk hl204_2
          clear hi204_2 hl204_2
          have HR204_3 := Aside0.mk hi204_3
          have HC204_3 := Aside0.mk hl204_3
          clear hi204_3 hl204_3
          replace p204 := eq_true p204
          replace q204 := eq_true q204
          have ea_ := Option.some.inj (hx196_1.symm.trans hx204_1)
          injection ea_ with ea_ en_ ec_
          subst ea_
          subst ec_
          clear en_
          have ea_ := Option.some.inj (hx196_2.symm.trans hx204_2)
          injection ea_ with ea_ en_ ec_
          subst ea_
          subst ec_
          clear en_
          have ea_ := Option.some.inj (hx196_3.symm.trans hx204_3)
          injection ea_ with ea_ en_ ec_
          subst ea_
          subst ec_
          clear en_
          go_wp2_with (first | ((with_reducible refine gate_builtin (b := .append) (xs := #[.tmp 42, .tmp 47]) rfl ?_); at_builtin; refine Kd.R_append_rows Kd.string (w0 := w) w.heap.size rfl (.tmp 42) (.tmp 47) 25 9 (.string ⟨#[]⟩) 16 rfl Tryz.underlying25 info9 rfl (by decide) (by omega) u9 x9_2 ((rd_T36 x0_5 x10_2).f1) _ _ _ (fun k_ => (w.heap.size ≤ k_)) (fun _ => False) rfl rfl ?aO ?aR (fun _ _ h => h) (fun _ h => h.elim) ?aF ?aB ?aS ?aL ?_; (case aR => repeat (first | exact (by repeat (first | (with_reducible exact HR204_1.out) | (with_reducible refine Kd.C_alloc ?_ _) | (with_reducible refine Kd.C_drewN ?_ _) | (with_reducible refine Kd.C_drew ?_) | exact HR204_1.out)) | (with_reducible refine Kd.C_alloc ?_ _) | (with_reducible refine Kd.C_drewN ?_ _) | (with_reducible refine Kd.C_drew ?_))); (case aB => exact (by repeat (first | (with_reducible first | exact HB.out | apply below_alloc | apply pw_below_drewN | apply below_drew1) | exact HB.out))); (case aF => exact (fun k_ hk => (Nat.le_trans (below_size (by repeat (first | (with_reducible first | exact HB.out | apply below_alloc | apply pw_below_drewN | apply below_drew1) | exact HB.out))) hk))); (case aO => exact (by (with_reducible repeat (first | apply Kd.R_alloc | apply Kd.R_drewN | apply Kd.R_drew)); exact HO_9.out)); (case aS => exact (below_size (by repeat (first | (with_reducible first | exact HB.out | apply below_alloc | apply pw_below_drewN | apply below_drew1) | exact HB.out)))); (case aL => have := LMc21.out; omega); intro v206 w23 ho hb hg hat; rw [← Ny205.out] at ho; have n0_ := Aside0.mk (Kd.V_afterv (ok := (fun k_ => (P0_ k_ ∨ w.heap.size ≤ k_))) (by (with_reducible repeat (first | apply Kd.V_alloc | apply Kd.V_drewN | apply Kd.V_drew)); exact HO_0.out) hg hat); have n1_ := Aside0.mk (Kd.V_afterv (ok := (fun k_ => (P0_ k_ ∨ w.heap.size ≤ k_))) (by (with_reducible repeat (first | apply Kd.V_alloc | apply Kd.V_drewN | apply Kd.V_drew)); exact HL196_1.out) hg hat); have n2_ := Aside0.mk (Kd.V_afterv (ok := (fun k_ => (P0_ k_ ∨ w.heap.size ≤ k_))) (by (with_reducible repeat (first | apply Kd.V_alloc | apply Kd.V_drewN | apply Kd.V_drew)); exact HL196_2.out) hg hat); have n3_ := Aside0.mk (Kd.V_afterv (ok := (fun k_ => (P0_ k_ ∨ w.heap.size ≤ k_))) (by (with_reducible repeat (first | apply Kd.V_alloc | apply Kd.V_drewN | apply Kd.V_drew)); exact HL196_3.out) hg hat); have n4_ := Aside0.mk (Kd.V_afterv (ok := (fun k_ => (P0_ k_ ∨ w.heap.size ≤ k_))) (by (with_reducible repeat (first | apply Kd.V_alloc | apply Kd.V_drewN | apply Kd.V_drew)); exact HL204_1.out) hg hat); have n5_ := Aside0.mk (Kd.V_afterv (ok := (fun k_ => (P0_ k_ ∨ w.heap.size ≤ k_))) (by (with_reducible repeat (first | apply Kd.V_alloc | apply Kd.V_drewN | apply Kd.V_drew)); exact HL204_2.out) hg hat); have n6_ := Aside0.mk (Kd.V_afterv (ok := (fun k_ => (P0_ k_ ∨ w.heap.size ≤ k_))) (by (with_reducible repeat (first | apply Kd.V_alloc | apply Kd.V_drewN | apply Kd.V_drew)); exact HL204_3.out) hg hat); have n7_ := Aside0.mk (hb); have n8_ := Aside0.mk (ho); clear HO_0; clear HL196_1; clear HL196_2; clear HL196_3; clear HL204_1; clear HL204_2; clear HL204_3; clear HB; clear HO_9; have HO_0 := n0_; have HL196_1 := n1_; have HL196_2 := n2_; have HL196_3 := n3_; have HL204_1 := n4_; have HL204_2 := n5_; have HL204_3 := n6_; have HB := n7_; have HO207 := n8_; clear n0_ n1_ n2_ n3_ n4_ n5_ n6_ n7_ n8_; clear ho hb hg hat))
          go_roundg k2
          case measure => have := HJ5.out; have := HK2.out; omega
          case rel => exact ⟨(y205), (wrap64 (x10_2 + 1)), (by first | rfl | (simp; done) | (simp [*]; done)), H', ⟨by have := HJ5.out; have := HK2.out; omega⟩, ⟨by (with_reducible repeat (first | apply Kd.V_alloc | apply Kd.V_drewN | apply Kd.V_drew)); exact HO_0.out⟩, ⟨by (with_reducible repeat (first | apply Kd.R_alloc | apply Kd.R_drewN | apply Kd.R_drew)); exact HO207.out⟩, ⟨by repeat (first | (with_reducible first | exact HB.out | apply below_alloc | apply pw_below_drewN | apply below_drew1) | exact HB.out)⟩⟩
         ·rw [if_neg c21] at H
          exact absurd H (by simp)
       ·rw [if_neg c12] at H
        exact absurd H (by simp)
      ·rw [if_neg c11] at H
       have c11b0 : decide (x10_2 < (x0_5.length : Int)) = false := decide_eq_false c11
       clear c11
       simp only [Option.some.injEq, Prod.mk.injEq] at H
       obtain ⟨rfl, rfl⟩ := H
       obtain ⟨Ao24, co24, eo24⟩ := Kd.V_slice HO_0.out
       subst eo24
       go_wp2
       go_ret2
       exact ⟨_, by first | rfl | (simp [errW_none, errW_some] <;> rfl) | (simp [*, errW_none, errW_some] <;> rfl), by (with_reducible repeat (first | apply Kd.R_alloc | apply Kd.R_drewN | apply Kd.R_drew)); exact HO_9.out, by repeat (first | (with_reducible first | exact HB.out | apply below_alloc | apply pw_below_drewN | apply below_drew1) | exact HB.out)⟩
 ·rw [if_neg c5] at H
  have c5b0 : (t192 == 0) = false := beq_eq_false_iff_ne.mpr c5
  have c5b1 : (t192 != 0) = true := bne_iff_ne.mpr c5
  simp only [Option.some.injEq, Prod.mk.injEq] at H
  obtain ⟨rfl, rfl⟩ := H
  go_enter Tryz.func13, Tryz.ntmps13
  go_wp2_with (first | ((with_reducible refine gate_callee (f := 34) rfl ?_); refine goesL_ (some 14) rfl rfl Tryz.func34 (by kernel_rfl) rfl #[.slice A0 l0.length c0, .int .i64 a1, .int .i64 a2] rfl (by (try simp only [List.map_toArray, List.map_cons, List.map_nil]); first | done | rfl | (simp only [List.length_drop, List.length_take]; rfl)) ?_; (with_reducible refine (sennitref12_wrong.calls k _ _ l0 a1 a2 t192 _ ?side1 ?side2 A4.out).mono ?_); (case side1 => repeat (first | exact (Kd.V_reads' HO0.out).2.2 | (with_reducible refine Kd.C_alloc ?_ _) | (with_reducible refine Kd.C_drewN ?_ _) | (with_reducible refine Kd.C_drew ?_))); (case side2 => exact (Kd.V_reads' HO0.out).2.1); rintro e w25 ⟨rfl, hb⟩; refine ⟨_, rfl, ?_⟩; have n0_ := Aside0.mk (Kd.V_below (by (with_reducible repeat (first | apply Kd.V_alloc | apply Kd.V_drewN | apply Kd.V_drew)); exact HO0.out) hb); have n1_ := Aside0.mk (below_step (by repeat (first | (with_reducible first | exact HB.out | apply below_alloc | apply pw_below_drewN | apply below_drew1) | exact HB.out)) hb); clear HO0; clear HB; have HO0 := n0_; have HB := n1_; clear n0_ n1_; (try clear hb); (try clear hb2); (try clear hk); (try clear hi)))
  go_ret2
  exact ⟨_, by first | rfl | (simp [errW_none, errW_some] <;> rfl) | (simp [*, errW_none, errW_some] <;> rfl), by first | exact Kd.R_nil _ _ _ _ _ | exact Kd.N_nil _ _ _ _ _ | exact Kd.V_nil _ _ _ _ _ | exact Kd.Q_nil _ _ _ _ _ | exact Kd.S_nil _ _ _ _ _, by repeat (first | (with_reducible first | exact HB.out | apply below_alloc | apply pw_below_drewN | apply below_drew1) | exact HB.out)⟩

-- function 14 (sennitref01_Same): its contract is proved by hand

end Go.Proofs.YtcnjbmdnnhbfkaaGreatDoor.XD
