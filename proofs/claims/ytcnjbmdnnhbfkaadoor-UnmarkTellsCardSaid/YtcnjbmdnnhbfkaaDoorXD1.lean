-- Printed by this session's xprint.sh (a patched copy of the kit's print program). Not trusted: Lean checks it.
import Derived.Test.YtcnjbmdnnhbfkaaDoorXD0
import Derived.Test.YtcnjbmdnnhbfkaaDoorUnmark5
namespace Go.Proofs.YtcnjbmdnnhbfkaaDoor.XD
open Go.RowKit Go.Proofs.YtcnjbmdnnhbfkaaDoor.Unmark Go.Proofs.YtcnjbmdnnhbfkaaDoorW.PrintWords Go.Proofs.YtcnjbmdnnhbfkaaDoorW.PrintLast Go.Proofs.YtcnjbmdnnhbfkaaDoorW.PrintMore
attribute [local go_sem] max2_int min2_int max_two min_two max_three min_three max_four min_four   -- for this text's walks alone
set_option linter.unusedVariables false
set_option linter.unusedSimpArgs false
-- function 9 (unmark_Parse): its contract is proved by hand
/-! ### sennitlaw13_awake: function 7 -/
def sennitlaw13_awake.f  : Option (Bool) := (some (([(⟨#[116, 10]⟩ : ByteArray), (⟨#[60, 60, 32, 49, 10]⟩ : ByteArray), (⟨#[97, 10]⟩ : ByteArray), (⟨#[61, 61, 32, 50, 10]⟩ : ByteArray), (⟨#[98, 10]⟩ : ByteArray), (⟨#[62, 62, 33, 10]⟩ : ByteArray)] : List ByteArray) : List ByteArray)).bind fun y101 => ((unmark_Parse.f y101 2).bind fun bt104 => (if 3 ≤ (y101.length : Int) then ((unmark_Parse.f (y101.take 3) 2).bind fun bt114 => ((unmark_Parse.f ([] : List ByteArray) 0).bind fun bt120 => (if bt104.2.2.2 = 0 then (if bt104.2.1 = 1 then (if bt104.2.2.1 = 0 then (if (bt104.1.length : Int) = 2 then (if 1 < (bt104.1.length : Int) then (if (rd_T37 bt104.1 1).f0 = true then (if (((rd_T37 bt104.1 1).f3).length : Int) = 2 then (if 1 < (((rd_T37 bt104.1 1).f3).length : Int) then (if 0 < ((rd_L1 ((rd_T37 bt104.1 1).f3) 1).length : Int) then (if (rdOf ByteArray.empty (rd_L1 ((rd_T37 bt104.1 1).f3) 1) 0).toList = ([98] : List UInt8) then (if bt114.2.2.2 = 2 then (if bt114.2.2.1 = 4 then (some (bt120.2.2.2 == 1)) else (some false)) else (some false)) else (some false)) else (none)) else (none)) else (some false)) else (some false)) else (none)) else (some false)) else (some false)) else (some false)) else (some false)))) else (none)))
theorem sennitlaw13_awake_true : sennitlaw13_awake.f = some true := by decide +kernel
set_option maxHeartbeats 8000000 in
set_option maxRecDepth 100000 in
theorem sennitlaw13_awake.calls  (r : Bool) (w : World) (h : sennitlaw13_awake.f  = some r) :
  Calls Tryd.prog 7 #[] w fun e w' => e = .returned (.bool r) ∧ Below w.heap.size w w' := by
 have hr_ : r = true := Option.some.inj (h.symm.trans sennitlaw13_awake_true)
 have HB := Aside0.mk (Below.refl w.heap.size w)
 have H : ((some (([(⟨#[116, 10]⟩ : ByteArray), (⟨#[60, 60, 32, 49, 10]⟩ : ByteArray), (⟨#[97, 10]⟩ : ByteArray), (⟨#[61, 61, 32, 50, 10]⟩ : ByteArray), (⟨#[98, 10]⟩ : ByteArray), (⟨#[62, 62, 33, 10]⟩ : ByteArray)] : List ByteArray) : List ByteArray)).bind fun y101 => ((unmark_Parse.f y101 2).bind fun bt104 => (if 3 ≤ (y101.length : Int) then ((unmark_Parse.f (y101.take 3) 2).bind fun bt114 => ((unmark_Parse.f ([] : List ByteArray) 0).bind fun bt120 => (if bt104.2.2.2 = 0 then (if bt104.2.1 = 1 then (if bt104.2.2.1 = 0 then (if (bt104.1.length : Int) = 2 then (if 1 < (bt104.1.length : Int) then (if (rd_T37 bt104.1 1).f0 = true then (if (((rd_T37 bt104.1 1).f3).length : Int) = 2 then (if 1 < (((rd_T37 bt104.1 1).f3).length : Int) then (if 0 < ((rd_L1 ((rd_T37 bt104.1 1).f3) 1).length : Int) then (if (rdOf ByteArray.empty (rd_L1 ((rd_T37 bt104.1 1).f3) 1) 0).toList = ([98] : List UInt8) then (if bt114.2.2.2 = 2 then (if bt114.2.2.1 = 4 then (some (bt120.2.2.2 == 1)) else (some false)) else (some false)) else (some false)) else (none)) else (none)) else (some false)) else (some false)) else (none)) else (some false)) else (some false)) else (some false)) else (some false)))) else (none)))) = some r := h
 clear h
 obtain ⟨y101, hy101⟩ : ∃ y_ : List ByteArray, y_ = (([(⟨#[116, 10]⟩ : ByteArray), (⟨#[60, 60, 32, 49, 10]⟩ : ByteArray), (⟨#[97, 10]⟩ : ByteArray), (⟨#[61, 61, 32, 50, 10]⟩ : ByteArray), (⟨#[98, 10]⟩ : ByteArray), (⟨#[62, 62, 33, 10]⟩ : ByteArray)] : List ByteArray)) := ⟨_, rfl⟩
 replace H : ((unmark_Parse.f y101 2).bind fun bt104 => (if 3 ≤ (y101.length : Int) then ((unmark_Parse.f (y101.take 3) 2).bind fun bt114 => ((unmark_Parse.f ([] : List ByteArray) 0).bind fun bt120 => (if bt104.2.2.2 = 0 then (if bt104.2.1 = 1 then (if bt104.2.2.1 = 0 then (if (bt104.1.length : Int) = 2 then (if 1 < (bt104.1.length : Int) then (if (rd_T37 bt104.1 1).f0 = true then (if (((rd_T37 bt104.1 1).f3).length : Int) = 2 then (if 1 < (((rd_T37 bt104.1 1).f3).length : Int) then (if 0 < ((rd_L1 ((rd_T37 bt104.1 1).f3) 1).length : Int) then (if (rdOf ByteArray.empty (rd_L1 ((rd_T37 bt104.1 1).f3) 1) 0).toList = ([98] : List UInt8) then (if bt114.2.2.2 = 2 then (if bt114.2.2.1 = 4 then (some (bt120.2.2.2 == 1)) else (some false)) else (some false)) else (some false)) else (none)) else (none)) else (some false)) else (some false)) else (none)) else (some false)) else (some false)) else (some false)) else (some false)))) else (none))) = some r := by first | (rw [hy101]; with_reducible exact H) | (have H2_ := (Option.bind_some _ _).symm.trans H; rw [hy101]; with_reducible exact H2_) | (have H2_ := (Option.bind_some _ _).symm.trans H; with_reducible exact H2_) | with_reducible exact H | (rw [hy101]; exact H) | exact H
 have Ny101 := Aside0.mk hy101
 clear hy101
 replace H := Option.bind_eq_some_iff.mp H
 obtain ⟨⟨t104, t107, t108, t109⟩, A10, H⟩ := H
 replace H : (if 3 ≤ (y101.length : Int) then ((unmark_Parse.f (y101.take 3) 2).bind fun bt114 => ((unmark_Parse.f ([] : List ByteArray) 0).bind fun bt120 => (if t109 = 0 then (if t107 = 1 then (if t108 = 0 then (if (t104.length : Int) = 2 then (if 1 < (t104.length : Int) then (if (rd_T37 t104 1).f0 = true then (if (((rd_T37 t104 1).f3).length : Int) = 2 then (if 1 < (((rd_T37 t104 1).f3).length : Int) then (if 0 < ((rd_L1 ((rd_T37 t104 1).f3) 1).length : Int) then (if (rdOf ByteArray.empty (rd_L1 ((rd_T37 t104 1).f3) 1) 0).toList = ([98] : List UInt8) then (if bt114.2.2.2 = 2 then (if bt114.2.2.1 = 4 then (some (bt120.2.2.2 == 1)) else (some false)) else (some false)) else (some false)) else (none)) else (none)) else (some false)) else (some false)) else (none)) else (some false)) else (some false)) else (some false)) else (some false)))) else (none)) = some r := H
 have A1 := Aside0.mk A10
 clear A10
 by_cases c2 : 3 ≤ (y101.length : Int)
 ·rw [if_pos c2] at H
  have c2b0 := eq_true c2
  have c2b1 : decide (3 ≤ (y101.length : Int)) = true := decide_eq_true c2
  clear c2
  obtain ⟨y110, hy110⟩ : ∃ y_ : List ByteArray, y_ = (y101.take 3) := ⟨_, rfl⟩
  replace H : ((unmark_Parse.f y110 2).bind fun bt114 => ((unmark_Parse.f ([] : List ByteArray) 0).bind fun bt120 => (if t109 = 0 then (if t107 = 1 then (if t108 = 0 then (if (t104.length : Int) = 2 then (if 1 < (t104.length : Int) then (if (rd_T37 t104 1).f0 = true then (if (((rd_T37 t104 1).f3).length : Int) = 2 then (if 1 < (((rd_T37 t104 1).f3).length : Int) then (if 0 < ((rd_L1 ((rd_T37 t104 1).f3) 1).length : Int) then (if (rdOf ByteArray.empty (rd_L1 ((rd_T37 t104 1).f3) 1) 0).toList = ([98] : List UInt8) then (if bt114.2.2.2 = 2 then (if bt114.2.2.1 = 4 then (some (bt120.2.2.2 == 1)) else (some false)) else (some false)) else (some false)) else (none)) else (none)) else (some false)) else (some false)) else (none)) else (some false)) else (some false)) else (some false)) else (some false)))) = some r := by first | (rw [hy110]; with_reducible exact H) | (have H2_ := (Option.bind_some _ _).symm.trans H; rw [hy110]; with_reducible exact H2_) | (have H2_ := (Option.bind_some _ _).symm.trans H; with_reducible exact H2_) | with_reducible exact H | (rw [hy110]; exact H) | exact H
  have Ny110 := Aside0.mk hy110
  clear hy110
  replace H := Option.bind_eq_some_iff.mp H
  obtain ⟨⟨t114, t117, t118, t119⟩, A30, H⟩ := H
  replace H : ((unmark_Parse.f ([] : List ByteArray) 0).bind fun bt120 => (if t109 = 0 then (if t107 = 1 then (if t108 = 0 then (if (t104.length : Int) = 2 then (if 1 < (t104.length : Int) then (if (rd_T37 t104 1).f0 = true then (if (((rd_T37 t104 1).f3).length : Int) = 2 then (if 1 < (((rd_T37 t104 1).f3).length : Int) then (if 0 < ((rd_L1 ((rd_T37 t104 1).f3) 1).length : Int) then (if (rdOf ByteArray.empty (rd_L1 ((rd_T37 t104 1).f3) 1) 0).toList = ([98] : List UInt8) then (if t119 = 2 then (if t118 = 4 then (some (bt120.2.2.2 == 1)) else (some false)) else (some false)) else (some false)) else (none)) else (none)) else (some false)) else (some false)) else (none)) else (some false)) else (some false)) else (some false)) else (some false))) = some r := H
  have A3 := Aside0.mk A30
  clear A30
  replace H := Option.bind_eq_some_iff.mp H
  obtain ⟨⟨t120, t123, t124, t125⟩, A40, H⟩ := H
  replace H : (if t109 = 0 then (if t107 = 1 then (if t108 = 0 then (if (t104.length : Int) = 2 then (if 1 < (t104.length : Int) then (if (rd_T37 t104 1).f0 = true then (if (((rd_T37 t104 1).f3).length : Int) = 2 then (if 1 < (((rd_T37 t104 1).f3).length : Int) then (if 0 < ((rd_L1 ((rd_T37 t104 1).f3) 1).length : Int) then (if (rdOf ByteArray.empty (rd_L1 ((rd_T37 t104 1).f3) 1) 0).toList = ([98] : List UInt8) then (if t119 = 2 then (if t118 = 4 then (some (t125 == 1)) else (some false)) else (some false)) else (some false)) else (none)) else (none)) else (some false)) else (some false)) else (none)) else (some false)) else (some false)) else (some false)) else (some false)) = some r := H
  have A4 := Aside0.mk A40
  clear A40
  by_cases c5 : t109 = 0
  ·rw [if_pos c5] at H
   have c5b0 : (t109 == 0) = true := beq_iff_eq.mpr c5
   have c5b1 : (t109 != 0) = false := bne_eq_false_iff_eq.mpr c5
   clear c5
   by_cases c6 : t107 = 1
   ·rw [if_pos c6] at H
    have c6b0 : (t107 == 1) = true := beq_iff_eq.mpr c6
    have c6b1 : (t107 != 1) = false := bne_eq_false_iff_eq.mpr c6
    clear c6
    by_cases c7 : t108 = 0
    ·rw [if_pos c7] at H
     have c7b0 : (t108 == 0) = true := beq_iff_eq.mpr c7
     have c7b1 : (t108 != 0) = false := bne_eq_false_iff_eq.mpr c7
     clear c7
     by_cases c8 : (t104.length : Int) = 2
     ·rw [if_pos c8] at H
      have c8b0 : ((t104.length : Int) == 2) = true := beq_iff_eq.mpr c8
      have c8b1 : ((t104.length : Int) != 2) = false := bne_eq_false_iff_eq.mpr c8
      clear c8
      by_cases c9 : 1 < (t104.length : Int)
      ·rw [if_pos c9] at H
       have c9b0 : decide (1 < (t104.length : Int)) = true := decide_eq_true c9
       have c9b1 : decide (1 < t104.length) = true := decide_eq_true (by omega)
       clear c9
       obtain ⟨bq10, hbq10⟩ : ∃ b_ : Bool, b_ = ((rd_T37 t104 1).f0) := ⟨_, rfl⟩
       replace H : (if bq10 = true then (if (((rd_T37 t104 1).f3).length : Int) = 2 then (if 1 < (((rd_T37 t104 1).f3).length : Int) then (if 0 < ((rd_L1 ((rd_T37 t104 1).f3) 1).length : Int) then (if (rdOf ByteArray.empty (rd_L1 ((rd_T37 t104 1).f3) 1) 0).toList = ([98] : List UInt8) then (if t119 = 2 then (if t118 = 4 then (some (t125 == 1)) else (some false)) else (some false)) else (some false)) else (none)) else (none)) else (some false)) else (some false)) = some r := by rw [← hbq10] at H; exact H
       have Nbq10 := Aside0.mk hbq10
       clear hbq10
       by_cases c11 : bq10 = true
       ·subst c11
        have H1 : (if (((rd_T37 t104 1).f3).length : Int) = 2 then (if 1 < (((rd_T37 t104 1).f3).length : Int) then (if 0 < ((rd_L1 ((rd_T37 t104 1).f3) 1).length : Int) then (if (rdOf ByteArray.empty (rd_L1 ((rd_T37 t104 1).f3) 1) 0).toList = ([98] : List UInt8) then (if t119 = 2 then (if t118 = 4 then (some (t125 == 1)) else (some false)) else (some false)) else (some false)) else (none)) else (none)) else (some false)) = some r := by rw [if_pos rfl] at H; exact H
        clear H
        have H := H1
        clear H1
        by_cases c12 : (((rd_T37 t104 1).f3).length : Int) = 2
        ·rw [if_pos c12] at H
         have c12b0 : ((((rd_T37 t104 1).f3).length : Int) == 2) = true := beq_iff_eq.mpr c12
         have c12b1 : ((((rd_T37 t104 1).f3).length : Int) != 2) = false := bne_eq_false_iff_eq.mpr c12
         clear c12
         by_cases c13 : 1 < (((rd_T37 t104 1).f3).length : Int)
         ·rw [if_pos c13] at H
          have c13b0 : decide (1 < (((rd_T37 t104 1).f3).length : Int)) = true := decide_eq_true c13
          have c13b1 : decide (1 < ((rd_T37 t104 1).f3).length) = true := decide_eq_true (by omega)
          clear c13
          by_cases c14 : 0 < ((rd_L1 ((rd_T37 t104 1).f3) 1).length : Int)
          ·rw [if_pos c14] at H
           have c14b0 : decide (0 < ((rd_L1 ((rd_T37 t104 1).f3) 1).length : Int)) = true := decide_eq_true c14
           have c14b1 : decide (0 < (rd_L1 ((rd_T37 t104 1).f3) 1).length) = true := decide_eq_true (by omega)
           clear c14
           by_cases c15 : (rdOf ByteArray.empty (rd_L1 ((rd_T37 t104 1).f3) 1) 0).toList = ([98] : List UInt8)
           ·rw [if_pos c15] at H
            have c15b0 : ((rdOf ByteArray.empty (rd_L1 ((rd_T37 t104 1).f3) 1) 0).toList == ([98] : List UInt8)) = true := beq_iff_eq.mpr c15
            have c15b1 : ((rdOf ByteArray.empty (rd_L1 ((rd_T37 t104 1).f3) 1) 0).toList != ([98] : List UInt8)) = false := bne_eq_false_iff_eq.mpr c15
            clear c15
            by_cases c16 : t119 = 2
            ·rw [if_pos c16] at H
             have c16b0 : (t119 == 2) = true := beq_iff_eq.mpr c16
             have c16b1 : (t119 != 2) = false := bne_eq_false_iff_eq.mpr c16
             clear c16
             by_cases c17 : t118 = 4
             ·rw [if_pos c17] at H
              have c17b0 : (t118 == 4) = true := beq_iff_eq.mpr c17
              have c17b1 : (t118 != 4) = false := bne_eq_false_iff_eq.mpr c17
              clear c17
              obtain rfl := Option.some.inj H
              go_enter Tryd.func7, Tryd.ntmps7
              go_wp2_with (first | ((with_reducible refine gate_dst (N := 14) rfl ?_); (try (refine gate_guard (by rfl) ?_; dsimp only)); refine Kd.R_lit Kd.string _ 9 ?hg (N := 14) ?hd (xs := ([(⟨#[116, 10]⟩ : ByteArray), (⟨#[60, 60, 32, 49, 10]⟩ : ByteArray), (⟨#[97, 10]⟩ : ByteArray), (⟨#[61, 61, 32, 50, 10]⟩ : ByteArray), (⟨#[98, 10]⟩ : ByteArray), (⟨#[62, 62, 33, 10]⟩ : ByteArray)] : List ByteArray)) (inner := [.string (⟨#[116, 10]⟩ : ByteArray), .string (⟨#[60, 60, 32, 49, 10]⟩ : ByteArray), .string (⟨#[97, 10]⟩ : ByteArray), .string (⟨#[61, 61, 32, 50, 10]⟩ : ByteArray), .string (⟨#[98, 10]⟩ : ByteArray), .string (⟨#[62, 62, 33, 10]⟩ : ByteArray)]) (ok := fun _ => True) (okp := fun _ => True) ?hr ?hp (fun _ hk => hk) trivial (Below.refl _ _) (Nat.le_refl _) (by simp) ?_; (case hd => rfl); (case hg => rfl); (case hr => first | (go_simp; done) | (go_simp; rfl)); (case hp => exact (Reps.one (show Kd.M Kd.string _ _ _ (⟨#[116, 10]⟩ : ByteArray) [.string (⟨#[116, 10]⟩ : ByteArray)] from rfl) (Reps.one (show Kd.M Kd.string _ _ _ (⟨#[60, 60, 32, 49, 10]⟩ : ByteArray) [.string (⟨#[60, 60, 32, 49, 10]⟩ : ByteArray)] from rfl) (Reps.one (show Kd.M Kd.string _ _ _ (⟨#[97, 10]⟩ : ByteArray) [.string (⟨#[97, 10]⟩ : ByteArray)] from rfl) (Reps.one (show Kd.M Kd.string _ _ _ (⟨#[61, 61, 32, 50, 10]⟩ : ByteArray) [.string (⟨#[61, 61, 32, 50, 10]⟩ : ByteArray)] from rfl) (Reps.one (show Kd.M Kd.string _ _ _ (⟨#[98, 10]⟩ : ByteArray) [.string (⟨#[98, 10]⟩ : ByteArray)] from rfl) (Reps.one (show Kd.M Kd.string _ _ _ (⟨#[62, 62, 33, 10]⟩ : ByteArray) [.string (⟨#[62, 62, 33, 10]⟩ : ByteArray)] from rfl) (Reps.none _ _)))))))); intro v102 w18 ho19 hb hg_ hnew_; clear hg_ hnew_; (first | rw [← Ny101.out] at ho19 | (simp only [Int.reduceToNat] at ho19; rw [← Ny101.out] at ho19)); have n0_ := Aside0.mk (Kd.R_lower ho19 (below_size (by repeat (first | (with_reducible first | exact HB.out | apply below_alloc | apply pw_below_drewN | apply below_drew1) | exact HB.out)))); have n1_ := Aside0.mk (below_step (by repeat (first | (with_reducible first | exact HB.out | apply below_alloc | apply pw_below_drewN | apply below_drew1) | exact HB.out)) hb); clear HB; have HO103 := n0_; have HB := n1_; clear n0_ n1_; clear hb ho19; obtain ⟨Ao20, co20, eo20⟩ := Kd.R_slice HO103.out; subst eo20) | ((with_reducible refine gate_callee (f := 9) rfl ?_); refine goesL_ (some 17) rfl rfl Tryd.func9 (by kernel_rfl) rfl #[.slice Ao20 y101.length co20, .int .i64 2] rfl (by (try simp only [List.map_toArray, List.map_cons, List.map_nil]); first | done | rfl | (simp only [List.length_drop, List.length_take]; rfl)) ?_; (with_reducible refine (unmark_Parse.calls _ _ y101 2 t104 t107 t108 t109 _ ?side1 ?side2 A1.out).mono ?_); (case side1 => repeat (first | exact (Kd.R_reads' HO103.out).2.2 | (with_reducible refine Kd.C_alloc ?_ _) | (with_reducible refine Kd.C_drewN ?_ _) | (with_reducible refine Kd.C_drew ?_))); (case side2 => exact (Kd.R_reads' HO103.out).2.1); rintro e w21 ⟨v105, rfl, ho0, hb⟩; refine ⟨_, rfl, ?_⟩; have n0_ := Aside0.mk (Kd.R_below (by (with_reducible repeat (first | apply Kd.R_alloc | apply Kd.R_drewN | apply Kd.R_drew)); exact HO103.out) hb); have n1_ := Aside0.mk (Kd.V_lower (Kd.V_mono (ok' := fun k_ => some k_ ≠ (.slice Ao20 y101.length co20 : Value).ownBlock) ho0 (fun k_ hk_ => (Kd.fresh' (Kd.R_lt (by (with_reducible repeat (first | apply Kd.R_alloc | apply Kd.R_drewN | apply Kd.R_drew)); exact HO103.out)) k_ hk_))) (below_size (by repeat (first | (with_reducible first | exact HB.out | apply below_alloc | apply pw_below_drewN | apply below_drew1) | exact HB.out)))); have n2_ := Aside0.mk (below_step (by repeat (first | (with_reducible first | exact HB.out | apply below_alloc | apply pw_below_drewN | apply below_drew1) | exact HB.out)) hb); clear HO103; clear HB; have HO103 := n0_; have HO106 := n1_; have HB := n2_; clear n0_ n1_ n2_; (try clear hb); (try clear hb2); (try clear hk); (try clear hi); (try clear ho0); have q22 : (3 : Int) ≤ ((y101.length : Int) : Int) := of_decide_eq_true (by first | (with_reducible assumption) | assumption); obtain ⟨i022, hi022, _, hsz22, _⟩ := info_parts info9; have hroom22 : y101.length ≤ co20 := (Kd.R_reads' HO103.out).2.1; have hC22 : Kd.C Kd.string _ Ao20 y101.length y101 := (Kd.R_reads' HO103.out).2.2; have hcut22 := cut_to (P := Tryd.prog) 22 9 .i64 Tryd.underlying22 hi022 Ao20 y101.length co20 3 (by omega) q22 hroom22; have hr22 := Kd.C_take (m := 3) hC22 (by omega); have hy22 : y110.length = (3 : Int).toNat := (by rw [Ny110.out, List.length_take]; omega); rw [← Ny110.out] at hr22; rw [← hy22] at hcut22; have HR113 := Aside0.mk hr22; have HC113 := Aside0.mk (show y110.length ≤ co20 from by omega); clear hr22 hC22 hroom22 hi022 hsz22; have KY22 := Aside0.mk hy22; clear hy22; have KL22 := Aside0.mk (show 3 ≤ y101.length from by omega); replace q22 := eq_true q22) | ((with_reducible refine gate_callee (f := 9) rfl ?_); refine goesL_ (some 25) rfl rfl Tryd.func9 (by kernel_rfl) rfl #[.slice Ao20 y110.length co20, .int .i64 2] rfl (by (try simp only [List.map_toArray, List.map_cons, List.map_nil]); first | done | rfl | (simp only [List.length_drop, List.length_take]; rfl)) ?_; (with_reducible refine (unmark_Parse.calls _ _ y110 2 t114 t117 t118 t119 _ ?side1 ?side2 A3.out).mono ?_); (case side1 => repeat (first | exact (by repeat (first | (with_reducible exact HR113.out) | (with_reducible refine Kd.C_alloc ?_ _) | (with_reducible refine Kd.C_drewN ?_ _) | (with_reducible refine Kd.C_drew ?_) | exact HR113.out)) | (with_reducible refine Kd.C_alloc ?_ _) | (with_reducible refine Kd.C_drewN ?_ _) | (with_reducible refine Kd.C_drew ?_))); (case side2 => exact HC113.out); rintro e w23 ⟨v115, rfl, ho0, hb⟩; refine ⟨_, rfl, ?_⟩; have n0_ := Aside0.mk (Kd.R_below (by (with_reducible repeat (first | apply Kd.R_alloc | apply Kd.R_drewN | apply Kd.R_drew)); exact HO103.out) hb); have n1_ := Aside0.mk (Kd.V_below (by (with_reducible repeat (first | apply Kd.V_alloc | apply Kd.V_drewN | apply Kd.V_drew)); exact HO106.out) hb); have n2_ := Aside0.mk (Kd.V_lower (Kd.V_mono (ok' := fun k_ => some k_ ≠ (.slice Ao20 y101.length co20 : Value).ownBlock) ho0 (fun k_ hk_ => (Kd.fresh' (Kd.R_lt (by (with_reducible repeat (first | apply Kd.R_alloc | apply Kd.R_drewN | apply Kd.R_drew)); exact HO103.out)) k_ hk_))) (below_size (by repeat (first | (with_reducible first | exact HB.out | apply below_alloc | apply pw_below_drewN | apply below_drew1) | exact HB.out)))); have n3_ := Aside0.mk (Kd.C_below (by repeat (first | (with_reducible exact HR113.out) | (with_reducible refine Kd.C_alloc ?_ _) | (with_reducible refine Kd.C_drewN ?_ _) | (with_reducible refine Kd.C_drew ?_) | exact HR113.out)) hb); have n4_ := Aside0.mk (below_step (by repeat (first | (with_reducible first | exact HB.out | apply below_alloc | apply pw_below_drewN | apply below_drew1) | exact HB.out)) hb); clear HO103; clear HO106; clear HR113; clear HB; have HO103 := n0_; have HO106 := n1_; have HO116 := n2_; have HR113 := n3_; have HB := n4_; clear n0_ n1_ n2_ n3_ n4_; (try clear hb); (try clear hb2); (try clear hk); (try clear hi); (try clear ho0)) | ((with_reducible refine gate_callee (f := 9) rfl ?_); refine goesL_ (some 31) rfl rfl Tryd.func9 (by kernel_rfl) rfl #[.slice none 0 0, .int .i64 0] rfl (by (try simp only [List.map_toArray, List.map_cons, List.map_nil]); first | done | rfl | (simp only [List.length_drop, List.length_take]; rfl)) ?_; (refine (unmark_Parse.calls _ _ ([] : List ByteArray) 0 t120 t123 t124 t125 _ ?side1 ?side2 A4.out).mono ?_); (case side1 => exact Kd.C_nil _ _); (case side2 => exact Nat.le_refl _); rintro e w24 ⟨v121, rfl, ho0, hb⟩; refine ⟨_, rfl, ?_⟩; have n0_ := Aside0.mk (Kd.R_below (by (with_reducible repeat (first | apply Kd.R_alloc | apply Kd.R_drewN | apply Kd.R_drew)); exact HO103.out) hb); have n1_ := Aside0.mk (Kd.V_below (by (with_reducible repeat (first | apply Kd.V_alloc | apply Kd.V_drewN | apply Kd.V_drew)); exact HO106.out) hb); have n2_ := Aside0.mk (Kd.V_below (by (with_reducible repeat (first | apply Kd.V_alloc | apply Kd.V_drewN | apply Kd.V_drew)); exact HO116.out) hb); have n3_ := Aside0.mk (Kd.V_lower (Kd.V_mono (ok' := fun k_ => some k_ ≠ (.slice Ao20 y101.length co20 : Value).ownBlock) ho0 (fun k_ hk_ => (Kd.fresh' (Kd.R_lt (by (with_reducible repeat (first | apply Kd.R_alloc | apply Kd.R_drewN | apply Kd.R_drew)); exact HO103.out)) k_ hk_))) (below_size (by repeat (first | (with_reducible first | exact HB.out | apply below_alloc | apply pw_below_drewN | apply below_drew1) | exact HB.out)))); have n4_ := Aside0.mk (Kd.C_below (by repeat (first | (with_reducible exact HR113.out) | (with_reducible refine Kd.C_alloc ?_ _) | (with_reducible refine Kd.C_drewN ?_ _) | (with_reducible refine Kd.C_drew ?_) | exact HR113.out)) hb); have n5_ := Aside0.mk (below_step (by repeat (first | (with_reducible first | exact HB.out | apply below_alloc | apply pw_below_drewN | apply below_drew1) | exact HB.out)) hb); clear HO103; clear HO106; clear HO116; clear HR113; clear HB; have HO103 := n0_; have HO106 := n1_; have HO116 := n2_; have HO122 := n3_; have HR113 := n4_; have HB := n5_; clear n0_ n1_ n2_ n3_ n4_ n5_; (try clear hb); (try clear hb2); (try clear hk); (try clear hi); (try clear ho0); obtain ⟨Ao25, co25, eo25⟩ := Kd.V_slice HO106.out; subst eo25; have p126 : 0 ≤ (1 : Int) := (by omega); have q126 : 1 < (t104.length : Int) := of_decide_eq_true (by first | (with_reducible assumption) | assumption); obtain ⟨ad126, A126_1, c126_1, A126_2, c126_2, A126_3, c126_3, e126, hx126_0, hx126_1, hx126_2, hx126_3, hl126_1, hi126_1, hl126_2, hi126_2, hl126_3, hi126_3⟩ := at_T37 (Kd.V_reads' HO106.out).2.2 1 p126 q126; (try rw [← Nbq10.out] at hx126_0); cases e126; obtain ⟨ce126, hce126, hMe126, hcc126⟩ := Kd.V_get HO106.out z37 1 p126 (by first | exact q126 | exact of_decide_eq_true (by first | (with_reducible assumption) | assumption) | (have e_ := (Kd.V_reads' HO106.out).1; omega)); obtain ⟨ua126_1, uc126_1, ua126_2, uc126_2, ua126_3, uc126_3, rfl, ul126_1, ge126_1, ul126_2, ge126_2, ul126_3, ge126_3⟩ := k37_openF hMe126; have hv126_1 := hcc126 1 _ rfl; rw [add_field _ _ 1 (by omega)] at hv126_1; replace hv126_1 := Option.some.inj (hv126_1.symm.trans hx126_1); injection hv126_1 with hva_ hvn_ hvc_; rw [hva_] at ge126_1; rw [hvc_] at ul126_1; have HL126_1 := Aside0.mk (show Kd.V Kd.string 9 _ w.heap.size _ _ ((rd_T37 t104 1).f1) from Kd.V_mk ul126_1 ge126_1); clear hva_ hvn_ hvc_ ge126_1 ul126_1; have hv126_2 := hcc126 2 _ rfl; rw [add_field _ _ 2 (by omega)] at hv126_2; replace hv126_2 := Option.some.inj (hv126_2.symm.trans hx126_2); injection hv126_2 with hva_ hvn_ hvc_; rw [hva_] at ge126_2; rw [hvc_] at ul126_2; have HL126_2 := Aside0.mk (show Kd.V Kd.string 9 _ w.heap.size _ _ ((rd_T37 t104 1).f2) from Kd.V_mk ul126_2 ge126_2); clear hva_ hvn_ hvc_ ge126_2 ul126_2; have hv126_3 := hcc126 3 _ rfl; rw [add_field _ _ 3 (by omega)] at hv126_3; replace hv126_3 := Option.some.inj (hv126_3.symm.trans hx126_3); injection hv126_3 with hva_ hvn_ hvc_; rw [hva_] at ge126_3; rw [hvc_] at ul126_3; have HL126_3 := Aside0.mk (show Kd.V (Kd.slice 9 Kd.string) 22 _ w.heap.size _ _ ((rd_T37 t104 1).f3) from Kd.V_mk ul126_3 ge126_3); clear hva_ hvn_ hvc_ ge126_3 ul126_3; clear hcc126 hce126; (try simp only [show (1 : Int).toNat = 1 from rfl, Nat.reduceMul, Nat.reduceEqDiff, Go.Addr.add, ↓reduceIte] at hx126_0); (try simp only [show (1 : Int).toNat = 1 from rfl, Nat.reduceMul, Nat.reduceEqDiff, Go.Addr.add, ↓reduceIte] at hx126_1); (try simp only [show (1 : Int).toNat = 1 from rfl, Nat.reduceMul, Nat.reduceEqDiff, Go.Addr.add, ↓reduceIte] at hx126_2); (try simp only [show (1 : Int).toNat = 1 from rfl, Nat.reduceMul, Nat.reduceEqDiff, Go.Addr.add, ↓reduceIte] at hx126_3); have qi126 : (1 < t104.length) = True := eq_true (by omega); (try rw [show ((1 : Int)).toNat = 1 from rfl] at hx126_0); (try rw [show 1 * 4 = 4 from rfl] at hx126_0); (try rw [show ((1 : Int)).toNat = 1 from rfl] at hx126_1); (try rw [show 1 * 4 = 4 from rfl] at hx126_1); (try rw [show ((1 : Int)).toNat = 1 from rfl] at hx126_2); (try rw [show 1 * 4 = 4 from rfl] at hx126_2); (try rw [show ((1 : Int)).toNat = 1 from rfl] at hx126_3); (try rw [show 1 * 4 = 4 from rfl] at hx126_3); have HR126_1 := Aside0.mk hi126_1; have HC126_1 := Aside0.mk hl126_1; clear hi126_1 hl126_1; have HR126_2 := Aside0.mk hi126_2; have HC126_2 := Aside0.mk hl126_2; clear hi126_2 hl126_2; have HR126_3 := Aside0.mk hi126_3; have HC126_3 := Aside0.mk hl126_3; clear hi126_3 hl126_3; replace p126 := eq_true p126; replace q126 := eq_true q126; have p127 : 0 ≤ (1 : Int) := (by omega); have q127 : 1 < (t104.length : Int) := of_decide_eq_true (by first | (with_reducible assumption) | assumption); obtain ⟨ad127, A127_1, c127_1, A127_2, c127_2, A127_3, c127_3, e127, hx127_0, hx127_1, hx127_2, hx127_3, hl127_1, hi127_1, hl127_2, hi127_2, hl127_3, hi127_3⟩ := at_T37 (Kd.V_reads' HO106.out).2.2 1 p127 q127; (try rw [← Nbq10.out] at hx127_0); obtain rfl : ad126 = ad127 := (by injection e127); obtain ⟨ce127, hce127, hMe127, hcc127⟩ := Kd.V_get HO106.out z37 1 p127 (by first | exact q127 | exact of_decide_eq_true (by first | (with_reducible assumption) | assumption) | (have e_ := (Kd.V_reads' HO106.out).1; omega)); obtain ⟨ua127_1, uc127_1, ua127_2, uc127_2, ua127_3, uc127_3, rfl, ul127_1, ge127_1, ul127_2, ge127_2, ul127_3, ge127_3⟩ := k37_openF hMe127; have hv127_1 := hcc127 1 _ rfl; rw [add_field _ _ 1 (by omega)] at hv127_1; replace hv127_1 := Option.some.inj (hv127_1.symm.trans hx127_1); injection hv127_1 with hva_ hvn_ hvc_; rw [hva_] at ge127_1; rw [hvc_] at ul127_1; have HL127_1 := Aside0.mk (show Kd.V Kd.string 9 _ w.heap.size _ _ ((rd_T37 t104 1).f1) from Kd.V_mk ul127_1 ge127_1); clear hva_ hvn_ hvc_ ge127_1 ul127_1; have hv127_2 := hcc127 2 _ rfl; rw [add_field _ _ 2 (by omega)] at hv127_2; replace hv127_2 := Option.some.inj (hv127_2.symm.trans hx127_2); injection hv127_2 with hva_ hvn_ hvc_; rw [hva_] at ge127_2; rw [hvc_] at ul127_2; have HL127_2 := Aside0.mk (show Kd.V Kd.string 9 _ w.heap.size _ _ ((rd_T37 t104 1).f2) from Kd.V_mk ul127_2 ge127_2); clear hva_ hvn_ hvc_ ge127_2 ul127_2; have hv127_3 := hcc127 3 _ rfl; rw [add_field _ _ 3 (by omega)] at hv127_3; replace hv127_3 := Option.some.inj (hv127_3.symm.trans hx127_3); injection hv127_3 with hva_ hvn_ hvc_; rw [hva_] at ge127_3; rw [hvc_] at ul127_3; have HL127_3 := Aside0.mk (show Kd.V (Kd.slice 9 Kd.string) 22 _ w.heap.size _ _ ((rd_T37 t104 1).f3) from Kd.V_mk ul127_3 ge127_3); clear hva_ hvn_ hvc_ ge127_3 ul127_3; clear hcc127 hce127; (try simp only [show (1 : Int).toNat = 1 from rfl, Nat.reduceMul, Nat.reduceEqDiff, Go.Addr.add, ↓reduceIte] at hx127_0); (try simp only [show (1 : Int).toNat = 1 from rfl, Nat.reduceMul, Nat.reduceEqDiff, Go.Addr.add, ↓reduceIte] at hx127_1); (try simp only [show (1 : Int).toNat = 1 from rfl, Nat.reduceMul, Nat.reduceEqDiff, Go.Addr.add, ↓reduceIte] at hx127_2); (try simp only [show (1 : Int).toNat = 1 from rfl, Nat.reduceMul, Nat.reduceEqDiff, Go.Addr.add, ↓reduceIte] at hx127_3); have qi127 : (1 < t104.length) = True := eq_true (by omega); (try rw [show ((1 : Int)).toNat = 1 from rfl] at hx127_0); (try rw [show 1 * 4 = 4 from rfl] at hx127_0); (try rw [show ((1 : Int)).toNat = 1 from rfl] at hx127_1); (try rw [show 1 * 4 = 4 from rfl] at hx127_1); (try rw [show ((1 : Int)).toNat = 1 from rfl] at hx127_2); (try rw [show 1 * 4 = 4 from rfl] at hx127_2); (try rw [show ((1 : Int)).toNat = 1 from rfl] at hx127_3); (try rw [show 1 * 4 = 4 from rfl] at hx127_3); have HR127_1 := Aside0.mk hi127_1; have HC127_1 := Aside0.mk hl127_1; clear hi127_1 hl127_1; have HR127_2 := Aside0.mk hi127_2; have HC127_2 := Aside0.mk hl127_2; clear hi127_2 hl127_2; have HR127_3 := Aside0.mk hi127_3; have HC127_3 := Aside0.mk hl127_3; clear hi127_3 hl127_3; replace p127 := eq_true p127; replace q127 := eq_true q127; have ea_ := Option.some.inj (hx126_1.symm.trans hx127_1); injection ea_ with ea_ en_ ec_; subst ea_; subst ec_; clear en_; have ea_ := Option.some.inj (hx126_2.symm.trans hx127_2); injection ea_ with ea_ en_ ec_; subst ea_; subst ec_; clear en_; have ea_ := Option.some.inj (hx126_3.symm.trans hx127_3); injection ea_ with ea_ en_ ec_; subst ea_; subst ec_; clear en_; have p128 : 0 ≤ (1 : Int) := (by omega); have q128 : 1 < (t104.length : Int) := of_decide_eq_true (by first | (with_reducible assumption) | assumption); obtain ⟨ad128, A128_1, c128_1, A128_2, c128_2, A128_3, c128_3, e128, hx128_0, hx128_1, hx128_2, hx128_3, hl128_1, hi128_1, hl128_2, hi128_2, hl128_3, hi128_3⟩ := at_T37 (Kd.V_reads' HO106.out).2.2 1 p128 q128; (try rw [← Nbq10.out] at hx128_0); obtain rfl : ad126 = ad128 := (by injection e128); obtain ⟨ce128, hce128, hMe128, hcc128⟩ := Kd.V_get HO106.out z37 1 p128 (by first | exact q128 | exact of_decide_eq_true (by first | (with_reducible assumption) | assumption) | (have e_ := (Kd.V_reads' HO106.out).1; omega)); obtain ⟨ua128_1, uc128_1, ua128_2, uc128_2, ua128_3, uc128_3, rfl, ul128_1, ge128_1, ul128_2, ge128_2, ul128_3, ge128_3⟩ := k37_openF hMe128; have hv128_1 := hcc128 1 _ rfl; rw [add_field _ _ 1 (by omega)] at hv128_1; replace hv128_1 := Option.some.inj (hv128_1.symm.trans hx128_1); injection hv128_1 with hva_ hvn_ hvc_; rw [hva_] at ge128_1; rw [hvc_] at ul128_1; have HL128_1 := Aside0.mk (show Kd.V Kd.string 9 _ w.heap.size _ _ ((rd_T37 t104 1).f1) from Kd.V_mk ul128_1 ge128_1); clear hva_ hvn_ hvc_ ge128_1 ul128_1; have hv128_2 := hcc128 2 _ rfl; rw [add_field _ _ 2 (by omega)] at hv128_2; replace hv128_2 := Option.some.inj (hv128_2.symm.trans hx128_2); injection hv128_2 with hva_ hvn_ hvc_; rw [hva_] at ge128_2; rw [hvc_] at ul128_2; have HL128_2 := Aside0.mk (show Kd.V Kd.string 9 _ w.heap.size _ _ ((rd_T37 t104 1).f2) from Kd.V_mk ul128_2 ge128_2); clear hva_ hvn_ hvc_ ge128_2 ul128_2; have hv128_3 := hcc128 3 _ rfl; rw [add_field _ _ 3 (by omega)] at hv128_3; replace hv128_3 := Option.some.inj (hv128_3.symm.trans hx128_3); injection hv128_3 with hva_ hvn_ hvc_; rw [hva_] at ge128_3; rw [hvc_] at ul128_3; have HL128_3 := Aside0.mk (show Kd.V (Kd.slice 9 Kd.string) 22 _ w.heap.size _ _ ((rd_T37 t104 1).f3) from Kd.V_mk ul128_3 ge128_3); clear hva_ hvn_ hvc_ ge128_3 ul128_3; clear hcc128 hce128; (try simp only [show (1 : Int).toNat = 1 from rfl, Nat.reduceMul, Nat.reduceEqDiff, Go.Addr.add, ↓reduceIte] at hx128_0); (try simp only [show (1 : Int).toNat = 1 from rfl, Nat.reduceMul, Nat.reduceEqDiff, Go.Addr.add, ↓reduceIte] at hx128_1); (try simp only [show (1 : Int).toNat = 1 from rfl, Nat.reduceMul, Nat.reduceEqDiff, Go.Addr.add, ↓reduceIte] at hx128_2); (try simp only [show (1 : Int).toNat = 1 from rfl, Nat.reduceMul, Nat.reduceEqDiff, Go.Addr.add, ↓reduceIte] at hx128_3); have qi128 : (1 < t104.length) = True := eq_true (by omega); (try rw [show ((1 : Int)).toNat = 1 from rfl] at hx128_0); (try rw [show 1 * 4 = 4 from rfl] at hx128_0); (try rw [show ((1 : Int)).toNat = 1 from rfl] at hx128_1); (try rw [show 1 * 4 = 4 from rfl] at hx128_1); (try rw [show ((1 : Int)).toNat = 1 from rfl] at hx128_2); (try rw [show 1 * 4 = 4 from rfl] at hx128_2); (try rw [show ((1 : Int)).toNat = 1 from rfl] at hx128_3); (try rw [show 1 * 4 = 4 from rfl] at hx128_3); have HR128_1 := Aside0.mk hi128_1; have HC128_1 := Aside0.mk hl128_1; clear hi128_1 hl128_1; have HR128_2 := Aside0.mk hi128_2; have HC128_2 := Aside0.mk hl128_2; clear hi128_2 hl128_2; have HR128_3 := Aside0.mk hi128_3; have HC128_3 := Aside0.mk hl128_3; clear hi128_3 hl128_3; replace p128 := eq_true p128; replace q128 := eq_true q128; have ea_ := Option.some.inj (hx126_1.symm.trans hx128_1); injection ea_ with ea_ en_ ec_; subst ea_; subst ec_; clear en_; have ea_ := Option.some.inj (hx126_2.symm.trans hx128_2); injection ea_ with ea_ en_ ec_; subst ea_; subst ec_; clear en_; have ea_ := Option.some.inj (hx126_3.symm.trans hx128_3); injection ea_ with ea_ en_ ec_; subst ea_; subst ec_; clear en_; have p129 : 0 ≤ (1 : Int) := (by omega); have q129 : 1 < (((rd_T37 t104 1).f3).length : Int) := of_decide_eq_true (by first | (with_reducible assumption) | assumption); obtain ⟨ad129, A129_0, c129_0, e129, hx129_0, hl129_0, hi129_0⟩ := at_L1 (by repeat (first | (with_reducible exact HR128_3.out) | (with_reducible refine Kd.C_alloc ?_ _) | (with_reducible refine Kd.C_drewN ?_ _) | (with_reducible refine Kd.C_drew ?_) | exact HR128_3.out)) 1 p129 q129; cases e129; obtain ⟨ce129, hce129, hMe129, hcc129⟩ := Kd.V_get HL128_3.out [] 1 p129 (by first | exact q129 | exact of_decide_eq_true (by first | (with_reducible assumption) | assumption) | (have e_ := (Kd.V_reads' HL128_3.out).1; omega)); obtain ⟨ua129_0, uc129_0, rfl, ul129_0, ge129_0⟩ := Kd.FK_slice_open hMe129; have hv129_0 := hcc129 0 _ rfl; rw [Nat.add_zero, show ((Kd.slice 9 Kd.string)).sz = 1 from rfl, Nat.mul_one] at hv129_0; replace hv129_0 := Option.some.inj (hv129_0.symm.trans hx129_0); injection hv129_0 with hva_ hvn_ hvc_; rw [hva_] at ge129_0; rw [hvc_] at ul129_0; have HL129_0 := Aside0.mk (show Kd.V Kd.string 9 _ w.heap.size _ _ (rd_L1 ((rd_T37 t104 1).f3) 1) from Kd.V_mk ul129_0 ge129_0); clear hva_ hvn_ hvc_ ge129_0 ul129_0; clear hcc129 hce129; (try simp only [show (1 : Int).toNat = 1 from rfl, Nat.reduceMul, Nat.reduceEqDiff, Go.Addr.add, ↓reduceIte] at hx129_0); have qi129 : (1 < ((rd_T37 t104 1).f3).length) = True := eq_true (by omega); (try rw [show ((1 : Int)).toNat = 1 from rfl] at hx129_0); have HR129_0 := Aside0.mk hi129_0; have HC129_0 := Aside0.mk hl129_0; clear hi129_0 hl129_0; replace p129 := eq_true p129; replace q129 := eq_true q129; have p130 : 0 ≤ (0 : Int) := (by omega); have q130 : 0 < ((rd_L1 ((rd_T37 t104 1).f3) 1).length : Int) := of_decide_eq_true (by first | (with_reducible assumption) | assumption); obtain ⟨ad130, e130, hx130_0⟩ := Kd.at_string (by repeat (first | (with_reducible exact HR129_0.out) | (with_reducible refine Kd.C_alloc ?_ _) | (with_reducible refine Kd.C_drewN ?_ _) | (with_reducible refine Kd.C_drew ?_) | exact HR129_0.out)) 0 p130 q130; cases e130; have qi130 : (0 < (rd_L1 ((rd_T37 t104 1).f3) 1).length) = True := eq_true (by omega); (try rw [show ((0 : Int)).toNat = 0 from rfl] at hx130_0); (try rw [Addr.add_zero'] at hx130_0); replace p130 := eq_true p130; replace q130 := eq_true q130))
              go_ret
              exact ⟨by first | rfl | (simp [errW_none, errW_some] <;> rfl) | (simp [*, errW_none, errW_some] <;> rfl), by repeat (first | (with_reducible first | exact HB.out | apply below_alloc | apply pw_below_drewN | apply below_drew1) | exact HB.out)⟩
             ·rw [if_neg c17] at H
              exact absurd (H.trans (congrArg some hr_)) (by simp)
            ·rw [if_neg c16] at H
             exact absurd (H.trans (congrArg some hr_)) (by simp)
           ·rw [if_neg c15] at H
            exact absurd (H.trans (congrArg some hr_)) (by simp)
          ·rw [if_neg c14] at H
           exact absurd (H.trans (congrArg some hr_)) (by simp)
         ·rw [if_neg c13] at H
          exact absurd (H.trans (congrArg some hr_)) (by simp)
        ·rw [if_neg c12] at H
         exact absurd (H.trans (congrArg some hr_)) (by simp)
       ·replace c11 := Bool.eq_false_iff.mpr c11
        subst c11
        have H1 : (some false) = some r := by rw [if_neg (show ¬ (false = true) by decide)] at H; exact H
        exact absurd (H1.trans (congrArg some hr_)) (by simp)
      ·rw [if_neg c9] at H
       exact absurd (H.trans (congrArg some hr_)) (by simp)
     ·rw [if_neg c8] at H
      exact absurd (H.trans (congrArg some hr_)) (by simp)
    ·rw [if_neg c7] at H
     exact absurd (H.trans (congrArg some hr_)) (by simp)
   ·rw [if_neg c6] at H
    exact absurd (H.trans (congrArg some hr_)) (by simp)
  ·rw [if_neg c5] at H
   exact absurd (H.trans (congrArg some hr_)) (by simp)
 ·rw [if_neg c2] at H
  exact absurd (H.trans (congrArg some hr_)) (by simp)
/-! ### sennitref01_Few: function 8 -/
mutual
def sennitref01_Few.l0 : Nat → List ByteArray → Int → Int → Option (Bool)
 | 0, _, _, _ => none
 | k + 1, x0, x1, x5 => if x5 < (x0.length : Int) then (sennitref01_Few.j1 k x0 x1 x5 (decide (x5 ≤ x1))) else (sennitref01_Few.j1 k x0 x1 x5 false)
def sennitref01_Few.j1 : Nat → List ByteArray → Int → Int → Bool → Option (Bool)
 | 0, _, _, _, _ => none
 | k + 1, x0, x1, x5, x14 => if x14 = true then (if 0 ≤ x5 then (if x5 < (x0.length : Int) then (if ((rdOf ByteArray.empty x0 x5).size : Int) > 100 then (some false) else (sennitref01_Few.l0 k x0 x1 (wrap64 (x5 + 1)))) else (none)) else (none)) else (some (decide ((x0.length : Int) ≤ x1)))
end
def sennitref01_Few.f (k : Nat) (l0 : List ByteArray) (a1 : Int) : Option (Bool) := sennitref01_Few.l0 k l0 a1 0
set_option maxHeartbeats 8000000 in
set_option maxRecDepth 100000 in
theorem sennitref01_Few.calls (k : Nat) (A0 : Option Addr) (c0 : Nat) (l0 : List ByteArray) (a1 : Int) (r : Bool) (w : World) (hr0 : Kd.C Kd.string w A0 l0.length l0) (hc0 : l0.length ≤ c0) (h : sennitref01_Few.f k l0 a1 = some r) :
  Calls Tryd.prog 8 #[.slice A0 l0.length c0, .int .i64 a1] w fun e w' => e = .returned (.bool r) ∧ Drawn0 w w' := by
 have HR0 := Aside0.mk hr0
 have HC0 := Aside0.mk hc0
 clear hr0 hc0
 have H : (sennitref01_Few.l0 k l0 a1 0) = some r := h
 clear h
 have H' := Aside0.mk H
 clear H
 go_enter Tryd.func8, Tryd.ntmps8
 go_wp2
 go_loopg [5] k (fun kq v5 w' => ∃ (x5_1 : Int), v5 = .int .i64 x5_1 ∧ Aside0 (sennitref01_Few.l0 kq l0 a1 x5_1 = some r) ∧ Aside0 (kq ≤ k) ∧ Drawn0 w w')
 case atStart => exact ⟨(0), (by first | rfl | (simp; done) | (simp [*]; done)), H', ⟨Nat.le_refl _⟩, by repeat (first | exact Drawn0.refl _ | apply Drawn0.step)⟩
 case round =>
  clear H'
  try clear p2
  obtain ⟨x5_1, rfl, HA, HK1, ⟨m1, rfl⟩⟩ := hrel
  cases gk with
  | zero => exact absurd HA.out (by simp [sennitref01_Few.l0])
  | succ k1 =>
   have H := HA.out
   clear HA
   simp only [sennitref01_Few.l0] at H
   have HC3 := Aside0.mk H
   clear H
   go_upto_region 2 with (fail)
   go_cut [14] (fun v14 wc => ∃ (kq : Nat) (x14_2 : Bool), v14 = .bool x14_2 ∧ Aside0 (sennitref01_Few.j1 kq l0 a1 x5_1 x14_2 = some r) ∧ Aside0 (kq ≤ k1) ∧ Drawn0 w wc)
   case first =>
    have H := HC3.out
    clear HC3
    by_cases c4 : x5_1 < (l0.length : Int)
    ·rw [if_pos c4] at H
     have c4b0 : decide (x5_1 < (l0.length : Int)) = true := decide_eq_true c4
     clear c4
     (first | rw [c4b0] | (simp only [i64_w, i32_w]; rw [c4b0]) | skip)
     have H' := Aside0.mk H
     clear H
     go_wp2
     go_meet
     case rel => exact ⟨_, (decide (x5_1 ≤ a1)), (by first | rfl | (simp; done) | (simp [*]; done)), H', ⟨by have := HK1.out; first | omega | exact Nat.le_refl _⟩, by repeat (first | exact Drawn0.refl _ | apply Drawn0.step)⟩
    ·rw [if_neg c4] at H
     have c4b0 : decide (x5_1 < (l0.length : Int)) = false := decide_eq_false c4
     clear c4
     (first | rw [c4b0] | (simp only [i64_w, i32_w]; rw [c4b0]) | skip)
     have H' := Aside0.mk H
     clear H
     go_wp2
     go_meet
     case rel => exact ⟨_, (false), (by first | rfl | (simp; done) | (simp [*]; done)), H', ⟨by have := HK1.out; first | omega | exact Nat.le_refl _⟩, by repeat (first | exact Drawn0.refl _ | apply Drawn0.step)⟩
   case rest =>
    clear HC3
    try clear p2
    try clear c4
    try clear c4b0
    try clear p2
    obtain ⟨kq, x14_2, rfl, HA, HJ2, ⟨mc2, rfl⟩⟩ := hcut
    cases kq with
    | zero => exact absurd HA.out (by simp [sennitref01_Few.j1])
    | succ kj2 =>
     have H := HA.out
     clear HA
     simp only [sennitref01_Few.j1] at H
     by_cases c5 : x14_2 = true
     ·subst c5
      have H1 : (if 0 ≤ x5_1 then (if x5_1 < (l0.length : Int) then (if ((rdOf ByteArray.empty l0 x5_1).size : Int) > 100 then (some false) else (sennitref01_Few.l0 kj2 l0 a1 (wrap64 (x5_1 + 1)))) else (none)) else (none)) = some r := by rw [if_pos rfl] at H; exact H
      clear H
      have H := H1
      clear H1
      by_cases c6 : 0 ≤ x5_1
      ·rw [if_pos c6] at H
       have c6b0 : decide (0 ≤ x5_1) = true := decide_eq_true c6
       clear c6
       by_cases c7 : x5_1 < (l0.length : Int)
       ·rw [if_pos c7] at H
        have c7b0 : decide (x5_1 < (l0.length : Int)) = true := decide_eq_true c7
        clear c7
        by_cases c8 : ((rdOf ByteArray.empty l0 x5_1).size : Int) > 100
        ·rw [if_pos c8] at H
         have c8b0 : decide (100 < ((rdOf ByteArray.empty l0 x5_1).size : Int)) = true := decide_eq_true c8
         have c8b1 : decide (100 < (rdOf ByteArray.empty l0 x5_1).size) = true := decide_eq_true (by omega)
         clear c8
         obtain rfl := Option.some.inj H
         have p131 : 0 ≤ (x5_1 : Int) := of_decide_eq_true (by first | (with_reducible assumption) | assumption)
         have q131 : x5_1 < (l0.length : Int) := of_decide_eq_true (by first | (with_reducible assumption) | assumption)
         obtain ⟨ad131, e131, hx131_0⟩ := Kd.at_string HR0.out x5_1 p131 q131
         cases e131
         replace p131 := eq_true p131
         replace q131 := eq_true q131
         go_wp2
         go_ret
         exact ⟨by first | rfl | (simp; done) | (simp [*]; done), by repeat (first | exact Drawn0.refl _ | apply Drawn0.step)⟩
        ·rw [if_neg c8] at H
         have c8b0 : decide (100 < ((rdOf ByteArray.empty l0 x5_1).size : Int)) = false := decide_eq_false c8
         have c8b1 : decide (100 < (rdOf ByteArray.empty l0 x5_1).size) = false := decide_eq_false (by omega)
         clear c8
         have H' := Aside0.mk H
         clear H
         have p131 : 0 ≤ (x5_1 : Int) := of_decide_eq_true (by first | (with_reducible assumption) | assumption)
         have q131 : x5_1 < (l0.length : Int) := of_decide_eq_true (by first | (with_reducible assumption) | assumption)
         obtain ⟨ad131, e131, hx131_0⟩ := Kd.at_string HR0.out x5_1 p131 q131
         cases e131
         replace p131 := eq_true p131
         replace q131 := eq_true q131
         go_wp2
         go_roundg kj2
         case measure => have := HK1.out; have := HJ2.out; omega
         case rel => exact ⟨(wrap64 (x5_1 + 1)), (by first | rfl | (simp; done) | (simp [*]; done)), H', ⟨by have := HK1.out; have := HJ2.out; omega⟩, by repeat (first | exact Drawn0.refl _ | apply Drawn0.step)⟩
       ·rw [if_neg c7] at H
        exact absurd H (by simp)
      ·rw [if_neg c6] at H
       exact absurd H (by simp)
     ·replace c5 := Bool.eq_false_iff.mpr c5
      subst c5
      have H1 : (some (decide ((l0.length : Int) ≤ a1))) = some r := by rw [if_neg (show ¬ (false = true) by decide)] at H; exact H
      clear H
      have H := H1
      clear H1
      obtain rfl := Option.some.inj H
      go_wp2
      go_ret
      exact ⟨by first | rfl | (simp; done) | (simp [*]; done), by repeat (first | exact Drawn0.refl _ | apply Drawn0.step)⟩
-- function 17 (mark_Print): its contract is proved by hand
/-! ### sennitref01_Same: function 18 -/
def sennitref01_Same.l0 : Nat → List ByteArray → List ByteArray → Int → Option (Bool)
 | 0, _, _, _ => none
 | k + 1, x0, x1, x5 => if x5 < (x0.length : Int) then (if 0 ≤ x5 then (if x5 < (x1.length : Int) then (if (rdOf ByteArray.empty x0 x5).toList = (rdOf ByteArray.empty x1 x5).toList then (sennitref01_Same.l0 k x0 x1 (wrap64 (x5 + 1))) else (some false)) else (none)) else (none)) else (some true)
def sennitref01_Same.f (k : Nat) (l0 : List ByteArray) (l1 : List ByteArray) : Option (Bool) := if (l0.length : Int) = (l1.length : Int) then (sennitref01_Same.l0 k l0 l1 0) else (some false)
set_option maxHeartbeats 8000000 in
set_option maxRecDepth 100000 in
theorem sennitref01_Same.calls (k : Nat) (A0 : Option Addr) (c0 : Nat) (l0 : List ByteArray) (A1 : Option Addr) (c1 : Nat) (l1 : List ByteArray) (r : Bool) (w : World) (hr0 : Kd.C Kd.string w A0 l0.length l0) (hc0 : l0.length ≤ c0) (hr1 : Kd.C Kd.string w A1 l1.length l1) (hc1 : l1.length ≤ c1) (h : sennitref01_Same.f k l0 l1 = some r) :
  Calls Tryd.prog 18 #[.slice A0 l0.length c0, .slice A1 l1.length c1] w fun e w' => e = .returned (.bool r) ∧ Drawn0 w w' := by
 have HR0 := Aside0.mk hr0
 have HC0 := Aside0.mk hc0
 clear hr0 hc0
 have HR1 := Aside0.mk hr1
 have HC1 := Aside0.mk hc1
 clear hr1 hc1
 have H : (if (l0.length : Int) = (l1.length : Int) then (sennitref01_Same.l0 k l0 l1 0) else (some false)) = some r := h
 clear h
 by_cases c3 : (l0.length : Int) = (l1.length : Int)
 ·rw [if_pos c3] at H
  have c3b0 : ((l0.length : Int) == (l1.length : Int)) = true := beq_iff_eq.mpr c3
  have c3b1 : ((l0.length : Int) != (l1.length : Int)) = false := bne_eq_false_iff_eq.mpr c3
  have c3b2 : (l0.length == l1.length) = true := by first | simpa using c3 | (simp at c3 ⊢; omega)
  clear c3
  have H' := Aside0.mk H
  clear H
  go_enter Tryd.func18, Tryd.ntmps18
  go_wp2
  repeat (go_quiet (fail); try go_wp2)
  go_loopg [5] k (fun kq v5 w' => ∃ (x5_1 : Int), v5 = .int .i64 x5_1 ∧ Aside0 (sennitref01_Same.l0 kq l0 l1 x5_1 = some r) ∧ Aside0 (kq ≤ k) ∧ Drawn0 w w')
  case atStart => exact ⟨(0), (by first | rfl | (simp; done) | (simp [*]; done)), H', ⟨Nat.le_refl _⟩, by repeat (first | exact Drawn0.refl _ | apply Drawn0.step)⟩
  case round =>
   clear H'
   try clear c1
   try clear p2
   try clear c3
   try clear c3b0
   try clear c3b1
   try clear c3b2
   obtain ⟨x5_1, rfl, HA, HK1, ⟨m1, rfl⟩⟩ := hrel
   cases gk with
   | zero => exact absurd HA.out (by simp [sennitref01_Same.l0])
   | succ k1 =>
    have H := HA.out
    clear HA
    simp only [sennitref01_Same.l0] at H
    by_cases c4 : x5_1 < (l0.length : Int)
    ·rw [if_pos c4] at H
     have c4b0 : decide (x5_1 < (l0.length : Int)) = true := decide_eq_true c4
     clear c4
     by_cases c5 : 0 ≤ x5_1
     ·rw [if_pos c5] at H
      have c5b0 : decide (0 ≤ x5_1) = true := decide_eq_true c5
      clear c5
      by_cases c6 : x5_1 < (l1.length : Int)
      ·rw [if_pos c6] at H
       have c6b0 : decide (x5_1 < (l1.length : Int)) = true := decide_eq_true c6
       clear c6
       by_cases c7 : (rdOf ByteArray.empty l0 x5_1).toList = (rdOf ByteArray.empty l1 x5_1).toList
       ·rw [if_pos c7] at H
        have c7b0 : ((rdOf ByteArray.empty l0 x5_1).toList == (rdOf ByteArray.empty l1 x5_1).toList) = true := beq_iff_eq.mpr c7
        have c7b1 : ((rdOf ByteArray.empty l0 x5_1).toList != (rdOf ByteArray.empty l1 x5_1).toList) = false := bne_eq_false_iff_eq.mpr c7
        clear c7
        have H' := Aside0.mk H
        clear H
        have p132 : 0 ≤ (x5_1 : Int) := of_decide_eq_true (by first | (with_reducible assumption) | assumption)
        have q132 : x5_1 < (l0.length : Int) := of_decide_eq_true (by first | (with_reducible assumption) | assumption)
        obtain ⟨ad132, e132, hx132_0⟩ := Kd.at_string HR0.out x5_1 p132 q132
        cases e132
        replace p132 := eq_true p132
        replace q132 := eq_true q132
        have p133 : 0 ≤ (x5_1 : Int) := of_decide_eq_true (by first | (with_reducible assumption) | assumption)
        have q133 : x5_1 < (l1.length : Int) := of_decide_eq_true (by first | (with_reducible assumption) | assumption)
        obtain ⟨ad133, e133, hx133_0⟩ := Kd.at_string HR1.out x5_1 p133 q133
        cases e133
        replace p133 := eq_true p133
        replace q133 := eq_true q133
        go_wp2
        repeat (go_quiet (fail); try go_wp2)
        go_roundg k1
        case measure => have := HK1.out; omega
        case rel => exact ⟨(wrap64 (x5_1 + 1)), (by first | rfl | (simp; done) | (simp [*]; done)), H', ⟨by have := HK1.out; omega⟩, by repeat (first | exact Drawn0.refl _ | apply Drawn0.step)⟩
       ·rw [if_neg c7] at H
        have c7b0 : ((rdOf ByteArray.empty l0 x5_1).toList == (rdOf ByteArray.empty l1 x5_1).toList) = false := beq_eq_false_iff_ne.mpr c7
        have c7b1 : ((rdOf ByteArray.empty l0 x5_1).toList != (rdOf ByteArray.empty l1 x5_1).toList) = true := bne_iff_ne.mpr c7
        obtain rfl := Option.some.inj H
        have p132 : 0 ≤ (x5_1 : Int) := of_decide_eq_true (by first | (with_reducible assumption) | assumption)
        have q132 : x5_1 < (l0.length : Int) := of_decide_eq_true (by first | (with_reducible assumption) | assumption)
        obtain ⟨ad132, e132, hx132_0⟩ := Kd.at_string HR0.out x5_1 p132 q132
        cases e132
        replace p132 := eq_true p132
        replace q132 := eq_true q132
        have p133 : 0 ≤ (x5_1 : Int) := of_decide_eq_true (by first | (with_reducible assumption) | assumption)
        have q133 : x5_1 < (l1.length : Int) := of_decide_eq_true (by first | (with_reducible assumption) | assumption)
        obtain ⟨ad133, e133, hx133_0⟩ := Kd.at_string HR1.out x5_1 p133 q133
        cases e133
        replace p133 := eq_true p133
        replace q133 := eq_true q133
        go_wp2
        repeat (go_quiet (fail); try go_wp2)
        go_ret
        exact ⟨by first | rfl | (simp; done) | (simp [*]; done), by repeat (first | exact Drawn0.refl _ | apply Drawn0.step)⟩
      ·rw [if_neg c6] at H
       exact absurd H (by simp)
     ·rw [if_neg c5] at H
      exact absurd H (by simp)
    ·rw [if_neg c4] at H
     have c4b0 : decide (x5_1 < (l0.length : Int)) = false := decide_eq_false c4
     clear c4
     obtain rfl := Option.some.inj H
     go_wp2
     repeat (go_quiet (fail); try go_wp2)
     go_ret
     exact ⟨by first | rfl | (simp; done) | (simp [*]; done), by repeat (first | exact Drawn0.refl _ | apply Drawn0.step)⟩
 ·rw [if_neg c3] at H
  have c3b0 : ((l0.length : Int) == (l1.length : Int)) = false := beq_eq_false_iff_ne.mpr c3
  have c3b1 : ((l0.length : Int) != (l1.length : Int)) = true := bne_iff_ne.mpr c3
  have c3b2 : (l0.length == l1.length) = false := by first | simpa using c3 | (simp at c3 ⊢; omega)
  obtain rfl := Option.some.inj H
  go_enter Tryd.func18, Tryd.ntmps18
  go_wp2
  repeat (go_quiet (fail); try go_wp2)
  go_ret
  exact ⟨by first | rfl | (simp; done) | (simp [*]; done), by repeat (first | exact Drawn0.refl _ | apply Drawn0.step)⟩
end Go.Proofs.YtcnjbmdnnhbfkaaDoor.XD
