-- Printed by this session's xprint.sh (a patched copy of the kit's print program). Not trusted: Lean checks it.
import Derived.Test.YtcnjbmdnnhbfkaaGreatDoorXD0
import Derived.Test.YtcnjbmdnnhbfkaaGreatDoorXD1
import Derived.Test.YtcnjbmdnnhbfkaaGreatDoorXD5
import Derived.Test.YtcnjbmdnnhbfkaaGreatDoorXD7
import Derived.Test.YtcnjbmdnnhbfkaaGreatDoorUnmark5
import Derived.Test.YtcnjbmdnnhbfkaaGreatDoorMk2
import Derived.Test.YtcnjbmdnnhbfkaaGreatDoorRef2
namespace Go.Proofs.YtcnjbmdnnhbfkaaGreatDoor.XD
open Go.Proofs.YtcnjbmdnnhbfkaaGreatDoor.Mark Go.Proofs.YtcnjbmdnnhbfkaaGreatDoor.Ref Go.Proofs.YtcnjbmdnnhbfkaaGreatDoor.Unmark Go.Proofs.YtcnjbmdnnhbfkaaGreatDoorW.PrintLast Go.Proofs.YtcnjbmdnnhbfkaaGreatDoorW.PrintMore Go.Proofs.YtcnjbmdnnhbfkaaGreatDoorW.PrintWords Go.RowKit
attribute [local go_sem] max2_int min2_int max_two min_two max_three min_three max_four min_four   -- for this text's walks alone
set_option linter.unusedVariables false
set_option linter.unusedSimpArgs false
/-! ### sennitlaw13_awake: function 24 -/
def sennitlaw13_awake.f  : Option (Bool) := (some (([(⟨#[116, 10]⟩ : ByteArray), (⟨#[60, 60, 32, 49, 10]⟩ : ByteArray), (⟨#[97, 10]⟩ : ByteArray), (⟨#[61, 61, 32, 50, 10]⟩ : ByteArray), (⟨#[98, 10]⟩ : ByteArray), (⟨#[62, 62, 33, 10]⟩ : ByteArray)] : List ByteArray) : List ByteArray)).bind fun y165 => ((unmark_Parse.f y165 2).bind fun bt168 => (if 3 ≤ (y165.length : Int) then ((unmark_Parse.f (y165.take 3) 2).bind fun bt178 => ((unmark_Parse.f ([] : List ByteArray) 0).bind fun bt184 => (if bt168.2.2.2 = 0 then (if bt168.2.1 = 1 then (if bt168.2.2.1 = 0 then (if (bt168.1.length : Int) = 2 then (if 1 < (bt168.1.length : Int) then (if (rd_T36 bt168.1 1).f0 = true then (if (((rd_T36 bt168.1 1).f3).length : Int) = 2 then (if 1 < (((rd_T36 bt168.1 1).f3).length : Int) then (if 0 < ((rd_L2 ((rd_T36 bt168.1 1).f3) 1).length : Int) then (if (rdOf ByteArray.empty (rd_L2 ((rd_T36 bt168.1 1).f3) 1) 0).toList = ([98] : List UInt8) then (if bt178.2.2.2 = 2 then (if bt178.2.2.1 = 4 then (some (bt184.2.2.2 == 1)) else (some false)) else (some false)) else (some false)) else (none)) else (none)) else (some false)) else (some false)) else (none)) else (some false)) else (some false)) else (some false)) else (some false)))) else (none)))
theorem sennitlaw13_awake_true : sennitlaw13_awake.f = some true := by decide +kernel
set_option maxHeartbeats 8000000 in
set_option maxRecDepth 100000 in
theorem sennitlaw13_awake.calls  (r : Bool) (w : World) (h : sennitlaw13_awake.f  = some r) :
  Calls Tryz.prog 24 #[] w fun e w' => e = .returned (.bool r) ∧ Below w.heap.size w w' := by
 have hr_ : r = true := Option.some.inj (h.symm.trans sennitlaw13_awake_true)
 have HB := Aside0.mk (Below.refl w.heap.size w)
 have H : ((some (([(⟨#[116, 10]⟩ : ByteArray), (⟨#[60, 60, 32, 49, 10]⟩ : ByteArray), (⟨#[97, 10]⟩ : ByteArray), (⟨#[61, 61, 32, 50, 10]⟩ : ByteArray), (⟨#[98, 10]⟩ : ByteArray), (⟨#[62, 62, 33, 10]⟩ : ByteArray)] : List ByteArray) : List ByteArray)).bind fun y165 => ((unmark_Parse.f y165 2).bind fun bt168 => (if 3 ≤ (y165.length : Int) then ((unmark_Parse.f (y165.take 3) 2).bind fun bt178 => ((unmark_Parse.f ([] : List ByteArray) 0).bind fun bt184 => (if bt168.2.2.2 = 0 then (if bt168.2.1 = 1 then (if bt168.2.2.1 = 0 then (if (bt168.1.length : Int) = 2 then (if 1 < (bt168.1.length : Int) then (if (rd_T36 bt168.1 1).f0 = true then (if (((rd_T36 bt168.1 1).f3).length : Int) = 2 then (if 1 < (((rd_T36 bt168.1 1).f3).length : Int) then (if 0 < ((rd_L2 ((rd_T36 bt168.1 1).f3) 1).length : Int) then (if (rdOf ByteArray.empty (rd_L2 ((rd_T36 bt168.1 1).f3) 1) 0).toList = ([98] : List UInt8) then (if bt178.2.2.2 = 2 then (if bt178.2.2.1 = 4 then (some (bt184.2.2.2 == 1)) else (some false)) else (some false)) else (some false)) else (none)) else (none)) else (some false)) else (some false)) else (none)) else (some false)) else (some false)) else (some false)) else (some false)))) else (none)))) = some r := h
 clear h
 obtain ⟨y165, hy165⟩ : ∃ y_ : List ByteArray, y_ = (([(⟨#[116, 10]⟩ : ByteArray), (⟨#[60, 60, 32, 49, 10]⟩ : ByteArray), (⟨#[97, 10]⟩ : ByteArray), (⟨#[61, 61, 32, 50, 10]⟩ : ByteArray), (⟨#[98, 10]⟩ : ByteArray), (⟨#[62, 62, 33, 10]⟩ : ByteArray)] : List ByteArray)) := ⟨_, rfl⟩
 replace H : ((unmark_Parse.f y165 2).bind fun bt168 => (if 3 ≤ (y165.length : Int) then ((unmark_Parse.f (y165.take 3) 2).bind fun bt178 => ((unmark_Parse.f ([] : List ByteArray) 0).bind fun bt184 => (if bt168.2.2.2 = 0 then (if bt168.2.1 = 1 then (if bt168.2.2.1 = 0 then (if (bt168.1.length : Int) = 2 then (if 1 < (bt168.1.length : Int) then (if (rd_T36 bt168.1 1).f0 = true then (if (((rd_T36 bt168.1 1).f3).length : Int) = 2 then (if 1 < (((rd_T36 bt168.1 1).f3).length : Int) then (if 0 < ((rd_L2 ((rd_T36 bt168.1 1).f3) 1).length : Int) then (if (rdOf ByteArray.empty (rd_L2 ((rd_T36 bt168.1 1).f3) 1) 0).toList = ([98] : List UInt8) then (if bt178.2.2.2 = 2 then (if bt178.2.2.1 = 4 then (some (bt184.2.2.2 == 1)) else (some false)) else (some false)) else (some false)) else (none)) else (none)) else (some false)) else (some false)) else (none)) else (some false)) else (some false)) else (some false)) else (some false)))) else (none))) = some r := by first | (rw [hy165]; with_reducible exact H) | (have H2_ := (Option.bind_some _ _).symm.trans H; rw [hy165]; with_reducible exact H2_) | (have H2_ := (Option.bind_some _ _).symm.trans H; with_reducible exact H2_) | with_reducible exact H | (rw [hy165]; exact H) | exact H
 have Ny165 := Aside0.mk hy165
 clear hy165
 replace H := Option.bind_eq_some_iff.mp H
 obtain ⟨⟨t168, t171, t172, t173⟩, A10, H⟩ := H
 replace H : (if 3 ≤ (y165.length : Int) then ((unmark_Parse.f (y165.take 3) 2).bind fun bt178 => ((unmark_Parse.f ([] : List ByteArray) 0).bind fun bt184 => (if t173 = 0 then (if t171 = 1 then (if t172 = 0 then (if (t168.length : Int) = 2 then (if 1 < (t168.length : Int) then (if (rd_T36 t168 1).f0 = true then (if (((rd_T36 t168 1).f3).length : Int) = 2 then (if 1 < (((rd_T36 t168 1).f3).length : Int) then (if 0 < ((rd_L2 ((rd_T36 t168 1).f3) 1).length : Int) then (if (rdOf ByteArray.empty (rd_L2 ((rd_T36 t168 1).f3) 1) 0).toList = ([98] : List UInt8) then (if bt178.2.2.2 = 2 then (if bt178.2.2.1 = 4 then (some (bt184.2.2.2 == 1)) else (some false)) else (some false)) else (some false)) else (none)) else (none)) else (some false)) else (some false)) else (none)) else (some false)) else (some false)) else (some false)) else (some false)))) else (none)) = some r := H
 have A1 := Aside0.mk A10
 clear A10
 by_cases c2 : 3 ≤ (y165.length : Int)
 ·rw [if_pos c2] at H
  have c2b0 := eq_true c2
  have c2b1 : decide (3 ≤ (y165.length : Int)) = true := decide_eq_true c2
  clear c2
  obtain ⟨y174, hy174⟩ : ∃ y_ : List ByteArray, y_ = (y165.take 3) := ⟨_, rfl⟩
  replace H : ((unmark_Parse.f y174 2).bind fun bt178 => ((unmark_Parse.f ([] : List ByteArray) 0).bind fun bt184 => (if t173 = 0 then (if t171 = 1 then (if t172 = 0 then (if (t168.length : Int) = 2 then (if 1 < (t168.length : Int) then (if (rd_T36 t168 1).f0 = true then (if (((rd_T36 t168 1).f3).length : Int) = 2 then (if 1 < (((rd_T36 t168 1).f3).length : Int) then (if 0 < ((rd_L2 ((rd_T36 t168 1).f3) 1).length : Int) then (if (rdOf ByteArray.empty (rd_L2 ((rd_T36 t168 1).f3) 1) 0).toList = ([98] : List UInt8) then (if bt178.2.2.2 = 2 then (if bt178.2.2.1 = 4 then (some (bt184.2.2.2 == 1)) else (some false)) else (some false)) else (some false)) else (none)) else (none)) else (some false)) else (some false)) else (none)) else (some false)) else (some false)) else (some false)) else (some false)))) = some r := by first | (rw [hy174]; with_reducible exact H) | (have H2_ := (Option.bind_some _ _).symm.trans H; rw [hy174]; with_reducible exact H2_) | (have H2_ := (Option.bind_some _ _).symm.trans H; with_reducible exact H2_) | with_reducible exact H | (rw [hy174]; exact H) | exact H
  have Ny174 := Aside0.mk hy174
  clear hy174
  replace H := Option.bind_eq_some_iff.mp H
  obtain ⟨⟨t178, t181, t182, t183⟩, A30, H⟩ := H
  replace H : ((unmark_Parse.f ([] : List ByteArray) 0).bind fun bt184 => (if t173 = 0 then (if t171 = 1 then (if t172 = 0 then (if (t168.length : Int) = 2 then (if 1 < (t168.length : Int) then (if (rd_T36 t168 1).f0 = true then (if (((rd_T36 t168 1).f3).length : Int) = 2 then (if 1 < (((rd_T36 t168 1).f3).length : Int) then (if 0 < ((rd_L2 ((rd_T36 t168 1).f3) 1).length : Int) then (if (rdOf ByteArray.empty (rd_L2 ((rd_T36 t168 1).f3) 1) 0).toList = ([98] : List UInt8) then (if t183 = 2 then (if t182 = 4 then (some (bt184.2.2.2 == 1)) else (some false)) else (some false)) else (some false)) else (none)) else (none)) else (some false)) else (some false)) else (none)) else (some false)) else (some false)) else (some false)) else (some false))) = some r := H
  have A3 := Aside0.mk A30
  clear A30
  replace H := Option.bind_eq_some_iff.mp H
  obtain ⟨⟨t184, t187, t188, t189⟩, A40, H⟩ := H
  replace H : (if t173 = 0 then (if t171 = 1 then (if t172 = 0 then (if (t168.length : Int) = 2 then (if 1 < (t168.length : Int) then (if (rd_T36 t168 1).f0 = true then (if (((rd_T36 t168 1).f3).length : Int) = 2 then (if 1 < (((rd_T36 t168 1).f3).length : Int) then (if 0 < ((rd_L2 ((rd_T36 t168 1).f3) 1).length : Int) then (if (rdOf ByteArray.empty (rd_L2 ((rd_T36 t168 1).f3) 1) 0).toList = ([98] : List UInt8) then (if t183 = 2 then (if t182 = 4 then (some (t189 == 1)) else (some false)) else (some false)) else (some false)) else (none)) else (none)) else (some false)) else (some false)) else (none)) else (some false)) else (some false)) else (some false)) else (some false)) = some r := H
  have A4 := Aside0.mk A40
  clear A40
  by_cases c5 : t173 = 0
  ·rw [if_pos c5] at H
   have c5b0 : (t173 == 0) = true := beq_iff_eq.mpr c5
   have c5b1 : (t173 != 0) = false := bne_eq_false_iff_eq.mpr c5
   clear c5
   by_cases c6 : t171 = 1
   ·rw [if_pos c6] at H
    have c6b0 : (t171 == 1) = true := beq_iff_eq.mpr c6
    have c6b1 : (t171 != 1) = false := bne_eq_false_iff_eq.mpr c6
    clear c6
    by_cases c7 : t172 = 0
    ·rw [if_pos c7] at H
     have c7b0 : (t172 == 0) = true := beq_iff_eq.mpr c7
     have c7b1 : (t172 != 0) = false := bne_eq_false_iff_eq.mpr c7
     clear c7
     by_cases c8 : (t168.length : Int) = 2
     ·rw [if_pos c8] at H
      have c8b0 : ((t168.length : Int) == 2) = true := beq_iff_eq.mpr c8
      have c8b1 : ((t168.length : Int) != 2) = false := bne_eq_false_iff_eq.mpr c8
      clear c8
      by_cases c9 : 1 < (t168.length : Int)
      ·rw [if_pos c9] at H
       have c9b0 : decide (1 < (t168.length : Int)) = true := decide_eq_true c9
       have c9b1 : decide (1 < t168.length) = true := decide_eq_true (by omega)
       clear c9
       obtain ⟨bq10, hbq10⟩ : ∃ b_ : Bool, b_ = ((rd_T36 t168 1).f0) := ⟨_, rfl⟩
       replace H : (if bq10 = true then (if (((rd_T36 t168 1).f3).length : Int) = 2 then (if 1 < (((rd_T36 t168 1).f3).length : Int) then (if 0 < ((rd_L2 ((rd_T36 t168 1).f3) 1).length : Int) then (if (rdOf ByteArray.empty (rd_L2 ((rd_T36 t168 1).f3) 1) 0).toList = ([98] : List UInt8) then (if t183 = 2 then (if t182 = 4 then (some (t189 == 1)) else (some false)) else (some false)) else (some false)) else (none)) else (none)) else (some false)) else (some false)) = some r := by rw [← hbq10] at H; exact H
       have Nbq10 := Aside0.mk hbq10
       clear hbq10
       by_cases c11 : bq10 = true
       ·subst c11
        have H1 : (if (((rd_T36 t168 1).f3).length : Int) = 2 then (if 1 < (((rd_T36 t168 1).f3).length : Int) then (if 0 < ((rd_L2 ((rd_T36 t168 1).f3) 1).length : Int) then (if (rdOf ByteArray.empty (rd_L2 ((rd_T36 t168 1).f3) 1) 0).toList = ([98] : List UInt8) then (if t183 = 2 then (if t182 = 4 then (some (t189 == 1)) else (some false)) else (some false)) else (some false)) else (none)) else (none)) else (some false)) = some r := by rw [if_pos rfl] at H; exact H
        clear H
        have H := H1
        clear H1
        by_cases c12 : (((rd_T36 t168 1).f3).length : Int) = 2
        ·rw [if_pos c12] at H
         have c12b0 : ((((rd_T36 t168 1).f3).length : Int) == 2) = true := beq_iff_eq.mpr c12
         have c12b1 : ((((rd_T36 t168 1).f3).length : Int) != 2) = false := bne_eq_false_iff_eq.mpr c12
         clear c12
         by_cases c13 : 1 < (((rd_T36 t168 1).f3).length : Int)
         ·rw [if_pos c13] at H
          have c13b0 : decide (1 < (((rd_T36 t168 1).f3).length : Int)) = true := decide_eq_true c13
          have c13b1 : decide (1 < ((rd_T36 t168 1).f3).length) = true := decide_eq_true (by omega)
          clear c13
          by_cases c14 : 0 < ((rd_L2 ((rd_T36 t168 1).f3) 1).length : Int)
          ·rw [if_pos c14] at H
           have c14b0 : decide (0 < ((rd_L2 ((rd_T36 t168 1).f3) 1).length : Int)) = true := decide_eq_true c14
           have c14b1 : decide (0 < (rd_L2 ((rd_T36 t168 1).f3) 1).length) = true := decide_eq_true (by omega)
           clear c14
           by_cases c15 : (rdOf ByteArray.empty (rd_L2 ((rd_T36 t168 1).f3) 1) 0).toList = ([98] : List UInt8)
           ·rw [if_pos c15] at H
            have c15b0 : ((rdOf ByteArray.empty (rd_L2 ((rd_T36 t168 1).f3) 1) 0).toList == ([98] : List UInt8)) = true := beq_iff_eq.mpr c15
            have c15b1 : ((rdOf ByteArray.empty (rd_L2 ((rd_T36 t168 1).f3) 1) 0).toList != ([98] : List UInt8)) = false := bne_eq_false_iff_eq.mpr c15
            clear c15
            by_cases c16 : t183 = 2
            ·rw [if_pos c16] at H
             have c16b0 : (t183 == 2) = true := beq_iff_eq.mpr c16
             have c16b1 : (t183 != 2) = false := bne_eq_false_iff_eq.mpr c16
             clear c16
             by_cases c17 : t182 = 4
             ·rw [if_pos c17] at H
              have c17b0 : (t182 == 4) = true := beq_iff_eq.mpr c17
              have c17b1 : (t182 != 4) = false := bne_eq_false_iff_eq.mpr c17
              clear c17
              obtain rfl := Option.some.inj H
              go_enter Tryz.func24, Tryz.ntmps24
              go_wp2_with (first | ((with_reducible refine gate_dst (N := 14) rfl ?_); (try (refine gate_guard (by rfl) ?_; dsimp only)); refine Kd.R_lit Kd.string _ 9 ?hg (N := 14) ?hd (xs := ([(⟨#[116, 10]⟩ : ByteArray), (⟨#[60, 60, 32, 49, 10]⟩ : ByteArray), (⟨#[97, 10]⟩ : ByteArray), (⟨#[61, 61, 32, 50, 10]⟩ : ByteArray), (⟨#[98, 10]⟩ : ByteArray), (⟨#[62, 62, 33, 10]⟩ : ByteArray)] : List ByteArray)) (inner := [.string (⟨#[116, 10]⟩ : ByteArray), .string (⟨#[60, 60, 32, 49, 10]⟩ : ByteArray), .string (⟨#[97, 10]⟩ : ByteArray), .string (⟨#[61, 61, 32, 50, 10]⟩ : ByteArray), .string (⟨#[98, 10]⟩ : ByteArray), .string (⟨#[62, 62, 33, 10]⟩ : ByteArray)]) (ok := fun _ => True) (okp := fun _ => True) ?hr ?hp (fun _ hk => hk) trivial (Below.refl _ _) (Nat.le_refl _) (by simp) ?_; (case hd => rfl); (case hg => rfl); (case hr => first | (go_simp; done) | (go_simp; rfl)); (case hp => exact (Reps.one (show Kd.M Kd.string _ _ _ (⟨#[116, 10]⟩ : ByteArray) [.string (⟨#[116, 10]⟩ : ByteArray)] from rfl) (Reps.one (show Kd.M Kd.string _ _ _ (⟨#[60, 60, 32, 49, 10]⟩ : ByteArray) [.string (⟨#[60, 60, 32, 49, 10]⟩ : ByteArray)] from rfl) (Reps.one (show Kd.M Kd.string _ _ _ (⟨#[97, 10]⟩ : ByteArray) [.string (⟨#[97, 10]⟩ : ByteArray)] from rfl) (Reps.one (show Kd.M Kd.string _ _ _ (⟨#[61, 61, 32, 50, 10]⟩ : ByteArray) [.string (⟨#[61, 61, 32, 50, 10]⟩ : ByteArray)] from rfl) (Reps.one (show Kd.M Kd.string _ _ _ (⟨#[98, 10]⟩ : ByteArray) [.string (⟨#[98, 10]⟩ : ByteArray)] from rfl) (Reps.one (show Kd.M Kd.string _ _ _ (⟨#[62, 62, 33, 10]⟩ : ByteArray) [.string (⟨#[62, 62, 33, 10]⟩ : ByteArray)] from rfl) (Reps.none _ _)))))))); intro v166 w18 ho19 hb hg_ hnew_; clear hg_ hnew_; (first | rw [← Ny165.out] at ho19 | (simp only [Int.reduceToNat] at ho19; rw [← Ny165.out] at ho19)); have n0_ := Aside0.mk (Kd.R_lower ho19 (below_size (by repeat (first | (with_reducible first | exact HB.out | apply below_alloc | apply pw_below_drewN | apply below_drew1) | exact HB.out)))); have n1_ := Aside0.mk (below_step (by repeat (first | (with_reducible first | exact HB.out | apply below_alloc | apply pw_below_drewN | apply below_drew1) | exact HB.out)) hb); clear HB; have HO167 := n0_; have HB := n1_; clear n0_ n1_; clear hb ho19; obtain ⟨Ao20, co20, eo20⟩ := Kd.R_slice HO167.out; subst eo20) | ((with_reducible refine gate_callee (f := 25) rfl ?_); refine goesL_ (some 17) rfl rfl Tryz.func25 (by kernel_rfl) rfl #[.slice Ao20 y165.length co20, .int .i64 2] rfl (by (try simp only [List.map_toArray, List.map_cons, List.map_nil]); first | done | rfl | (simp only [List.length_drop, List.length_take]; rfl)) ?_; (with_reducible refine (unmark_Parse.calls _ _ y165 2 t168 t171 t172 t173 _ ?side1 ?side2 A1.out).mono ?_); (case side1 => repeat (first | exact (Kd.R_reads' HO167.out).2.2 | (with_reducible refine Kd.C_alloc ?_ _) | (with_reducible refine Kd.C_drewN ?_ _) | (with_reducible refine Kd.C_drew ?_))); (case side2 => exact (Kd.R_reads' HO167.out).2.1); rintro e w21 ⟨v169, rfl, ho0, hb⟩; refine ⟨_, rfl, ?_⟩; have n0_ := Aside0.mk (Kd.R_below (by (with_reducible repeat (first | apply Kd.R_alloc | apply Kd.R_drewN | apply Kd.R_drew)); exact HO167.out) hb); have n1_ := Aside0.mk (Kd.V_lower (Kd.V_mono (ok' := fun k_ => some k_ ≠ (.slice Ao20 y165.length co20 : Value).ownBlock) ho0 (fun k_ hk_ => (Kd.fresh' (Kd.R_lt (by (with_reducible repeat (first | apply Kd.R_alloc | apply Kd.R_drewN | apply Kd.R_drew)); exact HO167.out)) k_ hk_))) (below_size (by repeat (first | (with_reducible first | exact HB.out | apply below_alloc | apply pw_below_drewN | apply below_drew1) | exact HB.out)))); have n2_ := Aside0.mk (below_step (by repeat (first | (with_reducible first | exact HB.out | apply below_alloc | apply pw_below_drewN | apply below_drew1) | exact HB.out)) hb); clear HO167; clear HB; have HO167 := n0_; have HO170 := n1_; have HB := n2_; clear n0_ n1_ n2_; (try clear hb); (try clear hb2); (try clear hk); (try clear hi); (try clear ho0); have q22 : (3 : Int) ≤ ((y165.length : Int) : Int) := of_decide_eq_true (by first | (with_reducible assumption) | assumption); obtain ⟨i022, hi022, _, hsz22, _⟩ := info_parts info9; have hroom22 : y165.length ≤ co20 := (Kd.R_reads' HO167.out).2.1; have hC22 : Kd.C Kd.string _ Ao20 y165.length y165 := (Kd.R_reads' HO167.out).2.2; have hcut22 := cut_to (P := Tryz.prog) 25 9 .i64 Tryz.underlying25 hi022 Ao20 y165.length co20 3 (by omega) q22 hroom22; have hr22 := Kd.C_take (m := 3) hC22 (by omega); have hy22 : y174.length = (3 : Int).toNat := (by rw [Ny174.out, List.length_take]; omega); rw [← Ny174.out] at hr22; rw [← hy22] at hcut22; have HR177 := Aside0.mk hr22; have HC177 := Aside0.mk (show y174.length ≤ co20 from by omega); clear hr22 hC22 hroom22 hi022 hsz22; have KY22 := Aside0.mk hy22; clear hy22; have KL22 := Aside0.mk (show 3 ≤ y165.length from by omega); replace q22 := eq_true q22) | ((with_reducible refine gate_callee (f := 25) rfl ?_); refine goesL_ (some 25) rfl rfl Tryz.func25 (by kernel_rfl) rfl #[.slice Ao20 y174.length co20, .int .i64 2] rfl (by (try simp only [List.map_toArray, List.map_cons, List.map_nil]); first | done | rfl | (simp only [List.length_drop, List.length_take]; rfl)) ?_; (with_reducible refine (unmark_Parse.calls _ _ y174 2 t178 t181 t182 t183 _ ?side1 ?side2 A3.out).mono ?_); (case side1 => repeat (first | exact (by repeat (first | (with_reducible exact HR177.out) | (with_reducible refine Kd.C_alloc ?_ _) | (with_reducible refine Kd.C_drewN ?_ _) | (with_reducible refine Kd.C_drew ?_) | exact HR177.out)) | (with_reducible refine Kd.C_alloc ?_ _) | (with_reducible refine Kd.C_drewN ?_ _) | (with_reducible refine Kd.C_drew ?_))); (case side2 => exact HC177.out); rintro e w23 ⟨v179, rfl, ho0, hb⟩; refine ⟨_, rfl, ?_⟩; have n0_ := Aside0.mk (Kd.R_below (by (with_reducible repeat (first | apply Kd.R_alloc | apply Kd.R_drewN | apply Kd.R_drew)); exact HO167.out) hb); have n1_ := Aside0.mk (Kd.V_below (by (with_reducible repeat (first | apply Kd.V_alloc | apply Kd.V_drewN | apply Kd.V_drew)); exact HO170.out) hb); have n2_ := Aside0.mk (Kd.V_lower (Kd.V_mono (ok' := fun k_ => some k_ ≠ (.slice Ao20 y165.length co20 : Value).ownBlock) ho0 (fun k_ hk_ => (Kd.fresh' (Kd.R_lt (by (with_reducible repeat (first | apply Kd.R_alloc | apply Kd.R_drewN | apply Kd.R_drew)); exact HO167.out)) k_ hk_))) (below_size (by repeat (first | (with_reducible first | exact HB.out | apply below_alloc | apply pw_below_drewN | apply below_drew1) | exact HB.out)))); have n3_ := Aside0.mk (Kd.C_below (by repeat (first | (with_reducible exact HR177.out) | (with_reducible refine Kd.C_alloc ?_ _) | (with_reducible refine Kd.C_drewN ?_ _) | (with_reducible refine Kd.C_drew ?_) | exact HR177.out)) hb); have n4_ := Aside0.mk (below_step (by repeat (first | (with_reducible first | exact HB.out | apply below_alloc | apply pw_below_drewN | apply below_drew1) | exact HB.out)) hb); clear HO167; clear HO170; clear HR177; clear HB; have HO167 := n0_; have HO170 := n1_; have HO180 := n2_; have HR177 := n3_; have HB := n4_; clear n0_ n1_ n2_ n3_ n4_; (try clear hb); (try clear hb2); (try clear hk); (try clear hi); (try clear ho0)) | ((with_reducible refine gate_callee (f := 25) rfl ?_); refine goesL_ (some 31) rfl rfl Tryz.func25 (by kernel_rfl) rfl #[.slice none 0 0, .int .i64 0] rfl (by (try simp only [List.map_toArray, List.map_cons, List.map_nil]); first | done | rfl | (simp only [List.length_drop, List.length_take]; rfl)) ?_; (refine (unmark_Parse.calls _ _ ([] : List ByteArray) 0 t184 t187 t188 t189 _ ?side1 ?side2 A4.out).mono ?_); (case side1 => exact Kd.C_nil _ _); (case side2 => exact Nat.le_refl _); rintro e w24 ⟨v185, rfl, ho0, hb⟩; refine ⟨_, rfl, ?_⟩; have n0_ := Aside0.mk (Kd.R_below (by (with_reducible repeat (first | apply Kd.R_alloc | apply Kd.R_drewN | apply Kd.R_drew)); exact HO167.out) hb); have n1_ := Aside0.mk (Kd.V_below (by (with_reducible repeat (first | apply Kd.V_alloc | apply Kd.V_drewN | apply Kd.V_drew)); exact HO170.out) hb); have n2_ := Aside0.mk (Kd.V_below (by (with_reducible repeat (first | apply Kd.V_alloc | apply Kd.V_drewN | apply Kd.V_drew)); exact HO180.out) hb); have n3_ := Aside0.mk (Kd.V_lower (Kd.V_mono (ok' := fun k_ => some k_ ≠ (.slice Ao20 y165.length co20 : Value).ownBlock) ho0 (fun k_ hk_ => (Kd.fresh' (Kd.R_lt (by (with_reducible repeat (first | apply Kd.R_alloc | apply Kd.R_drewN | apply Kd.R_drew)); exact HO167.out)) k_ hk_))) (below_size (by repeat (first | (with_reducible first | exact HB.out | apply below_alloc | apply pw_below_drewN | apply below_drew1) | exact HB.out)))); have n4_ := Aside0.mk (Kd.C_below (by repeat (first | (with_reducible exact HR177.out) | (with_reducible refine Kd.C_alloc ?_ _) | (with_reducible refine Kd.C_drewN ?_ _) | (with_reducible refine Kd.C_drew ?_) | exact HR177.out)) hb); have n5_ := Aside0.mk (below_step (by repeat (first | (with_reducible first | exact HB.out | apply below_alloc | apply pw_below_drewN | apply below_drew1) | exact HB.out)) hb); clear HO167; clear HO170; clear HO180; clear HR177; clear HB; have HO167 := n0_; have HO170 := n1_; have HO180 := n2_; have HO186 := n3_; have HR177 := n4_; have HB := n5_; clear n0_ n1_ n2_ n3_ n4_ n5_; (try clear hb); (try clear hb2); (try clear hk); (try clear hi); (try clear ho0); obtain ⟨Ao25, co25, eo25⟩ := Kd.V_slice HO170.out; subst eo25; have p190 : 0 ≤ (1 : Int) := (by omega); have q190 : 1 < (t168.length : Int) := of_decide_eq_true (by first | (with_reducible assumption) | assumption); obtain ⟨ad190, A190_1, c190_1, A190_2, c190_2, A190_3, c190_3, e190, hx190_0, hx190_1, hx190_2, hx190_3, hl190_1, hi190_1, hl190_2, hi190_2, hl190_3, hi190_3⟩ := at_T36 (Kd.V_reads' HO170.out).2.2 1 p190 q190; (try rw [← Nbq10.out] at hx190_0); cases e190; obtain ⟨ce190, hce190, hMe190, hcc190⟩ := Kd.V_get HO170.out z36 1 p190 (by first | exact q190 | exact of_decide_eq_true (by first | (with_reducible assumption) | assumption) | (have e_ := (Kd.V_reads' HO170.out).1; omega)); obtain ⟨ua190_1, uc190_1, ua190_2, uc190_2, ua190_3, uc190_3, rfl, ul190_1, ge190_1, ul190_2, ge190_2, ul190_3, ge190_3⟩ := k36_openF hMe190; have hv190_1 := hcc190 1 _ rfl; rw [add_field _ _ 1 (by omega)] at hv190_1; replace hv190_1 := Option.some.inj (hv190_1.symm.trans hx190_1); injection hv190_1 with hva_ hvn_ hvc_; rw [hva_] at ge190_1; rw [hvc_] at ul190_1; have HL190_1 := Aside0.mk (show Kd.V Kd.string 9 _ w.heap.size _ _ ((rd_T36 t168 1).f1) from Kd.V_mk ul190_1 ge190_1); clear hva_ hvn_ hvc_ ge190_1 ul190_1; have hv190_2 := hcc190 2 _ rfl; rw [add_field _ _ 2 (by omega)] at hv190_2; replace hv190_2 := Option.some.inj (hv190_2.symm.trans hx190_2); injection hv190_2 with hva_ hvn_ hvc_; rw [hva_] at ge190_2; rw [hvc_] at ul190_2; have HL190_2 := Aside0.mk (show Kd.V Kd.string 9 _ w.heap.size _ _ ((rd_T36 t168 1).f2) from Kd.V_mk ul190_2 ge190_2); clear hva_ hvn_ hvc_ ge190_2 ul190_2; have hv190_3 := hcc190 3 _ rfl; rw [add_field _ _ 3 (by omega)] at hv190_3; replace hv190_3 := Option.some.inj (hv190_3.symm.trans hx190_3); injection hv190_3 with hva_ hvn_ hvc_; rw [hva_] at ge190_3; rw [hvc_] at ul190_3; have HL190_3 := Aside0.mk (show Kd.V (Kd.slice 9 Kd.string) 25 _ w.heap.size _ _ ((rd_T36 t168 1).f3) from Kd.V_mk ul190_3 ge190_3); clear hva_ hvn_ hvc_ ge190_3 ul190_3; clear hcc190 hce190; (try simp only [show (1 : Int).toNat = 1 from rfl, Nat.reduceMul, Nat.reduceEqDiff, Go.Addr.add, ↓reduceIte] at hx190_0); (try simp only [show (1 : Int).toNat = 1 from rfl, Nat.reduceMul, Nat.reduceEqDiff, Go.Addr.add, ↓reduceIte] at hx190_1); (try simp only [show (1 : Int).toNat = 1 from rfl, Nat.reduceMul, Nat.reduceEqDiff, Go.Addr.add, ↓reduceIte] at hx190_2); (try simp only [show (1 : Int).toNat = 1 from rfl, Nat.reduceMul, Nat.reduceEqDiff, Go.Addr.add, ↓reduceIte] at hx190_3); have qi190 : (1 < t168.length) = True := eq_true (by omega); (try rw [show ((1 : Int)).toNat = 1 from rfl] at hx190_0); (try rw [show 1 * 4 = 4 from rfl] at hx190_0); (try rw [show ((1 : Int)).toNat = 1 from rfl] at hx190_1); (try rw [show 1 * 4 = 4 from rfl] at hx190_1); (try rw [show ((1 : Int)).toNat = 1 from rfl] at hx190_2); (try rw [show 1 * 4 = 4 from rfl] at hx190_2); (try rw [show ((1 : Int)).toNat = 1 from rfl] at hx190_3); (try rw [show 1 * 4 = 4 from rfl] at hx190_3); have HR190_1 := Aside0.mk hi190_1; have HC190_1 := Aside0.mk hl190_1; clear hi190_1 hl190_1; have HR190_2 := Aside0.mk hi190_2; have HC190_2 := Aside0.mk hl190_2; clear hi190_2 hl190_2; have HR190_3 := Aside0.mk hi190_3; have HC190_3 := Aside0.mk hl190_3; clear hi190_3 hl190_3; replace p190 := eq_true p190; replace q190 := eq_true q190; have p191 : 0 ≤ (1 : Int) := (by omega); have q191 : 1 < (t168.length : Int) := of_decide_eq_true (by first | (with_reducible assumption) | assumption); obtain ⟨ad191, A191_1, c191_1, A191_2, c191_2, A191_3, c191_3, e191, hx191_0, hx191_1, hx191_2, hx191_3, hl191_1, hi191_1, hl191_2, hi191_2, hl191_3, hi191_3⟩ := at_T36 (Kd.V_reads' HO170.out).2.2 1 p191 q191; (try rw [← Nbq10.out] at hx191_0); obtain rfl : ad190 = ad191 := (by injection e191); obtain ⟨ce191, hce191, hMe191, hcc191⟩ := Kd.V_get HO170.out z36 1 p191 (by first | exact q191 | exact of_decide_eq_true (by first | (with_reducible assumption) | assumption) | (have e_ := (Kd.V_reads' HO170.out).1; omega)); obtain ⟨ua191_1, uc191_1, ua191_2, uc191_2, ua191_3, uc191_3, rfl, ul191_1, ge191_1, ul191_2, ge191_2, ul191_3, ge191_3⟩ := k36_openF hMe191; have hv191_1 := hcc191 1 _ rfl; rw [add_field _ _ 1 (by omega)] at hv191_1; replace hv191_1 := Option.some.inj (hv191_1.symm.trans hx191_1); injection hv191_1 with hva_ hvn_ hvc_; rw [hva_] at ge191_1; rw [hvc_] at ul191_1; have HL191_1 := Aside0.mk (show Kd.V Kd.string 9 _ w.heap.size _ _ ((rd_T36 t168 1).f1) from Kd.V_mk ul191_1 ge191_1); clear hva_ hvn_ hvc_ ge191_1 ul191_1; have hv191_2 := hcc191 2 _ rfl; rw [add_field _ _ 2 (by omega)] at hv191_2; replace hv191_2 := Option.some.inj (hv191_2.symm.trans hx191_2); injection hv191_2 with hva_ hvn_ hvc_; rw [hva_] at ge191_2; rw [hvc_] at ul191_2; have HL191_2 := Aside0.mk (show Kd.V Kd.string 9 _ w.heap.size _ _ ((rd_T36 t168 1).f2) from Kd.V_mk ul191_2 ge191_2); clear hva_ hvn_ hvc_ ge191_2 ul191_2; have hv191_3 := hcc191 3 _ rfl; rw [add_field _ _ 3 (by omega)] at hv191_3; replace hv191_3 := Option.some.inj (hv191_3.symm.trans hx191_3); injection hv191_3 with hva_ hvn_ hvc_; rw [hva_] at ge191_3; rw [hvc_] at ul191_3; have HL191_3 := Aside0.mk (show Kd.V (Kd.slice 9 Kd.string) 25 _ w.heap.size _ _ ((rd_T36 t168 1).f3) from Kd.V_mk ul191_3 ge191_3); clear hva_ hvn_ hvc_ ge191_3 ul191_3; clear hcc191 hce191; (try simp only [show (1 : Int).toNat = 1 from rfl, Nat.reduceMul, Nat.reduceEqDiff, Go.Addr.add, ↓reduceIte] at hx191_0); (try simp only [show (1 : Int).toNat = 1 from rfl, Nat.reduceMul, Nat.reduceEqDiff, Go.Addr.add, ↓reduceIte] at hx191_1); (try simp only [show (1 : Int).toNat = 1 from rfl, Nat.reduceMul, Nat.reduceEqDiff, Go.Addr.add, ↓reduceIte] at hx191_2); (try simp only [show (1 : Int).toNat = 1 from rfl, Nat.reduceMul, Nat.reduceEqDiff, Go.Addr.add, ↓reduceIte] at hx191_3); have qi191 : (1 < t168.length) = True := eq_true (by omega); (try rw [show ((1 : Int)).toNat = 1 from rfl] at hx191_0); (try rw [show 1 * 4 = 4 from rfl] at hx191_0); (try rw [show ((1 : Int)).toNat = 1 from rfl] at hx191_1); (try rw [show 1 * 4 = 4 from rfl] at hx191_1); (try rw [show ((1 : Int)).toNat = 1 from rfl] at hx191_2); (try rw [show 1 * 4 = 4 from rfl] at hx191_2); (try rw [show ((1 : Int)).toNat = 1 from rfl] at hx191_3); (try rw [show 1 * 4 = 4 from rfl] at hx191_3); have HR191_1 := Aside0.mk hi191_1; have HC191_1 := Aside0.mk hl191_1; clear hi191_1 hl191_1; have HR191_2 := Aside0.mk hi191_2; have HC191_2 := Aside0.mk hl191_2; clear hi191_2 hl191_2; have HR191_3 := Aside0.mk hi191_3; have HC191_3 := Aside0.mk hl191_3; clear hi191_3 hl191_3; replace p191 := eq_true p191; replace q191 := eq_true q191; have ea_ := Option.some.inj (hx190_1.symm.trans hx191_1); injection ea_ with ea_ en_ ec_; subst ea_; subst ec_; clear en_; have ea_ := Option.some.inj (hx190_2.symm.trans hx191_2); injection ea_ with ea_ en_ ec_; subst ea_; subst ec_; clear en_; have ea_ := Option.some.inj (hx190_3.symm.trans hx191_3); injection ea_ with ea_ en_ ec_; subst ea_; subst ec_; clear en_; have p192 : 0 ≤ (1 : Int) := (by omega); have q192 : 1 < (t168.length : Int) := of_decide_eq_true (by first | (with_reducible assumption) | assumption); obtain ⟨ad192, A192_1, c192_1, A192_2, c192_2, A192_3, c192_3, e192, hx192_0, hx192_1, hx192_2, hx192_3, hl192_1, hi192_1, hl192_2, hi192_2, hl192_3, hi192_3⟩ := at_T36 (Kd.V_reads' HO170.out).2.2 1 p192 q192; (try rw [← Nbq10.out] at hx192_0); obtain rfl : ad190 = ad192 := (by injection e192); obtain ⟨ce192, hce192, hMe192, hcc192⟩ := Kd.V_get HO170.out z36 1 p192 (by first | exact q192 | exact of_decide_eq_true (by first | (with_reducible assumption) | assumption) | (have e_ := (Kd.V_reads' HO170.out).1; omega)); obtain ⟨ua192_1, uc192_1, ua192_2, uc192_2, ua192_3, uc192_3, rfl, ul192_1, ge192_1, ul192_2, ge192_2, ul192_3, ge192_3⟩ := k36_openF hMe192; have hv192_1 := hcc192 1 _ rfl; rw [add_field _ _ 1 (by omega)] at hv192_1; replace hv192_1 := Option.some.inj (hv192_1.symm.trans hx192_1); injection hv192_1 with hva_ hvn_ hvc_; rw [hva_] at ge192_1; rw [hvc_] at ul192_1; have HL192_1 := Aside0.mk (show Kd.V Kd.string 9 _ w.heap.size _ _ ((rd_T36 t168 1).f1) from Kd.V_mk ul192_1 ge192_1); clear hva_ hvn_ hvc_ ge192_1 ul192_1; have hv192_2 := hcc192 2 _ rfl; rw [add_field _ _ 2 (by omega)] at hv192_2; replace hv192_2 := Option.some.inj (hv192_2.symm.trans hx192_2); injection hv192_2 with hva_ hvn_ hvc_; rw [hva_] at ge192_2; rw [hvc_] at ul192_2; have HL192_2 := Aside0.mk (show Kd.V Kd.string 9 _ w.heap.size _ _ ((rd_T36 t168 1).f2) from Kd.V_mk ul192_2 ge192_2); clear hva_ hvn_ hvc_ ge192_2 ul192_2; have hv192_3 := hcc192 3 _ rfl; rw [add_field _ _ 3 (by omega)] at hv192_3; replace hv192_3 := Option.some.inj (hv192_3.symm.trans hx192_3); injection hv192_3 with hva_ hvn_ hvc_; rw [hva_] at ge192_3; rw [hvc_] at ul192_3; have HL192_3 := Aside0.mk (show Kd.V (Kd.slice 9 Kd.string) 25 _ w.heap.size _ _ ((rd_T36 t168 1).f3) from Kd.V_mk ul192_3 ge192_3); clear hva_ hvn_ hvc_ ge192_3 ul192_3; clear hcc192 hce192; (try simp only [show (1 : Int).toNat = 1 from rfl, Nat.reduceMul, Nat.reduceEqDiff, Go.Addr.add, ↓reduceIte] at hx192_0); (try simp only [show (1 : Int).toNat = 1 from rfl, Nat.reduceMul, Nat.reduceEqDiff, Go.Addr.add, ↓reduceIte] at hx192_1); (try simp only [show (1 : Int).toNat = 1 from rfl, Nat.reduceMul, Nat.reduceEqDiff, Go.Addr.add, ↓reduceIte] at hx192_2); (try simp only [show (1 : Int).toNat = 1 from rfl, Nat.reduceMul, Nat.reduceEqDiff, Go.Addr.add, ↓reduceIte] at hx192_3); have qi192 : (1 < t168.length) = True := eq_true (by omega); (try rw [show ((1 : Int)).toNat = 1 from rfl] at hx192_0); (try rw [show 1 * 4 = 4 from rfl] at hx192_0); (try rw [show ((1 : Int)).toNat = 1 from rfl] at hx192_1); (try rw [show 1 * 4 = 4 from rfl] at hx192_1); (try rw [show ((1 : Int)).toNat = 1 from rfl] at hx192_2); (try rw [show 1 * 4 = 4 from rfl] at hx192_2); (try rw [show ((1 : Int)).toNat = 1 from rfl] at hx192_3); (try rw [show 1 * 4 = 4 from rfl] at hx192_3); have HR192_1 := Aside0.mk hi192_1; have HC192_1 := Aside0.mk hl192_1; clear hi192_1 hl192_1; have HR192_2 := Aside0.mk hi192_2; have HC192_2 := Aside0.mk hl192_2; clear hi192_2 hl192_2; have HR192_3 := Aside0.mk hi192_3; have HC192_3 := Aside0.mk hl192_3; clear hi192_3 hl192_3; replace p192 := eq_true p192; replace q192 := eq_true q192; have ea_ := Option.some.inj (hx190_1.symm.trans hx192_1); injection ea_ with ea_ en_ ec_; subst ea_; subst ec_; clear en_; have ea_ := Option.some.inj (hx190_2.symm.trans hx192_2); injection ea_ with ea_ en_ ec_; subst ea_; subst ec_; clear en_; have ea_ := Option.some.inj (hx190_3.symm.trans hx192_3); injection ea_ with ea_ en_ ec_; subst ea_; subst ec_; clear en_; have p193 : 0 ≤ (1 : Int) := (by omega); have q193 : 1 < (((rd_T36 t168 1).f3).length : Int) := of_decide_eq_true (by first | (with_reducible assumption) | assumption); obtain ⟨ad193, A193_0, c193_0, e193, hx193_0, hl193_0, hi193_0⟩ := at_L2 (by repeat (first | (with_reducible exact HR192_3.out) | (with_reducible refine Kd.C_alloc ?_ _) | (with_reducible refine Kd.C_drewN ?_ _) | (with_reducible refine Kd.C_drew ?_) | exact HR192_3.out)) 1 p193 q193; cases e193; obtain ⟨ce193, hce193, hMe193, hcc193⟩ := Kd.V_get HL192_3.out [] 1 p193 (by first | exact q193 | exact of_decide_eq_true (by first | (with_reducible assumption) | assumption) | (have e_ := (Kd.V_reads' HL192_3.out).1; omega)); obtain ⟨ua193_0, uc193_0, rfl, ul193_0, ge193_0⟩ := Kd.FK_slice_open hMe193; have hv193_0 := hcc193 0 _ rfl; rw [Nat.add_zero, show ((Kd.slice 9 Kd.string)).sz = 1 from rfl, Nat.mul_one] at hv193_0; replace hv193_0 := Option.some.inj (hv193_0.symm.trans hx193_0); injection hv193_0 with hva_ hvn_ hvc_; rw [hva_] at ge193_0; rw [hvc_] at ul193_0; have HL193_0 := Aside0.mk (show Kd.V Kd.string 9 _ w.heap.size _ _ (rd_L2 ((rd_T36 t168 1).f3) 1) from Kd.V_mk ul193_0 ge193_0); clear hva_ hvn_ hvc_ ge193_0 ul193_0; clear hcc193 hce193; (try simp only [show (1 : Int).toNat = 1 from rfl, Nat.reduceMul, Nat.reduceEqDiff, Go.Addr.add, ↓reduceIte] at hx193_0); have qi193 : (1 < ((rd_T36 t168 1).f3).length) = True := eq_true (by omega); (try rw [show ((1 : Int)).toNat = 1 from rfl] at hx193_0); have HR193_0 := Aside0.mk hi193_0; have HC193_0 := Aside0.mk hl193_0; clear hi193_0 hl193_0; replace p193 := eq_true p193; replace q193 := eq_true q193; have p194 : 0 ≤ (0 : Int) := (by omega); have q194 : 0 < ((rd_L2 ((rd_T36 t168 1).f3) 1).length : Int) := of_decide_eq_true (by first | (with_reducible assumption) | assumption); obtain ⟨ad194, e194, hx194_0⟩ := Kd.at_string (by repeat (first | (with_reducible exact HR193_0.out) | (with_reducible refine Kd.C_alloc ?_ _) | (with_reducible refine Kd.C_drewN ?_ _) | (with_reducible refine Kd.C_drew ?_) | exact HR193_0.out)) 0 p194 q194; cases e194; have qi194 : (0 < (rd_L2 ((rd_T36 t168 1).f3) 1).length) = True := eq_true (by omega); (try rw [show ((0 : Int)).toNat = 0 from rfl] at hx194_0); (try rw [Addr.add_zero'] at hx194_0); replace p194 := eq_true p194; replace q194 := eq_true q194))
              go_ret
              exact ⟨by first | rfl | (simp [errW_none, errW_some] <;> rfl) | (simp [*, errW_none, errW_some] <;> rfl), by repeat (first | (with_reducible first | exact HB.out | apply below_alloc | apply pw_below_drewN | apply below_drew1) | exact HB.out)⟩
             ·rw [if_neg c17] at H
              exact absurd (H.trans (congrArg some hr_)) (by simp)
            ·rw [if_neg c16] at H
             exact absurd (H.trans (congrArg some hr_)) (by simp)
           ·rw [if_neg c15] at H
            exact absurd (H.trans (congrArg some hr_)) (by simp)
          ·rw [if_neg c14] at H
           exact absurd (H.trans (congrArg some hr_)) (by simp)
         ·rw [if_neg c13] at H
          exact absurd (H.trans (congrArg some hr_)) (by simp)
        ·rw [if_neg c12] at H
         exact absurd (H.trans (congrArg some hr_)) (by simp)
       ·replace c11 := Bool.eq_false_iff.mpr c11
        subst c11
        have H1 : (some false) = some r := by rw [if_neg (show ¬ (false = true) by decide)] at H; exact H
        exact absurd (H1.trans (congrArg some hr_)) (by simp)
      ·rw [if_neg c9] at H
       exact absurd (H.trans (congrArg some hr_)) (by simp)
     ·rw [if_neg c8] at H
      exact absurd (H.trans (congrArg some hr_)) (by simp)
    ·rw [if_neg c7] at H
     exact absurd (H.trans (congrArg some hr_)) (by simp)
   ·rw [if_neg c6] at H
    exact absurd (H.trans (congrArg some hr_)) (by simp)
  ·rw [if_neg c5] at H
   exact absurd (H.trans (congrArg some hr_)) (by simp)
 ·rw [if_neg c2] at H
  exact absurd (H.trans (congrArg some hr_)) (by simp)
/-! ### sennitlaw13_style: function 27 -/
def sennitlaw13_style.j0 : Nat → Bool → Option (Int)
 | 0, _ => none
 | k + 1, x10 => if x10 = true then (some 1) else (some 2)
def sennitlaw13_style.f (k : Nat) (l0 : List (S36)) (a1 : Int) : Option (Int) := if a1 = 1 then (sennitlaw13_style.j0 k true) else ((sennitref07_Clean.f k l0).bind fun t196 => (sennitlaw13_style.j0 k t196))
set_option maxHeartbeats 8000000 in
set_option maxRecDepth 100000 in
theorem sennitlaw13_style.calls (k : Nat) (A0 : Option Addr) (c0 : Nat) (l0 : List (S36)) (a1 : Int) (r : Int) (w : World) (hr0 : Kd.C k36 w A0 l0.length l0) (hc0 : l0.length ≤ c0) (h : sennitlaw13_style.f k l0 a1 = some r) :
  Calls Tryz.prog 27 #[.slice A0 l0.length c0, .int .i64 a1] w fun e w' => e = .returned (.int .i64 r) ∧ Drawn0 w w' := by
 have HR0 := Aside0.mk hr0
 have HC0 := Aside0.mk hc0
 clear hr0 hc0
 have H : (if a1 = 1 then (sennitlaw13_style.j0 k true) else ((sennitref07_Clean.f k l0).bind fun t196 => (sennitlaw13_style.j0 k t196))) = some r := h
 clear h
 have HC3 := Aside0.mk H
 clear H
 go_enter Tryz.func27, Tryz.ntmps27
 go_upto_region 1 with (fail)
 go_cut [10] (fun v10 wc => ∃ (kq : Nat) (x10_2 : Bool), v10 = .bool x10_2 ∧ Aside0 (sennitlaw13_style.j0 kq x10_2 = some r) ∧ Aside0 (kq ≤ k) ∧ Drawn0 w wc)
 case first =>
  have H := HC3.out
  clear HC3
  by_cases c4 : a1 = 1
  ·rw [if_pos c4] at H
   have c4b0 : (a1 == 1) = true := beq_iff_eq.mpr c4
   have c4b1 : (a1 != 1) = false := bne_eq_false_iff_eq.mpr c4
   clear c4
   (first | rw [c4b0] | (simp only [i64_w, i32_w]; rw [c4b0]) | skip)
   have H' := Aside0.mk H
   clear H
   go_wp2
   go_meet
   case rel => exact ⟨_, (true), (by first | rfl | (simp; done) | (simp [*]; done)), H', ⟨by first | omega | exact Nat.le_refl _⟩, by repeat (first | exact Drawn0.refl _ | apply Drawn0.step)⟩
  ·rw [if_neg c4] at H
   have c4b0 : (a1 == 1) = false := beq_eq_false_iff_ne.mpr c4
   have c4b1 : (a1 != 1) = true := bne_iff_ne.mpr c4
   (first | rw [c4b0] | (simp only [i64_w, i32_w]; rw [c4b0]) | skip)
   replace H := Option.bind_eq_some_iff.mp H
   obtain ⟨t196, A50, H⟩ := H
   replace H : (sennitlaw13_style.j0 k t196) = some r := H
   have A5 := Aside0.mk A50
   clear A50
   have H' := Aside0.mk H
   clear H
   go_wp2_with (first | (go_at_call 20; (with_reducible refine (sennitref07_Clean.calls k _ _ l0 t196 _ ?side1 ?side2 A5.out).mono ?_); (case side1 => repeat (first | exact HR0.out | (with_reducible refine Kd.C_alloc ?_ _) | (with_reducible refine Kd.C_drewN ?_ _) | (with_reducible refine Kd.C_drew ?_))); (case side2 => exact HC0.out); rintro e w' ⟨rfl, ⟨nd, rfl⟩⟩))
   go_meet
   case rel => exact ⟨_, (t196), (by first | rfl | (simp; done) | (simp [*]; done)), H', ⟨by first | omega | exact Nat.le_refl _⟩, by repeat (first | exact Drawn0.refl _ | apply Drawn0.step)⟩
 case rest =>
  clear HC3
  try clear c2
  try clear p2
  try clear c4
  try clear c4b0
  try clear c4b1
  obtain ⟨kq, x10_2, rfl, HA, HJ2, ⟨mc2, rfl⟩⟩ := hcut
  cases kq with
  | zero => exact absurd HA.out (by simp [sennitlaw13_style.j0])
  | succ kj2 =>
   have H := HA.out
   clear HA
   simp only [sennitlaw13_style.j0] at H
   by_cases c6 : x10_2 = true
   ·subst c6
    have H1 : (some 1) = some r := by rw [if_pos rfl] at H; exact H
    clear H
    have H := H1
    clear H1
    obtain rfl := Option.some.inj H
    go_wp2
    go_ret
    exact ⟨by first | rfl | (simp; done) | (simp [*]; done), by repeat (first | exact Drawn0.refl _ | apply Drawn0.step)⟩
   ·replace c6 := Bool.eq_false_iff.mpr c6
    subst c6
    have H1 : (some 2) = some r := by rw [if_neg (show ¬ (false = true) by decide)] at H; exact H
    clear H
    have H := H1
    clear H1
    obtain rfl := Option.some.inj H
    go_wp2
    go_ret
    exact ⟨by first | rfl | (simp; done) | (simp [*]; done), by repeat (first | exact Drawn0.refl _ | apply Drawn0.step)⟩
/-! ### sennitlaw13_UnmarkBack: function 8 -/
mutual
def sennitlaw13_UnmarkBack.j0 : Nat → List (S36) → Int → Bool → List (S36) → Int → Int → Int → List (S36) → Option (Bool)
 | 0, _, _, _, _, _, _, _, _ => none
 | k + 1, x0, x1, x7, x10, x11, x12, x13, x14 => if x1 = 3 then ((sennitref10_Zeal.f x0).bind fun t212 => (sennitlaw13_UnmarkBack.j1 k x1 x7 x10 x11 x12 x13 t212)) else (sennitlaw13_UnmarkBack.j1 k x1 x7 x10 x11 x12 x13 x14)
def sennitlaw13_UnmarkBack.j1 : Nat → Int → Bool → List (S36) → Int → Int → Int → List (S36) → Option (Bool)
 | 0, _, _, _, _, _, _, _ => none
 | k + 1, x1, x7, x10, x11, x12, x13, x14 => if x7 = true then (if x13 = 0 then (if x12 = 0 then ((sennitref07_Same.f x10 x14).bind fun t215 => (if t215 = true then ((sennitlaw13_style.f k x14 x1).bind fun t216 => (some (x11 == t216))) else (some false))) else (some false)) else (some false)) else (some false)
end
def sennitlaw13_UnmarkBack.f (k : Nat) (l0 : List (S36)) (a1 : Int) (a2 : Int) : Option (Bool) := (sennitlaw13_awake.f).bind fun t197 => ((sennitref12_May.f k l0 a1 a2).bind fun t198 => (if t198 = true then ((mark_Print.f l0 a1 a2).bind fun bt199 => ((unmark_Parse.f bt199.1 a2).bind fun bt203 => (if a1 = 1 then ((sennitref12_Bare.f k l0).bind fun t209 => (sennitlaw13_UnmarkBack.j0 k l0 a1 t197 bt203.1 bt203.2.1 bt203.2.2.1 bt203.2.2.2 t209)) else (sennitlaw13_UnmarkBack.j0 k l0 a1 t197 bt203.1 bt203.2.1 bt203.2.2.1 bt203.2.2.2 l0)))) else (some t197)))
set_option maxHeartbeats 8000000 in
set_option maxRecDepth 100000 in
theorem sennitlaw13_UnmarkBack.calls (k : Nat) (P0_ : Nat → Prop) (A0 : Option Addr) (c0 : Nat) (l0 : List (S36)) (a1 : Int) (a2 : Int) (r : Bool) (w : World) (hs0 : Kd.V k36 36 w w.heap.size (fun k_ => P0_ k_) (.slice A0 l0.length c0) l0) (h : sennitlaw13_UnmarkBack.f k l0 a1 a2 = some r) :
  Calls Tryz.prog 8 #[.slice A0 l0.length c0, .int .i64 a1, .int .i64 a2] w fun e w' => e = .returned (.bool r) ∧ Below w.heap.size w w' := by
 have HO0 := Aside0.mk (show Kd.V k36 36 w w.heap.size (fun k_ => (P0_ k_ ∨ w.heap.size ≤ k_)) (.slice A0 l0.length c0) l0 from Kd.V_mono hs0 (fun k_ hk => .inl hk))
 have HB := Aside0.mk (Below.refl w.heap.size w)
 have H : ((sennitlaw13_awake.f).bind fun t197 => ((sennitref12_May.f k l0 a1 a2).bind fun t198 => (if t198 = true then ((mark_Print.f l0 a1 a2).bind fun bt199 => ((unmark_Parse.f bt199.1 a2).bind fun bt203 => (if a1 = 1 then ((sennitref12_Bare.f k l0).bind fun t209 => (sennitlaw13_UnmarkBack.j0 k l0 a1 t197 bt203.1 bt203.2.1 bt203.2.2.1 bt203.2.2.2 t209)) else (sennitlaw13_UnmarkBack.j0 k l0 a1 t197 bt203.1 bt203.2.1 bt203.2.2.1 bt203.2.2.2 l0)))) else (some t197)))) = some r := h
 clear h
 replace H := Option.bind_eq_some_iff.mp H
 obtain ⟨t197, A40, H⟩ := H
 replace H : ((sennitref12_May.f k l0 a1 a2).bind fun t198 => (if t198 = true then ((mark_Print.f l0 a1 a2).bind fun bt199 => ((unmark_Parse.f bt199.1 a2).bind fun bt203 => (if a1 = 1 then ((sennitref12_Bare.f k l0).bind fun t209 => (sennitlaw13_UnmarkBack.j0 k l0 a1 t197 bt203.1 bt203.2.1 bt203.2.2.1 bt203.2.2.2 t209)) else (sennitlaw13_UnmarkBack.j0 k l0 a1 t197 bt203.1 bt203.2.1 bt203.2.2.1 bt203.2.2.2 l0)))) else (some t197))) = some r := H
 have A4 := Aside0.mk A40
 clear A40
 replace H := Option.bind_eq_some_iff.mp H
 obtain ⟨t198, A50, H⟩ := H
 replace H : (if t198 = true then ((mark_Print.f l0 a1 a2).bind fun bt199 => ((unmark_Parse.f bt199.1 a2).bind fun bt203 => (if a1 = 1 then ((sennitref12_Bare.f k l0).bind fun t209 => (sennitlaw13_UnmarkBack.j0 k l0 a1 t197 bt203.1 bt203.2.1 bt203.2.2.1 bt203.2.2.2 t209)) else (sennitlaw13_UnmarkBack.j0 k l0 a1 t197 bt203.1 bt203.2.1 bt203.2.2.1 bt203.2.2.2 l0)))) else (some t197)) = some r := H
 have A5 := Aside0.mk A50
 clear A50
 by_cases c6 : t198 = true
 ·subst c6
  have H1 : ((mark_Print.f l0 a1 a2).bind fun bt199 => ((unmark_Parse.f bt199.1 a2).bind fun bt203 => (if a1 = 1 then ((sennitref12_Bare.f k l0).bind fun t209 => (sennitlaw13_UnmarkBack.j0 k l0 a1 t197 bt203.1 bt203.2.1 bt203.2.2.1 bt203.2.2.2 t209)) else (sennitlaw13_UnmarkBack.j0 k l0 a1 t197 bt203.1 bt203.2.1 bt203.2.2.1 bt203.2.2.2 l0)))) = some r := by rw [if_pos rfl] at H; exact H
  clear H
  have H := H1
  clear H1
  replace H := Option.bind_eq_some_iff.mp H
  obtain ⟨⟨t199, t202⟩, A70, H⟩ := H
  replace H : ((unmark_Parse.f t199 a2).bind fun bt203 => (if a1 = 1 then ((sennitref12_Bare.f k l0).bind fun t209 => (sennitlaw13_UnmarkBack.j0 k l0 a1 t197 bt203.1 bt203.2.1 bt203.2.2.1 bt203.2.2.2 t209)) else (sennitlaw13_UnmarkBack.j0 k l0 a1 t197 bt203.1 bt203.2.1 bt203.2.2.1 bt203.2.2.2 l0))) = some r := H
  have A7 := Aside0.mk A70
  clear A70
  replace H := Option.bind_eq_some_iff.mp H
  obtain ⟨⟨t203, t206, t207, t208⟩, A80, H⟩ := H
  replace H : (if a1 = 1 then ((sennitref12_Bare.f k l0).bind fun t209 => (sennitlaw13_UnmarkBack.j0 k l0 a1 t197 t203 t206 t207 t208 t209)) else (sennitlaw13_UnmarkBack.j0 k l0 a1 t197 t203 t206 t207 t208 l0)) = some r := H
  have A8 := Aside0.mk A80
  clear A80
  have HC9 := Aside0.mk H
  clear H
  go_enter Tryz.func8, Tryz.ntmps8
  go_upto_if 39 with (first | ((with_reducible refine gate_callee (f := 24) rfl ?_); refine goesL_ (some 15) rfl rfl Tryz.func24 (by kernel_rfl) rfl #[] rfl (by (try simp only [List.map_toArray, List.map_cons, List.map_nil]); first | done | rfl | (simp only [List.length_drop, List.length_take]; rfl)) ?_; (with_reducible refine (sennitlaw13_awake.calls  t197 _ A4.out).mono ?_); rintro e w10 ⟨rfl, hb⟩; refine ⟨_, rfl, ?_⟩; have n0_ := Aside0.mk (Kd.V_below (by (with_reducible repeat (first | apply Kd.V_alloc | apply Kd.V_drewN | apply Kd.V_drew)); exact HO0.out) hb); have n1_ := Aside0.mk (below_step (by repeat (first | (with_reducible first | exact HB.out | apply below_alloc | apply pw_below_drewN | apply below_drew1) | exact HB.out)) hb); clear HO0; clear HB; have HO0 := n0_; have HB := n1_; clear n0_ n1_; (try clear hb); (try clear hb2); (try clear hk); (try clear hi)) | ((with_reducible refine gate_callee (f := 15) rfl ?_); refine goesL_ (some 19) rfl rfl Tryz.func15 (by kernel_rfl) rfl #[.slice A0 l0.length c0, .int .i64 a1, .int .i64 a2] rfl (by (try simp only [List.map_toArray, List.map_cons, List.map_nil]); first | done | rfl | (simp only [List.length_drop, List.length_take]; rfl)) ?_; (with_reducible refine (sennitref12_May.calls k _ _ l0 a1 a2 true _ ?side1 ?side2 A5.out).mono ?_); (case side1 => repeat (first | exact (Kd.V_reads' HO0.out).2.2 | (with_reducible refine Kd.C_alloc ?_ _) | (with_reducible refine Kd.C_drewN ?_ _) | (with_reducible refine Kd.C_drew ?_))); (case side2 => exact (Kd.V_reads' HO0.out).2.1); rintro e w11 ⟨rfl, hb⟩; refine ⟨_, rfl, ?_⟩; have n0_ := Aside0.mk (Kd.V_below (by (with_reducible repeat (first | apply Kd.V_alloc | apply Kd.V_drewN | apply Kd.V_drew)); exact HO0.out) hb); have n1_ := Aside0.mk (below_step (by repeat (first | (with_reducible first | exact HB.out | apply below_alloc | apply pw_below_drewN | apply below_drew1) | exact HB.out)) hb); clear HO0; clear HB; have HO0 := n0_; have HB := n1_; clear n0_ n1_; (try clear hb); (try clear hb2); (try clear hk); (try clear hi)) | ((with_reducible refine gate_callee (f := 12) rfl ?_); refine goesL_ (some 26) rfl rfl Tryz.func12 (by kernel_rfl) rfl #[.slice A0 l0.length c0, .int .i64 a1, .int .i64 a2] rfl (by (try simp only [List.map_toArray, List.map_cons, List.map_nil]); first | done | rfl | (simp only [List.length_drop, List.length_take]; rfl)) ?_; (with_reducible refine (mark_Print.calls _ _ l0 a1 a2 t199 t202 _ ?side1 ?side2 A7.out).mono ?_); (case side1 => repeat (first | exact (Kd.V_reads' HO0.out).2.2 | (with_reducible refine Kd.C_alloc ?_ _) | (with_reducible refine Kd.C_drewN ?_ _) | (with_reducible refine Kd.C_drew ?_))); (case side2 => exact (Kd.V_reads' HO0.out).2.1); rintro e w12 ⟨v200, rfl, ho0, hb⟩; refine ⟨_, rfl, ?_⟩; have n0_ := Aside0.mk (Kd.V_below (by (with_reducible repeat (first | apply Kd.V_alloc | apply Kd.V_drewN | apply Kd.V_drew)); exact HO0.out) hb); have n1_ := Aside0.mk (Kd.V_lower (Kd.V_mono (ok' := fun k_ => (P0_ k_ ∨ w.heap.size ≤ k_)) ho0 (fun k_ hk_ => (.inr (Nat.le_trans (below_size (by repeat (first | (with_reducible first | exact HB.out | apply below_alloc | apply pw_below_drewN | apply below_drew1) | exact HB.out))) hk_)))) (below_size (by repeat (first | (with_reducible first | exact HB.out | apply below_alloc | apply pw_below_drewN | apply below_drew1) | exact HB.out)))); have n2_ := Aside0.mk (below_step (by repeat (first | (with_reducible first | exact HB.out | apply below_alloc | apply pw_below_drewN | apply below_drew1) | exact HB.out)) hb); clear HO0; clear HB; have HO0 := n0_; have HO201 := n1_; have HB := n2_; clear n0_ n1_ n2_; (try clear hb); (try clear hb2); (try clear hk); (try clear hi); (try clear ho0); obtain ⟨Ao13, co13, eo13⟩ := Kd.V_slice HO201.out; subst eo13) | ((with_reducible refine gate_callee (f := 25) rfl ?_); refine goesL_ (some 32) rfl rfl Tryz.func25 (by kernel_rfl) rfl #[.slice Ao13 t199.length co13, .int .i64 a2] rfl (by (try simp only [List.map_toArray, List.map_cons, List.map_nil]); first | done | rfl | (simp only [List.length_drop, List.length_take]; rfl)) ?_; (with_reducible refine (unmark_Parse.calls _ _ t199 a2 t203 t206 t207 t208 _ ?side1 ?side2 A8.out).mono ?_); (case side1 => repeat (first | exact (Kd.V_reads' HO201.out).2.2 | (with_reducible refine Kd.C_alloc ?_ _) | (with_reducible refine Kd.C_drewN ?_ _) | (with_reducible refine Kd.C_drew ?_))); (case side2 => exact (Kd.V_reads' HO201.out).2.1); rintro e w14 ⟨v204, rfl, ho0, hb⟩; refine ⟨_, rfl, ?_⟩; have n0_ := Aside0.mk (Kd.V_below (by (with_reducible repeat (first | apply Kd.V_alloc | apply Kd.V_drewN | apply Kd.V_drew)); exact HO0.out) hb); have n1_ := Aside0.mk (Kd.V_below (by (with_reducible repeat (first | apply Kd.V_alloc | apply Kd.V_drewN | apply Kd.V_drew)); exact HO201.out) hb); have n2_ := Aside0.mk (Kd.V_lower (Kd.V_mono (ok' := fun k_ => (P0_ k_ ∨ w.heap.size ≤ k_)) ho0 (fun k_ hk_ => (.inr (Nat.le_trans (below_size (by repeat (first | (with_reducible first | exact HB.out | apply below_alloc | apply pw_below_drewN | apply below_drew1) | exact HB.out))) hk_)))) (below_size (by repeat (first | (with_reducible first | exact HB.out | apply below_alloc | apply pw_below_drewN | apply below_drew1) | exact HB.out)))); have n3_ := Aside0.mk (below_step (by repeat (first | (with_reducible first | exact HB.out | apply below_alloc | apply pw_below_drewN | apply below_drew1) | exact HB.out)) hb); clear HO0; clear HO201; clear HB; have HO0 := n0_; have HO201 := n1_; have HO205 := n2_; have HB := n3_; clear n0_ n1_ n2_ n3_; (try clear hb); (try clear hb2); (try clear hk); (try clear hi); (try clear ho0)))
  (try simp only [Act.put, List.setIfInBounds_toArray, List.set_cons_zero, List.set_cons_succ])
  go_cut [14] (fun v14 wc => ∃ (kq : Nat) (x14_8 : List (S36)), Aside0 (sennitlaw13_UnmarkBack.j0 kq l0 a1 t197 t203 t206 t207 t208 x14_8 = some r) ∧ Aside0 (kq ≤ k) ∧ Aside0 (Kd.V k36 36 wc w.heap.size (fun k_ => (P0_ k_ ∨ w.heap.size ≤ k_)) (.slice A0 l0.length c0) l0) ∧ Aside0 (Kd.V k36 36 wc w.heap.size (fun k_ => (P0_ k_ ∨ w.heap.size ≤ k_)) v204 t203) ∧ Aside0 (Kd.V k36 36 wc w.heap.size (fun k_ => (P0_ k_ ∨ w.heap.size ≤ k_)) v14 x14_8) ∧ Aside0 (Below w.heap.size w wc))
  case first =>
   have H := HC9.out
   clear HC9
   by_cases c15 : a1 = 1
   ·rw [if_pos c15] at H
    have c15b0 : (a1 == 1) = true := beq_iff_eq.mpr c15
    have c15b1 : (a1 != 1) = false := bne_eq_false_iff_eq.mpr c15
    clear c15
    (first | rw [c15b0] | (simp only [i64_w, i32_w]; rw [c15b0]) | skip)
    replace H := Option.bind_eq_some_iff.mp H
    obtain ⟨t209, A160, H⟩ := H
    replace H : (sennitlaw13_UnmarkBack.j0 k l0 a1 t197 t203 t206 t207 t208 t209) = some r := H
    have A16 := Aside0.mk A160
    clear A160
    have H' := Aside0.mk H
    clear H
    go_wp2_with (first | ((with_reducible refine gate_callee (f := 19) rfl ?_); refine goesL_ (some 41) rfl rfl Tryz.func19 (by kernel_rfl) rfl #[.slice A0 l0.length c0] rfl (by (try simp only [List.map_toArray, List.map_cons, List.map_nil]); first | done | rfl | (simp only [List.length_drop, List.length_take]; rfl)) ?_; (with_reducible refine (sennitref12_Bare.calls k (fun k_ => (P0_ k_ ∨ w.heap.size ≤ k_)) _ _ l0 t209 _ ?side1 A16.out).mono ?_); (case side1 => exact HO0.out); rintro e w17 ⟨v210, rfl, ho0, hb⟩; refine ⟨_, rfl, ?_⟩; have n0_ := Aside0.mk (Kd.V_elder' (by (with_reducible repeat (first | apply Kd.V_alloc | apply Kd.V_drewN | apply Kd.V_drew)); exact HO0.out) (Kd.N_base ho0) hb); have n1_ := Aside0.mk (Kd.V_elder' (by (with_reducible repeat (first | apply Kd.V_alloc | apply Kd.V_drewN | apply Kd.V_drew)); exact HO201.out) (Kd.N_base ho0) hb); have n2_ := Aside0.mk (Kd.V_elder' (by (with_reducible repeat (first | apply Kd.V_alloc | apply Kd.V_drewN | apply Kd.V_drew)); exact HO205.out) (Kd.N_base ho0) hb); have n3_ := Aside0.mk (Kd.N_lower (Kd.N_mono (ok' := fun k_ => (P0_ k_ ∨ w.heap.size ≤ k_)) ho0 (fun k_ hk_ => Or.elim hk_ (fun hs_ => hs_) (fun hn_ => (.inr (Nat.le_trans (below_size (by repeat (first | (with_reducible first | exact HB.out | apply below_alloc | apply pw_below_drewN | apply below_drew1) | exact HB.out))) hn_))))) (below_size (by repeat (first | (with_reducible first | exact HB.out | apply below_alloc | apply pw_below_drewN | apply below_drew1) | exact HB.out)))); have n4_ := Aside0.mk (below_step (by repeat (first | (with_reducible first | exact HB.out | apply below_alloc | apply pw_below_drewN | apply below_drew1) | exact HB.out)) hb); clear HO0; clear HO201; clear HO205; clear HB; have HO0 := n0_; have HO201 := n1_; have HO205 := n2_; have HO211 := n3_; have HB := n4_; clear n0_ n1_ n2_ n3_ n4_; (try clear hb); (try clear hb2); (try clear hk); (try clear hi); (try clear ho0)))
    go_meet
    case rel => exact ⟨_, (t209), H', ⟨by first | omega | exact Nat.le_refl _⟩, ⟨by (with_reducible repeat (first | apply Kd.V_alloc | apply Kd.V_drewN | apply Kd.V_drew)); exact Kd.V_mono HO0.out (fun _ hk => hk.1)⟩, ⟨by (with_reducible repeat (first | apply Kd.V_alloc | apply Kd.V_drewN | apply Kd.V_drew)); exact Kd.V_mono HO205.out (fun _ hk => hk.1)⟩, ⟨Kd.N_V (by (with_reducible repeat (first | apply Kd.N_alloc | apply Kd.N_drewN | apply Kd.N_drew)); exact HO211.out)⟩, ⟨by repeat (first | (with_reducible first | exact HB.out | apply below_alloc | apply pw_below_drewN | apply below_drew1) | exact HB.out)⟩⟩
   ·rw [if_neg c15] at H
    have c15b0 : (a1 == 1) = false := beq_eq_false_iff_ne.mpr c15
    have c15b1 : (a1 != 1) = true := bne_iff_ne.mpr c15
    (first | rw [c15b0] | (simp only [i64_w, i32_w]; rw [c15b0]) | skip)
    have H' := Aside0.mk H
    clear H
    go_wp2
    go_meet
    case rel => exact ⟨_, (l0), H', ⟨by first | omega | exact Nat.le_refl _⟩, ⟨by (with_reducible repeat (first | apply Kd.V_alloc | apply Kd.V_drewN | apply Kd.V_drew)); exact HO0.out⟩, ⟨by (with_reducible repeat (first | apply Kd.V_alloc | apply Kd.V_drewN | apply Kd.V_drew)); exact HO205.out⟩, ⟨by (with_reducible repeat (first | apply Kd.V_alloc | apply Kd.V_drewN | apply Kd.V_drew)); exact HO0.out⟩, ⟨by repeat (first | (with_reducible first | exact HB.out | apply below_alloc | apply pw_below_drewN | apply below_drew1) | exact HB.out)⟩⟩
  case rest =>
   clear HC9
   try clear c1
   try clear c2
   try clear p2
   try clear c6
   try clear c8
   try clear c12
   try clear c15
   try clear c15b0
   try clear c15b1
   obtain ⟨kq, x14_8, HA, HJ8, HO_0, HO_10, HO_14, HB⟩ := hcut
   cases kq with
   | zero => exact absurd HA.out (by simp [sennitlaw13_UnmarkBack.j0])
   | succ kj8 =>
    have H := HA.out
    clear HA
    simp only [sennitlaw13_UnmarkBack.j0] at H
    have HC18 := Aside0.mk H
    clear H
    go_upto_if 43 with (fail)
    go_cut [14] (fun v14 wc => ∃ (kq : Nat) (x14_17 : List (S36)), Aside0 (sennitlaw13_UnmarkBack.j1 kq a1 t197 t203 t206 t207 t208 x14_17 = some r) ∧ Aside0 (kq ≤ kj8) ∧ Aside0 (Kd.V k36 36 wc w.heap.size (fun k_ => (P0_ k_ ∨ w.heap.size ≤ k_)) v204 t203) ∧ Aside0 (Kd.V k36 36 wc w.heap.size (fun k_ => (P0_ k_ ∨ w.heap.size ≤ k_)) v14 x14_17) ∧ Aside0 (Below w.heap.size w wc))
    case first =>
     have H := HC18.out
     clear HC18
     by_cases c19 : a1 = 3
     ·rw [if_pos c19] at H
      have c19b0 : (a1 == 3) = true := beq_iff_eq.mpr c19
      have c19b1 : (a1 != 3) = false := bne_eq_false_iff_eq.mpr c19
      clear c19
      (first | rw [c19b0] | (simp only [i64_w, i32_w]; rw [c19b0]) | skip)
      replace H := Option.bind_eq_some_iff.mp H
      obtain ⟨t212, A200, H⟩ := H
      replace H : (sennitlaw13_UnmarkBack.j1 kj8 a1 t197 t203 t206 t207 t208 t212) = some r := H
      have A20 := Aside0.mk A200
      clear A200
      have H' := Aside0.mk H
      clear H
      go_wp2_with (first | ((with_reducible refine gate_callee (f := 16) rfl ?_); refine goesL_ (some 45) rfl rfl Tryz.func16 (by kernel_rfl) rfl #[.slice A0 l0.length c0] rfl (by (try simp only [List.map_toArray, List.map_cons, List.map_nil]); first | done | rfl | (simp only [List.length_drop, List.length_take]; rfl)) ?_; (with_reducible refine (sennitref10_Zeal.calls (fun k_ => (P0_ k_ ∨ w.heap.size ≤ k_)) _ _ l0 t212 _ ?side1 A20.out).mono ?_); (case side1 => exact HO_0.out); rintro e w21 ⟨v213, rfl, ho0, hb⟩; refine ⟨_, rfl, ?_⟩; have n0_ := Aside0.mk (Kd.V_elder' (by (with_reducible repeat (first | apply Kd.V_alloc | apply Kd.V_drewN | apply Kd.V_drew)); exact HO_0.out) (Kd.N_base ho0) hb); have n1_ := Aside0.mk (Kd.V_elder' (by (with_reducible repeat (first | apply Kd.V_alloc | apply Kd.V_drewN | apply Kd.V_drew)); exact HO_10.out) (Kd.N_base ho0) hb); have n2_ := Aside0.mk (Kd.V_elder' (by (with_reducible repeat (first | apply Kd.V_alloc | apply Kd.V_drewN | apply Kd.V_drew)); exact HO_14.out) (Kd.N_base ho0) hb); have n3_ := Aside0.mk (Kd.N_lower (Kd.N_mono (ok' := fun k_ => (P0_ k_ ∨ w.heap.size ≤ k_)) ho0 (fun k_ hk_ => Or.elim hk_ (fun hs_ => hs_) (fun hn_ => (.inr (Nat.le_trans (below_size (by repeat (first | (with_reducible first | exact HB.out | apply below_alloc | apply pw_below_drewN | apply below_drew1) | exact HB.out))) hn_))))) (below_size (by repeat (first | (with_reducible first | exact HB.out | apply below_alloc | apply pw_below_drewN | apply below_drew1) | exact HB.out)))); have n4_ := Aside0.mk (below_step (by repeat (first | (with_reducible first | exact HB.out | apply below_alloc | apply pw_below_drewN | apply below_drew1) | exact HB.out)) hb); clear HO_0; clear HO_10; clear HO_14; clear HB; have HO_0 := n0_; have HO_10 := n1_; have HO_14 := n2_; have HO214 := n3_; have HB := n4_; clear n0_ n1_ n2_ n3_ n4_; (try clear hb); (try clear hb2); (try clear hk); (try clear hi); (try clear ho0)))
      go_meet
      case rel => exact ⟨_, (t212), H', ⟨by have := HJ8.out; first | omega | exact Nat.le_refl _⟩, ⟨by (with_reducible repeat (first | apply Kd.V_alloc | apply Kd.V_drewN | apply Kd.V_drew)); exact Kd.V_mono HO_10.out (fun _ hk => hk.1)⟩, ⟨Kd.N_V (by (with_reducible repeat (first | apply Kd.N_alloc | apply Kd.N_drewN | apply Kd.N_drew)); exact HO214.out)⟩, ⟨by repeat (first | (with_reducible first | exact HB.out | apply below_alloc | apply pw_below_drewN | apply below_drew1) | exact HB.out)⟩⟩
     ·rw [if_neg c19] at H
      have c19b0 : (a1 == 3) = false := beq_eq_false_iff_ne.mpr c19
      have c19b1 : (a1 != 3) = true := bne_iff_ne.mpr c19
      (first | rw [c19b0] | (simp only [i64_w, i32_w]; rw [c19b0]) | skip)
      have H' := Aside0.mk H
      clear H
      go_wp2
      go_meet
      case rel => exact ⟨_, (x14_8), H', ⟨by have := HJ8.out; first | omega | exact Nat.le_refl _⟩, ⟨by (with_reducible repeat (first | apply Kd.V_alloc | apply Kd.V_drewN | apply Kd.V_drew)); exact HO_10.out⟩, ⟨by (with_reducible repeat (first | apply Kd.V_alloc | apply Kd.V_drewN | apply Kd.V_drew)); exact HO_14.out⟩, ⟨by repeat (first | (with_reducible first | exact HB.out | apply below_alloc | apply pw_below_drewN | apply below_drew1) | exact HB.out)⟩⟩
    case rest =>
     clear HC18
     try clear c1
     try clear c2
     try clear p2
     try clear c6
     try clear c8
     try clear c12
     try clear c15
     try clear c15b0
     try clear c15b1
     try clear c16
     try clear c19
     try clear c19b0
     try clear c19b1
     try clear p2
     obtain ⟨kq, x14_17, HA, HJ17, HO_10, HO_14, HB⟩ := hcut
     cases kq with
     | zero => exact absurd HA.out (by simp [sennitlaw13_UnmarkBack.j1])
     | succ kj17 =>
      have H := HA.out
      clear HA
      simp only [sennitlaw13_UnmarkBack.j1] at H
      by_cases c22 : t197 = true
      ·subst c22
       have H1 : (if t208 = 0 then (if t207 = 0 then ((sennitref07_Same.f t203 x14_17).bind fun t215 => (if t215 = true then ((sennitlaw13_style.f kj17 x14_17 a1).bind fun t216 => (some (t206 == t216))) else (some false))) else (some false)) else (some false)) = some r := by rw [if_pos rfl] at H; exact H
       clear H
       have H := H1
       clear H1
       by_cases c23 : t208 = 0
       ·rw [if_pos c23] at H
        have c23b0 : (t208 == 0) = true := beq_iff_eq.mpr c23
        have c23b1 : (t208 != 0) = false := bne_eq_false_iff_eq.mpr c23
        clear c23
        by_cases c24 : t207 = 0
        ·rw [if_pos c24] at H
         have c24b0 : (t207 == 0) = true := beq_iff_eq.mpr c24
         have c24b1 : (t207 != 0) = false := bne_eq_false_iff_eq.mpr c24
         clear c24
         replace H := Option.bind_eq_some_iff.mp H
         obtain ⟨t215, A250, H⟩ := H
         replace H : (if t215 = true then ((sennitlaw13_style.f kj17 x14_17 a1).bind fun t216 => (some (t206 == t216))) else (some false)) = some r := H
         have A25 := Aside0.mk A250
         clear A250
         by_cases c26 : t215 = true
         ·subst c26
          have H1 : ((sennitlaw13_style.f kj17 x14_17 a1).bind fun t216 => (some (t206 == t216))) = some r := by rw [if_pos rfl] at H; exact H
          clear H
          have H := H1
          clear H1
          replace H := Option.bind_eq_some_iff.mp H
          obtain ⟨t216, A270, H⟩ := H
          replace H : (some (t206 == t216)) = some r := H
          have A27 := Aside0.mk A270
          clear A270
          obtain rfl := Option.some.inj H
          obtain ⟨Ao28, co28, eo28⟩ := Kd.V_slice HO_10.out
          subst eo28
          obtain ⟨Ao29, co29, eo29⟩ := Kd.V_slice HO_14.out
          subst eo29
          go_wp2_with (first | (go_at_call 26; (with_reducible refine (sennitref07_Same.calls _ _ t203 _ _ x14_17 true _ ?side1 ?side2 ?side3 ?side4 A25.out).mono ?_); (case side1 => repeat (first | exact (Kd.V_reads' HO_10.out).2.2 | (with_reducible refine Kd.C_alloc ?_ _) | (with_reducible refine Kd.C_drewN ?_ _) | (with_reducible refine Kd.C_drew ?_))); (case side2 => exact (Kd.V_reads' HO_10.out).2.1); (case side3 => repeat (first | exact (Kd.V_reads' HO_14.out).2.2 | (with_reducible refine Kd.C_alloc ?_ _) | (with_reducible refine Kd.C_drewN ?_ _) | (with_reducible refine Kd.C_drew ?_))); (case side4 => exact (Kd.V_reads' HO_14.out).2.1); rintro e w30 ⟨rfl, hb⟩; have n0_ := Aside0.mk (Kd.V_below (by (with_reducible repeat (first | apply Kd.V_alloc | apply Kd.V_drewN | apply Kd.V_drew)); exact HO_10.out) hb); have n1_ := Aside0.mk (Kd.V_below (by (with_reducible repeat (first | apply Kd.V_alloc | apply Kd.V_drewN | apply Kd.V_drew)); exact HO_14.out) hb); have n2_ := Aside0.mk (below_step (by repeat (first | (with_reducible first | exact HB.out | apply below_alloc | apply pw_below_drewN | apply below_drew1) | exact HB.out)) hb); clear HO_10; clear HO_14; clear HB; have HO_10 := n0_; have HO_14 := n1_; have HB := n2_; clear n0_ n1_ n2_; (try clear hb); (try clear hb2); (try clear hk); (try clear hi)) | (go_at_call 27; (with_reducible refine (sennitlaw13_style.calls kj17 _ _ x14_17 a1 t216 _ ?side1 ?side2 A27.out).mono ?_); (case side1 => repeat (first | exact (Kd.V_reads' HO_14.out).2.2 | (with_reducible refine Kd.C_alloc ?_ _) | (with_reducible refine Kd.C_drewN ?_ _) | (with_reducible refine Kd.C_drew ?_))); (case side2 => exact (Kd.V_reads' HO_14.out).2.1); rintro e w' ⟨rfl, ⟨nd, rfl⟩⟩))
          go_ret
          exact ⟨by first | rfl | (simp [errW_none, errW_some] <;> rfl) | (simp [*, errW_none, errW_some] <;> rfl), by repeat (first | (with_reducible first | exact HB.out | apply below_alloc | apply pw_below_drewN | apply below_drew1) | exact HB.out)⟩
         ·replace c26 := Bool.eq_false_iff.mpr c26
          subst c26
          have H1 : (some false) = some r := by rw [if_neg (show ¬ (false = true) by decide)] at H; exact H
          clear H
          have H := H1
          clear H1
          obtain rfl := Option.some.inj H
          obtain ⟨Ao31, co31, eo31⟩ := Kd.V_slice HO_10.out
          subst eo31
          obtain ⟨Ao32, co32, eo32⟩ := Kd.V_slice HO_14.out
          subst eo32
          go_wp2_with (first | (go_at_call 26; (with_reducible refine (sennitref07_Same.calls _ _ t203 _ _ x14_17 false _ ?side1 ?side2 ?side3 ?side4 A25.out).mono ?_); (case side1 => repeat (first | exact (Kd.V_reads' HO_10.out).2.2 | (with_reducible refine Kd.C_alloc ?_ _) | (with_reducible refine Kd.C_drewN ?_ _) | (with_reducible refine Kd.C_drew ?_))); (case side2 => exact (Kd.V_reads' HO_10.out).2.1); (case side3 => repeat (first | exact (Kd.V_reads' HO_14.out).2.2 | (with_reducible refine Kd.C_alloc ?_ _) | (with_reducible refine Kd.C_drewN ?_ _) | (with_reducible refine Kd.C_drew ?_))); (case side4 => exact (Kd.V_reads' HO_14.out).2.1); rintro e w33 ⟨rfl, hb⟩; have n0_ := Aside0.mk (Kd.V_below (by (with_reducible repeat (first | apply Kd.V_alloc | apply Kd.V_drewN | apply Kd.V_drew)); exact HO_10.out) hb); have n1_ := Aside0.mk (Kd.V_below (by (with_reducible repeat (first | apply Kd.V_alloc | apply Kd.V_drewN | apply Kd.V_drew)); exact HO_14.out) hb); have n2_ := Aside0.mk (below_step (by repeat (first | (with_reducible first | exact HB.out | apply below_alloc | apply pw_below_drewN | apply below_drew1) | exact HB.out)) hb); clear HO_10; clear HO_14; clear HB; have HO_10 := n0_; have HO_14 := n1_; have HB := n2_; clear n0_ n1_ n2_; (try clear hb); (try clear hb2); (try clear hk); (try clear hi)))
          go_ret
          exact ⟨by first | rfl | (simp [errW_none, errW_some] <;> rfl) | (simp [*, errW_none, errW_some] <;> rfl), by repeat (first | (with_reducible first | exact HB.out | apply below_alloc | apply pw_below_drewN | apply below_drew1) | exact HB.out)⟩
        ·rw [if_neg c24] at H
         have c24b0 : (t207 == 0) = false := beq_eq_false_iff_ne.mpr c24
         have c24b1 : (t207 != 0) = true := bne_iff_ne.mpr c24
         obtain rfl := Option.some.inj H
         go_wp2
         go_ret
         exact ⟨by first | rfl | (simp [errW_none, errW_some] <;> rfl) | (simp [*, errW_none, errW_some] <;> rfl), by repeat (first | (with_reducible first | exact HB.out | apply below_alloc | apply pw_below_drewN | apply below_drew1) | exact HB.out)⟩
       ·rw [if_neg c23] at H
        have c23b0 : (t208 == 0) = false := beq_eq_false_iff_ne.mpr c23
        have c23b1 : (t208 != 0) = true := bne_iff_ne.mpr c23
        obtain rfl := Option.some.inj H
        go_wp2
        go_ret
        exact ⟨by first | rfl | (simp [errW_none, errW_some] <;> rfl) | (simp [*, errW_none, errW_some] <;> rfl), by repeat (first | (with_reducible first | exact HB.out | apply below_alloc | apply pw_below_drewN | apply below_drew1) | exact HB.out)⟩
      ·replace c22 := Bool.eq_false_iff.mpr c22
       subst c22
       have H1 : (some false) = some r := by rw [if_neg (show ¬ (false = true) by decide)] at H; exact H
       clear H
       have H := H1
       clear H1
       obtain rfl := Option.some.inj H
       go_wp2
       go_ret
       exact ⟨by first | rfl | (simp [errW_none, errW_some] <;> rfl) | (simp [*, errW_none, errW_some] <;> rfl), by repeat (first | (with_reducible first | exact HB.out | apply below_alloc | apply pw_below_drewN | apply below_drew1) | exact HB.out)⟩
 ·replace c6 := Bool.eq_false_iff.mpr c6
  subst c6
  have H1 : (some t197) = some r := by rw [if_neg (show ¬ (false = true) by decide)] at H; exact H
  clear H
  have H := H1
  clear H1
  obtain rfl := Option.some.inj H
  go_enter Tryz.func8, Tryz.ntmps8
  go_wp2_with (first | ((with_reducible refine gate_callee (f := 24) rfl ?_); refine goesL_ (some 15) rfl rfl Tryz.func24 (by kernel_rfl) rfl #[] rfl (by (try simp only [List.map_toArray, List.map_cons, List.map_nil]); first | done | rfl | (simp only [List.length_drop, List.length_take]; rfl)) ?_; (with_reducible refine (sennitlaw13_awake.calls  t197 _ A4.out).mono ?_); rintro e w34 ⟨rfl, hb⟩; refine ⟨_, rfl, ?_⟩; have n0_ := Aside0.mk (Kd.V_below (by (with_reducible repeat (first | apply Kd.V_alloc | apply Kd.V_drewN | apply Kd.V_drew)); exact HO0.out) hb); have n1_ := Aside0.mk (below_step (by repeat (first | (with_reducible first | exact HB.out | apply below_alloc | apply pw_below_drewN | apply below_drew1) | exact HB.out)) hb); clear HO0; clear HB; have HO0 := n0_; have HB := n1_; clear n0_ n1_; (try clear hb); (try clear hb2); (try clear hk); (try clear hi)) | ((with_reducible refine gate_callee (f := 15) rfl ?_); refine goesL_ (some 19) rfl rfl Tryz.func15 (by kernel_rfl) rfl #[.slice A0 l0.length c0, .int .i64 a1, .int .i64 a2] rfl (by (try simp only [List.map_toArray, List.map_cons, List.map_nil]); first | done | rfl | (simp only [List.length_drop, List.length_take]; rfl)) ?_; (with_reducible refine (sennitref12_May.calls k _ _ l0 a1 a2 false _ ?side1 ?side2 A5.out).mono ?_); (case side1 => repeat (first | exact (Kd.V_reads' HO0.out).2.2 | (with_reducible refine Kd.C_alloc ?_ _) | (with_reducible refine Kd.C_drewN ?_ _) | (with_reducible refine Kd.C_drew ?_))); (case side2 => exact (Kd.V_reads' HO0.out).2.1); rintro e w35 ⟨rfl, hb⟩; refine ⟨_, rfl, ?_⟩; have n0_ := Aside0.mk (Kd.V_below (by (with_reducible repeat (first | apply Kd.V_alloc | apply Kd.V_drewN | apply Kd.V_drew)); exact HO0.out) hb); have n1_ := Aside0.mk (below_step (by repeat (first | (with_reducible first | exact HB.out | apply below_alloc | apply pw_below_drewN | apply below_drew1) | exact HB.out)) hb); clear HO0; clear HB; have HO0 := n0_; have HB := n1_; clear n0_ n1_; (try clear hb); (try clear hb2); (try clear hk); (try clear hi)))
  go_ret
  exact ⟨by first | rfl | (simp [errW_none, errW_some] <;> rfl) | (simp [*, errW_none, errW_some] <;> rfl), by repeat (first | (with_reducible first | exact HB.out | apply below_alloc | apply pw_below_drewN | apply below_drew1) | exact HB.out)⟩
end Go.Proofs.YtcnjbmdnnhbfkaaGreatDoor.XD
