-- Printed by this session's xprint.sh (a patched copy of the kit's print program). Not trusted: Lean checks it.
import Derived.Test.YtcnjbmdnnhbfkaaGreatDoorXD0
namespace Go.Proofs.YtcnjbmdnnhbfkaaGreatDoor.XR
open Go.RowKit Go.Proofs.YtcnjbmdnnhbfkaaGreatDoorW.PrintWords Go.Proofs.YtcnjbmdnnhbfkaaGreatDoorW.PrintLast Go.Proofs.YtcnjbmdnnhbfkaaGreatDoorW.PrintMore
attribute [local go_sem] max2_int min2_int max_two min_two max_three min_three max_four min_four   -- for this text's walks alone
set_option linter.unusedVariables false
set_option linter.unusedSimpArgs false

open Go.Proofs.YtcnjbmdnnhbfkaaGreatDoor.XD
/-! ### sennitref01_Open: function 84 -/
def sennitref01_Open.f (l0 : List ByteArray) : Option (Bool) := if (l0.length : Int) = 0 then (some false) else (if 0 ≤ (wrap64 ((l0.length : Int) - 1)) then (if (wrap64 ((l0.length : Int) - 1)) < (l0.length : Int) then (if ((rdOf ByteArray.empty l0 (wrap64 ((l0.length : Int) - 1))).size : Int) = 0 then (some true) else (if 0 ≤ (wrap64 (((rdOf ByteArray.empty l0 (wrap64 ((l0.length : Int) - 1))).size : Int) - 1)) then (if (wrap64 (((rdOf ByteArray.empty l0 (wrap64 ((l0.length : Int) - 1))).size : Int) - 1)) < ((rdOf ByteArray.empty l0 (wrap64 ((l0.length : Int) - 1))).size : Int) then (some ((bt (rdOf ByteArray.empty l0 (wrap64 ((l0.length : Int) - 1))) (wrap64 (((rdOf ByteArray.empty l0 (wrap64 ((l0.length : Int) - 1))).size : Int) - 1))) != 10)) else (none)) else (none))) else (none)) else (none))
set_option maxHeartbeats 8000000 in
set_option maxRecDepth 100000 in
theorem sennitref01_Open.calls (A0 : Option Addr) (c0 : Nat) (l0 : List ByteArray) (r : Bool) (w : World) (hr0 : Kd.C Kd.string w A0 l0.length l0) (hc0 : l0.length ≤ c0) (h : sennitref01_Open.f l0 = some r) :
  Calls Tryz.prog 84 #[.slice A0 l0.length c0] w fun e w' => e = .returned (.bool r) ∧ Drawn0 w w' := by
 have HR0 := Aside0.mk hr0
 have HC0 := Aside0.mk hc0
 clear hr0 hc0
 have H : (if (l0.length : Int) = 0 then (some false) else (if 0 ≤ (wrap64 ((l0.length : Int) - 1)) then (if (wrap64 ((l0.length : Int) - 1)) < (l0.length : Int) then (if ((rdOf ByteArray.empty l0 (wrap64 ((l0.length : Int) - 1))).size : Int) = 0 then (some true) else (if 0 ≤ (wrap64 (((rdOf ByteArray.empty l0 (wrap64 ((l0.length : Int) - 1))).size : Int) - 1)) then (if (wrap64 (((rdOf ByteArray.empty l0 (wrap64 ((l0.length : Int) - 1))).size : Int) - 1)) < ((rdOf ByteArray.empty l0 (wrap64 ((l0.length : Int) - 1))).size : Int) then (some ((bt (rdOf ByteArray.empty l0 (wrap64 ((l0.length : Int) - 1))) (wrap64 (((rdOf ByteArray.empty l0 (wrap64 ((l0.length : Int) - 1))).size : Int) - 1))) != 10)) else (none)) else (none))) else (none)) else (none))) = some r := h
 clear h
 by_cases c2 : (l0.length : Int) = 0
 ·rw [if_pos c2] at H
  have c2b0 : ((l0.length : Int) == 0) = true := beq_iff_eq.mpr c2
  have c2b1 : ((l0.length : Int) != 0) = false := bne_eq_false_iff_eq.mpr c2
  clear c2
  obtain rfl := Option.some.inj H
  go_enter Tryz.func84, Tryz.ntmps84
  go_wp2
  go_ret
  exact ⟨by first | rfl | (simp; done) | (simp [*]; done), by repeat (first | exact Drawn0.refl _ | apply Drawn0.step)⟩
 ·rw [if_neg c2] at H
  have c2b0 : ((l0.length : Int) == 0) = false := beq_eq_false_iff_ne.mpr c2
  have c2b1 : ((l0.length : Int) != 0) = true := bne_iff_ne.mpr c2
  have c2b2 : ¬ (l0 = []) := fun h_ => c2 (by rw [h_]; rfl)
  obtain ⟨ji3, hji3⟩ : ∃ j_ : Int, (wrap64 ((l0.length : Int) - 1)) = j_ := ⟨_, rfl⟩
  replace H : (if 0 ≤ (ji3) then (if (ji3) < (l0.length : Int) then (if ((rdOf ByteArray.empty l0 (ji3)).size : Int) = 0 then (some true) else (if 0 ≤ (wrap64 (((rdOf ByteArray.empty l0 (ji3)).size : Int) - 1)) then (if (wrap64 (((rdOf ByteArray.empty l0 (ji3)).size : Int) - 1)) < ((rdOf ByteArray.empty l0 (ji3)).size : Int) then (some ((bt (rdOf ByteArray.empty l0 (ji3)) (wrap64 (((rdOf ByteArray.empty l0 (ji3)).size : Int) - 1))) != 10)) else (none)) else (none))) else (none)) else (none)) = some r := by first | (rw [hji3] at H; exact H) | (simp only [hji3] at H ⊢; exact H)
  have hji3w : (IntKind.i64.wrap ((l0.length : Int) - 1)) = ji3 := (i64_w _).trans hji3
  by_cases c4 : 0 ≤ (ji3)
  ·rw [if_pos c4] at H
   have c4b0 : decide (0 ≤ (ji3)) = true := decide_eq_true c4
   clear c4
   by_cases c5 : (ji3) < (l0.length : Int)
   ·rw [if_pos c5] at H
    have c5b0 : decide ((ji3) < (l0.length : Int)) = true := decide_eq_true c5
    clear c5
    by_cases c6 : ((rdOf ByteArray.empty l0 (ji3)).size : Int) = 0
    ·rw [if_pos c6] at H
     have c6b0 : (((rdOf ByteArray.empty l0 (ji3)).size : Int) == 0) = true := beq_iff_eq.mpr c6
     have c6b1 : (((rdOf ByteArray.empty l0 (ji3)).size : Int) != 0) = false := bne_eq_false_iff_eq.mpr c6
     clear c6
     obtain rfl := Option.some.inj H
     have p131 : 0 ≤ ((ji3) : Int) := of_decide_eq_true (by first | (with_reducible assumption) | assumption)
     have q131 : (ji3) < (l0.length : Int) := of_decide_eq_true (by first | (with_reducible assumption) | assumption)
     obtain ⟨ad131, e131, hx131_0⟩ := Kd.at_string HR0.out (ji3) p131 q131
     cases e131
     replace p131 := eq_true p131
     replace q131 := eq_true q131
     go_enter Tryz.func84, Tryz.ntmps84
     go_wp2
     go_ret
     exact ⟨by first | rfl | (simp; done) | (simp only [← hji3] <;> (first | rfl | simp)) | (simp [*]; done), by repeat (first | exact Drawn0.refl _ | apply Drawn0.step)⟩
    ·rw [if_neg c6] at H
     have c6b0 : (((rdOf ByteArray.empty l0 (ji3)).size : Int) == 0) = false := beq_eq_false_iff_ne.mpr c6
     have c6b1 : (((rdOf ByteArray.empty l0 (ji3)).size : Int) != 0) = true := bne_iff_ne.mpr c6
     obtain ⟨ji7, hji7⟩ : ∃ j_ : Int, (wrap64 (((rdOf ByteArray.empty l0 (ji3)).size : Int) - 1)) = j_ := ⟨_, rfl⟩
     replace H : (if 0 ≤ (ji7) then (if (ji7) < ((rdOf ByteArray.empty l0 (ji3)).size : Int) then (some ((bt (rdOf ByteArray.empty l0 (ji3)) (ji7)) != 10)) else (none)) else (none)) = some r := by first | (rw [hji7] at H; exact H) | (simp only [hji7] at H ⊢; exact H)
     have hji7w : (IntKind.i64.wrap (((rdOf ByteArray.empty l0 (ji3)).size : Int) - 1)) = ji7 := (i64_w _).trans hji7
     by_cases c8 : 0 ≤ (ji7)
     ·rw [if_pos c8] at H
      have c8b0 : decide (0 ≤ (ji7)) = true := decide_eq_true c8
      clear c8
      by_cases c9 : (ji7) < ((rdOf ByteArray.empty l0 (ji3)).size : Int)
      ·rw [if_pos c9] at H
       have c9b0 : decide ((ji7) < ((rdOf ByteArray.empty l0 (ji3)).size : Int)) = true := decide_eq_true c9
       clear c9
       obtain rfl := Option.some.inj H
       have p131 : 0 ≤ ((ji3) : Int) := of_decide_eq_true (by first | (with_reducible assumption) | assumption)
       have q131 : (ji3) < (l0.length : Int) := of_decide_eq_true (by first | (with_reducible assumption) | assumption)
       obtain ⟨ad131, e131, hx131_0⟩ := Kd.at_string HR0.out (ji3) p131 q131
       cases e131
       replace p131 := eq_true p131
       replace q131 := eq_true q131
       have p10 : 0 ≤ ((ji7) : Int) := of_decide_eq_true (by first | (with_reducible assumption) | assumption)
       have q10 : (ji7) < ((rdOf ByteArray.empty l0 (ji3)).size : Int) := of_decide_eq_true (by first | (with_reducible assumption) | assumption)
       have hx10 := bt_at (rdOf ByteArray.empty l0 (ji3)) (ji7)
       replace p10 := eq_true p10
       replace q10 := eq_true q10
       go_enter Tryz.func84, Tryz.ntmps84
       go_wp2
       go_ret
       exact ⟨by first | rfl | (simp; done) | (simp only [← hji3, ← hji7] <;> (first | rfl | simp)) | (simp [*]; done), by repeat (first | exact Drawn0.refl _ | apply Drawn0.step)⟩
      ·rw [if_neg c9] at H
       exact absurd H (by simp)
     ·rw [if_neg c8] at H
      exact absurd H (by simp)
   ·rw [if_neg c5] at H
    exact absurd H (by simp)
  ·rw [if_neg c4] at H
   exact absurd H (by simp)

end Go.Proofs.YtcnjbmdnnhbfkaaGreatDoor.XR
