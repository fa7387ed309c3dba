-- Printed by this session's xprint.sh (a patched copy of the kit's print program). Not trusted: Lean checks it.
import Derived.Test.YtcnjbmdnnhbfkaaGreatDoorXD0
import Derived.Test.YtcnjbmdnnhbfkaaGreatDoorXR5
namespace Go.Proofs.YtcnjbmdnnhbfkaaGreatDoor.XR
open Go.RowKit Go.Proofs.YtcnjbmdnnhbfkaaGreatDoorW.PrintWords Go.Proofs.YtcnjbmdnnhbfkaaGreatDoorW.PrintLast Go.Proofs.YtcnjbmdnnhbfkaaGreatDoorW.PrintMore
attribute [local go_sem] max2_int min2_int max_two min_two max_three min_three max_four min_four   -- for this text's walks alone
set_option linter.unusedVariables false
set_option linter.unusedSimpArgs false

open Go.Proofs.YtcnjbmdnnhbfkaaGreatDoor.XD
/-! ### sennitref12_Mark: function 62 -/
def sennitref12_Mark.l0 : Nat → ByteArray → Int → List ByteArray → ByteArray → ByteArray → Int → Option (ByteArray)
 | 0, _, _, _, _, _, _ => none
 | k + 1, x0, x1, x2, x3, x9, x10 => if x10 < x1 then (if x9.size + x0.size ≤ 9223372036854775807 then (sennitref12_Mark.l0 k x0 x1 x2 x3 (x9 ++ x0) (wrap64 (x10 + 1))) else (none)) else ((sennitref01_Open.f x2).bind fun t132 => (if t132 = true then (if x9.size + 1 ≤ 9223372036854775807 then (if (x9 ++ (⟨#[33]⟩ : ByteArray)).size + x3.size ≤ 9223372036854775807 then (if ((x9 ++ (⟨#[33]⟩ : ByteArray)) ++ x3).size + 1 ≤ 9223372036854775807 then (some (((x9 ++ (⟨#[33]⟩ : ByteArray)) ++ x3) ++ (⟨#[10]⟩ : ByteArray))) else (none)) else (none)) else (none)) else (if x9.size + x3.size ≤ 9223372036854775807 then (if (x9 ++ x3).size + 1 ≤ 9223372036854775807 then (some ((x9 ++ x3) ++ (⟨#[10]⟩ : ByteArray))) else (none)) else (none))))
def sennitref12_Mark.f (k : Nat) (a0 : ByteArray) (a1 : Int) (l2 : List ByteArray) (a3 : ByteArray) : Option (ByteArray) := sennitref12_Mark.l0 k a0 a1 l2 a3 (⟨#[]⟩ : ByteArray) 0
theorem sennitref12_Mark.mono_l : ∀ k, (∀ y0 y1 y2 y3 y4 y5, LeO (sennitref12_Mark.l0 k y0 y1 y2 y3 y4 y5) (sennitref12_Mark.l0 (k + 1) y0 y1 y2 y3 y4 y5))
 | 0 => fun _ _ _ _ _ _ r h => by simp [sennitref12_Mark.l0] at h
 | k + 1 => by
  have ih0 := sennitref12_Mark.mono_l k
  ·intro y0 y1 y2 y3 y4 y5
   unfold sennitref12_Mark.l0
   repeat' first
   | (with_reducible exact ih0 _ _ _ _ _ _)
   | (with_reducible exact LeO.refl _)
   | (with_reducible exact LeO.none _)
   | (with_reducible refine LeO.ite ?_ ?_)
   | (with_reducible refine LeO.bind ?_ (fun _ => ?_))
   | exact ih0 _ _ _ _ _ _
   | exact LeO.none _
   | refine LeO.ite ?_ ?_
   | refine LeO.bind ?_ (fun _ => ?_)
theorem sennitref12_Mark.mono : ∀ a0 a1 a2 a3 k, LeO (sennitref12_Mark.f k a0 a1 a2 a3) (sennitref12_Mark.f (k + 1) a0 a1 a2 a3) := by
 intro a0 a1 a2 a3 k
 have ih0 := sennitref12_Mark.mono_l k
 unfold sennitref12_Mark.f
 repeat' first
   | (with_reducible exact ih0 _ _ _ _ _ _)
   | (with_reducible exact LeO.refl _)
   | (with_reducible exact LeO.none _)
   | (with_reducible refine LeO.ite ?_ ?_)
   | (with_reducible refine LeO.bind ?_ (fun _ => ?_))
   | exact ih0 _ _ _ _ _ _
   | exact LeO.none _
   | refine LeO.ite ?_ ?_
   | refine LeO.bind ?_ (fun _ => ?_)
set_option maxHeartbeats 8000000 in
set_option maxRecDepth 100000 in
theorem sennitref12_Mark.calls (k : Nat) (a0 : ByteArray) (a1 : Int) (A2 : Option Addr) (c2 : Nat) (l2 : List ByteArray) (a3 : ByteArray) (r : ByteArray) (w : World) (hr2 : Kd.C Kd.string w A2 l2.length l2) (hc2 : l2.length ≤ c2) (h : sennitref12_Mark.f k a0 a1 l2 a3 = some r) :
  Calls Tryz.prog 62 #[.string a0, .int .i64 a1, .slice A2 l2.length c2, .string a3] w fun e w' => e = .returned (.string r) ∧ Drawn0 w w' := by
 have HR2 := Aside0.mk hr2
 have HC2 := Aside0.mk hc2
 clear hr2 hc2
 have H : (sennitref12_Mark.l0 k a0 a1 l2 a3 (⟨#[]⟩ : ByteArray) 0) = some r := h
 clear h
 have H' := Aside0.mk H
 clear H
 go_enter Tryz.func62, Tryz.ntmps62
 go_wp2
 go_loopg [9, 10] k (fun kq v9 v10 w' => ∃ (x9_1 : ByteArray) (x10_1 : Int), v9 = .string x9_1 ∧ v10 = .int .i64 x10_1 ∧ Aside0 (sennitref12_Mark.l0 kq a0 a1 l2 a3 x9_1 x10_1 = some r) ∧ Aside0 (kq ≤ k) ∧ Drawn0 w w')
 case atStart => exact ⟨((⟨#[]⟩ : ByteArray)), (0), (by first | rfl | (simp; done) | (simp [*]; done)), (by first | rfl | (simp; done) | (simp [*]; done)), H', ⟨Nat.le_refl _⟩, by repeat (first | exact Drawn0.refl _ | apply Drawn0.step)⟩
 case round =>
  clear H'
  try clear c2
  try clear p2
  obtain ⟨x9_1, x10_1, rfl, rfl, HA, HK1, ⟨m1, rfl⟩⟩ := hrel
  cases gk with
  | zero => exact absurd HA.out (by simp [sennitref12_Mark.l0])
  | succ k1 =>
   have H := HA.out
   clear HA
   simp only [sennitref12_Mark.l0] at H
   by_cases c5 : x10_1 < a1
   ·rw [if_pos c5] at H
    have c5b0 : decide (x10_1 < a1) = true := decide_eq_true c5
    clear c5
    by_cases c6 : x9_1.size + a0.size ≤ 9223372036854775807
    ·rw [if_pos c6] at H
     have c6b0 := eq_true c6
     have c6b1 : decide (x9_1.size + a0.size ≤ 9223372036854775807) = true := decide_eq_true c6
     try have c6b2 : (9223372036854775807 < x9_1.size + a0.size) = False := eq_false (Nat.not_lt.2 c6)
     have H' := Aside0.mk H
     clear H
     go_wp2
     go_roundg k1
     case measure => have := HK1.out; omega
     case rel => exact ⟨(x9_1 ++ a0), (wrap64 (x10_1 + 1)), (by first | rfl | (simp; done) | (simp [*]; done)), (by first | rfl | (simp; done) | (simp [*]; done)), H', ⟨by have := HK1.out; omega⟩, by repeat (first | exact Drawn0.refl _ | apply Drawn0.step)⟩
    ·rw [if_neg c6] at H
     exact absurd H (by simp)
   ·rw [if_neg c5] at H
    have c5b0 : decide (x10_1 < a1) = false := decide_eq_false c5
    clear c5
    replace H := Option.bind_eq_some_iff.mp H
    obtain ⟨t132, A70, H⟩ := H
    replace H : (if t132 = true then (if x9_1.size + 1 ≤ 9223372036854775807 then (if (x9_1 ++ (⟨#[33]⟩ : ByteArray)).size + a3.size ≤ 9223372036854775807 then (if ((x9_1 ++ (⟨#[33]⟩ : ByteArray)) ++ a3).size + 1 ≤ 9223372036854775807 then (some (((x9_1 ++ (⟨#[33]⟩ : ByteArray)) ++ a3) ++ (⟨#[10]⟩ : ByteArray))) else (none)) else (none)) else (none)) else (if x9_1.size + a3.size ≤ 9223372036854775807 then (if (x9_1 ++ a3).size + 1 ≤ 9223372036854775807 then (some ((x9_1 ++ a3) ++ (⟨#[10]⟩ : ByteArray))) else (none)) else (none))) = some r := H
    have A7 := Aside0.mk A70
    clear A70
    by_cases c8 : t132 = true
    ·subst c8
     have H1 : (if x9_1.size + 1 ≤ 9223372036854775807 then (if (x9_1 ++ (⟨#[33]⟩ : ByteArray)).size + a3.size ≤ 9223372036854775807 then (if ((x9_1 ++ (⟨#[33]⟩ : ByteArray)) ++ a3).size + 1 ≤ 9223372036854775807 then (some (((x9_1 ++ (⟨#[33]⟩ : ByteArray)) ++ a3) ++ (⟨#[10]⟩ : ByteArray))) else (none)) else (none)) else (none)) = some r := by rw [if_pos rfl] at H; exact H
     clear H
     have H := H1
     clear H1
     by_cases c9 : x9_1.size + 1 ≤ 9223372036854775807
     ·rw [if_pos c9] at H
      have c9b0 := eq_true c9
      have c9b1 : decide (x9_1.size + 1 ≤ 9223372036854775807) = true := decide_eq_true c9
      try have c9b2 : (9223372036854775807 < x9_1.size + 1) = False := eq_false (Nat.not_lt.2 c9)
      by_cases c10 : (x9_1 ++ (⟨#[33]⟩ : ByteArray)).size + a3.size ≤ 9223372036854775807
      ·rw [if_pos c10] at H
       have c10b0 := eq_true c10
       have c10b1 : decide ((x9_1 ++ (⟨#[33]⟩ : ByteArray)).size + a3.size ≤ 9223372036854775807) = true := decide_eq_true c10
       try have c10b2 : (9223372036854775807 < (x9_1 ++ (⟨#[33]⟩ : ByteArray)).size + a3.size) = False := eq_false (Nat.not_lt.2 c10)
       try (have c10b3 := c10b2; simp only [ByteArray.size_append, show (⟨#[33]⟩ : ByteArray).size = 1 from rfl] at c10b3)
       by_cases c11 : ((x9_1 ++ (⟨#[33]⟩ : ByteArray)) ++ a3).size + 1 ≤ 9223372036854775807
       ·rw [if_pos c11] at H
        have c11b0 := eq_true c11
        have c11b1 : decide (((x9_1 ++ (⟨#[33]⟩ : ByteArray)) ++ a3).size + 1 ≤ 9223372036854775807) = true := decide_eq_true c11
        try have c11b2 : (9223372036854775807 < ((x9_1 ++ (⟨#[33]⟩ : ByteArray)) ++ a3).size + 1) = False := eq_false (Nat.not_lt.2 c11)
        try (have c11b3 := c11b2; simp only [ByteArray.size_append, show (⟨#[33]⟩ : ByteArray).size = 1 from rfl] at c11b3)
        obtain rfl := Option.some.inj H
        go_wp2_with (first | ((with_reducible refine gate_callee (f := 84) rfl ?_); refine goesL_ (some 20) rfl rfl Tryz.func84 (by kernel_rfl) rfl #[.slice A2 l2.length c2] rfl (by (try simp only [List.map_toArray, List.map_cons, List.map_nil]); first | done | rfl | (simp only [List.length_drop, List.length_take]; rfl)) ?_; (with_reducible refine (sennitref01_Open.calls _ _ l2 true _ ?side1 ?side2 A7.out).mono ?_); (case side1 => repeat (first | exact HR2.out | (with_reducible refine Kd.C_alloc ?_ _) | (with_reducible refine Kd.C_drewN ?_ _) | (with_reducible refine Kd.C_drew ?_))); (case side2 => exact HC2.out); rintro e w' ⟨rfl, ⟨nd, rfl⟩⟩; refine ⟨_, rfl, ?_⟩))
        go_ret
        exact ⟨by first | rfl | (simp; done) | (simp [*]; done), by repeat (first | exact Drawn0.refl _ | apply Drawn0.step)⟩
       ·rw [if_neg c11] at H
        exact absurd H (by simp)
      ·rw [if_neg c10] at H
       exact absurd H (by simp)
     ·rw [if_neg c9] at H
      exact absurd H (by simp)
    ·replace c8 := Bool.eq_false_iff.mpr c8
     subst c8
     have H1 : (if x9_1.size + a3.size ≤ 9223372036854775807 then (if (x9_1 ++ a3).size + 1 ≤ 9223372036854775807 then (some ((x9_1 ++ a3) ++ (⟨#[10]⟩ : ByteArray))) else (none)) else (none)) = some r := by rw [if_neg (show ¬ (false = true) by decide)] at H; exact H
     clear H
     have H := H1
     clear H1
     by_cases c12 : x9_1.size + a3.size ≤ 9223372036854775807
     ·rw [if_pos c12] at H
      have c12b0 := eq_true c12
      have c12b1 : decide (x9_1.size + a3.size ≤ 9223372036854775807) = true := decide_eq_true c12
      try have c12b2 : (9223372036854775807 < x9_1.size + a3.size) = False := eq_false (Nat.not_lt.2 c12)
      by_cases c13 : (x9_1 ++ a3).size + 1 ≤ 9223372036854775807
      ·rw [if_pos c13] at H
       have c13b0 := eq_true c13
       have c13b1 : decide ((x9_1 ++ a3).size + 1 ≤ 9223372036854775807) = true := decide_eq_true c13
       try have c13b2 : (9223372036854775807 < (x9_1 ++ a3).size + 1) = False := eq_false (Nat.not_lt.2 c13)
       try (have c13b3 := c13b2; simp only [ByteArray.size_append] at c13b3)
       obtain rfl := Option.some.inj H
       go_wp2_with (first | ((with_reducible refine gate_callee (f := 84) rfl ?_); refine goesL_ (some 20) rfl rfl Tryz.func84 (by kernel_rfl) rfl #[.slice A2 l2.length c2] rfl (by (try simp only [List.map_toArray, List.map_cons, List.map_nil]); first | done | rfl | (simp only [List.length_drop, List.length_take]; rfl)) ?_; (with_reducible refine (sennitref01_Open.calls _ _ l2 false _ ?side1 ?side2 A7.out).mono ?_); (case side1 => repeat (first | exact HR2.out | (with_reducible refine Kd.C_alloc ?_ _) | (with_reducible refine Kd.C_drewN ?_ _) | (with_reducible refine Kd.C_drew ?_))); (case side2 => exact HC2.out); rintro e w' ⟨rfl, ⟨nd, rfl⟩⟩; refine ⟨_, rfl, ?_⟩))
       go_ret
       exact ⟨by first | rfl | (simp; done) | (simp [*]; done), by repeat (first | exact Drawn0.refl _ | apply Drawn0.step)⟩
      ·rw [if_neg c13] at H
       exact absurd H (by simp)
     ·rw [if_neg c12] at H
      exact absurd H (by simp)

end Go.Proofs.YtcnjbmdnnhbfkaaGreatDoor.XR
