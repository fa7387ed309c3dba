-- Printed by this session's xprint.sh (a patched copy of the kit's print program). Not trusted: Lean checks it.
import Derived.Test.YtcnjbmdnnhbfkaaGreatDoorXD0
import Derived.Test.YtcnjbmdnnhbfkaaGreatDoorXD2
import Derived.Test.YtcnjbmdnnhbfkaaGreatDoorRefS
import Derived.Test.YtcnjbmdnnhbfkaaGreatDoorRef2
namespace Go.Proofs.YtcnjbmdnnhbfkaaGreatDoor.XD
open Go.RowKit Go.Proofs.YtcnjbmdnnhbfkaaGreatDoor.Ref Go.Proofs.YtcnjbmdnnhbfkaaGreatDoorW.PrintWords Go.Proofs.YtcnjbmdnnhbfkaaGreatDoorW.PrintLast Go.Proofs.YtcnjbmdnnhbfkaaGreatDoorW.PrintMore
attribute [local go_sem] max2_int min2_int max_two min_two max_three min_three max_four min_four   -- for this text's walks alone
set_option linter.unusedVariables false
set_option linter.unusedSimpArgs false
/-! ### sennitref01_May: function 18 -/
mutual
def sennitref01_May.l0 : Nat → List ByteArray → Int → Option (Bool)
 | 0, _, _ => none
 | k + 1, x0, x3 => if x3 < (x0.length : Int) then (if x3 = (wrap64 ((x0.length : Int) - 1)) then (if 0 ≤ x3 then (if ((rdOf ByteArray.empty x0 x3).size : Int) > 0 then ((sennitref01_feeds.f k (rdOf ByteArray.empty x0 x3)).bind fun t160 => (sennitref01_May.j1 k x0 x3 (t160 == 0))) else (sennitref01_May.j1 k x0 x3 false)) else (none)) else (sennitref01_May.j1 k x0 x3 false)) else (some true)
def sennitref01_May.j1 : Nat → List ByteArray → Int → Bool → Option (Bool)
 | 0, _, _, _ => none
 | k + 1, x0, x3, x4 => if x4 = true then (sennitref01_May.j2 k x0 x3 false) else (if 0 ≤ x3 then (if x3 < (x0.length : Int) then ((sennitref01_Line.f k (rdOf ByteArray.empty x0 x3)).bind fun t162 => (sennitref01_May.j2 k x0 x3 (!t162))) else (none)) else (none))
def sennitref01_May.j2 : Nat → List ByteArray → Int → Bool → Option (Bool)
 | 0, _, _, _ => none
 | k + 1, x0, x3, x41 => if x41 = true then (some false) else (sennitref01_May.l0 k x0 (wrap64 (x3 + 1)))
end
def sennitref01_May.f (k : Nat) (l0 : List ByteArray) : Option (Bool) := sennitref01_May.l0 k l0 0
set_option maxHeartbeats 8000000 in
set_option maxRecDepth 100000 in
theorem sennitref01_May.calls (k : Nat) (A0 : Option Addr) (c0 : Nat) (l0 : List ByteArray) (r : Bool) (w : World) (hr0 : Kd.C Kd.string w A0 l0.length l0) (hc0 : l0.length ≤ c0) (h : sennitref01_May.f k l0 = some r) :
  Calls Tryz.prog 18 #[.slice A0 l0.length c0] w fun e w' => e = .returned (.bool r) ∧ Drawn0 w w' := by
 have HR0 := Aside0.mk hr0
 have HC0 := Aside0.mk hc0
 clear hr0 hc0
 have H : (sennitref01_May.l0 k l0 0) = some r := h
 clear h
 have H' := Aside0.mk H
 clear H
 go_enter Tryz.func18, Tryz.ntmps18
 go_wp2
 go_loopg [3] k (fun kq v3 w' => ∃ (x3_1 : Int), v3 = .int .i64 x3_1 ∧ Aside0 (sennitref01_May.l0 kq l0 x3_1 = some r) ∧ Aside0 (kq ≤ k) ∧ Drawn0 w w')
 case atStart => exact ⟨(0), (by first | rfl | (simp; done) | (simp [*]; done)), H', ⟨Nat.le_refl _⟩, by repeat (first | exact Drawn0.refl _ | apply Drawn0.step)⟩
 case round =>
  clear H'
  try clear c1
  obtain ⟨x3_1, rfl, HA, HK1, ⟨m1, rfl⟩⟩ := hrel
  cases gk with
  | zero => exact absurd HA.out (by simp [sennitref01_May.l0])
  | succ k1 =>
   have H := HA.out
   clear HA
   simp only [sennitref01_May.l0] at H
   by_cases c2 : x3_1 < (l0.length : Int)
   ·rw [if_pos c2] at H
    have c2b0 : decide (x3_1 < (l0.length : Int)) = true := decide_eq_true c2
    clear c2
    have HC3 := Aside0.mk H
    clear H
    go_upto_region 4 with (fail)
    go_cut [4] (fun v4 wc => ∃ (kq : Nat) (x4_2 : Bool), v4 = .bool x4_2 ∧ Aside0 (sennitref01_May.j1 kq l0 x3_1 x4_2 = some r) ∧ Aside0 (kq ≤ k1) ∧ Drawn0 w wc)
    case first =>
     have H := HC3.out
     clear HC3
     by_cases c4 : x3_1 = (wrap64 ((l0.length : Int) - 1))
     ·rw [if_pos c4] at H
      have c4b0 : (x3_1 == (wrap64 ((l0.length : Int) - 1))) = true := beq_iff_eq.mpr c4
      have c4b1 : (x3_1 != (wrap64 ((l0.length : Int) - 1))) = false := bne_eq_false_iff_eq.mpr c4
      clear c4
      (first | rw [c4b0] | (simp only [i64_w, i32_w]; rw [c4b0]) | skip)
      by_cases c5 : 0 ≤ x3_1
      ·rw [if_pos c5] at H
       have c5b0 : decide (0 ≤ x3_1) = true := decide_eq_true c5
       clear c5
       by_cases c6 : ((rdOf ByteArray.empty l0 x3_1).size : Int) > 0
       ·rw [if_pos c6] at H
        have c6b0 : decide (0 < ((rdOf ByteArray.empty l0 x3_1).size : Int)) = true := decide_eq_true c6
        have c6b1 : decide (0 < (rdOf ByteArray.empty l0 x3_1).size) = true := decide_eq_true (by omega)
        clear c6
        replace H := Option.bind_eq_some_iff.mp H
        obtain ⟨t160, A70, H⟩ := H
        replace H : (sennitref01_May.j1 k1 l0 x3_1 (t160 == 0)) = some r := H
        have A7 := Aside0.mk A70
        clear A70
        have H' := Aside0.mk H
        clear H
        have p158 : 0 ≤ (x3_1 : Int) := of_decide_eq_true (by first | (with_reducible assumption) | assumption)
        have q158 : x3_1 < (l0.length : Int) := of_decide_eq_true (by first | (with_reducible assumption) | assumption)
        obtain ⟨ad158, e158, hx158_0⟩ := Kd.at_string HR0.out x3_1 p158 q158
        cases e158
        replace p158 := eq_true p158
        replace q158 := eq_true q158
        have p159 : 0 ≤ (x3_1 : Int) := of_decide_eq_true (by first | (with_reducible assumption) | assumption)
        have q159 : x3_1 < (l0.length : Int) := of_decide_eq_true (by first | (with_reducible assumption) | assumption)
        obtain ⟨ad159, e159, hx159_0⟩ := Kd.at_string HR0.out x3_1 p159 q159
        obtain rfl : ad158 = ad159 := (by injection e159)
        replace p159 := eq_true p159
        replace q159 := eq_true q159
        go_wp2_with (first | (go_at_call 39; (with_reducible refine (sennitref01_feeds.calls k1 (rdOf ByteArray.empty l0 x3_1) t160 _ A7.out).mono ?_); rintro e w' ⟨rfl, ⟨nd, rfl⟩⟩))
        go_meet
        case rel => exact ⟨_, ((t160 == 0)), (by first | rfl | (simp; done) | (simp [*]; done)), H', ⟨by have := HK1.out; first | omega | exact Nat.le_refl _⟩, by repeat (first | exact Drawn0.refl _ | apply Drawn0.step)⟩
       ·rw [if_neg c6] at H
        have c6b0 : decide (0 < ((rdOf ByteArray.empty l0 x3_1).size : Int)) = false := decide_eq_false c6
        have c6b1 : decide (0 < (rdOf ByteArray.empty l0 x3_1).size) = false := decide_eq_false (by omega)
        clear c6
        have H' := Aside0.mk H
        clear H
        have p158 : 0 ≤ (x3_1 : Int) := of_decide_eq_true (by first | (with_reducible assumption) | assumption)
        have q158 : x3_1 < (l0.length : Int) := of_decide_eq_true (by first | (with_reducible assumption) | assumption)
        obtain ⟨ad158, e158, hx158_0⟩ := Kd.at_string HR0.out x3_1 p158 q158
        cases e158
        replace p158 := eq_true p158
        replace q158 := eq_true q158
        go_wp2
        go_meet
        case rel => exact ⟨_, (false), (by first | rfl | (simp; done) | (simp [*]; done)), H', ⟨by have := HK1.out; first | omega | exact Nat.le_refl _⟩, by repeat (first | exact Drawn0.refl _ | apply Drawn0.step)⟩
      ·rw [if_neg c5] at H
       exact absurd H (by simp)
     ·rw [if_neg c4] at H
      have c4b0 : (x3_1 == (wrap64 ((l0.length : Int) - 1))) = false := beq_eq_false_iff_ne.mpr c4
      have c4b1 : (x3_1 != (wrap64 ((l0.length : Int) - 1))) = true := bne_iff_ne.mpr c4
      (first | rw [c4b0] | (simp only [i64_w, i32_w]; rw [c4b0]) | skip)
      have H' := Aside0.mk H
      clear H
      go_wp2
      go_meet
      case rel => exact ⟨_, (false), (by first | rfl | (simp; done) | (simp [*]; done)), H', ⟨by have := HK1.out; first | omega | exact Nat.le_refl _⟩, by repeat (first | exact Drawn0.refl _ | apply Drawn0.step)⟩
    case rest =>
     clear HC3
     try clear c1
     try clear p1
     try clear q1
     try clear hx1
     try clear c2
     try clear c2b0
     try clear p2
     try clear c4
     try clear c4b0
     try clear c4b1
     try clear c5
     try clear c5b0
     try clear c6
     try clear c6b0
     try clear c6b1
     try clear p6
     try clear hx158_0
     try clear hx159_0
     try clear p158
     try clear p159
     try clear q158
     try clear q159
     obtain ⟨kq, x4_2, rfl, HA, HJ2, ⟨mc2, rfl⟩⟩ := hcut
     cases kq with
     | zero => exact absurd HA.out (by simp [sennitref01_May.j1])
     | succ kj2 =>
      have H := HA.out
      clear HA
      simp only [sennitref01_May.j1] at H
      have HC8 := Aside0.mk H
      clear H
      go_upto_region 5 with (fail)
      go_cut [41] (fun v41 wc => ∃ (kq : Nat) (x41_7 : Bool), v41 = .bool x41_7 ∧ Aside0 (sennitref01_May.j2 kq l0 x3_1 x41_7 = some r) ∧ Aside0 (kq ≤ kj2) ∧ Drawn0 w wc)
      case first =>
       have H := HC8.out
       clear HC8
       by_cases c9 : x4_2 = true
       ·subst c9
        have H1 : (sennitref01_May.j2 kj2 l0 x3_1 false) = some r := by rw [if_pos rfl] at H; exact H
        clear H
        have H := H1
        clear H1
        have H' := Aside0.mk H
        clear H
        go_wp2
        go_meet
        case rel => exact ⟨_, (false), (by first | rfl | (simp; done) | (simp [*]; done)), H', ⟨by have := HK1.out; have := HJ2.out; first | omega | exact Nat.le_refl _⟩, by repeat (first | exact Drawn0.refl _ | apply Drawn0.step)⟩
       ·replace c9 := Bool.eq_false_iff.mpr c9
        subst c9
        have H1 : (if 0 ≤ x3_1 then (if x3_1 < (l0.length : Int) then ((sennitref01_Line.f kj2 (rdOf ByteArray.empty l0 x3_1)).bind fun t162 => (sennitref01_May.j2 kj2 l0 x3_1 (!t162))) else (none)) else (none)) = some r := by rw [if_neg (show ¬ (false = true) by decide)] at H; exact H
        clear H
        have H := H1
        clear H1
        by_cases c10 : 0 ≤ x3_1
        ·rw [if_pos c10] at H
         have c10b0 : decide (0 ≤ x3_1) = true := decide_eq_true c10
         clear c10
         (first | rw [c10b0] | (simp only [i64_w, i32_w]; rw [c10b0]) | skip)
         by_cases c11 : x3_1 < (l0.length : Int)
         ·rw [if_pos c11] at H
          have c11b0 : decide (x3_1 < (l0.length : Int)) = true := decide_eq_true c11
          clear c11
          replace H := Option.bind_eq_some_iff.mp H
          obtain ⟨t162, A120, H⟩ := H
          replace H : (sennitref01_May.j2 kj2 l0 x3_1 (!t162)) = some r := H
          have A12 := Aside0.mk A120
          clear A120
          have H' := Aside0.mk H
          clear H
          have p161 : 0 ≤ (x3_1 : Int) := of_decide_eq_true (by first | (with_reducible assumption) | assumption)
          have q161 : x3_1 < (l0.length : Int) := of_decide_eq_true (by first | (with_reducible assumption) | assumption)
          obtain ⟨ad161, e161, hx161_0⟩ := Kd.at_string HR0.out x3_1 p161 q161
          cases e161
          replace p161 := eq_true p161
          replace q161 := eq_true q161
          go_wp2_with (first | (go_at_call 40; (with_reducible refine (sennitref01_Line.calls kj2 (rdOf ByteArray.empty l0 x3_1) t162 _ A12.out).mono ?_); rintro e w' ⟨rfl, ⟨nd, rfl⟩⟩))
          go_meet
          case rel => exact ⟨_, (!t162), (by first | rfl | (simp; done) | (simp [*]; done)), H', ⟨by have := HK1.out; have := HJ2.out; first | omega | exact Nat.le_refl _⟩, by repeat (first | exact Drawn0.refl _ | apply Drawn0.step)⟩
         ·rw [if_neg c11] at H
          exact absurd H (by simp)
        ·rw [if_neg c10] at H
         exact absurd H (by simp)
      case rest =>
       clear HC8
       try clear c1
       try clear p1
       try clear q1
       try clear hx1
       try clear c2
       try clear c2b0
       try clear p2
       try clear c4
       try clear c4b0
       try clear c4b1
       try clear c5
       try clear c5b0
       try clear c6
       try clear c6b0
       try clear c6b1
       try clear p6
       try clear c9
       try clear c10
       try clear c10b0
       try clear c11
       try clear c11b0
       try clear hx158_0
       try clear hx159_0
       try clear hx161_0
       try clear p1
       try clear p158
       try clear p159
       try clear p161
       try clear p2
       try clear p6
       try clear q1
       try clear q158
       try clear q159
       try clear q161
       obtain ⟨kq, x41_7, rfl, HA, HJ7, ⟨mc7, rfl⟩⟩ := hcut
       cases kq with
       | zero => exact absurd HA.out (by simp [sennitref01_May.j2])
       | succ kj7 =>
        have H := HA.out
        clear HA
        simp only [sennitref01_May.j2] at H
        by_cases c13 : x41_7 = true
        ·subst c13
         have H1 : (some false) = some r := by rw [if_pos rfl] at H; exact H
         clear H
         have H := H1
         clear H1
         obtain rfl := Option.some.inj H
         go_wp2
         go_ret
         exact ⟨by first | rfl | (simp; done) | (simp [*]; done), by repeat (first | exact Drawn0.refl _ | apply Drawn0.step)⟩
        ·replace c13 := Bool.eq_false_iff.mpr c13
         subst c13
         have H1 : (sennitref01_May.l0 kj7 l0 (wrap64 (x3_1 + 1))) = some r := by rw [if_neg (show ¬ (false = true) by decide)] at H; exact H
         clear H
         have H := H1
         clear H1
         have H' := Aside0.mk H
         clear H
         go_wp2
         go_roundg kj7
         case measure => have := HK1.out; have := HJ2.out; have := HJ7.out; omega
         case rel => exact ⟨(wrap64 (x3_1 + 1)), (by first | rfl | (simp; done) | (simp [*]; done)), H', ⟨by have := HK1.out; have := HJ2.out; have := HJ7.out; omega⟩, by repeat (first | exact Drawn0.refl _ | apply Drawn0.step)⟩
   ·rw [if_neg c2] at H
    have c2b0 : decide (x3_1 < (l0.length : Int)) = false := decide_eq_false c2
    clear c2
    obtain rfl := Option.some.inj H
    go_wp2
    go_ret
    exact ⟨by first | rfl | (simp; done) | (simp [*]; done), by repeat (first | exact Drawn0.refl _ | apply Drawn0.step)⟩
-- function 26 (sennitref07_Same): its contract is proved by hand
-- function 37 (sennitref07_Normal): its contract is proved by hand
/-! ### sennitref01_Open: function 84 -/
def sennitref01_Open.f (l0 : List ByteArray) : Option (Bool) := if (l0.length : Int) = 0 then (some false) else (if 0 ≤ (wrap64 ((l0.length : Int) - 1)) then (if (wrap64 ((l0.length : Int) - 1)) < (l0.length : Int) then (if ((rdOf ByteArray.empty l0 (wrap64 ((l0.length : Int) - 1))).size : Int) = 0 then (some true) else (if 0 ≤ (wrap64 (((rdOf ByteArray.empty l0 (wrap64 ((l0.length : Int) - 1))).size : Int) - 1)) then (if (wrap64 (((rdOf ByteArray.empty l0 (wrap64 ((l0.length : Int) - 1))).size : Int) - 1)) < ((rdOf ByteArray.empty l0 (wrap64 ((l0.length : Int) - 1))).size : Int) then (some ((bt (rdOf ByteArray.empty l0 (wrap64 ((l0.length : Int) - 1))) (wrap64 (((rdOf ByteArray.empty l0 (wrap64 ((l0.length : Int) - 1))).size : Int) - 1))) != 10)) else (none)) else (none))) else (none)) else (none))
set_option maxHeartbeats 8000000 in
set_option maxRecDepth 100000 in
theorem sennitref01_Open.calls (A0 : Option Addr) (c0 : Nat) (l0 : List ByteArray) (r : Bool) (w : World) (hr0 : Kd.C Kd.string w A0 l0.length l0) (hc0 : l0.length ≤ c0) (h : sennitref01_Open.f l0 = some r) :
  Calls Tryz.prog 84 #[.slice A0 l0.length c0] w fun e w' => e = .returned (.bool r) ∧ Drawn0 w w' := by
 have HR0 := Aside0.mk hr0
 have HC0 := Aside0.mk hc0
 clear hr0 hc0
 have H : (if (l0.length : Int) = 0 then (some false) else (if 0 ≤ (wrap64 ((l0.length : Int) - 1)) then (if (wrap64 ((l0.length : Int) - 1)) < (l0.length : Int) then (if ((rdOf ByteArray.empty l0 (wrap64 ((l0.length : Int) - 1))).size : Int) = 0 then (some true) else (if 0 ≤ (wrap64 (((rdOf ByteArray.empty l0 (wrap64 ((l0.length : Int) - 1))).size : Int) - 1)) then (if (wrap64 (((rdOf ByteArray.empty l0 (wrap64 ((l0.length : Int) - 1))).size : Int) - 1)) < ((rdOf ByteArray.empty l0 (wrap64 ((l0.length : Int) - 1))).size : Int) then (some ((bt (rdOf ByteArray.empty l0 (wrap64 ((l0.length : Int) - 1))) (wrap64 (((rdOf ByteArray.empty l0 (wrap64 ((l0.length : Int) - 1))).size : Int) - 1))) != 10)) else (none)) else (none))) else (none)) else (none))) = some r := h
 clear h
 by_cases c2 : (l0.length : Int) = 0
 ·rw [if_pos c2] at H
  have c2b0 : ((l0.length : Int) == 0) = true := beq_iff_eq.mpr c2
  have c2b1 : ((l0.length : Int) != 0) = false := bne_eq_false_iff_eq.mpr c2
  clear c2
  obtain rfl := Option.some.inj H
  go_enter Tryz.func84, Tryz.ntmps84
  go_wp2
  go_ret
  exact ⟨by first | rfl | (simp; done) | (simp [*]; done), by repeat (first | exact Drawn0.refl _ | apply Drawn0.step)⟩
 ·rw [if_neg c2] at H
  have c2b0 : ((l0.length : Int) == 0) = false := beq_eq_false_iff_ne.mpr c2
  have c2b1 : ((l0.length : Int) != 0) = true := bne_iff_ne.mpr c2
  have c2b2 : ¬ (l0 = []) := fun h_ => c2 (by rw [h_]; rfl)
  obtain ⟨ji3, hji3⟩ : ∃ j_ : Int, (wrap64 ((l0.length : Int) - 1)) = j_ := ⟨_, rfl⟩
  replace H : (if 0 ≤ (ji3) then (if (ji3) < (l0.length : Int) then (if ((rdOf ByteArray.empty l0 (ji3)).size : Int) = 0 then (some true) else (if 0 ≤ (wrap64 (((rdOf ByteArray.empty l0 (ji3)).size : Int) - 1)) then (if (wrap64 (((rdOf ByteArray.empty l0 (ji3)).size : Int) - 1)) < ((rdOf ByteArray.empty l0 (ji3)).size : Int) then (some ((bt (rdOf ByteArray.empty l0 (ji3)) (wrap64 (((rdOf ByteArray.empty l0 (ji3)).size : Int) - 1))) != 10)) else (none)) else (none))) else (none)) else (none)) = some r := by first | (rw [hji3] at H; exact H) | (simp only [hji3] at H ⊢; exact H)
  have hji3w : (IntKind.i64.wrap ((l0.length : Int) - 1)) = ji3 := (i64_w _).trans hji3
  by_cases c4 : 0 ≤ (ji3)
  ·rw [if_pos c4] at H
   have c4b0 : decide (0 ≤ (ji3)) = true := decide_eq_true c4
   clear c4
   by_cases c5 : (ji3) < (l0.length : Int)
   ·rw [if_pos c5] at H
    have c5b0 : decide ((ji3) < (l0.length : Int)) = true := decide_eq_true c5
    clear c5
    by_cases c6 : ((rdOf ByteArray.empty l0 (ji3)).size : Int) = 0
    ·rw [if_pos c6] at H
     have c6b0 : (((rdOf ByteArray.empty l0 (ji3)).size : Int) == 0) = true := beq_iff_eq.mpr c6
     have c6b1 : (((rdOf ByteArray.empty l0 (ji3)).size : Int) != 0) = false := bne_eq_false_iff_eq.mpr c6
     clear c6
     obtain rfl := Option.some.inj H
     have p163 : 0 ≤ ((ji3) : Int) := of_decide_eq_true (by first | (with_reducible assumption) | assumption)
     have q163 : (ji3) < (l0.length : Int) := of_decide_eq_true (by first | (with_reducible assumption) | assumption)
     obtain ⟨ad163, e163, hx163_0⟩ := Kd.at_string HR0.out (ji3) p163 q163
     cases e163
     replace p163 := eq_true p163
     replace q163 := eq_true q163
     go_enter Tryz.func84, Tryz.ntmps84
     go_wp2
     go_ret
     exact ⟨by first | rfl | (simp; done) | (simp only [← hji3] <;> (first | rfl | simp)) | (simp [*]; done), by repeat (first | exact Drawn0.refl _ | apply Drawn0.step)⟩
    ·rw [if_neg c6] at H
     have c6b0 : (((rdOf ByteArray.empty l0 (ji3)).size : Int) == 0) = false := beq_eq_false_iff_ne.mpr c6
     have c6b1 : (((rdOf ByteArray.empty l0 (ji3)).size : Int) != 0) = true := bne_iff_ne.mpr c6
     obtain ⟨ji7, hji7⟩ : ∃ j_ : Int, (wrap64 (((rdOf ByteArray.empty l0 (ji3)).size : Int) - 1)) = j_ := ⟨_, rfl⟩
     replace H : (if 0 ≤ (ji7) then (if (ji7) < ((rdOf ByteArray.empty l0 (ji3)).size : Int) then (some ((bt (rdOf ByteArray.empty l0 (ji3)) (ji7)) != 10)) else (none)) else (none)) = some r := by first | (rw [hji7] at H; exact H) | (simp only [hji7] at H ⊢; exact H)
     have hji7w : (IntKind.i64.wrap (((rdOf ByteArray.empty l0 (ji3)).size : Int) - 1)) = ji7 := (i64_w _).trans hji7
     by_cases c8 : 0 ≤ (ji7)
     ·rw [if_pos c8] at H
      have c8b0 : decide (0 ≤ (ji7)) = true := decide_eq_true c8
      clear c8
      by_cases c9 : (ji7) < ((rdOf ByteArray.empty l0 (ji3)).size : Int)
      ·rw [if_pos c9] at H
       have c9b0 : decide ((ji7) < ((rdOf ByteArray.empty l0 (ji3)).size : Int)) = true := decide_eq_true c9
       clear c9
       obtain rfl := Option.some.inj H
       have p163 : 0 ≤ ((ji3) : Int) := of_decide_eq_true (by first | (with_reducible assumption) | assumption)
       have q163 : (ji3) < (l0.length : Int) := of_decide_eq_true (by first | (with_reducible assumption) | assumption)
       obtain ⟨ad163, e163, hx163_0⟩ := Kd.at_string HR0.out (ji3) p163 q163
       cases e163
       replace p163 := eq_true p163
       replace q163 := eq_true q163
       have p10 : 0 ≤ ((ji7) : Int) := of_decide_eq_true (by first | (with_reducible assumption) | assumption)
       have q10 : (ji7) < ((rdOf ByteArray.empty l0 (ji3)).size : Int) := of_decide_eq_true (by first | (with_reducible assumption) | assumption)
       have hx10 := bt_at (rdOf ByteArray.empty l0 (ji3)) (ji7)
       replace p10 := eq_true p10
       replace q10 := eq_true q10
       go_enter Tryz.func84, Tryz.ntmps84
       go_wp2
       go_ret
       exact ⟨by first | rfl | (simp; done) | (simp only [← hji3, ← hji7] <;> (first | rfl | simp)) | (simp [*]; done), by repeat (first | exact Drawn0.refl _ | apply Drawn0.step)⟩
      ·rw [if_neg c9] at H
       exact absurd H (by simp)
     ·rw [if_neg c8] at H
      exact absurd H (by simp)
   ·rw [if_neg c5] at H
    exact absurd H (by simp)
  ·rw [if_neg c4] at H
   exact absurd H (by simp)
/-! ### sennitref12_Form: function 60 -/
mutual
def sennitref12_Form.l0 : Nat → List (S36) → List (List ByteArray) → Int → Option (Bool)
 | 0, _, _, _ => none
 | k + 1, x0, x3, x4 => if x4 < (x3.length : Int) then (if 0 ≤ x4 then ((sennitref01_May.f k (rd_L2 x3 x4)).bind fun t172 => (if t172 = true then (sennitref12_Form.l0 k x0 x3 (wrap64 (x4 + 1))) else (some false))) else (none)) else (sennitref12_Form.l1 k x0 0)
def sennitref12_Form.l1 : Nat → List (S36) → Int → Option (Bool)
 | 0, _, _ => none
 | k + 1, x0, x5 => if (wrap64 (x5 + 1)) < (x0.length : Int) then (if 0 ≤ x5 then (if x5 < (x0.length : Int) then ((sennitref01_Open.f ((rd_T36 x0 x5).f1)).bind fun t174 => (if t174 = true then (some false) else (sennitref12_Form.l1 k x0 (wrap64 (x5 + 1))))) else (none)) else (none)) else (some true)
end
def sennitref12_Form.f (k : Nat) (l0 : List (S36)) : Option (Bool) := (sennitref07_Normal.f l0).bind fun t164 => ((sennitref07_Same.f l0 t164).bind fun t167 => (if t167 = true then ((sennitref12_Lists.f k l0).bind fun t168 => (sennitref12_Form.l0 k l0 t168 0)) else (some false)))
set_option maxHeartbeats 8000000 in
set_option maxRecDepth 100000 in
theorem sennitref12_Form.calls (k : Nat) (A0 : Option Addr) (c0 : Nat) (l0 : List (S36)) (r : Bool) (w : World) (hr0 : Kd.C k36 w A0 l0.length l0) (hc0 : l0.length ≤ c0) (h : sennitref12_Form.f k l0 = some r) :
  Calls Tryz.prog 60 #[.slice A0 l0.length c0] w fun e w' => e = .returned (.bool r) ∧ Below w.heap.size w w' := by
 have HR0 := Aside0.mk hr0
 have HC0 := Aside0.mk hc0
 clear hr0 hc0
 have HB := Aside0.mk (Below.refl w.heap.size w)
 have H : ((sennitref07_Normal.f l0).bind fun t164 => ((sennitref07_Same.f l0 t164).bind fun t167 => (if t167 = true then ((sennitref12_Lists.f k l0).bind fun t168 => (sennitref12_Form.l0 k l0 t168 0)) else (some false)))) = some r := h
 clear h
 replace H := Option.bind_eq_some_iff.mp H
 obtain ⟨t164, A20, H⟩ := H
 replace H : ((sennitref07_Same.f l0 t164).bind fun t167 => (if t167 = true then ((sennitref12_Lists.f k l0).bind fun t168 => (sennitref12_Form.l0 k l0 t168 0)) else (some false))) = some r := H
 have A2 := Aside0.mk A20
 clear A20
 replace H := Option.bind_eq_some_iff.mp H
 obtain ⟨t167, A30, H⟩ := H
 replace H : (if t167 = true then ((sennitref12_Lists.f k l0).bind fun t168 => (sennitref12_Form.l0 k l0 t168 0)) else (some false)) = some r := H
 have A3 := Aside0.mk A30
 clear A30
 by_cases c4 : t167 = true
 ·subst c4
  have H1 : ((sennitref12_Lists.f k l0).bind fun t168 => (sennitref12_Form.l0 k l0 t168 0)) = some r := by rw [if_pos rfl] at H; exact H
  clear H
  have H := H1
  clear H1
  replace H := Option.bind_eq_some_iff.mp H
  obtain ⟨t168, A50, H⟩ := H
  replace H : (sennitref12_Form.l0 k l0 t168 0) = some r := H
  have A5 := Aside0.mk A50
  clear A50
  have H' := Aside0.mk H
  clear H
  go_enter Tryz.func60, Tryz.ntmps60
  go_wp2_with (first | ((with_reducible refine gate_callee (f := 37) rfl ?_); refine goesL_ (some 8) rfl rfl Tryz.func37 (by kernel_rfl) rfl #[.slice A0 l0.length c0] rfl (by (try simp only [List.map_toArray, List.map_cons, List.map_nil]); first | done | rfl | (simp only [List.length_drop, List.length_take]; rfl)) ?_; (with_reducible refine (sennitref07_Normal.calls (fun k_ => k_ < w.heap.size) _ _ l0 t164 _ ?side1 A2.out).mono ?_); (case side1 => exact Kd.V_mk HC0.out (Kd.F_below (Kd.C_F k36_heap HR0.out) (by repeat (first | (with_reducible first | exact HB.out | apply below_alloc | apply pw_below_drewN | apply below_drew1) | exact HB.out)))); rintro e w6 ⟨v165, rfl, ho0, hb⟩; refine ⟨_, rfl, ?_⟩; have n0_ := Aside0.mk (Kd.N_lower (Kd.N_mono (ok' := fun k_ => True) ho0 (fun k_ hk_ => trivial)) (below_size (by repeat (first | (with_reducible first | exact HB.out | apply below_alloc | apply pw_below_drewN | apply below_drew1) | exact HB.out)))); have n1_ := Aside0.mk (below_step (by repeat (first | (with_reducible first | exact HB.out | apply below_alloc | apply pw_below_drewN | apply below_drew1) | exact HB.out)) hb); clear HB; have HO166 := n0_; have HB := n1_; clear n0_ n1_; (try clear hb); (try clear hb2); (try clear hk); (try clear hi); (try clear ho0); obtain ⟨Ao7, co7, eo7⟩ := Kd.N_slice HO166.out; subst eo7) | ((with_reducible refine gate_callee (f := 26) rfl ?_); refine goesL_ (some 9) rfl rfl Tryz.func26 (by kernel_rfl) rfl #[.slice A0 l0.length c0, .slice Ao7 t164.length co7] rfl (by (try simp only [List.map_toArray, List.map_cons, List.map_nil]); first | done | rfl | (simp only [List.length_drop, List.length_take]; rfl)) ?_; (with_reducible refine (sennitref07_Same.calls _ _ l0 _ _ t164 true _ ?side1 ?side2 ?side3 ?side4 A3.out).mono ?_); (case side1 => repeat (first | exact (Kd.C_below HR0.out HB.out) | (with_reducible refine Kd.C_alloc ?_ _) | (with_reducible refine Kd.C_drewN ?_ _) | (with_reducible refine Kd.C_drew ?_))); (case side2 => exact HC0.out); (case side3 => repeat (first | exact (Kd.N_reads' HO166.out).2.2 | (with_reducible refine Kd.C_alloc ?_ _) | (with_reducible refine Kd.C_drewN ?_ _) | (with_reducible refine Kd.C_drew ?_))); (case side4 => exact (Kd.N_reads' HO166.out).2.1); rintro e w8 ⟨rfl, hb⟩; refine ⟨_, rfl, ?_⟩; have n0_ := Aside0.mk (Kd.N_below (by (with_reducible repeat (first | apply Kd.N_alloc | apply Kd.N_drewN | apply Kd.N_drew)); exact HO166.out) hb); have n1_ := Aside0.mk (below_step (by repeat (first | (with_reducible first | exact HB.out | apply below_alloc | apply pw_below_drewN | apply below_drew1) | exact HB.out)) hb); clear HO166; clear HB; have HO166 := n0_; have HB := n1_; clear n0_ n1_; (try clear hb); (try clear hb2); (try clear hk); (try clear hi)) | ((with_reducible refine gate_callee (f := 22) rfl ?_); refine goesL_ (some 12) rfl rfl Tryz.func22 (by kernel_rfl) rfl #[.slice A0 l0.length c0] rfl (by (try simp only [List.map_toArray, List.map_cons, List.map_nil]); first | done | rfl | (simp only [List.length_drop, List.length_take]; rfl)) ?_; (with_reducible refine (sennitref12_Lists.calls k (fun k_ => k_ < w.heap.size) _ _ l0 t168 _ ?side1 A5.out).mono ?_); (case side1 => exact Kd.V_mk HC0.out (Kd.F_below (Kd.C_F k36_heap HR0.out) (by repeat (first | (with_reducible first | exact HB.out | apply below_alloc | apply pw_below_drewN | apply below_drew1) | exact HB.out)))); rintro e w9 ⟨v169, rfl, ho0, hb⟩; refine ⟨_, rfl, ?_⟩; have n0_ := Aside0.mk (Kd.N_elder' (by (with_reducible repeat (first | apply Kd.N_alloc | apply Kd.N_drewN | apply Kd.N_drew)); exact HO166.out) (Kd.N_base ho0) hb); have n1_ := Aside0.mk (Kd.N_lower (Kd.N_mono (ok' := fun k_ => some k_ ≠ (.slice Ao7 t164.length co7 : Value).ownBlock) ho0 (fun k_ hk_ => Or.elim hk_ (fun hs_ => fun e_ => Nat.not_le.2 hs_ (Kd.N_base HO166.out k_ e_.symm)) (fun hn_ => (Kd.fresh' (Kd.N_lt (by (with_reducible repeat (first | apply Kd.N_alloc | apply Kd.N_drewN | apply Kd.N_drew)); exact HO166.out)) k_ hn_)))) (below_size (by repeat (first | (with_reducible first | exact HB.out | apply below_alloc | apply pw_below_drewN | apply below_drew1) | exact HB.out)))); have n2_ := Aside0.mk (below_step (by repeat (first | (with_reducible first | exact HB.out | apply below_alloc | apply pw_below_drewN | apply below_drew1) | exact HB.out)) hb); clear HO166; clear HB; have HO166 := n0_; have HO170 := n1_; have HB := n2_; clear n0_ n1_ n2_; (try clear hb); (try clear hb2); (try clear hk); (try clear hi); (try clear ho0)))
  go_loopg [4] k (fun kq v4 w' => ∃ (x4_1 : Int), v4 = .int .i64 x4_1 ∧ Aside0 (sennitref12_Form.l0 kq l0 t168 x4_1 = some r) ∧ Aside0 (kq ≤ k) ∧ Aside0 (Kd.N (Kd.slice 9 Kd.string) 25 w' w.heap.size (fun _ => True) v169 t168) ∧ Aside0 (Below w.heap.size w w'))
  case atStart => exact ⟨(0), (by first | rfl | (simp; done) | (simp [*]; done)), H', ⟨Nat.le_refl _⟩, ⟨by (with_reducible repeat (first | apply Kd.N_alloc | apply Kd.N_drewN | apply Kd.N_drew)); exact Kd.N_mono HO170.out (fun _ hk => trivial)⟩, ⟨by repeat (first | (with_reducible first | exact HB.out | apply below_alloc | apply pw_below_drewN | apply below_drew1) | exact HB.out)⟩⟩
  case round =>
   clear H'
   try clear c2
   try clear p2
   try clear c3
   try clear c4
   try clear c6
   obtain ⟨x4_1, rfl, HA, HK1, HO_3, HB⟩ := hrel
   cases gk with
   | zero => exact absurd HA.out (by simp [sennitref12_Form.l0])
   | succ k1 =>
    have H := HA.out
    clear HA
    simp only [sennitref12_Form.l0] at H
    by_cases c10 : x4_1 < (t168.length : Int)
    ·rw [if_pos c10] at H
     have c10b0 : decide (x4_1 < (t168.length : Int)) = true := decide_eq_true c10
     clear c10
     by_cases c11 : 0 ≤ x4_1
     ·rw [if_pos c11] at H
      have c11b0 : decide (0 ≤ x4_1) = true := decide_eq_true c11
      clear c11
      replace H := Option.bind_eq_some_iff.mp H
      obtain ⟨t172, A120, H⟩ := H
      replace H : (if t172 = true then (sennitref12_Form.l0 k1 l0 t168 (wrap64 (x4_1 + 1))) else (some false)) = some r := H
      have A12 := Aside0.mk A120
      clear A120
      by_cases c13 : t172 = true
      ·subst c13
       have H1 : (sennitref12_Form.l0 k1 l0 t168 (wrap64 (x4_1 + 1))) = some r := by rw [if_pos rfl] at H; exact H
       clear H
       have H := H1
       clear H1
       have H' := Aside0.mk H
       clear H
       obtain ⟨Ao14, co14, eo14⟩ := Kd.N_slice HO_3.out
       subst eo14
       have p171 : 0 ≤ (x4_1 : Int) := of_decide_eq_true (by first | (with_reducible assumption) | assumption)
       have q171 : x4_1 < (t168.length : Int) := of_decide_eq_true (by first | (with_reducible assumption) | assumption)
       obtain ⟨ad171, A171_0, c171_0, e171, hx171_0, hl171_0, hi171_0⟩ := at_L2 (Kd.N_reads' HO_3.out).2.2 x4_1 p171 q171
       cases e171
       obtain ⟨ce171, hce171, hMe171, hcc171⟩ := Kd.N_get HO_3.out [] x4_1 p171 (by first | exact q171 | exact of_decide_eq_true (by first | (with_reducible assumption) | assumption) | (have e_ := (Kd.N_reads' HO_3.out).1; omega))
       obtain ⟨ua171_0, uc171_0, rfl, ul171_0, ge171_0⟩ := Kd.FK_slice_open hMe171
       have hv171_0 := hcc171 0 _ rfl
       rw [Nat.add_zero, show ((Kd.slice 9 Kd.string)).sz = 1 from rfl, Nat.mul_one] at hv171_0
       replace hv171_0 := Option.some.inj (hv171_0.symm.trans hx171_0)
       injection hv171_0 with hva_ hvn_ hvc_
       rw [hva_] at ge171_0
       rw [hvc_] at ul171_0
       have HL171_0 := Aside0.mk (show Kd.V Kd.string 9 _ w.heap.size _ _ (rd_L2 t168 x4_1) from Kd.V_mk ul171_0 ge171_0)
       clear hva_ hvn_ hvc_ ge171_0 ul171_0
       clear hcc171 hce171
       have HR171_0 := Aside0.mk hi171_0
       have HC171_0 := Aside0.mk hl171_0
       clear hi171_0 hl171_0
       replace p171 := eq_true p171
       replace q171 := eq_true q171
       go_wp2_with (first | ((with_reducible refine gate_callee (f := 18) rfl ?_); refine goesL_ (some 23) rfl rfl Tryz.func18 (by kernel_rfl) rfl #[.slice A171_0 (rd_L2 t168 x4_1).length c171_0] rfl (by (try simp only [List.map_toArray, List.map_cons, List.map_nil]); first | done | rfl | (simp only [List.length_drop, List.length_take]; rfl)) ?_; (with_reducible refine (sennitref01_May.calls k1 _ _ (rd_L2 t168 x4_1) true _ ?side1 ?side2 A12.out).mono ?_); (case side1 => repeat (first | exact (by repeat (first | (with_reducible exact HR171_0.out) | (with_reducible refine Kd.C_alloc ?_ _) | (with_reducible refine Kd.C_drewN ?_ _) | (with_reducible refine Kd.C_drew ?_) | exact HR171_0.out)) | (with_reducible refine Kd.C_alloc ?_ _) | (with_reducible refine Kd.C_drewN ?_ _) | (with_reducible refine Kd.C_drew ?_))); (case side2 => exact HC171_0.out); rintro e w' ⟨rfl, ⟨nd, rfl⟩⟩; refine ⟨_, rfl, ?_⟩))
       go_roundg k1
       case measure => have := HK1.out; omega
       case rel => exact ⟨(wrap64 (x4_1 + 1)), (by first | rfl | (simp; done) | (simp [*]; done)), H', ⟨by have := HK1.out; omega⟩, ⟨by (with_reducible repeat (first | apply Kd.N_alloc | apply Kd.N_drewN | apply Kd.N_drew)); exact HO_3.out⟩, ⟨by repeat (first | (with_reducible first | exact HB.out | apply below_alloc | apply pw_below_drewN | apply below_drew1) | exact HB.out)⟩⟩
      ·replace c13 := Bool.eq_false_iff.mpr c13
       subst c13
       have H1 : (some false) = some r := by rw [if_neg (show ¬ (false = true) by decide)] at H; exact H
       clear H
       have H := H1
       clear H1
       obtain rfl := Option.some.inj H
       obtain ⟨Ao15, co15, eo15⟩ := Kd.N_slice HO_3.out
       subst eo15
       have p171 : 0 ≤ (x4_1 : Int) := of_decide_eq_true (by first | (with_reducible assumption) | assumption)
       have q171 : x4_1 < (t168.length : Int) := of_decide_eq_true (by first | (with_reducible assumption) | assumption)
       obtain ⟨ad171, A171_0, c171_0, e171, hx171_0, hl171_0, hi171_0⟩ := at_L2 (Kd.N_reads' HO_3.out).2.2 x4_1 p171 q171
       cases e171
       obtain ⟨ce171, hce171, hMe171, hcc171⟩ := Kd.N_get HO_3.out [] x4_1 p171 (by first | exact q171 | exact of_decide_eq_true (by first | (with_reducible assumption) | assumption) | (have e_ := (Kd.N_reads' HO_3.out).1; omega))
       obtain ⟨ua171_0, uc171_0, rfl, ul171_0, ge171_0⟩ := Kd.FK_slice_open hMe171
       have hv171_0 := hcc171 0 _ rfl
       rw [Nat.add_zero, show ((Kd.slice 9 Kd.string)).sz = 1 from rfl, Nat.mul_one] at hv171_0
       replace hv171_0 := Option.some.inj (hv171_0.symm.trans hx171_0)
       injection hv171_0 with hva_ hvn_ hvc_
       rw [hva_] at ge171_0
       rw [hvc_] at ul171_0
       have HL171_0 := Aside0.mk (show Kd.V Kd.string 9 _ w.heap.size _ _ (rd_L2 t168 x4_1) from Kd.V_mk ul171_0 ge171_0)
       clear hva_ hvn_ hvc_ ge171_0 ul171_0
       clear hcc171 hce171
       have HR171_0 := Aside0.mk hi171_0
       have HC171_0 := Aside0.mk hl171_0
       clear hi171_0 hl171_0
       replace p171 := eq_true p171
       replace q171 := eq_true q171
       go_wp2_with (first | ((with_reducible refine gate_callee (f := 18) rfl ?_); refine goesL_ (some 23) rfl rfl Tryz.func18 (by kernel_rfl) rfl #[.slice A171_0 (rd_L2 t168 x4_1).length c171_0] rfl (by (try simp only [List.map_toArray, List.map_cons, List.map_nil]); first | done | rfl | (simp only [List.length_drop, List.length_take]; rfl)) ?_; (with_reducible refine (sennitref01_May.calls k1 _ _ (rd_L2 t168 x4_1) false _ ?side1 ?side2 A12.out).mono ?_); (case side1 => repeat (first | exact (by repeat (first | (with_reducible exact HR171_0.out) | (with_reducible refine Kd.C_alloc ?_ _) | (with_reducible refine Kd.C_drewN ?_ _) | (with_reducible refine Kd.C_drew ?_) | exact HR171_0.out)) | (with_reducible refine Kd.C_alloc ?_ _) | (with_reducible refine Kd.C_drewN ?_ _) | (with_reducible refine Kd.C_drew ?_))); (case side2 => exact HC171_0.out); rintro e w' ⟨rfl, ⟨nd, rfl⟩⟩; refine ⟨_, rfl, ?_⟩))
       go_ret
       exact ⟨by first | rfl | (simp [errW_none, errW_some] <;> rfl) | (simp [*, errW_none, errW_some] <;> rfl), by repeat (first | (with_reducible first | exact HB.out | apply below_alloc | apply pw_below_drewN | apply below_drew1) | exact HB.out)⟩
     ·rw [if_neg c11] at H
      exact absurd H (by simp)
    ·rw [if_neg c10] at H
     have c10b0 : decide (x4_1 < (t168.length : Int)) = false := decide_eq_false c10
     clear c10
     have H' := Aside0.mk H
     clear H
     obtain ⟨Ao16, co16, eo16⟩ := Kd.N_slice HO_3.out
     subst eo16
     go_wp2
     go_loopg [5] k1 (fun kq v5 w' => ∃ (x5_2 : Int), v5 = .int .i64 x5_2 ∧ Aside0 (sennitref12_Form.l1 kq l0 x5_2 = some r) ∧ Aside0 (kq ≤ k1) ∧ Aside0 (Below w.heap.size w w'))
     case atStart => exact ⟨(0), (by first | rfl | (simp; done) | (simp [*]; done)), H', ⟨Nat.le_refl _⟩, ⟨by repeat (first | (with_reducible first | exact HB.out | apply below_alloc | apply pw_below_drewN | apply below_drew1) | exact HB.out)⟩⟩
     case round =>
      clear H'
      try clear c1
      try clear p1
      try clear q1
      try clear hx1
      try clear c2
      try clear p2
      try clear c3
      try clear c4
      try clear c6
      try clear p6
      try clear c10
      try clear c10b0
      try clear c11
      try clear c11b0
      try clear c13
      try clear hx171_0
      try clear p171
      try clear p2
      try clear q171
      obtain ⟨x5_2, rfl, HA, HK2, HB⟩ := hrel
      cases gk with
      | zero => exact absurd HA.out (by simp [sennitref12_Form.l1])
      | succ k2 =>
       have H := HA.out
       clear HA
       simp only [sennitref12_Form.l1] at H
       by_cases c17 : (wrap64 (x5_2 + 1)) < (l0.length : Int)
       ·rw [if_pos c17] at H
        have c17b0 : decide ((wrap64 (x5_2 + 1)) < (l0.length : Int)) = true := decide_eq_true c17
        clear c17
        by_cases c18 : 0 ≤ x5_2
        ·rw [if_pos c18] at H
         have c18b0 : decide (0 ≤ x5_2) = true := decide_eq_true c18
         clear c18
         by_cases c19 : x5_2 < (l0.length : Int)
         ·rw [if_pos c19] at H
          have c19b0 : decide (x5_2 < (l0.length : Int)) = true := decide_eq_true c19
          clear c19
          replace H := Option.bind_eq_some_iff.mp H
          obtain ⟨t174, A200, H⟩ := H
          replace H : (if t174 = true then (some false) else (sennitref12_Form.l1 k2 l0 (wrap64 (x5_2 + 1)))) = some r := H
          have A20 := Aside0.mk A200
          clear A200
          by_cases c21 : t174 = true
          ·subst c21
           have H1 : (some false) = some r := by rw [if_pos rfl] at H; exact H
           clear H
           have H := H1
           clear H1
           obtain rfl := Option.some.inj H
           have p173 : 0 ≤ (x5_2 : Int) := of_decide_eq_true (by first | (with_reducible assumption) | assumption)
           have q173 : x5_2 < (l0.length : Int) := of_decide_eq_true (by first | (with_reducible assumption) | assumption)
           obtain ⟨ad173, A173_1, c173_1, A173_2, c173_2, A173_3, c173_3, e173, hx173_0, hx173_1, hx173_2, hx173_3, hl173_1, hi173_1, hl173_2, hi173_2, hl173_3, hi173_3⟩ := at_T36 HR0.out x5_2 p173 q173
           cases e173
           replace hx173_0 := (HB.out.cell (World.block_lt_of_cell? w _ hx173_0)).trans hx173_0
           replace hx173_1 := (HB.out.cell (World.block_lt_of_cell? w _ hx173_1)).trans hx173_1
           replace hx173_2 := (HB.out.cell (World.block_lt_of_cell? w _ hx173_2)).trans hx173_2
           replace hx173_3 := (HB.out.cell (World.block_lt_of_cell? w _ hx173_3)).trans hx173_3
           have HR173_1 := Aside0.mk hi173_1
           have HC173_1 := Aside0.mk hl173_1
           clear hi173_1 hl173_1
           have HR173_2 := Aside0.mk hi173_2
           have HC173_2 := Aside0.mk hl173_2
           clear hi173_2 hl173_2
           have HR173_3 := Aside0.mk hi173_3
           have HC173_3 := Aside0.mk hl173_3
           clear hi173_3 hl173_3
           replace p173 := eq_true p173
           replace q173 := eq_true q173
           go_wp2_with (first | ((with_reducible refine gate_callee (f := 84) rfl ?_); refine goesL_ (some 37) rfl rfl Tryz.func84 (by kernel_rfl) rfl #[.slice A173_1 ((rd_T36 l0 x5_2).f1).length c173_1] rfl (by (try simp only [List.map_toArray, List.map_cons, List.map_nil]); first | done | rfl | (simp only [List.length_drop, List.length_take]; rfl)) ?_; (with_reducible refine (sennitref01_Open.calls _ _ ((rd_T36 l0 x5_2).f1) true _ ?side1 ?side2 A20.out).mono ?_); (case side1 => repeat (first | exact (Kd.C_below HR173_1.out HB.out) | (with_reducible refine Kd.C_alloc ?_ _) | (with_reducible refine Kd.C_drewN ?_ _) | (with_reducible refine Kd.C_drew ?_))); (case side2 => exact HC173_1.out); rintro e w' ⟨rfl, ⟨nd, rfl⟩⟩; refine ⟨_, rfl, ?_⟩))
           go_ret
           exact ⟨by first | rfl | (simp [errW_none, errW_some] <;> rfl) | (simp [*, errW_none, errW_some] <;> rfl), by repeat (first | (with_reducible first | exact HB.out | apply below_alloc | apply pw_below_drewN | apply below_drew1) | exact HB.out)⟩
          ·replace c21 := Bool.eq_false_iff.mpr c21
           subst c21
           have H1 : (sennitref12_Form.l1 k2 l0 (wrap64 (x5_2 + 1))) = some r := by rw [if_neg (show ¬ (false = true) by decide)] at H; exact H
           clear H
           have H := H1
           clear H1
           have H' := Aside0.mk H
           clear H
           have p173 : 0 ≤ (x5_2 : Int) := of_decide_eq_true (by first | (with_reducible assumption) | assumption)
           have q173 : x5_2 < (l0.length : Int) := of_decide_eq_true (by first | (with_reducible assumption) | assumption)
           obtain ⟨ad173, A173_1, c173_1, A173_2, c173_2, A173_3, c173_3, e173, hx173_0, hx173_1, hx173_2, hx173_3, hl173_1, hi173_1, hl173_2, hi173_2, hl173_3, hi173_3⟩ := at_T36 HR0.out x5_2 p173 q173
           cases e173
           replace hx173_0 := (HB.out.cell (World.block_lt_of_cell? w _ hx173_0)).trans hx173_0
           replace hx173_1 := (HB.out.cell (World.block_lt_of_cell? w _ hx173_1)).trans hx173_1
           replace hx173_2 := (HB.out.cell (World.block_lt_of_cell? w _ hx173_2)).trans hx173_2
           replace hx173_3 := (HB.out.cell (World.block_lt_of_cell? w _ hx173_3)).trans hx173_3
           have HR173_1 := Aside0.mk hi173_1
           have HC173_1 := Aside0.mk hl173_1
           clear hi173_1 hl173_1
           have HR173_2 := Aside0.mk hi173_2
           have HC173_2 := Aside0.mk hl173_2
           clear hi173_2 hl173_2
           have HR173_3 := Aside0.mk hi173_3
           have HC173_3 := Aside0.mk hl173_3
           clear hi173_3 hl173_3
           replace p173 := eq_true p173
           replace q173 := eq_true q173
           go_wp2_with (first | ((with_reducible refine gate_callee (f := 84) rfl ?_); refine goesL_ (some 37) rfl rfl Tryz.func84 (by kernel_rfl) rfl #[.slice A173_1 ((rd_T36 l0 x5_2).f1).length c173_1] rfl (by (try simp only [List.map_toArray, List.map_cons, List.map_nil]); first | done | rfl | (simp only [List.length_drop, List.length_take]; rfl)) ?_; (with_reducible refine (sennitref01_Open.calls _ _ ((rd_T36 l0 x5_2).f1) false _ ?side1 ?side2 A20.out).mono ?_); (case side1 => repeat (first | exact (Kd.C_below HR173_1.out HB.out) | (with_reducible refine Kd.C_alloc ?_ _) | (with_reducible refine Kd.C_drewN ?_ _) | (with_reducible refine Kd.C_drew ?_))); (case side2 => exact HC173_1.out); rintro e w' ⟨rfl, ⟨nd, rfl⟩⟩; refine ⟨_, rfl, ?_⟩))
           go_roundg k2
           case measure => have := HK1.out; have := HK2.out; omega
           case rel => exact ⟨(wrap64 (x5_2 + 1)), (by first | rfl | (simp; done) | (simp [*]; done)), H', ⟨by have := HK1.out; have := HK2.out; omega⟩, ⟨by repeat (first | (with_reducible first | exact HB.out | apply below_alloc | apply pw_below_drewN | apply below_drew1) | exact HB.out)⟩⟩
         ·rw [if_neg c19] at H
          exact absurd H (by simp)
        ·rw [if_neg c18] at H
         exact absurd H (by simp)
       ·rw [if_neg c17] at H
        have c17b0 : decide ((wrap64 (x5_2 + 1)) < (l0.length : Int)) = false := decide_eq_false c17
        clear c17
        obtain rfl := Option.some.inj H
        go_wp2
        go_ret
        exact ⟨by first | rfl | (simp [errW_none, errW_some] <;> rfl) | (simp [*, errW_none, errW_some] <;> rfl), by repeat (first | (with_reducible first | exact HB.out | apply below_alloc | apply pw_below_drewN | apply below_drew1) | exact HB.out)⟩
 ·replace c4 := Bool.eq_false_iff.mpr c4
  subst c4
  have H1 : (some false) = some r := by rw [if_neg (show ¬ (false = true) by decide)] at H; exact H
  clear H
  have H := H1
  clear H1
  obtain rfl := Option.some.inj H
  go_enter Tryz.func60, Tryz.ntmps60
  go_wp2_with (first | ((with_reducible refine gate_callee (f := 37) rfl ?_); refine goesL_ (some 8) rfl rfl Tryz.func37 (by kernel_rfl) rfl #[.slice A0 l0.length c0] rfl (by (try simp only [List.map_toArray, List.map_cons, List.map_nil]); first | done | rfl | (simp only [List.length_drop, List.length_take]; rfl)) ?_; (with_reducible refine (sennitref07_Normal.calls (fun k_ => k_ < w.heap.size) _ _ l0 t164 _ ?side1 A2.out).mono ?_); (case side1 => exact Kd.V_mk HC0.out (Kd.F_below (Kd.C_F k36_heap HR0.out) (by repeat (first | (with_reducible first | exact HB.out | apply below_alloc | apply pw_below_drewN | apply below_drew1) | exact HB.out)))); rintro e w22 ⟨v165, rfl, ho0, hb⟩; refine ⟨_, rfl, ?_⟩; have n0_ := Aside0.mk (Kd.N_lower (Kd.N_mono (ok' := fun k_ => True) ho0 (fun k_ hk_ => trivial)) (below_size (by repeat (first | (with_reducible first | exact HB.out | apply below_alloc | apply pw_below_drewN | apply below_drew1) | exact HB.out)))); have n1_ := Aside0.mk (below_step (by repeat (first | (with_reducible first | exact HB.out | apply below_alloc | apply pw_below_drewN | apply below_drew1) | exact HB.out)) hb); clear HB; have HO166 := n0_; have HB := n1_; clear n0_ n1_; (try clear hb); (try clear hb2); (try clear hk); (try clear hi); (try clear ho0); obtain ⟨Ao23, co23, eo23⟩ := Kd.N_slice HO166.out; subst eo23) | ((with_reducible refine gate_callee (f := 26) rfl ?_); refine goesL_ (some 9) rfl rfl Tryz.func26 (by kernel_rfl) rfl #[.slice A0 l0.length c0, .slice Ao23 t164.length co23] rfl (by (try simp only [List.map_toArray, List.map_cons, List.map_nil]); first | done | rfl | (simp only [List.length_drop, List.length_take]; rfl)) ?_; (with_reducible refine (sennitref07_Same.calls _ _ l0 _ _ t164 false _ ?side1 ?side2 ?side3 ?side4 A3.out).mono ?_); (case side1 => repeat (first | exact (Kd.C_below HR0.out HB.out) | (with_reducible refine Kd.C_alloc ?_ _) | (with_reducible refine Kd.C_drewN ?_ _) | (with_reducible refine Kd.C_drew ?_))); (case side2 => exact HC0.out); (case side3 => repeat (first | exact (Kd.N_reads' HO166.out).2.2 | (with_reducible refine Kd.C_alloc ?_ _) | (with_reducible refine Kd.C_drewN ?_ _) | (with_reducible refine Kd.C_drew ?_))); (case side4 => exact (Kd.N_reads' HO166.out).2.1); rintro e w24 ⟨rfl, hb⟩; refine ⟨_, rfl, ?_⟩; have n0_ := Aside0.mk (Kd.N_below (by (with_reducible repeat (first | apply Kd.N_alloc | apply Kd.N_drewN | apply Kd.N_drew)); exact HO166.out) hb); have n1_ := Aside0.mk (below_step (by repeat (first | (with_reducible first | exact HB.out | apply below_alloc | apply pw_below_drewN | apply below_drew1) | exact HB.out)) hb); clear HO166; clear HB; have HO166 := n0_; have HB := n1_; clear n0_ n1_; (try clear hb); (try clear hb2); (try clear hk); (try clear hi)))
  go_ret
  exact ⟨by first | rfl | (simp [errW_none, errW_some] <;> rfl) | (simp [*, errW_none, errW_some] <;> rfl), by repeat (first | (with_reducible first | exact HB.out | apply below_alloc | apply pw_below_drewN | apply below_drew1) | exact HB.out)⟩
/-! ### sennitref11_sign: function 38 -/
def sennitref11_sign.f (a0 : Int) : Option (Bool) := if a0 = 60 then (some true) else (if a0 = 124 then (some true) else (if a0 = 61 then (some true) else (some (a0 == 62))))
set_option maxHeartbeats 8000000 in
set_option maxRecDepth 100000 in
theorem sennitref11_sign.calls (a0 : Int) (r : Bool) (w : World) (h : sennitref11_sign.f a0 = some r) :
  Calls Tryz.prog 38 #[.int .u8 a0] w fun e w' => e = .returned (.bool r) ∧ Drawn0 w w' := by
 have H : (if a0 = 60 then (some true) else (if a0 = 124 then (some true) else (if a0 = 61 then (some true) else (some (a0 == 62))))) = some r := h
 clear h
 by_cases c2 : a0 = 60
 ·rw [if_pos c2] at H
  have c2b0 : (a0 == 60) = true := beq_iff_eq.mpr c2
  have c2b1 : (a0 != 60) = false := bne_eq_false_iff_eq.mpr c2
  clear c2
  obtain rfl := Option.some.inj H
  go_enter Tryz.func38, Tryz.ntmps38
  go_wp2
  go_ret
  exact ⟨by first | rfl | (simp; done) | (simp [*]; done), by repeat (first | exact Drawn0.refl _ | apply Drawn0.step)⟩
 ·rw [if_neg c2] at H
  have c2b0 : (a0 == 60) = false := beq_eq_false_iff_ne.mpr c2
  have c2b1 : (a0 != 60) = true := bne_iff_ne.mpr c2
  by_cases c3 : a0 = 124
  ·rw [if_pos c3] at H
   have c3b0 : (a0 == 124) = true := beq_iff_eq.mpr c3
   have c3b1 : (a0 != 124) = false := bne_eq_false_iff_eq.mpr c3
   clear c3
   obtain rfl := Option.some.inj H
   go_enter Tryz.func38, Tryz.ntmps38
   go_wp2
   go_ret
   exact ⟨by first | rfl | (simp; done) | (simp [*]; done), by repeat (first | exact Drawn0.refl _ | apply Drawn0.step)⟩
  ·rw [if_neg c3] at H
   have c3b0 : (a0 == 124) = false := beq_eq_false_iff_ne.mpr c3
   have c3b1 : (a0 != 124) = true := bne_iff_ne.mpr c3
   by_cases c4 : a0 = 61
   ·rw [if_pos c4] at H
    have c4b0 : (a0 == 61) = true := beq_iff_eq.mpr c4
    have c4b1 : (a0 != 61) = false := bne_eq_false_iff_eq.mpr c4
    clear c4
    obtain rfl := Option.some.inj H
    go_enter Tryz.func38, Tryz.ntmps38
    go_wp2
    go_ret
    exact ⟨by first | rfl | (simp; done) | (simp [*]; done), by repeat (first | exact Drawn0.refl _ | apply Drawn0.step)⟩
   ·rw [if_neg c4] at H
    have c4b0 : (a0 == 61) = false := beq_eq_false_iff_ne.mpr c4
    have c4b1 : (a0 != 61) = true := bne_iff_ne.mpr c4
    obtain rfl := Option.some.inj H
    go_enter Tryz.func38, Tryz.ntmps38
    go_wp2
    go_ret
    exact ⟨by first | rfl | (simp; done) | (simp [*]; done), by repeat (first | exact Drawn0.refl _ | apply Drawn0.step)⟩
end Go.Proofs.YtcnjbmdnnhbfkaaGreatDoor.XD
