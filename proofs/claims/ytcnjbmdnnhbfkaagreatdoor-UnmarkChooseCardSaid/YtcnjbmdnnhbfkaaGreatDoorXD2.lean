-- Printed by this session's xprint.sh (a patched copy of the kit's print program). Not trusted: Lean checks it.
import Derived.Test.YtcnjbmdnnhbfkaaGreatDoorXD0
import Derived.Test.YtcnjbmdnnhbfkaaGreatDoorXD1
namespace Go.Proofs.YtcnjbmdnnhbfkaaGreatDoor.XD
open Go.RowKit Go.Proofs.YtcnjbmdnnhbfkaaGreatDoorW.PrintWords Go.Proofs.YtcnjbmdnnhbfkaaGreatDoorW.PrintLast Go.Proofs.YtcnjbmdnnhbfkaaGreatDoorW.PrintMore
attribute [local go_sem] max2_int min2_int max_two min_two max_three min_three max_four min_four   -- for this text's walks alone
set_option linter.unusedVariables false
set_option linter.unusedSimpArgs false
/-! ### sennitref07_Few: function 11 -/
mutual
def sennitref07_Few.l0 : Nat → List (S36) → Int → Option (Bool)
 | 0, _, _ => none
 | k + 1, x0, x3 => if x3 < (x0.length : Int) then (sennitref07_Few.j1 k x0 x3 (decide (x3 < 13))) else (sennitref07_Few.j1 k x0 x3 false)
def sennitref07_Few.j1 : Nat → List (S36) → Int → Bool → Option (Bool)
 | 0, _, _, _ => none
 | k + 1, x0, x3, x11 => if x11 = true then (if 0 ≤ x3 then (if x3 < (x0.length : Int) then ((sennitref01_Few.f k ((rd_T36 x0 x3).f1) 20).bind fun t141 => (if t141 = true then ((sennitref06_Few.f k ((rd_T36 x0 x3).f2) ((rd_T36 x0 x3).f3)).bind fun t144 => (sennitref07_Few.j2 k x0 x3 (!t144))) else (sennitref07_Few.j2 k x0 x3 true))) else (none)) else (none)) else (some (decide ((x0.length : Int) ≤ 12)))
def sennitref07_Few.j2 : Nat → List (S36) → Int → Bool → Option (Bool)
 | 0, _, _, _ => none
 | k + 1, x0, x3, x34 => if x34 = true then (some false) else (sennitref07_Few.l0 k x0 (wrap64 (x3 + 1)))
end
def sennitref07_Few.f (k : Nat) (l0 : List (S36)) : Option (Bool) := sennitref07_Few.l0 k l0 0
set_option maxHeartbeats 8000000 in
set_option maxRecDepth 100000 in
theorem sennitref07_Few.calls (k : Nat) (A0 : Option Addr) (c0 : Nat) (l0 : List (S36)) (r : Bool) (w : World) (hr0 : Kd.C k36 w A0 l0.length l0) (hc0 : l0.length ≤ c0) (h : sennitref07_Few.f k l0 = some r) :
  Calls Tryz.prog 11 #[.slice A0 l0.length c0] w fun e w' => e = .returned (.bool r) ∧ Drawn0 w w' := by
 have HR0 := Aside0.mk hr0
 have HC0 := Aside0.mk hc0
 clear hr0 hc0
 have H : (sennitref07_Few.l0 k l0 0) = some r := h
 clear h
 have H' := Aside0.mk H
 clear H
 go_enter Tryz.func11, Tryz.ntmps11
 go_wp2
 repeat (go_quiet (fail); try go_wp2)
 go_loopg [3] k (fun kq v3 w' => ∃ (x3_1 : Int), v3 = .int .i64 x3_1 ∧ Aside0 (sennitref07_Few.l0 kq l0 x3_1 = some r) ∧ Aside0 (kq ≤ k) ∧ Drawn0 w w')
 case atStart => exact ⟨(0), (by first | rfl | (simp; done) | (simp [*]; done)), H', ⟨Nat.le_refl _⟩, by repeat (first | exact Drawn0.refl _ | apply Drawn0.step)⟩
 case round =>
  clear H'
  try clear c1
  obtain ⟨x3_1, rfl, HA, HK1, ⟨m1, rfl⟩⟩ := hrel
  cases gk with
  | zero => exact absurd HA.out (by simp [sennitref07_Few.l0])
  | succ k1 =>
   have H := HA.out
   clear HA
   simp only [sennitref07_Few.l0] at H
   have HC2 := Aside0.mk H
   clear H
   go_upto_region 2 with (fail)
   repeat (go_quiet (fail); go_upto_region 2 with (fail))
   go_cut [11] (fun v11 wc => ∃ (kq : Nat) (x11_1 : Bool), v11 = .bool x11_1 ∧ Aside0 (sennitref07_Few.j1 kq l0 x3_1 x11_1 = some r) ∧ Aside0 (kq ≤ k1) ∧ Drawn0 w wc)
   case first =>
    have H := HC2.out
    clear HC2
    by_cases c3 : x3_1 < (l0.length : Int)
    ·rw [if_pos c3] at H
     have c3b0 : decide (x3_1 < (l0.length : Int)) = true := decide_eq_true c3
     clear c3
     (first | rw [c3b0] | (simp only [i64_w, i32_w]; rw [c3b0]) | skip)
     have H' := Aside0.mk H
     clear H
     go_wp2
     repeat (go_quiet (fail); try go_wp2)
     go_meet
     case rel => exact ⟨_, (decide (x3_1 < 13)), (by first | rfl | (simp; done) | (simp [*]; done)), H', ⟨by have := HK1.out; first | omega | exact Nat.le_refl _⟩, by repeat (first | exact Drawn0.refl _ | apply Drawn0.step)⟩
    ·rw [if_neg c3] at H
     have c3b0 : decide (x3_1 < (l0.length : Int)) = false := decide_eq_false c3
     clear c3
     (first | rw [c3b0] | (simp only [i64_w, i32_w]; rw [c3b0]) | skip)
     have H' := Aside0.mk H
     clear H
     go_wp2
     repeat (go_quiet (fail); try go_wp2)
     go_meet
     case rel => exact ⟨_, (false), (by first | rfl | (simp; done) | (simp [*]; done)), H', ⟨by have := HK1.out; first | omega | exact Nat.le_refl _⟩, by repeat (first | exact Drawn0.refl _ | apply Drawn0.step)⟩
   case rest =>
    clear HC2
    try clear c1
    try clear p2
    try clear c3
    try clear c3b0
    obtain ⟨kq, x11_1, rfl, HA, HJ1, ⟨mc1, rfl⟩⟩ := hcut
    cases kq with
    | zero => exact absurd HA.out (by simp [sennitref07_Few.j1])
    | succ kj1 =>
     have H := HA.out
     clear HA
     simp only [sennitref07_Few.j1] at H
     by_cases c4 : x11_1 = true
     ·subst c4
      have H1 : (if 0 ≤ x3_1 then (if x3_1 < (l0.length : Int) then ((sennitref01_Few.f kj1 ((rd_T36 l0 x3_1).f1) 20).bind fun t141 => (if t141 = true then ((sennitref06_Few.f kj1 ((rd_T36 l0 x3_1).f2) ((rd_T36 l0 x3_1).f3)).bind fun t144 => (sennitref07_Few.j2 kj1 l0 x3_1 (!t144))) else (sennitref07_Few.j2 kj1 l0 x3_1 true))) else (none)) else (none)) = some r := by rw [if_pos rfl] at H; exact H
      clear H
      have H := H1
      clear H1
      have HC5 := Aside0.mk H
      clear H
      go_upto_region 4 with (fail)
      repeat (go_quiet (fail); go_upto_region 4 with (fail))
      go_cut [34] (fun v34 wc => ∃ (kq : Nat) (x34_4 : Bool), v34 = .bool x34_4 ∧ Aside0 (sennitref07_Few.j2 kq l0 x3_1 x34_4 = some r) ∧ Aside0 (kq ≤ kj1) ∧ Drawn0 w wc)
      case first =>
       have H := HC5.out
       clear HC5
       by_cases c6 : 0 ≤ x3_1
       ·rw [if_pos c6] at H
        have c6b0 : decide (0 ≤ x3_1) = true := decide_eq_true c6
        clear c6
        (first | rw [c6b0] | (simp only [i64_w, i32_w]; rw [c6b0]) | skip)
        by_cases c7 : x3_1 < (l0.length : Int)
        ·rw [if_pos c7] at H
         have c7b0 : decide (x3_1 < (l0.length : Int)) = true := decide_eq_true c7
         clear c7
         replace H := Option.bind_eq_some_iff.mp H
         obtain ⟨t141, A80, H⟩ := H
         replace H : (if t141 = true then ((sennitref06_Few.f kj1 ((rd_T36 l0 x3_1).f2) ((rd_T36 l0 x3_1).f3)).bind fun t144 => (sennitref07_Few.j2 kj1 l0 x3_1 (!t144))) else (sennitref07_Few.j2 kj1 l0 x3_1 true)) = some r := H
         have A8 := Aside0.mk A80
         clear A80
         by_cases c9 : t141 = true
         ·subst c9
          have H1 : ((sennitref06_Few.f kj1 ((rd_T36 l0 x3_1).f2) ((rd_T36 l0 x3_1).f3)).bind fun t144 => (sennitref07_Few.j2 kj1 l0 x3_1 (!t144))) = some r := by rw [if_pos rfl] at H; exact H
          clear H
          have H := H1
          clear H1
          replace H := Option.bind_eq_some_iff.mp H
          obtain ⟨t144, A100, H⟩ := H
          replace H : (sennitref07_Few.j2 kj1 l0 x3_1 (!t144)) = some r := H
          have A10 := Aside0.mk A100
          clear A100
          have H' := Aside0.mk H
          clear H
          have p140 : 0 ≤ (x3_1 : Int) := of_decide_eq_true (by first | (with_reducible assumption) | assumption)
          have q140 : x3_1 < (l0.length : Int) := of_decide_eq_true (by first | (with_reducible assumption) | assumption)
          obtain ⟨ad140, A140_1, c140_1, A140_2, c140_2, A140_3, c140_3, e140, hx140_0, hx140_1, hx140_2, hx140_3, hl140_1, hi140_1, hl140_2, hi140_2, hl140_3, hi140_3⟩ := at_T36 HR0.out x3_1 p140 q140
          cases e140
          have HR140_1 := Aside0.mk hi140_1
          have HC140_1 := Aside0.mk hl140_1
          clear hi140_1 hl140_1
          have HR140_2 := Aside0.mk hi140_2
          have HC140_2 := Aside0.mk hl140_2
          clear hi140_2 hl140_2
          have HR140_3 := Aside0.mk hi140_3
          have HC140_3 := Aside0.mk hl140_3
          clear hi140_3 hl140_3
          replace p140 := eq_true p140
          replace q140 := eq_true q140
          go_wp2_with (first | (go_at_call 29; (with_reducible refine (sennitref01_Few.calls kj1 _ _ ((rd_T36 l0 x3_1).f1) 20 true _ ?side1 ?side2 A8.out).mono ?_); (case side1 => repeat (first | exact HR140_1.out | (with_reducible refine Kd.C_alloc ?_ _) | (with_reducible refine Kd.C_drewN ?_ _) | (with_reducible refine Kd.C_drew ?_))); (case side2 => exact HC140_1.out); rintro e w' ⟨rfl, ⟨nd, rfl⟩⟩; (try first | exact ⟨rfl, _, World.drewN_drewN _ _ _⟩ | exact ⟨rfl, _, Eq.trans (World.drewN_drewN _ _ _) (congrArg (World.drewN _) (Nat.add_assoc _ _ _))⟩); have p142 : 0 ≤ (x3_1 : Int) := of_decide_eq_true (by first | (with_reducible assumption) | assumption); have q142 : x3_1 < (l0.length : Int) := of_decide_eq_true (by first | (with_reducible assumption) | assumption); obtain ⟨ad142, A142_1, c142_1, A142_2, c142_2, A142_3, c142_3, e142, hx142_0, hx142_1, hx142_2, hx142_3, hl142_1, hi142_1, hl142_2, hi142_2, hl142_3, hi142_3⟩ := at_T36 HR0.out x3_1 p142 q142; obtain rfl : ad140 = ad142 := (by injection e142); have HR142_1 := Aside0.mk hi142_1; have HC142_1 := Aside0.mk hl142_1; clear hi142_1 hl142_1; have HR142_2 := Aside0.mk hi142_2; have HC142_2 := Aside0.mk hl142_2; clear hi142_2 hl142_2; have HR142_3 := Aside0.mk hi142_3; have HC142_3 := Aside0.mk hl142_3; clear hi142_3 hl142_3; replace p142 := eq_true p142; replace q142 := eq_true q142; have ea_ := Option.some.inj (hx140_1.symm.trans hx142_1); injection ea_ with ea_ en_ ec_; subst ea_; subst ec_; clear en_; have ea_ := Option.some.inj (hx140_2.symm.trans hx142_2); injection ea_ with ea_ en_ ec_; subst ea_; subst ec_; clear en_; have ea_ := Option.some.inj (hx140_3.symm.trans hx142_3); injection ea_ with ea_ en_ ec_; subst ea_; subst ec_; clear en_; have p143 : 0 ≤ (x3_1 : Int) := of_decide_eq_true (by first | (with_reducible assumption) | assumption); have q143 : x3_1 < (l0.length : Int) := of_decide_eq_true (by first | (with_reducible assumption) | assumption); obtain ⟨ad143, A143_1, c143_1, A143_2, c143_2, A143_3, c143_3, e143, hx143_0, hx143_1, hx143_2, hx143_3, hl143_1, hi143_1, hl143_2, hi143_2, hl143_3, hi143_3⟩ := at_T36 HR0.out x3_1 p143 q143; obtain rfl : ad140 = ad143 := (by injection e143); have HR143_1 := Aside0.mk hi143_1; have HC143_1 := Aside0.mk hl143_1; clear hi143_1 hl143_1; have HR143_2 := Aside0.mk hi143_2; have HC143_2 := Aside0.mk hl143_2; clear hi143_2 hl143_2; have HR143_3 := Aside0.mk hi143_3; have HC143_3 := Aside0.mk hl143_3; clear hi143_3 hl143_3; replace p143 := eq_true p143; replace q143 := eq_true q143; have ea_ := Option.some.inj (hx140_1.symm.trans hx143_1); injection ea_ with ea_ en_ ec_; subst ea_; subst ec_; clear en_; have ea_ := Option.some.inj (hx140_2.symm.trans hx143_2); injection ea_ with ea_ en_ ec_; subst ea_; subst ec_; clear en_; have ea_ := Option.some.inj (hx140_3.symm.trans hx143_3); injection ea_ with ea_ en_ ec_; subst ea_; subst ec_; clear en_) | (go_at_call 30; (with_reducible refine (sennitref06_Few.calls kj1 _ _ ((rd_T36 l0 x3_1).f2) _ _ ((rd_T36 l0 x3_1).f3) t144 _ ?side1 ?side2 ?side3 ?side4 A10.out).mono ?_); (case side1 => repeat (first | exact HR142_2.out | (with_reducible refine Kd.C_alloc ?_ _) | (with_reducible refine Kd.C_drewN ?_ _) | (with_reducible refine Kd.C_drew ?_))); (case side2 => exact HC142_2.out); (case side3 => repeat (first | exact HR143_3.out | (with_reducible refine Kd.C_alloc ?_ _) | (with_reducible refine Kd.C_drewN ?_ _) | (with_reducible refine Kd.C_drew ?_))); (case side4 => exact HC143_3.out); rintro e w' ⟨rfl, ⟨nd, rfl⟩⟩; (try first | exact ⟨rfl, _, World.drewN_drewN _ _ _⟩ | exact ⟨rfl, _, Eq.trans (World.drewN_drewN _ _ _) (congrArg (World.drewN _) (Nat.add_assoc _ _ _))⟩)))
          repeat (go_quiet (first | (go_at_call 29; (with_reducible refine (sennitref01_Few.calls kj1 _ _ ((rd_T36 l0 x3_1).f1) 20 true _ ?side1 ?side2 A8.out).mono ?_); (case side1 => repeat (first | exact HR140_1.out | (with_reducible refine Kd.C_alloc ?_ _) | (with_reducible refine Kd.C_drewN ?_ _) | (with_reducible refine Kd.C_drew ?_))); (case side2 => exact HC140_1.out); rintro e w' ⟨rfl, ⟨nd, rfl⟩⟩; (try first | exact ⟨rfl, _, World.drewN_drewN _ _ _⟩ | exact ⟨rfl, _, Eq.trans (World.drewN_drewN _ _ _) (congrArg (World.drewN _) (Nat.add_assoc _ _ _))⟩); have p142 : 0 ≤ (x3_1 : Int) := of_decide_eq_true (by first | (with_reducible assumption) | assumption); have q142 : x3_1 < (l0.length : Int) := of_decide_eq_true (by first | (with_reducible assumption) | assumption); obtain ⟨ad142, A142_1, c142_1, A142_2, c142_2, A142_3, c142_3, e142, hx142_0, hx142_1, hx142_2, hx142_3, hl142_1, hi142_1, hl142_2, hi142_2, hl142_3, hi142_3⟩ := at_T36 HR0.out x3_1 p142 q142; obtain rfl : ad140 = ad142 := (by injection e142); have HR142_1 := Aside0.mk hi142_1; have HC142_1 := Aside0.mk hl142_1; clear hi142_1 hl142_1; have HR142_2 := Aside0.mk hi142_2; have HC142_2 := Aside0.mk hl142_2; clear hi142_2 hl142_2; have HR142_3 := Aside0.mk hi142_3; have HC142_3 := Aside0.mk hl142_3; clear hi142_3 hl142_3; replace p142 := eq_true p142; replace q142 := eq_true q142; have ea_ := Option.some.inj (hx140_1.symm.trans hx142_1); injection ea_ with ea_ en_ ec_; subst ea_; subst ec_; clear en_; have ea_ := Option.some.inj (hx140_2.symm.trans hx142_2); injection ea_ with ea_ en_ ec_; subst ea_; subst ec_; clear en_; have ea_ := Option.some.inj (hx140_3.symm.trans hx142_3); injection ea_ with ea_ en_ ec_; subst ea_; subst ec_; clear en_; have p143 : 0 ≤ (x3_1 : Int) := of_decide_eq_true (by first | (with_reducible assumption) | assumption); have q143 : x3_1 < (l0.length : Int) := of_decide_eq_true (by first | (with_reducible assumption) | assumption); obtain ⟨ad143, A143_1, c143_1, A143_2, c143_2, A143_3, c143_3, e143, hx143_0, hx143_1, hx143_2, hx143_3, hl143_1, hi143_1, hl143_2, hi143_2, hl143_3, hi143_3⟩ := at_T36 HR0.out x3_1 p143 q143; obtain rfl : ad140 = ad143 := (by injection e143); have HR143_1 := Aside0.mk hi143_1; have HC143_1 := Aside0.mk hl143_1; clear hi143_1 hl143_1; have HR143_2 := Aside0.mk hi143_2; have HC143_2 := Aside0.mk hl143_2; clear hi143_2 hl143_2; have HR143_3 := Aside0.mk hi143_3; have HC143_3 := Aside0.mk hl143_3; clear hi143_3 hl143_3; replace p143 := eq_true p143; replace q143 := eq_true q143; have ea_ := Option.some.inj (hx140_1.symm.trans hx143_1); injection ea_ with ea_ en_ ec_; subst ea_; subst ec_; clear en_; have ea_ := Option.some.inj (hx140_2.symm.trans hx143_2); injection ea_ with ea_ en_ ec_; subst ea_; subst ec_; clear en_; have ea_ := Option.some.inj (hx140_3.symm.trans hx143_3); injection ea_ with ea_ en_ ec_; subst ea_; subst ec_; clear en_) | (go_at_call 30; (with_reducible refine (sennitref06_Few.calls kj1 _ _ ((rd_T36 l0 x3_1).f2) _ _ ((rd_T36 l0 x3_1).f3) t144 _ ?side1 ?side2 ?side3 ?side4 A10.out).mono ?_); (case side1 => repeat (first | exact HR142_2.out | (with_reducible refine Kd.C_alloc ?_ _) | (with_reducible refine Kd.C_drewN ?_ _) | (with_reducible refine Kd.C_drew ?_))); (case side2 => exact HC142_2.out); (case side3 => repeat (first | exact HR143_3.out | (with_reducible refine Kd.C_alloc ?_ _) | (with_reducible refine Kd.C_drewN ?_ _) | (with_reducible refine Kd.C_drew ?_))); (case side4 => exact HC143_3.out); rintro e w' ⟨rfl, ⟨nd, rfl⟩⟩; (try first | exact ⟨rfl, _, World.drewN_drewN _ _ _⟩ | exact ⟨rfl, _, Eq.trans (World.drewN_drewN _ _ _) (congrArg (World.drewN _) (Nat.add_assoc _ _ _))⟩))); try go_wp2_with (first | (go_at_call 29; (with_reducible refine (sennitref01_Few.calls kj1 _ _ ((rd_T36 l0 x3_1).f1) 20 true _ ?side1 ?side2 A8.out).mono ?_); (case side1 => repeat (first | exact HR140_1.out | (with_reducible refine Kd.C_alloc ?_ _) | (with_reducible refine Kd.C_drewN ?_ _) | (with_reducible refine Kd.C_drew ?_))); (case side2 => exact HC140_1.out); rintro e w' ⟨rfl, ⟨nd, rfl⟩⟩; (try first | exact ⟨rfl, _, World.drewN_drewN _ _ _⟩ | exact ⟨rfl, _, Eq.trans (World.drewN_drewN _ _ _) (congrArg (World.drewN _) (Nat.add_assoc _ _ _))⟩); have p142 : 0 ≤ (x3_1 : Int) := of_decide_eq_true (by first | (with_reducible assumption) | assumption); have q142 : x3_1 < (l0.length : Int) := of_decide_eq_true (by first | (with_reducible assumption) | assumption); obtain ⟨ad142, A142_1, c142_1, A142_2, c142_2, A142_3, c142_3, e142, hx142_0, hx142_1, hx142_2, hx142_3, hl142_1, hi142_1, hl142_2, hi142_2, hl142_3, hi142_3⟩ := at_T36 HR0.out x3_1 p142 q142; obtain rfl : ad140 = ad142 := (by injection e142); have HR142_1 := Aside0.mk hi142_1; have HC142_1 := Aside0.mk hl142_1; clear hi142_1 hl142_1; have HR142_2 := Aside0.mk hi142_2; have HC142_2 := Aside0.mk hl142_2; clear hi142_2 hl142_2; have HR142_3 := Aside0.mk hi142_3; have HC142_3 := Aside0.mk hl142_3; clear hi142_3 hl142_3; replace p142 := eq_true p142; replace q142 := eq_true q142; have ea_ := Option.some.inj (hx140_1.symm.trans hx142_1); injection ea_ with ea_ en_ ec_; subst ea_; subst ec_; clear en_; have ea_ := Option.some.inj (hx140_2.symm.trans hx142_2); injection ea_ with ea_ en_ ec_; subst ea_; subst ec_; clear en_; have ea_ := Option.some.inj (hx140_3.symm.trans hx142_3); injection ea_ with ea_ en_ ec_; subst ea_; subst ec_; clear en_; have p143 : 0 ≤ (x3_1 : Int) := of_decide_eq_true (by first | (with_reducible assumption) | assumption); have q143 : x3_1 < (l0.length : Int) := of_decide_eq_true (by first | (with_reducible assumption) | assumption); obtain ⟨ad143, A143_1, c143_1, A143_2, c143_2, A143_3, c143_3, e143, hx143_0, hx143_1, hx143_2, hx143_3, hl143_1, hi143_1, hl143_2, hi143_2, hl143_3, hi143_3⟩ := at_T36 HR0.out x3_1 p143 q143; obtain rfl : ad140 = ad143 := (by injection e143); have HR143_1 := Aside0.mk hi143_1; have HC143_1 := Aside0.mk hl143_1; clear hi143_1 hl143_1; have HR143_2 := Aside0.mk hi143_2; have HC143_2 := Aside0.mk hl143_2; clear hi143_2 hl143_2; have HR143_3 := Aside0.mk hi143_3; have HC143_3 := Aside0.mk hl143_3; clear hi143_3 hl143_3; replace p143 := eq_true p143; replace q143 := eq_true q143; have ea_ := Option.some.inj (hx140_1.symm.trans hx143_1); injection ea_ with ea_ en_ ec_; subst ea_; subst ec_; clear en_; have ea_ := Option.some.inj (hx140_2.symm.trans hx143_2); injection ea_ with ea_ en_ ec_; subst ea_; subst ec_; clear en_; have ea_ := Option.some.inj (hx140_3.symm.trans hx143_3); injection ea_ with ea_ en_ ec_; subst ea_; subst ec_; clear en_) | (go_at_call 30; (with_reducible refine (sennitref06_Few.calls kj1 _ _ ((rd_T36 l0 x3_1).f2) _ _ ((rd_T36 l0 x3_1).f3) t144 _ ?side1 ?side2 ?side3 ?side4 A10.out).mono ?_); (case side1 => repeat (first | exact HR142_2.out | (with_reducible refine Kd.C_alloc ?_ _) | (with_reducible refine Kd.C_drewN ?_ _) | (with_reducible refine Kd.C_drew ?_))); (case side2 => exact HC142_2.out); (case side3 => repeat (first | exact HR143_3.out | (with_reducible refine Kd.C_alloc ?_ _) | (with_reducible refine Kd.C_drewN ?_ _) | (with_reducible refine Kd.C_drew ?_))); (case side4 => exact HC143_3.out); rintro e w' ⟨rfl, ⟨nd, rfl⟩⟩; (try first | exact ⟨rfl, _, World.drewN_drewN _ _ _⟩ | exact ⟨rfl, _, Eq.trans (World.drewN_drewN _ _ _) (congrArg (World.drewN _) (Nat.add_assoc _ _ _))⟩))))
          go_meet
          case rel => exact ⟨_, (!t144), (by first | rfl | (simp; done) | (simp [*]; done)), H', ⟨by have := HK1.out; have := HJ1.out; first | omega | exact Nat.le_refl _⟩, by repeat (first | exact Drawn0.refl _ | apply Drawn0.step)⟩
         ·replace c9 := Bool.eq_false_iff.mpr c9
          subst c9
          have H1 : (sennitref07_Few.j2 kj1 l0 x3_1 true) = some r := by rw [if_neg (show ¬ (false = true) by decide)] at H; exact H
          clear H
          have H := H1
          clear H1
          have H' := Aside0.mk H
          clear H
          have p140 : 0 ≤ (x3_1 : Int) := of_decide_eq_true (by first | (with_reducible assumption) | assumption)
          have q140 : x3_1 < (l0.length : Int) := of_decide_eq_true (by first | (with_reducible assumption) | assumption)
          obtain ⟨ad140, A140_1, c140_1, A140_2, c140_2, A140_3, c140_3, e140, hx140_0, hx140_1, hx140_2, hx140_3, hl140_1, hi140_1, hl140_2, hi140_2, hl140_3, hi140_3⟩ := at_T36 HR0.out x3_1 p140 q140
          cases e140
          have HR140_1 := Aside0.mk hi140_1
          have HC140_1 := Aside0.mk hl140_1
          clear hi140_1 hl140_1
          have HR140_2 := Aside0.mk hi140_2
          have HC140_2 := Aside0.mk hl140_2
          clear hi140_2 hl140_2
          have HR140_3 := Aside0.mk hi140_3
          have HC140_3 := Aside0.mk hl140_3
          clear hi140_3 hl140_3
          replace p140 := eq_true p140
          replace q140 := eq_true q140
          go_wp2_with (first | (go_at_call 29; (with_reducible refine (sennitref01_Few.calls kj1 _ _ ((rd_T36 l0 x3_1).f1) 20 false _ ?side1 ?side2 A8.out).mono ?_); (case side1 => repeat (first | exact HR140_1.out | (with_reducible refine Kd.C_alloc ?_ _) | (with_reducible refine Kd.C_drewN ?_ _) | (with_reducible refine Kd.C_drew ?_))); (case side2 => exact HC140_1.out); rintro e w' ⟨rfl, ⟨nd, rfl⟩⟩; (try first | exact ⟨rfl, _, World.drewN_drewN _ _ _⟩ | exact ⟨rfl, _, Eq.trans (World.drewN_drewN _ _ _) (congrArg (World.drewN _) (Nat.add_assoc _ _ _))⟩)))
          repeat (go_quiet (first | (go_at_call 29; (with_reducible refine (sennitref01_Few.calls kj1 _ _ ((rd_T36 l0 x3_1).f1) 20 false _ ?side1 ?side2 A8.out).mono ?_); (case side1 => repeat (first | exact HR140_1.out | (with_reducible refine Kd.C_alloc ?_ _) | (with_reducible refine Kd.C_drewN ?_ _) | (with_reducible refine Kd.C_drew ?_))); (case side2 => exact HC140_1.out); rintro e w' ⟨rfl, ⟨nd, rfl⟩⟩; (try first | exact ⟨rfl, _, World.drewN_drewN _ _ _⟩ | exact ⟨rfl, _, Eq.trans (World.drewN_drewN _ _ _) (congrArg (World.drewN _) (Nat.add_assoc _ _ _))⟩))); try go_wp2_with (first | (go_at_call 29; (with_reducible refine (sennitref01_Few.calls kj1 _ _ ((rd_T36 l0 x3_1).f1) 20 false _ ?side1 ?side2 A8.out).mono ?_); (case side1 => repeat (first | exact HR140_1.out | (with_reducible refine Kd.C_alloc ?_ _) | (with_reducible refine Kd.C_drewN ?_ _) | (with_reducible refine Kd.C_drew ?_))); (case side2 => exact HC140_1.out); rintro e w' ⟨rfl, ⟨nd, rfl⟩⟩; (try first | exact ⟨rfl, _, World.drewN_drewN _ _ _⟩ | exact ⟨rfl, _, Eq.trans (World.drewN_drewN _ _ _) (congrArg (World.drewN _) (Nat.add_assoc _ _ _))⟩))))
          go_meet
          case rel => exact ⟨_, (true), (by first | rfl | (simp; done) | (simp [*]; done)), H', ⟨by have := HK1.out; have := HJ1.out; first | omega | exact Nat.le_refl _⟩, by repeat (first | exact Drawn0.refl _ | apply Drawn0.step)⟩
        ·rw [if_neg c7] at H
         exact absurd H (by simp)
       ·rw [if_neg c6] at H
        exact absurd H (by simp)
      case rest =>
       clear HC5
       try clear c1
       try clear p1
       try clear q1
       try clear hx1
       try clear p2
       try clear c3
       try clear c3b0
       try clear c4
       try clear c6
       try clear c6b0
       try clear c7
       try clear c7b0
       try clear c9
       try clear hx140_0
       try clear hx140_1
       try clear hx140_2
       try clear hx140_3
       try clear hx142_0
       try clear hx142_1
       try clear hx142_2
       try clear hx142_3
       try clear hx143_0
       try clear hx143_1
       try clear hx143_2
       try clear hx143_3
       try clear p140
       try clear p142
       try clear p143
       try clear p2
       try clear q140
       try clear q142
       try clear q143
       obtain ⟨kq, x34_4, rfl, HA, HJ4, ⟨mc4, rfl⟩⟩ := hcut
       cases kq with
       | zero => exact absurd HA.out (by simp [sennitref07_Few.j2])
       | succ kj4 =>
        have H := HA.out
        clear HA
        simp only [sennitref07_Few.j2] at H
        by_cases c11 : x34_4 = true
        ·subst c11
         have H1 : (some false) = some r := by rw [if_pos rfl] at H; exact H
         clear H
         have H := H1
         clear H1
         obtain rfl := Option.some.inj H
         go_wp2
         repeat (go_quiet (fail); try go_wp2)
         go_ret
         exact ⟨by first | rfl | (simp; done) | (simp [*]; done), by repeat (first | exact Drawn0.refl _ | apply Drawn0.step)⟩
        ·replace c11 := Bool.eq_false_iff.mpr c11
         subst c11
         have H1 : (sennitref07_Few.l0 kj4 l0 (wrap64 (x3_1 + 1))) = some r := by rw [if_neg (show ¬ (false = true) by decide)] at H; exact H
         clear H
         have H := H1
         clear H1
         have H' := Aside0.mk H
         clear H
         go_wp2
         repeat (go_quiet (fail); try go_wp2)
         go_roundg kj4
         case measure => have := HK1.out; have := HJ1.out; have := HJ4.out; omega
         case rel => exact ⟨(wrap64 (x3_1 + 1)), (by first | rfl | (simp; done) | (simp [*]; done)), H', ⟨by have := HK1.out; have := HJ1.out; have := HJ4.out; omega⟩, by repeat (first | exact Drawn0.refl _ | apply Drawn0.step)⟩
     ·replace c4 := Bool.eq_false_iff.mpr c4
      subst c4
      have H1 : (some (decide ((l0.length : Int) ≤ 12))) = some r := by rw [if_neg (show ¬ (false = true) by decide)] at H; exact H
      clear H
      have H := H1
      clear H1
      obtain rfl := Option.some.inj H
      go_wp2
      repeat (go_quiet (fail); try go_wp2)
      go_ret
      exact ⟨by first | rfl | (simp; done) | (simp [*]; done), by repeat (first | exact Drawn0.refl _ | apply Drawn0.step)⟩
-- function 16 (sennitref10_Zeal): its contract is proved by hand
/-! ### sennitref12_Lists: function 22 -/
def sennitref12_Lists.l0 : Nat → List (S36) → List (List ByteArray) → Int → Option ((List (List ByteArray)))
 | 0, _, _, _ => none
 | k + 1, x0, x3, x4 => if x4 < (x0.length : Int) then (if 0 ≤ x4 then (if x3.length < 5864062014805 then ((some (x3 ++ [(rd_T36 x0 x4).f1] : List (List ByteArray))).bind fun y146 => (if y146.length < 5864062014805 then ((some (y146 ++ [(rd_T36 x0 x4).f2] : List (List ByteArray))).bind fun y150 => (if y150.length + ((rd_T36 x0 x4).f3).length < 5864062014805 then (sennitref12_Lists.l0 k x0 (y150 ++ ((rd_T36 x0 x4).f3)) (wrap64 (x4 + 1))) else (none))) else (none))) else (none)) else (none)) else (some x3)
def sennitref12_Lists.f (k : Nat) (l0 : List (S36)) : Option ((List (List ByteArray))) := sennitref12_Lists.l0 k l0 ([] : List (List ByteArray)) 0
set_option maxHeartbeats 8000000 in
set_option maxRecDepth 100000 in
theorem sennitref12_Lists.calls (k : Nat) (P0_ : Nat → Prop) (A0 : Option Addr) (c0 : Nat) (l0 : List (S36)) (r : List (List ByteArray)) (w : World) (hs0 : Kd.V k36 36 w w.heap.size (fun k_ => P0_ k_) (.slice A0 l0.length c0) l0) (h : sennitref12_Lists.f k l0 = some r) :
  Calls Tryz.prog 22 #[.slice A0 l0.length c0] w fun e w' => ∃ v0_ : Value, e = .returned (v0_) ∧ Kd.N (Kd.slice 9 Kd.string) 25 w' w.heap.size (fun k_ => (P0_ k_ ∨ w.heap.size ≤ k_)) v0_ r ∧ Below w.heap.size w w' := by
 have HO0 := Aside0.mk (show Kd.V k36 36 w w.heap.size (fun k_ => (P0_ k_ ∨ w.heap.size ≤ k_)) (.slice A0 l0.length c0) l0 from Kd.V_mono hs0 (fun k_ hk => .inl hk))
 have HB := Aside0.mk (Below.refl w.heap.size w)
 have H : (sennitref12_Lists.l0 k l0 ([] : List (List ByteArray)) 0) = some r := h
 clear h
 have H' := Aside0.mk H
 clear H
 go_enter Tryz.func22, Tryz.ntmps22
 go_wp2
 go_loopg [3, 4] k (fun kq v3 v4 w' => ∃ (x3_1 : List (List ByteArray)) (x4_1 : Int), v4 = .int .i64 x4_1 ∧ Aside0 (sennitref12_Lists.l0 kq l0 x3_1 x4_1 = some r) ∧ Aside0 (kq ≤ k) ∧ Aside0 (Kd.V k36 36 w' w.heap.size (fun k_ => (P0_ k_ ∨ w.heap.size ≤ k_) ∧ some k_ ≠ (v3 : Value).ownBlock) (.slice A0 l0.length c0) l0) ∧ Aside0 (Kd.N (Kd.slice 9 Kd.string) 25 w' w.heap.size (fun k_ => (P0_ k_ ∨ w.heap.size ≤ k_)) v3 x3_1) ∧ Aside0 (Below w.heap.size w w'))
 case atStart => exact ⟨(([] : List (List ByteArray))), (0), (by first | rfl | (simp; done) | (simp [*]; done)), H', ⟨Nat.le_refl _⟩, ⟨by (with_reducible repeat (first | apply Kd.V_alloc | apply Kd.V_drewN | apply Kd.V_drew)); exact Kd.V_mono HO0.out (fun _ hk => ⟨hk, (by simp [Value.ownBlock])⟩)⟩, ⟨by first | exact Kd.S_nil _ _ _ _ _ | exact Kd.N_nil _ _ _ _ _ | exact Kd.V_nil _ _ _ _ _ | exact Kd.Q_nil _ _ _ _ _ | exact Kd.R_nil _ _ _ _ _⟩, ⟨by repeat (first | (with_reducible first | exact HB.out | apply below_alloc | apply pw_below_drewN | apply below_drew1) | exact HB.out)⟩⟩
 case round =>
  clear H'
  obtain ⟨x3_1, x4_1, rfl, HA, HK1, HO_0, HO_3, HB⟩ := hrel
  cases gk with
  | zero => exact absurd HA.out (by simp [sennitref12_Lists.l0])
  | succ k1 =>
   have H := HA.out
   clear HA
   simp only [sennitref12_Lists.l0] at H
   by_cases c2 : x4_1 < (l0.length : Int)
   ·rw [if_pos c2] at H
    have c2b0 : decide (x4_1 < (l0.length : Int)) = true := decide_eq_true c2
    clear c2
    by_cases c3 : 0 ≤ x4_1
    ·rw [if_pos c3] at H
     have c3b0 : decide (0 ≤ x4_1) = true := decide_eq_true c3
     clear c3
     by_cases c4 : x3_1.length < 5864062014805
     ·rw [if_pos c4] at H
      have LMc4 := Aside0.mk c4
      clear c4
      obtain ⟨y146, hy146⟩ : ∃ y_ : List (List ByteArray), y_ = (x3_1 ++ [(rd_T36 l0 x4_1).f1]) := ⟨_, rfl⟩
      replace H : (if y146.length < 5864062014805 then ((some (y146 ++ [(rd_T36 l0 x4_1).f2] : List (List ByteArray))).bind fun y150 => (if y150.length + ((rd_T36 l0 x4_1).f3).length < 5864062014805 then (sennitref12_Lists.l0 k1 l0 (y150 ++ ((rd_T36 l0 x4_1).f3)) (wrap64 (x4_1 + 1))) else (none))) else (none)) = some r := by first | (rw [hy146]; with_reducible exact H) | (have H2_ := (Option.bind_some _ _).symm.trans H; rw [hy146]; with_reducible exact H2_) | (have H2_ := (Option.bind_some _ _).symm.trans H; with_reducible exact H2_) | with_reducible exact H | (rw [hy146]; exact H) | exact H
      have Ny146 := Aside0.mk hy146
      clear hy146
      by_cases c5 : y146.length < 5864062014805
      ·rw [if_pos c5] at H
       have LMc5 := Aside0.mk c5
       clear c5
       obtain ⟨y150, hy150⟩ : ∃ y_ : List (List ByteArray), y_ = (y146 ++ [(rd_T36 l0 x4_1).f2]) := ⟨_, rfl⟩
       replace H : (if y150.length + ((rd_T36 l0 x4_1).f3).length < 5864062014805 then (sennitref12_Lists.l0 k1 l0 (y150 ++ ((rd_T36 l0 x4_1).f3)) (wrap64 (x4_1 + 1))) else (none)) = some r := by first | (rw [hy150]; with_reducible exact H) | (have H2_ := (Option.bind_some _ _).symm.trans H; rw [hy150]; with_reducible exact H2_) | (have H2_ := (Option.bind_some _ _).symm.trans H; with_reducible exact H2_) | with_reducible exact H | (rw [hy150]; exact H) | exact H
       have Ny150 := Aside0.mk hy150
       clear hy150
       by_cases c6 : y150.length + ((rd_T36 l0 x4_1).f3).length < 5864062014805
       ·rw [if_pos c6] at H
        have LMc6 := Aside0.mk c6
        clear c6
        obtain ⟨y154, hy154⟩ : ∃ y_ : List (List ByteArray), y_ = (y150 ++ ((rd_T36 l0 x4_1).f3)) := ⟨_, rfl⟩
        replace H : (sennitref12_Lists.l0 k1 l0 y154 (wrap64 (x4_1 + 1))) = some r := by first | (rw [hy154]; with_reducible exact H) | (have H2_ := (Option.bind_some _ _).symm.trans H; rw [hy154]; with_reducible exact H2_) | (have H2_ := (Option.bind_some _ _).symm.trans H; with_reducible exact H2_) | with_reducible exact H | (rw [hy154]; exact H) | exact H
        have Ny154 := Aside0.mk hy154
        clear hy154
        have H' := Aside0.mk H
        clear H
        have p145 : 0 ≤ (x4_1 : Int) := of_decide_eq_true (by first | (with_reducible assumption) | assumption)
        have q145 : x4_1 < (l0.length : Int) := of_decide_eq_true (by first | (with_reducible assumption) | assumption)
        obtain ⟨ad145, A145_1, c145_1, A145_2, c145_2, A145_3, c145_3, e145, hx145_0, hx145_1, hx145_2, hx145_3, hl145_1, hi145_1, hl145_2, hi145_2, hl145_3, hi145_3⟩ := at_T36 (Kd.V_reads' HO_0.out).2.2 x4_1 p145 q145
        cases e145
        obtain ⟨ce145, hce145, hMe145, hcc145⟩ := Kd.V_get HO_0.out z36 x4_1 p145 (by first | exact q145 | exact of_decide_eq_true (by first | (with_reducible assumption) | assumption) | (have e_ := (Kd.V_reads' HO_0.out).1; omega))
        obtain ⟨ua145_1, uc145_1, ua145_2, uc145_2, ua145_3, uc145_3, rfl, ul145_1, ge145_1, ul145_2, ge145_2, ul145_3, ge145_3⟩ := k36_openF hMe145
        have hv145_1 := hcc145 1 _ rfl
        rw [add_field _ _ 1 (by omega)] at hv145_1
        replace hv145_1 := Option.some.inj (hv145_1.symm.trans hx145_1)
        injection hv145_1 with hva_ hvn_ hvc_
        rw [hva_] at ge145_1
        rw [hvc_] at ul145_1
        have HL145_1 := Aside0.mk (show Kd.V Kd.string 9 _ w.heap.size _ _ ((rd_T36 l0 x4_1).f1) from Kd.V_mk ul145_1 ge145_1)
        clear hva_ hvn_ hvc_ ge145_1 ul145_1
        have hv145_2 := hcc145 2 _ rfl
        rw [add_field _ _ 2 (by omega)] at hv145_2
        replace hv145_2 := Option.some.inj (hv145_2.symm.trans hx145_2)
        injection hv145_2 with hva_ hvn_ hvc_
        rw [hva_] at ge145_2
        rw [hvc_] at ul145_2
        have HL145_2 := Aside0.mk (show Kd.V Kd.string 9 _ w.heap.size _ _ ((rd_T36 l0 x4_1).f2) from Kd.V_mk ul145_2 ge145_2)
        clear hva_ hvn_ hvc_ ge145_2 ul145_2
        have hv145_3 := hcc145 3 _ rfl
        rw [add_field _ _ 3 (by omega)] at hv145_3
        replace hv145_3 := Option.some.inj (hv145_3.symm.trans hx145_3)
        injection hv145_3 with hva_ hvn_ hvc_
        rw [hva_] at ge145_3
        rw [hvc_] at ul145_3
        have HL145_3 := Aside0.mk (show Kd.V (Kd.slice 9 Kd.string) 25 _ w.heap.size _ _ ((rd_T36 l0 x4_1).f3) from Kd.V_mk ul145_3 ge145_3)
        clear hva_ hvn_ hvc_ ge145_3 ul145_3
        clear hcc145 hce145
        have HR145_1 := Aside0.mk hi145_1
        have HC145_1 := Aside0.mk hl145_1
        clear hi145_1 hl145_1
        have HR145_2 := Aside0.mk hi145_2
        have HC145_2 := Aside0.mk hl145_2
        clear hi145_2 hl145_2
        have HR145_3 := Aside0.mk hi145_3
        have HC145_3 := Aside0.mk hl145_3
        clear hi145_3 hl145_3
        replace p145 := eq_true p145
        replace q145 := eq_true q145
        go_wp2_with (first | ((with_reducible refine gate_builtin (b := .append) (xs := #[.tmp 11, .tmp 17]) rfl ?_); at_builtin; refine Kd.N_append (Kd.slice 9 Kd.string) (w0 := w) w.heap.size rfl (.tmp 11) (.tmp 17) 34 25 (.slice none 0 0) 24 rfl Tryz.underlying34 info25 rfl (by decide) (by omega) u3 x3_1 ((rd_T36 l0 x4_1).f1) [.slice A145_1 ((rd_T36 l0 x4_1).f1).length c145_1] (fun k_ => (P0_ k_ ∨ w.heap.size ≤ k_)) (fun k_ => ((fun k_ => (P0_ k_ ∨ w.heap.size ≤ k_))) k_ ∧ some k_ ≠ (u3 : Value).ownBlock) rfl rfl ?aP (fun _ hk => hk) ?aF ?aO ?aB ?aS ?aL ?_; (case aP => exact (Kd.FK_slice_mk (Kd.V_reads' (Kd.V_mono (ok' := (fun k_ => ((fun k_ => (P0_ k_ ∨ w.heap.size ≤ k_))) k_ ∧ some k_ ≠ (u3 : Value).ownBlock)) (HL145_1.out) (fun k_ hk => ⟨hk.1, hk.2⟩))).2.1 (Kd.V_F (Kd.V_mono (ok' := (fun k_ => ((fun k_ => (P0_ k_ ∨ w.heap.size ≤ k_))) k_ ∧ some k_ ≠ (u3 : Value).ownBlock)) (HL145_1.out) (fun k_ hk => ⟨hk.1, hk.2⟩))))); (case aB => exact (by repeat (first | (with_reducible first | exact HB.out | apply below_alloc | apply pw_below_drewN | apply below_drew1) | exact HB.out))); (case aF => exact (fun k_ hk => (.inr (Nat.le_trans (below_size (by repeat (first | (with_reducible first | exact HB.out | apply below_alloc | apply pw_below_drewN | apply below_drew1) | exact HB.out))) hk)))); (case aO => exact (by (with_reducible repeat (first | apply Kd.N_alloc | apply Kd.N_drewN | apply Kd.N_drew)); exact HO_3.out)); (case aS => exact (below_size (by repeat (first | (with_reducible first | exact HB.out | apply below_alloc | apply pw_below_drewN | apply below_drew1) | exact HB.out)))); (case aL => have := LMc4.out; omega); intro v147 w7 ho hb hg hat; rw [← Ny146.out] at ho; have n0_ := Aside0.mk (Kd.V_afterv (ok := (fun k_ => (P0_ k_ ∨ w.heap.size ≤ k_))) (by (with_reducible repeat (first | apply Kd.V_alloc | apply Kd.V_drewN | apply Kd.V_drew)); exact HO_0.out) hg hat); have n1_ := Aside0.mk (Kd.V_afterv (ok := (fun k_ => (P0_ k_ ∨ w.heap.size ≤ k_))) (by (with_reducible repeat (first | apply Kd.V_alloc | apply Kd.V_drewN | apply Kd.V_drew)); exact HL145_1.out) hg hat); have n2_ := Aside0.mk (Kd.V_afterv (ok := (fun k_ => (P0_ k_ ∨ w.heap.size ≤ k_))) (by (with_reducible repeat (first | apply Kd.V_alloc | apply Kd.V_drewN | apply Kd.V_drew)); exact HL145_2.out) hg hat); have n3_ := Aside0.mk (Kd.V_afterv (ok := (fun k_ => (P0_ k_ ∨ w.heap.size ≤ k_))) (by (with_reducible repeat (first | apply Kd.V_alloc | apply Kd.V_drewN | apply Kd.V_drew)); exact HL145_3.out) hg hat); have n4_ := Aside0.mk (hb); have n5_ := Aside0.mk (ho); clear HO_0; clear HL145_1; clear HL145_2; clear HL145_3; clear HB; clear HO_3; have HO_0 := n0_; have HL145_1 := n1_; have HL145_2 := n2_; have HL145_3 := n3_; have HB := n4_; have HO148 := n5_; clear n0_ n1_ n2_ n3_ n4_ n5_; clear ho hb hg hat; have p149 : 0 ≤ (x4_1 : Int) := of_decide_eq_true (by first | (with_reducible assumption) | assumption); have q149 : x4_1 < (l0.length : Int) := of_decide_eq_true (by first | (with_reducible assumption) | assumption); obtain ⟨ad149, A149_1, c149_1, A149_2, c149_2, A149_3, c149_3, e149, hx149_0, hx149_1, hx149_2, hx149_3, hl149_1, hi149_1, hl149_2, hi149_2, hl149_3, hi149_3⟩ := at_T36 (Kd.V_reads' HO_0.out).2.2 x4_1 p149 q149; obtain rfl : ad145 = ad149 := (by injection e149); obtain ⟨ce149, hce149, hMe149, hcc149⟩ := Kd.V_get HO_0.out z36 x4_1 p149 (by first | exact q149 | exact of_decide_eq_true (by first | (with_reducible assumption) | assumption) | (have e_ := (Kd.V_reads' HO_0.out).1; omega)); obtain ⟨ua149_1, uc149_1, ua149_2, uc149_2, ua149_3, uc149_3, rfl, ul149_1, ge149_1, ul149_2, ge149_2, ul149_3, ge149_3⟩ := k36_openF hMe149; have hv149_1 := hcc149 1 _ rfl; rw [add_field _ _ 1 (by omega)] at hv149_1; replace hv149_1 := Option.some.inj (hv149_1.symm.trans hx149_1); injection hv149_1 with hva_ hvn_ hvc_; rw [hva_] at ge149_1; rw [hvc_] at ul149_1; have HL149_1 := Aside0.mk (show Kd.V Kd.string 9 _ w.heap.size _ _ ((rd_T36 l0 x4_1).f1) from Kd.V_mk ul149_1 ge149_1); clear hva_ hvn_ hvc_ ge149_1 ul149_1; have hv149_2 := hcc149 2 _ rfl; rw [add_field _ _ 2 (by omega)] at hv149_2; replace hv149_2 := Option.some.inj (hv149_2.symm.trans hx149_2); injection hv149_2 with hva_ hvn_ hvc_; rw [hva_] at ge149_2; rw [hvc_] at ul149_2; have HL149_2 := Aside0.mk (show Kd.V Kd.string 9 _ w.heap.size _ _ ((rd_T36 l0 x4_1).f2) from Kd.V_mk ul149_2 ge149_2); clear hva_ hvn_ hvc_ ge149_2 ul149_2; have hv149_3 := hcc149 3 _ rfl; rw [add_field _ _ 3 (by omega)] at hv149_3; replace hv149_3 := Option.some.inj (hv149_3.symm.trans hx149_3); injection hv149_3 with hva_ hvn_ hvc_; rw [hva_] at ge149_3; rw [hvc_] at ul149_3; have HL149_3 := Aside0.mk (show Kd.V (Kd.slice 9 Kd.string) 25 _ w.heap.size _ _ ((rd_T36 l0 x4_1).f3) from Kd.V_mk ul149_3 ge149_3); clear hva_ hvn_ hvc_ ge149_3 ul149_3; clear hcc149 hce149; have HR149_1 := Aside0.mk hi149_1; have HC149_1 := Aside0.mk hl149_1; clear hi149_1 hl149_1; have HR149_2 := Aside0.mk hi149_2; have HC149_2 := Aside0.mk hl149_2; clear hi149_2 hl149_2; have HR149_3 := Aside0.mk hi149_3; have HC149_3 := Aside0.mk hl149_3; clear hi149_3 hl149_3; replace p149 := eq_true p149; replace q149 := eq_true q149) | ((with_reducible refine gate_builtin (b := .append) (xs := #[.tmp 19, .tmp 25]) rfl ?_); at_builtin; refine Kd.N_append (Kd.slice 9 Kd.string) (w0 := w) w.heap.size rfl (.tmp 19) (.tmp 25) 34 25 (.slice none 0 0) 24 rfl Tryz.underlying34 info25 rfl (by decide) (by omega) v147 y146 ((rd_T36 l0 x4_1).f2) [.slice A149_2 ((rd_T36 l0 x4_1).f2).length c149_2] (fun k_ => (P0_ k_ ∨ w.heap.size ≤ k_)) (fun k_ => ((fun k_ => (P0_ k_ ∨ w.heap.size ≤ k_))) k_ ∧ some k_ ≠ (v147 : Value).ownBlock) rfl rfl ?aP (fun _ hk => hk) ?aF ?aO ?aB ?aS ?aL ?_; (case aP => exact (Kd.FK_slice_mk (Kd.V_reads' (Kd.V_mono (ok' := (fun k_ => ((fun k_ => (P0_ k_ ∨ w.heap.size ≤ k_))) k_ ∧ some k_ ≠ (v147 : Value).ownBlock)) (HL149_2.out) (fun k_ hk => ⟨hk.1, hk.2⟩))).2.1 (Kd.V_F (Kd.V_mono (ok' := (fun k_ => ((fun k_ => (P0_ k_ ∨ w.heap.size ≤ k_))) k_ ∧ some k_ ≠ (v147 : Value).ownBlock)) (HL149_2.out) (fun k_ hk => ⟨hk.1, hk.2⟩))))); (case aB => exact (by repeat (first | (with_reducible first | exact HB.out | apply below_alloc | apply pw_below_drewN | apply below_drew1) | exact HB.out))); (case aF => exact (fun k_ hk => (.inr (Nat.le_trans (below_size (by repeat (first | (with_reducible first | exact HB.out | apply below_alloc | apply pw_below_drewN | apply below_drew1) | exact HB.out))) hk)))); (case aO => exact (by (with_reducible repeat (first | apply Kd.N_alloc | apply Kd.N_drewN | apply Kd.N_drew)); exact HO148.out)); (case aS => exact (below_size (by repeat (first | (with_reducible first | exact HB.out | apply below_alloc | apply pw_below_drewN | apply below_drew1) | exact HB.out)))); (case aL => have := LMc5.out; omega); intro v151 w8 ho hb hg hat; rw [← Ny150.out] at ho; have n0_ := Aside0.mk (Kd.V_afterv (ok := (fun k_ => (P0_ k_ ∨ w.heap.size ≤ k_))) (by (with_reducible repeat (first | apply Kd.V_alloc | apply Kd.V_drewN | apply Kd.V_drew)); exact HO_0.out) hg hat); have n1_ := Aside0.mk (Kd.V_afterv (ok := (fun k_ => (P0_ k_ ∨ w.heap.size ≤ k_))) (by (with_reducible repeat (first | apply Kd.V_alloc | apply Kd.V_drewN | apply Kd.V_drew)); exact HL145_1.out) hg hat); have n2_ := Aside0.mk (Kd.V_afterv (ok := (fun k_ => (P0_ k_ ∨ w.heap.size ≤ k_))) (by (with_reducible repeat (first | apply Kd.V_alloc | apply Kd.V_drewN | apply Kd.V_drew)); exact HL145_2.out) hg hat); have n3_ := Aside0.mk (Kd.V_afterv (ok := (fun k_ => (P0_ k_ ∨ w.heap.size ≤ k_))) (by (with_reducible repeat (first | apply Kd.V_alloc | apply Kd.V_drewN | apply Kd.V_drew)); exact HL145_3.out) hg hat); have n4_ := Aside0.mk (Kd.V_afterv (ok := (fun k_ => (P0_ k_ ∨ w.heap.size ≤ k_))) (by (with_reducible repeat (first | apply Kd.V_alloc | apply Kd.V_drewN | apply Kd.V_drew)); exact HL149_1.out) hg hat); have n5_ := Aside0.mk (Kd.V_afterv (ok := (fun k_ => (P0_ k_ ∨ w.heap.size ≤ k_))) (by (with_reducible repeat (first | apply Kd.V_alloc | apply Kd.V_drewN | apply Kd.V_drew)); exact HL149_2.out) hg hat); have n6_ := Aside0.mk (Kd.V_afterv (ok := (fun k_ => (P0_ k_ ∨ w.heap.size ≤ k_))) (by (with_reducible repeat (first | apply Kd.V_alloc | apply Kd.V_drewN | apply Kd.V_drew)); exact HL149_3.out) hg hat); have n7_ := Aside0.mk (hb); have n8_ := Aside0.mk (ho); clear HO_0; clear HL145_1; clear HL145_2; clear HL145_3; clear HL149_1; clear HL149_2; clear HL149_3; clear HB; clear HO148; have HO_0 := n0_; have HL145_1 := n1_; have HL145_2 := n2_; have HL145_3 := n3_; have HL149_1 := n4_; have HL149_2 := n5_; have HL149_3 := n6_; have HB := n7_; have HO152 := n8_; clear n0_ n1_ n2_ n3_ n4_ n5_ n6_ n7_ n8_; clear ho hb hg hat; have p153 : 0 ≤ (x4_1 : Int) := of_decide_eq_true (by first | (with_reducible assumption) | assumption); have q153 : x4_1 < (l0.length : Int) := of_decide_eq_true (by first | (with_reducible assumption) | assumption); obtain ⟨ad153, A153_1, c153_1, A153_2, c153_2, A153_3, c153_3, e153, hx153_0, hx153_1, hx153_2, hx153_3, hl153_1, hi153_1, hl153_2, hi153_2, hl153_3, hi153_3⟩ := at_T36 (Kd.V_reads' HO_0.out).2.2 x4_1 p153 q153; obtain rfl : ad145 = ad153 := (by injection e153); obtain ⟨ce153, hce153, hMe153, hcc153⟩ := Kd.V_get HO_0.out z36 x4_1 p153 (by first | exact q153 | exact of_decide_eq_true (by first | (with_reducible assumption) | assumption) | (have e_ := (Kd.V_reads' HO_0.out).1; omega)); obtain ⟨ua153_1, uc153_1, ua153_2, uc153_2, ua153_3, uc153_3, rfl, ul153_1, ge153_1, ul153_2, ge153_2, ul153_3, ge153_3⟩ := k36_openF hMe153; have hv153_1 := hcc153 1 _ rfl; rw [add_field _ _ 1 (by omega)] at hv153_1; replace hv153_1 := Option.some.inj (hv153_1.symm.trans hx153_1); injection hv153_1 with hva_ hvn_ hvc_; rw [hva_] at ge153_1; rw [hvc_] at ul153_1; have HL153_1 := Aside0.mk (show Kd.V Kd.string 9 _ w.heap.size _ _ ((rd_T36 l0 x4_1).f1) from Kd.V_mk ul153_1 ge153_1); clear hva_ hvn_ hvc_ ge153_1 ul153_1; have hv153_2 := hcc153 2 _ rfl; rw [add_field _ _ 2 (by omega)] at hv153_2; replace hv153_2 := Option.some.inj (hv153_2.symm.trans hx153_2); injection hv153_2 with hva_ hvn_ hvc_; rw [hva_] at ge153_2; rw [hvc_] at ul153_2; have HL153_2 := Aside0.mk (show Kd.V Kd.string 9 _ w.heap.size _ _ ((rd_T36 l0 x4_1).f2) from Kd.V_mk ul153_2 ge153_2); clear hva_ hvn_ hvc_ ge153_2 ul153_2; have hv153_3 := hcc153 3 _ rfl; rw [add_field _ _ 3 (by omega)] at hv153_3; replace hv153_3 := Option.some.inj (hv153_3.symm.trans hx153_3); injection hv153_3 with hva_ hvn_ hvc_; rw [hva_] at ge153_3; rw [hvc_] at ul153_3; have HL153_3 := Aside0.mk (show Kd.V (Kd.slice 9 Kd.string) 25 _ w.heap.size _ _ ((rd_T36 l0 x4_1).f3) from Kd.V_mk ul153_3 ge153_3); clear hva_ hvn_ hvc_ ge153_3 ul153_3; clear hcc153 hce153; have HR153_1 := Aside0.mk hi153_1; have HC153_1 := Aside0.mk hl153_1; clear hi153_1 hl153_1; have HR153_2 := Aside0.mk hi153_2; have HC153_2 := Aside0.mk hl153_2; clear hi153_2 hl153_2; have HR153_3 := Aside0.mk hi153_3; have HC153_3 := Aside0.mk hl153_3; clear hi153_3 hl153_3; replace p153 := eq_true p153; replace q153 := eq_true q153) | ((with_reducible refine gate_builtin (b := .append) (xs := #[.tmp 27, .tmp 32]) rfl ?_); at_builtin; refine Kd.N_append_rows (Kd.slice 9 Kd.string) (w0 := w) w.heap.size rfl (.tmp 27) (.tmp 32) 34 25 (.slice none 0 0) 24 rfl Tryz.underlying34 info25 rfl (by decide) (by omega) v151 y150 ((rd_T36 l0 x4_1).f3) _ _ _ (fun k_ => (P0_ k_ ∨ w.heap.size ≤ k_)) (fun k_ => ((fun k_ => (P0_ k_ ∨ w.heap.size ≤ k_))) k_ ∧ some k_ ≠ (v151 : Value).ownBlock) rfl rfl ?aO ?aR (fun _ hk => hk) ?aF ?aB ?aS ?aL ?_; (case aR => exact (by skip; exact Kd.V_F (Kd.V_mono (ok' := (fun k_ => ((fun k_ => (P0_ k_ ∨ w.heap.size ≤ k_))) k_ ∧ some k_ ≠ (v151 : Value).ownBlock)) (HL153_3.out) (fun k_ hk => ⟨hk.1, hk.2⟩)))); (case aB => exact (by repeat (first | (with_reducible first | exact HB.out | apply below_alloc | apply pw_below_drewN | apply below_drew1) | exact HB.out))); (case aF => exact (fun k_ hk => (.inr (Nat.le_trans (below_size (by repeat (first | (with_reducible first | exact HB.out | apply below_alloc | apply pw_below_drewN | apply below_drew1) | exact HB.out))) hk)))); (case aO => exact (by (with_reducible repeat (first | apply Kd.N_alloc | apply Kd.N_drewN | apply Kd.N_drew)); exact HO152.out)); (case aS => exact (below_size (by repeat (first | (with_reducible first | exact HB.out | apply below_alloc | apply pw_below_drewN | apply below_drew1) | exact HB.out)))); (case aL => have := LMc6.out; omega); intro v155 w9 ho hb hg hat; rw [← Ny154.out] at ho; have n0_ := Aside0.mk (Kd.V_afterv (ok := (fun k_ => (P0_ k_ ∨ w.heap.size ≤ k_))) (by (with_reducible repeat (first | apply Kd.V_alloc | apply Kd.V_drewN | apply Kd.V_drew)); exact HO_0.out) hg hat); have n1_ := Aside0.mk (Kd.V_afterv (ok := (fun k_ => (P0_ k_ ∨ w.heap.size ≤ k_))) (by (with_reducible repeat (first | apply Kd.V_alloc | apply Kd.V_drewN | apply Kd.V_drew)); exact HL145_1.out) hg hat); have n2_ := Aside0.mk (Kd.V_afterv (ok := (fun k_ => (P0_ k_ ∨ w.heap.size ≤ k_))) (by (with_reducible repeat (first | apply Kd.V_alloc | apply Kd.V_drewN | apply Kd.V_drew)); exact HL145_2.out) hg hat); have n3_ := Aside0.mk (Kd.V_afterv (ok := (fun k_ => (P0_ k_ ∨ w.heap.size ≤ k_))) (by (with_reducible repeat (first | apply Kd.V_alloc | apply Kd.V_drewN | apply Kd.V_drew)); exact HL145_3.out) hg hat); have n4_ := Aside0.mk (Kd.V_afterv (ok := (fun k_ => (P0_ k_ ∨ w.heap.size ≤ k_))) (by (with_reducible repeat (first | apply Kd.V_alloc | apply Kd.V_drewN | apply Kd.V_drew)); exact HL149_1.out) hg hat); have n5_ := Aside0.mk (Kd.V_afterv (ok := (fun k_ => (P0_ k_ ∨ w.heap.size ≤ k_))) (by (with_reducible repeat (first | apply Kd.V_alloc | apply Kd.V_drewN | apply Kd.V_drew)); exact HL149_2.out) hg hat); have n6_ := Aside0.mk (Kd.V_afterv (ok := (fun k_ => (P0_ k_ ∨ w.heap.size ≤ k_))) (by (with_reducible repeat (first | apply Kd.V_alloc | apply Kd.V_drewN | apply Kd.V_drew)); exact HL149_3.out) hg hat); have n7_ := Aside0.mk (Kd.V_afterv (ok := (fun k_ => (P0_ k_ ∨ w.heap.size ≤ k_))) (by (with_reducible repeat (first | apply Kd.V_alloc | apply Kd.V_drewN | apply Kd.V_drew)); exact HL153_1.out) hg hat); have n8_ := Aside0.mk (Kd.V_afterv (ok := (fun k_ => (P0_ k_ ∨ w.heap.size ≤ k_))) (by (with_reducible repeat (first | apply Kd.V_alloc | apply Kd.V_drewN | apply Kd.V_drew)); exact HL153_2.out) hg hat); have n9_ := Aside0.mk (Kd.V_afterv (ok := (fun k_ => (P0_ k_ ∨ w.heap.size ≤ k_))) (by (with_reducible repeat (first | apply Kd.V_alloc | apply Kd.V_drewN | apply Kd.V_drew)); exact HL153_3.out) hg hat); have n10_ := Aside0.mk (hb); have n11_ := Aside0.mk (ho); clear HO_0; clear HL145_1; clear HL145_2; clear HL145_3; clear HL149_1; clear HL149_2; clear HL149_3; clear HL153_1; clear HL153_2; clear HL153_3; clear HB; clear HO152; have HO_0 := n0_; have HL145_1 := n1_; have HL145_2 := n2_; have HL145_3 := n3_; have HL149_1 := n4_; have HL149_2 := n5_; have HL149_3 := n6_; have HL153_1 := n7_; have HL153_2 := n8_; have HL153_3 := n9_; have HB := n10_; have HO156 := n11_; clear n0_ n1_ n2_ n3_ n4_ n5_ n6_ n7_ n8_ n9_ n10_ n11_; clear ho hb hg hat))
        go_roundg k1
        case measure => have := HK1.out; omega
        case rel => exact ⟨(y154), (wrap64 (x4_1 + 1)), (by first | rfl | (simp; done) | (simp [*]; done)), H', ⟨by have := HK1.out; omega⟩, ⟨by (with_reducible repeat (first | apply Kd.V_alloc | apply Kd.V_drewN | apply Kd.V_drew)); exact HO_0.out⟩, ⟨by (with_reducible repeat (first | apply Kd.N_alloc | apply Kd.N_drewN | apply Kd.N_drew)); exact HO156.out⟩, ⟨by repeat (first | (with_reducible first | exact HB.out | apply below_alloc | apply pw_below_drewN | apply below_drew1) | exact HB.out)⟩⟩
       ·rw [if_neg c6] at H
        exact absurd H (by simp)
      ·rw [if_neg c5] at H
       exact absurd H (by simp)
     ·rw [if_neg c4] at H
      exact absurd H (by simp)
    ·rw [if_neg c3] at H
     exact absurd H (by simp)
   ·rw [if_neg c2] at H
    have c2b0 : decide (x4_1 < (l0.length : Int)) = false := decide_eq_false c2
    clear c2
    obtain rfl := Option.some.inj H
    go_wp2
    go_ret
    exact ⟨_, by first | rfl | (simp [errW_none, errW_some] <;> rfl) | (simp [*, errW_none, errW_some] <;> rfl), by (with_reducible repeat (first | apply Kd.N_alloc | apply Kd.N_drewN | apply Kd.N_drew)); exact HO_3.out, by repeat (first | (with_reducible first | exact HB.out | apply below_alloc | apply pw_below_drewN | apply below_drew1) | exact HB.out)⟩
/-! ### sennitref01_feeds: function 39 -/
def sennitref01_feeds.l0 : Nat → ByteArray → Int → Int → Option (Int)
 | 0, _, _, _ => none
 | k + 1, x0, x3, x4 => if x4 < (x0.size : Int) then (if 0 ≤ x4 then (if (bt x0 x4) = 10 then (sennitref01_feeds.l0 k x0 (wrap64 (x3 + 1)) (wrap64 (x4 + 1))) else (sennitref01_feeds.l0 k x0 x3 (wrap64 (x4 + 1)))) else (none)) else (some x3)
def sennitref01_feeds.f (k : Nat) (a0 : ByteArray) : Option (Int) := sennitref01_feeds.l0 k a0 0 0
set_option maxHeartbeats 8000000 in
set_option maxRecDepth 100000 in
theorem sennitref01_feeds.calls (k : Nat) (a0 : ByteArray) (r : Int) (w : World) (h : sennitref01_feeds.f k a0 = some r) :
  Calls Tryz.prog 39 #[.string a0] w fun e w' => e = .returned (.int .i64 r) ∧ Drawn0 w w' := by
 have H : (sennitref01_feeds.l0 k a0 0 0) = some r := h
 clear h
 have H' := Aside0.mk H
 clear H
 go_enter Tryz.func39, Tryz.ntmps39
 go_wp2
 go_loopg [3, 4] k (fun kq v3 v4 w' => ∃ (x3_1 : Int) (x4_1 : Int), v3 = .int .i64 x3_1 ∧ v4 = .int .i64 x4_1 ∧ Aside0 (sennitref01_feeds.l0 kq a0 x3_1 x4_1 = some r) ∧ Aside0 (kq ≤ k) ∧ Drawn0 w w')
 case atStart => exact ⟨(0), (0), (by first | rfl | (simp; done) | (simp [*]; done)), (by first | rfl | (simp; done) | (simp [*]; done)), H', ⟨Nat.le_refl _⟩, by repeat (first | exact Drawn0.refl _ | apply Drawn0.step)⟩
 case round =>
  clear H'
  obtain ⟨x3_1, x4_1, rfl, rfl, HA, HK1, ⟨m1, rfl⟩⟩ := hrel
  cases gk with
  | zero => exact absurd HA.out (by simp [sennitref01_feeds.l0])
  | succ k1 =>
   have H := HA.out
   clear HA
   simp only [sennitref01_feeds.l0] at H
   by_cases c2 : x4_1 < (a0.size : Int)
   ·rw [if_pos c2] at H
    have c2b0 : decide (x4_1 < (a0.size : Int)) = true := decide_eq_true c2
    clear c2
    by_cases c3 : 0 ≤ x4_1
    ·rw [if_pos c3] at H
     have c3b0 : decide (0 ≤ x4_1) = true := decide_eq_true c3
     clear c3
     by_cases c5 : (bt a0 x4_1) = 10
     ·rw [if_pos c5] at H
      have c5b0 : ((bt a0 x4_1) == 10) = true := beq_iff_eq.mpr c5
      have c5b1 : ((bt a0 x4_1) != 10) = false := bne_eq_false_iff_eq.mpr c5
      clear c5
      have H' := Aside0.mk H
      clear H
      have p4 : 0 ≤ (x4_1 : Int) := of_decide_eq_true (by first | (with_reducible assumption) | assumption)
      have q4 : x4_1 < (a0.size : Int) := of_decide_eq_true (by first | (with_reducible assumption) | assumption)
      have hx4 := bt_at a0 x4_1
      replace p4 := eq_true p4
      replace q4 := eq_true q4
      go_wp2
      go_roundg k1
      case measure => have := HK1.out; omega
      case rel => exact ⟨(wrap64 (x3_1 + 1)), (wrap64 (x4_1 + 1)), (by first | rfl | (simp; done) | (simp [*]; done)), (by first | rfl | (simp; done) | (simp [*]; done)), H', ⟨by have := HK1.out; omega⟩, by repeat (first | exact Drawn0.refl _ | apply Drawn0.step)⟩
     ·rw [if_neg c5] at H
      have c5b0 : ((bt a0 x4_1) == 10) = false := beq_eq_false_iff_ne.mpr c5
      have c5b1 : ((bt a0 x4_1) != 10) = true := bne_iff_ne.mpr c5
      have H' := Aside0.mk H
      clear H
      have p4 : 0 ≤ (x4_1 : Int) := of_decide_eq_true (by first | (with_reducible assumption) | assumption)
      have q4 : x4_1 < (a0.size : Int) := of_decide_eq_true (by first | (with_reducible assumption) | assumption)
      have hx4 := bt_at a0 x4_1
      replace p4 := eq_true p4
      replace q4 := eq_true q4
      go_wp2
      go_roundg k1
      case measure => have := HK1.out; omega
      case rel => exact ⟨(x3_1), (wrap64 (x4_1 + 1)), (by first | rfl | (simp; done) | (simp [*]; done)), (by first | rfl | (simp; done) | (simp [*]; done)), H', ⟨by have := HK1.out; omega⟩, by repeat (first | exact Drawn0.refl _ | apply Drawn0.step)⟩
    ·rw [if_neg c3] at H
     exact absurd H (by simp)
   ·rw [if_neg c2] at H
    have c2b0 : decide (x4_1 < (a0.size : Int)) = false := decide_eq_false c2
    clear c2
    obtain rfl := Option.some.inj H
    go_wp2
    go_ret
    exact ⟨by first | rfl | (simp; done) | (simp [*]; done), by repeat (first | exact Drawn0.refl _ | apply Drawn0.step)⟩
/-! ### sennitref01_Line: function 40 -/
def sennitref01_Line.f (k : Nat) (a0 : ByteArray) : Option (Bool) := (sennitref01_feeds.f k a0).bind fun t157 => (if t157 = 1 then (if 0 ≤ (wrap64 ((a0.size : Int) - 1)) then (if (wrap64 ((a0.size : Int) - 1)) < (a0.size : Int) then (some ((bt a0 (wrap64 ((a0.size : Int) - 1))) == 10)) else (none)) else (none)) else (some false))
set_option maxHeartbeats 8000000 in
set_option maxRecDepth 100000 in
theorem sennitref01_Line.calls (k : Nat) (a0 : ByteArray) (r : Bool) (w : World) (h : sennitref01_Line.f k a0 = some r) :
  Calls Tryz.prog 40 #[.string a0] w fun e w' => e = .returned (.bool r) ∧ Drawn0 w w' := by
 have H : ((sennitref01_feeds.f k a0).bind fun t157 => (if t157 = 1 then (if 0 ≤ (wrap64 ((a0.size : Int) - 1)) then (if (wrap64 ((a0.size : Int) - 1)) < (a0.size : Int) then (some ((bt a0 (wrap64 ((a0.size : Int) - 1))) == 10)) else (none)) else (none)) else (some false))) = some r := h
 clear h
 replace H := Option.bind_eq_some_iff.mp H
 obtain ⟨t157, A20, H⟩ := H
 replace H : (if t157 = 1 then (if 0 ≤ (wrap64 ((a0.size : Int) - 1)) then (if (wrap64 ((a0.size : Int) - 1)) < (a0.size : Int) then (some ((bt a0 (wrap64 ((a0.size : Int) - 1))) == 10)) else (none)) else (none)) else (some false)) = some r := H
 have A2 := Aside0.mk A20
 clear A20
 by_cases c3 : t157 = 1
 ·rw [if_pos c3] at H
  have c3b0 : (t157 == 1) = true := beq_iff_eq.mpr c3
  have c3b1 : (t157 != 1) = false := bne_eq_false_iff_eq.mpr c3
  clear c3
  obtain ⟨ji4, hji4⟩ : ∃ j_ : Int, (wrap64 ((a0.size : Int) - 1)) = j_ := ⟨_, rfl⟩
  replace H : (if 0 ≤ (ji4) then (if (ji4) < (a0.size : Int) then (some ((bt a0 (ji4)) == 10)) else (none)) else (none)) = some r := by first | (rw [hji4] at H; exact H) | (simp only [hji4] at H ⊢; exact H)
  (try rw [hji4] at A2)
  have hji4w : (IntKind.i64.wrap ((a0.size : Int) - 1)) = ji4 := (i64_w _).trans hji4
  by_cases c5 : 0 ≤ (ji4)
  ·rw [if_pos c5] at H
   have c5b0 : decide (0 ≤ (ji4)) = true := decide_eq_true c5
   clear c5
   by_cases c6 : (ji4) < (a0.size : Int)
   ·rw [if_pos c6] at H
    have c6b0 : decide ((ji4) < (a0.size : Int)) = true := decide_eq_true c6
    clear c6
    obtain rfl := Option.some.inj H
    go_enter Tryz.func40, Tryz.ntmps40
    go_wp2_with (first | ((with_reducible refine gate_callee (f := 39) rfl ?_); refine goesL_ (some 4) rfl rfl Tryz.func39 (by kernel_rfl) rfl #[.string a0] rfl (by (try simp only [List.map_toArray, List.map_cons, List.map_nil]); first | done | rfl | (simp only [List.length_drop, List.length_take]; rfl)) ?_; (with_reducible refine (sennitref01_feeds.calls k a0 t157 _ A2.out).mono ?_); rintro e w' ⟨rfl, ⟨nd, rfl⟩⟩; refine ⟨_, rfl, ?_⟩; have p7 : 0 ≤ ((ji4) : Int) := of_decide_eq_true (by first | (with_reducible assumption) | assumption); have q7 : (ji4) < (a0.size : Int) := of_decide_eq_true (by first | (with_reducible assumption) | assumption); have hx7 := bt_at a0 (ji4); replace p7 := eq_true p7; replace q7 := eq_true q7))
    go_ret
    exact ⟨by first | rfl | (simp; done) | (simp only [← hji4] <;> (first | rfl | simp)) | (simp [*]; done), by repeat (first | exact Drawn0.refl _ | apply Drawn0.step)⟩
   ·rw [if_neg c6] at H
    exact absurd H (by simp)
  ·rw [if_neg c5] at H
   exact absurd H (by simp)
 ·rw [if_neg c3] at H
  have c3b0 : (t157 == 1) = false := beq_eq_false_iff_ne.mpr c3
  have c3b1 : (t157 != 1) = true := bne_iff_ne.mpr c3
  obtain rfl := Option.some.inj H
  go_enter Tryz.func40, Tryz.ntmps40
  go_wp2_with (first | ((with_reducible refine gate_callee (f := 39) rfl ?_); refine goesL_ (some 4) rfl rfl Tryz.func39 (by kernel_rfl) rfl #[.string a0] rfl (by (try simp only [List.map_toArray, List.map_cons, List.map_nil]); first | done | rfl | (simp only [List.length_drop, List.length_take]; rfl)) ?_; (with_reducible refine (sennitref01_feeds.calls k a0 t157 _ A2.out).mono ?_); rintro e w' ⟨rfl, ⟨nd, rfl⟩⟩; refine ⟨_, rfl, ?_⟩))
  go_ret
  exact ⟨by first | rfl | (simp; done) | (simp [*]; done), by repeat (first | exact Drawn0.refl _ | apply Drawn0.step)⟩
end Go.Proofs.YtcnjbmdnnhbfkaaGreatDoor.XD
