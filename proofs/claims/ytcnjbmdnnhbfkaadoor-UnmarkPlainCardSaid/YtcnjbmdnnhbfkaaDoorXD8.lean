-- Printed by this session's xprint.sh (a patched copy of the kit's print program). Not trusted: Lean checks it.
import Derived.Test.YtcnjbmdnnhbfkaaDoorXD0
import Derived.Test.YtcnjbmdnnhbfkaaDoorXD2
namespace Go.Proofs.YtcnjbmdnnhbfkaaDoor.XD
open Go.RowKit Go.Proofs.YtcnjbmdnnhbfkaaDoorW.PrintWords Go.Proofs.YtcnjbmdnnhbfkaaDoorW.PrintLast Go.Proofs.YtcnjbmdnnhbfkaaDoorW.PrintMore
attribute [local go_sem] max2_int min2_int max_two min_two max_three min_three max_four min_four   -- for this text's walks alone
set_option linter.unusedVariables false
set_option linter.unusedSimpArgs false

-- NOT PRINTED: function 3 (sennitlaw13_UnmarkTells)

/-! ### sennitref11_Fits: function 13 -/
mutual
def sennitref11_Fits.l0 : Nat → Int → List (List ByteArray) → Int → Option (Bool)
 | 0, _, _, _ => none
 | k + 1, x0, x1, x5 => if x5 < (x1.length : Int) then (sennitref11_Fits.l1 k x0 x1 x5 0) else (some (decide (x0 ≥ 1)))
def sennitref11_Fits.l1 : Nat → Int → List (List ByteArray) → Int → Int → Option (Bool)
 | 0, _, _, _, _ => none
 | k + 1, x0, x1, x5, x6 => if 0 ≤ x5 then (if x5 < (x1.length : Int) then (if x6 < ((rd_L1 x1 x5).length : Int) then (if 0 ≤ x6 then ((sennitref11_Run.f k (rdOf ByteArray.empty (rd_L1 x1 x5) x6)).bind fun t249 => (if t249 ≥ x0 then (some false) else (sennitref11_Fits.l1 k x0 x1 x5 (wrap64 (x6 + 1))))) else (none)) else (sennitref11_Fits.l0 k x0 x1 (wrap64 (x5 + 1)))) else (none)) else (none)
end
def sennitref11_Fits.f (k : Nat) (a0 : Int) (l1 : List (List ByteArray)) : Option (Bool) := sennitref11_Fits.l0 k a0 l1 0
theorem sennitref11_Fits.mono_l : ∀ k, (∀ y0 y1 y2, LeO (sennitref11_Fits.l0 k y0 y1 y2) (sennitref11_Fits.l0 (k + 1) y0 y1 y2)) ∧ (∀ y0 y1 y2 y3, LeO (sennitref11_Fits.l1 k y0 y1 y2 y3) (sennitref11_Fits.l1 (k + 1) y0 y1 y2 y3))
 | 0 => ⟨fun _ _ _ r h => by simp [sennitref11_Fits.l0] at h, fun _ _ _ _ r h => by simp [sennitref11_Fits.l1] at h⟩
 | k + 1 => by
  obtain ⟨ih0, ih1⟩ := sennitref11_Fits.mono_l k
  refine ⟨?_, ?_⟩
  ·intro y0 y1 y2
   unfold sennitref11_Fits.l0
   repeat' first
   | (with_reducible exact ih0 _ _ _)
   | (with_reducible exact ih1 _ _ _ _)
   | (with_reducible exact sennitref11_Run.mono _ _)
   | (with_reducible exact LeO.refl _)
   | (with_reducible exact LeO.none _)
   | (with_reducible refine LeO.ite ?_ ?_)
   | (with_reducible refine LeO.bind ?_ (fun _ => ?_))
   | exact ih0 _ _ _
   | exact ih1 _ _ _ _
   | exact sennitref11_Run.mono _ _
   | exact LeO.none _
   | refine LeO.ite ?_ ?_
   | refine LeO.bind ?_ (fun _ => ?_)
  ·intro y0 y1 y2 y3
   unfold sennitref11_Fits.l1
   repeat' first
   | (with_reducible exact ih0 _ _ _)
   | (with_reducible exact ih1 _ _ _ _)
   | (with_reducible exact sennitref11_Run.mono _ _)
   | (with_reducible exact LeO.refl _)
   | (with_reducible exact LeO.none _)
   | (with_reducible refine LeO.ite ?_ ?_)
   | (with_reducible refine LeO.bind ?_ (fun _ => ?_))
   | exact ih0 _ _ _
   | exact ih1 _ _ _ _
   | exact sennitref11_Run.mono _ _
   | exact LeO.none _
   | refine LeO.ite ?_ ?_
   | refine LeO.bind ?_ (fun _ => ?_)
theorem sennitref11_Fits.mono : ∀ a0 a1 k, LeO (sennitref11_Fits.f k a0 a1) (sennitref11_Fits.f (k + 1) a0 a1) := by
 intro a0 a1 k
 obtain ⟨ih0, ih1⟩ := sennitref11_Fits.mono_l k
 unfold sennitref11_Fits.f
 repeat' first
   | (with_reducible exact ih0 _ _ _)
   | (with_reducible exact ih1 _ _ _ _)
   | (with_reducible exact sennitref11_Run.mono _ _)
   | (with_reducible exact LeO.refl _)
   | (with_reducible exact LeO.none _)
   | (with_reducible refine LeO.ite ?_ ?_)
   | (with_reducible refine LeO.bind ?_ (fun _ => ?_))
   | exact ih0 _ _ _
   | exact ih1 _ _ _ _
   | exact sennitref11_Run.mono _ _
   | exact LeO.none _
   | refine LeO.ite ?_ ?_
   | refine LeO.bind ?_ (fun _ => ?_)
set_option maxHeartbeats 8000000 in
set_option maxRecDepth 100000 in
theorem sennitref11_Fits.calls (k : Nat) (a0 : Int) (A1 : Option Addr) (c1 : Nat) (l1 : List (List ByteArray)) (r : Bool) (w : World) (hr1 : Kd.C (Kd.slice 9 Kd.string) w A1 l1.length l1) (hc1 : l1.length ≤ c1) (h : sennitref11_Fits.f k a0 l1 = some r) :
  Calls Tryd.prog 13 #[.int .i64 a0, .slice A1 l1.length c1] w fun e w' => e = .returned (.bool r) ∧ Drawn0 w w' := by
 have HR1 := Aside0.mk hr1
 have HC1 := Aside0.mk hc1
 clear hr1 hc1
 have H : (sennitref11_Fits.l0 k a0 l1 0) = some r := h
 clear h
 have H' := Aside0.mk H
 clear H
 go_enter Tryd.func13, Tryd.ntmps13
 go_wp2
 go_loopg [5] k (fun kq v5 w' => ∃ (x5_1 : Int), v5 = .int .i64 x5_1 ∧ Aside0 (sennitref11_Fits.l0 kq a0 l1 x5_1 = some r) ∧ Aside0 (kq ≤ k) ∧ Drawn0 w w')
 case atStart => exact ⟨(0), (by first | rfl | (simp; done) | (simp [*]; done)), H', ⟨Nat.le_refl _⟩, by repeat (first | exact Drawn0.refl _ | apply Drawn0.step)⟩
 case round =>
  clear H'
  try clear c1
  try clear p2
  obtain ⟨x5_1, rfl, HA, HK1, ⟨m1, rfl⟩⟩ := hrel
  cases gk with
  | zero => exact absurd HA.out (by simp [sennitref11_Fits.l0])
  | succ k1 =>
   have H := HA.out
   clear HA
   simp only [sennitref11_Fits.l0] at H
   by_cases c3 : x5_1 < (l1.length : Int)
   ·rw [if_pos c3] at H
    have c3b0 : decide (x5_1 < (l1.length : Int)) = true := decide_eq_true c3
    clear c3
    have H' := Aside0.mk H
    clear H
    go_wp2
    go_loopg [6] k1 (fun kq v6 w' => ∃ (x6_2 : Int), v6 = .int .i64 x6_2 ∧ Aside0 (sennitref11_Fits.l1 kq a0 l1 x5_1 x6_2 = some r) ∧ Aside0 (kq ≤ k1) ∧ Drawn0 w w')
    case atStart => exact ⟨(0), (by first | rfl | (simp; done) | (simp [*]; done)), H', ⟨Nat.le_refl _⟩, by repeat (first | exact Drawn0.refl _ | apply Drawn0.step)⟩
    case round =>
     clear H'
     try clear c1
     try clear p2
     try clear c3
     try clear c3b0
     try clear p2
     obtain ⟨x6_2, rfl, HA, HK2, ⟨m2, rfl⟩⟩ := hrel
     cases gk with
     | zero => exact absurd HA.out (by simp [sennitref11_Fits.l1])
     | succ k2 =>
      have H := HA.out
      clear HA
      simp only [sennitref11_Fits.l1] at H
      by_cases c4 : 0 ≤ x5_1
      ·rw [if_pos c4] at H
       have c4b0 : decide (0 ≤ x5_1) = true := decide_eq_true c4
       clear c4
       by_cases c5 : x5_1 < (l1.length : Int)
       ·rw [if_pos c5] at H
        have c5b0 : decide (x5_1 < (l1.length : Int)) = true := decide_eq_true c5
        clear c5
        by_cases c6 : x6_2 < ((rd_L1 l1 x5_1).length : Int)
        ·rw [if_pos c6] at H
         have c6b0 : decide (x6_2 < ((rd_L1 l1 x5_1).length : Int)) = true := decide_eq_true c6
         clear c6
         by_cases c7 : 0 ≤ x6_2
         ·rw [if_pos c7] at H
          have c7b0 : decide (0 ≤ x6_2) = true := decide_eq_true c7
          clear c7
          replace H := Option.bind_eq_some_iff.mp H
          obtain ⟨t249, A80, H⟩ := H
          replace H : (if t249 ≥ a0 then (some false) else (sennitref11_Fits.l1 k2 a0 l1 x5_1 (wrap64 (x6_2 + 1)))) = some r := H
          have A8 := Aside0.mk A80
          clear A80
          by_cases c9 : t249 ≥ a0
          ·rw [if_pos c9] at H
           have c9b0 : decide (a0 ≤ t249) = true := decide_eq_true c9
           clear c9
           obtain rfl := Option.some.inj H
           have p246 : 0 ≤ (x5_1 : Int) := of_decide_eq_true (by first | (with_reducible assumption) | assumption)
           have q246 : x5_1 < (l1.length : Int) := of_decide_eq_true (by first | (with_reducible assumption) | assumption)
           obtain ⟨ad246, A246_0, c246_0, e246, hx246_0, hl246_0, hi246_0⟩ := at_L1 HR1.out x5_1 p246 q246
           cases e246
           have HR246_0 := Aside0.mk hi246_0
           have HC246_0 := Aside0.mk hl246_0
           clear hi246_0 hl246_0
           replace p246 := eq_true p246
           replace q246 := eq_true q246
           have p247 : 0 ≤ (x5_1 : Int) := of_decide_eq_true (by first | (with_reducible assumption) | assumption)
           have q247 : x5_1 < (l1.length : Int) := of_decide_eq_true (by first | (with_reducible assumption) | assumption)
           obtain ⟨ad247, A247_0, c247_0, e247, hx247_0, hl247_0, hi247_0⟩ := at_L1 HR1.out x5_1 p247 q247
           obtain rfl : ad246 = ad247 := (by injection e247)
           have HR247_0 := Aside0.mk hi247_0
           have HC247_0 := Aside0.mk hl247_0
           clear hi247_0 hl247_0
           replace p247 := eq_true p247
           replace q247 := eq_true q247
           have ea_ := Option.some.inj (hx246_0.symm.trans hx247_0)
           injection ea_ with ea_ en_ ec_
           subst ea_
           subst ec_
           clear en_
           have p248 : 0 ≤ (x6_2 : Int) := of_decide_eq_true (by first | (with_reducible assumption) | assumption)
           have q248 : x6_2 < ((rd_L1 l1 x5_1).length : Int) := of_decide_eq_true (by first | (with_reducible assumption) | assumption)
           obtain ⟨ad248, e248, hx248_0⟩ := Kd.at_string HR247_0.out x6_2 p248 q248
           cases e248
           replace p248 := eq_true p248
           replace q248 := eq_true q248
           go_wp2_with (first | ((with_reducible refine gate_callee (f := 31) rfl ?_); refine goesL_ (some 29) rfl rfl Tryd.func31 (by kernel_rfl) rfl #[.string (rdOf ByteArray.empty (rd_L1 l1 x5_1) x6_2)] rfl (by (try simp only [List.map_toArray, List.map_cons, List.map_nil]); first | done | rfl | (simp only [List.length_drop, List.length_take]; rfl)) ?_; (with_reducible refine (sennitref11_Run.calls k2 (rdOf ByteArray.empty (rd_L1 l1 x5_1) x6_2) t249 _ A8.out).mono ?_); rintro e w' ⟨rfl, ⟨nd, rfl⟩⟩; refine ⟨_, rfl, ?_⟩))
           go_ret
           exact ⟨by first | rfl | (simp; done) | (simp [*]; done), by repeat (first | exact Drawn0.refl _ | apply Drawn0.step)⟩
          ·rw [if_neg c9] at H
           have c9b0 : decide (a0 ≤ t249) = false := decide_eq_false c9
           clear c9
           have H' := Aside0.mk H
           clear H
           have p246 : 0 ≤ (x5_1 : Int) := of_decide_eq_true (by first | (with_reducible assumption) | assumption)
           have q246 : x5_1 < (l1.length : Int) := of_decide_eq_true (by first | (with_reducible assumption) | assumption)
           obtain ⟨ad246, A246_0, c246_0, e246, hx246_0, hl246_0, hi246_0⟩ := at_L1 HR1.out x5_1 p246 q246
           cases e246
           have HR246_0 := Aside0.mk hi246_0
           have HC246_0 := Aside0.mk hl246_0
           clear hi246_0 hl246_0
           replace p246 := eq_true p246
           replace q246 := eq_true q246
           have p247 : 0 ≤ (x5_1 : Int) := of_decide_eq_true (by first | (with_reducible assumption) | assumption)
           have q247 : x5_1 < (l1.length : Int) := of_decide_eq_true (by first | (with_reducible assumption) | assumption)
           obtain ⟨ad247, A247_0, c247_0, e247, hx247_0, hl247_0, hi247_0⟩ := at_L1 HR1.out x5_1 p247 q247
           obtain rfl : ad246 = ad247 := (by injection e247)
           have HR247_0 := Aside0.mk hi247_0
           have HC247_0 := Aside0.mk hl247_0
           clear hi247_0 hl247_0
           replace p247 := eq_true p247
           replace q247 := eq_true q247
           have ea_ := Option.some.inj (hx246_0.symm.trans hx247_0)
           injection ea_ with ea_ en_ ec_
           subst ea_
           subst ec_
           clear en_
           have p248 : 0 ≤ (x6_2 : Int) := of_decide_eq_true (by first | (with_reducible assumption) | assumption)
           have q248 : x6_2 < ((rd_L1 l1 x5_1).length : Int) := of_decide_eq_true (by first | (with_reducible assumption) | assumption)
           obtain ⟨ad248, e248, hx248_0⟩ := Kd.at_string HR247_0.out x6_2 p248 q248
           cases e248
           replace p248 := eq_true p248
           replace q248 := eq_true q248
           go_wp2_with (first | ((with_reducible refine gate_callee (f := 31) rfl ?_); refine goesL_ (some 29) rfl rfl Tryd.func31 (by kernel_rfl) rfl #[.string (rdOf ByteArray.empty (rd_L1 l1 x5_1) x6_2)] rfl (by (try simp only [List.map_toArray, List.map_cons, List.map_nil]); first | done | rfl | (simp only [List.length_drop, List.length_take]; rfl)) ?_; (with_reducible refine (sennitref11_Run.calls k2 (rdOf ByteArray.empty (rd_L1 l1 x5_1) x6_2) t249 _ A8.out).mono ?_); rintro e w' ⟨rfl, ⟨nd, rfl⟩⟩; refine ⟨_, rfl, ?_⟩))
           go_roundg k2
           case measure => have := HK1.out; have := HK2.out; omega
           case rel => exact ⟨(wrap64 (x6_2 + 1)), (by first | rfl | (simp; done) | (simp [*]; done)), H', ⟨by have := HK1.out; have := HK2.out; omega⟩, by repeat (first | exact Drawn0.refl _ | apply Drawn0.step)⟩
         ·rw [if_neg c7] at H
          exact absurd H (by simp)
        ·rw [if_neg c6] at H
         have c6b0 : decide (x6_2 < ((rd_L1 l1 x5_1).length : Int)) = false := decide_eq_false c6
         clear c6
         have H' := Aside0.mk H
         clear H
         have p246 : 0 ≤ (x5_1 : Int) := of_decide_eq_true (by first | (with_reducible assumption) | assumption)
         have q246 : x5_1 < (l1.length : Int) := of_decide_eq_true (by first | (with_reducible assumption) | assumption)
         obtain ⟨ad246, A246_0, c246_0, e246, hx246_0, hl246_0, hi246_0⟩ := at_L1 HR1.out x5_1 p246 q246
         cases e246
         have HR246_0 := Aside0.mk hi246_0
         have HC246_0 := Aside0.mk hl246_0
         clear hi246_0 hl246_0
         replace p246 := eq_true p246
         replace q246 := eq_true q246
         go_wp2
         go_roundg k2
         case measure => have := HK1.out; have := HK2.out; omega
         case rel => exact ⟨(wrap64 (x5_1 + 1)), (by first | rfl | (simp; done) | (simp [*]; done)), H', ⟨by have := HK1.out; have := HK2.out; omega⟩, by repeat (first | exact Drawn0.refl _ | apply Drawn0.step)⟩
       ·rw [if_neg c5] at H
        exact absurd H (by simp)
      ·rw [if_neg c4] at H
       exact absurd H (by simp)
   ·rw [if_neg c3] at H
    have c3b0 : decide (x5_1 < (l1.length : Int)) = false := decide_eq_false c3
    clear c3
    obtain rfl := Option.some.inj H
    go_wp2
    go_ret
    exact ⟨by first | rfl | (simp; done) | (simp [*]; done), by repeat (first | exact Drawn0.refl _ | apply Drawn0.step)⟩

end Go.Proofs.YtcnjbmdnnhbfkaaDoor.XD
