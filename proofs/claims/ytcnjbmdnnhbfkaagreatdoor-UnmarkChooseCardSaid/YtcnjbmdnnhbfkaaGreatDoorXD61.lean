-- Printed by this session's xprint.sh (a patched copy of the kit's print program). Not trusted: Lean checks it.
import Derived.Test.YtcnjbmdnnhbfkaaGreatDoorXD0
import Derived.Test.YtcnjbmdnnhbfkaaGreatDoorUnmark5
namespace Go.Proofs.YtcnjbmdnnhbfkaaGreatDoor.XD
open Go.RowKit Go.Proofs.YtcnjbmdnnhbfkaaGreatDoor.Unmark Go.Proofs.YtcnjbmdnnhbfkaaGreatDoorW.PrintWords Go.Proofs.YtcnjbmdnnhbfkaaGreatDoorW.PrintLast Go.Proofs.YtcnjbmdnnhbfkaaGreatDoorW.PrintMore
attribute [local go_sem] max2_int min2_int max_two min_two max_three min_three max_four min_four   -- for this text's walks alone
set_option linter.unusedVariables false
set_option linter.unusedSimpArgs false

/-! ### sennitref07_Choose: function 21 -/
mutual
def sennitref07_Choose.l0 : Nat → List (S36) → Int → List ByteArray → Int → Option (List ByteArray)
 | 0, _, _, _, _ => none
 | k + 1, x0, x1, x5, x6 => if x6 < (x0.length : Int) then (if 0 ≤ x6 then (if ((rd_T36 x0 x6).f0 = true) then (sennitref07_Choose.j1 k x0 x1 x5 x6) else (if x5.length + ((rd_T36 x0 x6).f1).length < 8796093022208 then (sennitref07_Choose.j1 k x0 x1 (x5 ++ ((rd_T36 x0 x6).f1)) x6) else (none))) else (none)) else (some x5)
def sennitref07_Choose.j1 : Nat → List (S36) → Int → List ByteArray → Int → Option (List ByteArray)
 | 0, _, _, _, _ => none
 | k + 1, x0, x1, x5, x6 => sennitref07_Choose.l1 k x0 x1 x5 x6 0
def sennitref07_Choose.l1 : Nat → List (S36) → Int → List ByteArray → Int → Int → Option (List ByteArray)
 | 0, _, _, _, _, _ => none
 | k + 1, x0, x1, x5, x6, x7 => if 0 ≤ x6 then (if x6 < (x0.length : Int) then (if (rd_T36 x0 x6).f0 = true then (sennitref07_Choose.j3 k x0 x1 x5 x6 x7 (decide (x7 < (((rd_T36 x0 x6).f3).length : Int)))) else (sennitref07_Choose.j3 k x0 x1 x5 x6 x7 false)) else (none)) else (none)
def sennitref07_Choose.j3 : Nat → List (S36) → Int → List ByteArray → Int → Int → Bool → Option (List ByteArray)
 | 0, _, _, _, _, _, _ => none
 | k + 1, x0, x1, x5, x6, x7, x41 => if x41 = true then (if x7 = (wrap64 (x1 - 1)) then (if 0 ≤ x6 then (if x6 < (x0.length : Int) then (if 0 ≤ x7 then (if x7 < (((rd_T36 x0 x6).f3).length : Int) then (if x5.length + (rd_L2 ((rd_T36 x0 x6).f3) x7).length < 8796093022208 then (sennitref07_Choose.l1 k x0 x1 (x5 ++ (rd_L2 ((rd_T36 x0 x6).f3) x7)) x6 (wrap64 (x7 + 1))) else (none)) else (none)) else (none)) else (none)) else (none)) else (sennitref07_Choose.l1 k x0 x1 x5 x6 (wrap64 (x7 + 1)))) else (sennitref07_Choose.l0 k x0 x1 x5 (wrap64 (x6 + 1)))
end
def sennitref07_Choose.f (k : Nat) (l0 : List (S36)) (a1 : Int) : Option (List ByteArray) := sennitref07_Choose.l0 k l0 a1 ([] : List ByteArray) 0
set_option maxHeartbeats 8000000 in
set_option maxRecDepth 100000 in
theorem sennitref07_Choose.calls (k : Nat) (A0 : Option Addr) (c0 : Nat) (l0 : List (S36)) (a1 : Int) (r : List ByteArray) (w : World) (hr0 : Kd.C k36 w A0 l0.length l0) (hc0 : l0.length ≤ c0) (h : sennitref07_Choose.f k l0 a1 = some r) :
  Calls Tryz.prog 21 #[.slice A0 l0.length c0, .int .i64 a1] w fun e w' => ∃ v0_ : Value, e = .returned (v0_) ∧ Kd.R Kd.string 9 w' w.heap.size (fun _ => True) v0_ r ∧ Below w.heap.size w w' := by
 have HR0 := Aside0.mk hr0
 have HC0 := Aside0.mk hc0
 clear hr0 hc0
 have HB := Aside0.mk (Below.refl w.heap.size w)
 have H : (sennitref07_Choose.l0 k l0 a1 ([] : List ByteArray) 0) = some r := h
 clear h
 have H' := Aside0.mk H
 clear H
 go_enter Tryz.func21, Tryz.ntmps21
 go_wp2
 go_loopg [5, 6] k (fun kq v5 v6 w' => ∃ (x5_1 : List ByteArray) (x6_1 : Int), v6 = .int .i64 x6_1 ∧ Aside0 (sennitref07_Choose.l0 kq l0 a1 x5_1 x6_1 = some r) ∧ Aside0 (kq ≤ k) ∧ Aside0 (Kd.R Kd.string 9 w' w.heap.size (fun _ => True) v5 x5_1) ∧ Aside0 (Below w.heap.size w w'))
 case atStart => exact ⟨(([] : List ByteArray)), (0), (by first | rfl | (simp; done) | (simp [*]; done)), H', ⟨Nat.le_refl _⟩, ⟨by first | exact Kd.R_nil _ _ _ _ _ | exact Kd.N_nil _ _ _ _ _ | exact Kd.V_nil _ _ _ _ _ | exact Kd.Q_nil _ _ _ _ _ | exact Kd.S_nil _ _ _ _ _⟩, ⟨by repeat (first | (with_reducible first | exact HB.out | apply below_alloc | apply pw_below_drewN | apply below_drew1) | exact HB.out)⟩⟩
 case round =>
  clear H'
  try clear c2
  try clear p2
  obtain ⟨x5_1, x6_1, rfl, HA, HK1, HO_5, HB⟩ := hrel
  cases gk with
  | zero => exact absurd HA.out (by simp [sennitref07_Choose.l0])
  | succ k1 =>
   have H := HA.out
   clear HA
   simp only [sennitref07_Choose.l0] at H
   by_cases c3 : x6_1 < (l0.length : Int)
   ·rw [if_pos c3] at H
    have c3b0 : decide (x6_1 < (l0.length : Int)) = true := decide_eq_true c3
    clear c3
    by_cases c4 : 0 ≤ x6_1
    ·rw [if_pos c4] at H
     have c4b0 : decide (0 ≤ x6_1) = true := decide_eq_true c4
     clear c4
     have HC5 := Aside0.mk H
     clear H
     have p159 : 0 ≤ (x6_1 : Int) := of_decide_eq_true (by first | (with_reducible assumption) | assumption)
     have q159 : x6_1 < (l0.length : Int) := of_decide_eq_true (by first | (with_reducible assumption) | assumption)
     obtain ⟨ad159, A159_1, c159_1, A159_2, c159_2, A159_3, c159_3, e159, hx159_0, hx159_1, hx159_2, hx159_3, hl159_1, hi159_1, hl159_2, hi159_2, hl159_3, hi159_3⟩ := at_T36 HR0.out x6_1 p159 q159
     cases e159
     replace hx159_0 := (HB.out.cell (World.block_lt_of_cell? w _ hx159_0)).trans hx159_0
     replace hx159_1 := (HB.out.cell (World.block_lt_of_cell? w _ hx159_1)).trans hx159_1
     replace hx159_2 := (HB.out.cell (World.block_lt_of_cell? w _ hx159_2)).trans hx159_2
     replace hx159_3 := (HB.out.cell (World.block_lt_of_cell? w _ hx159_3)).trans hx159_3
     have HR159_1 := Aside0.mk hi159_1
     have HC159_1 := Aside0.mk hl159_1
     clear hi159_1 hl159_1
     have HR159_2 := Aside0.mk hi159_2
     have HC159_2 := Aside0.mk hl159_2
     clear hi159_2 hl159_2
     have HR159_3 := Aside0.mk hi159_3
     have HC159_3 := Aside0.mk hl159_3
     clear hi159_3 hl159_3
     replace p159 := eq_true p159
     replace q159 := eq_true q159
     go_upto_if 19 with (fail)
     go_cut [5] (fun v5 wc => ∃ (kq : Nat) (x5_4 : List ByteArray), Aside0 (sennitref07_Choose.j1 kq l0 a1 x5_4 x6_1 = some r) ∧ Aside0 (kq ≤ k1) ∧ Aside0 (Kd.R Kd.string 9 wc w.heap.size (fun _ => True) v5 x5_4) ∧ Aside0 (Below w.heap.size w wc))
     case first =>
      have H := HC5.out
      clear HC5
      obtain ⟨bq6, hbq6⟩ : ∃ b_ : Bool, b_ = ((rd_T36 l0 x6_1).f0) := ⟨_, rfl⟩
      replace H : (if (bq6 = true) then (sennitref07_Choose.j1 k1 l0 a1 x5_1 x6_1) else (if x5_1.length + ((rd_T36 l0 x6_1).f1).length < 8796093022208 then (sennitref07_Choose.j1 k1 l0 a1 (x5_1 ++ ((rd_T36 l0 x6_1).f1)) x6_1) else (none))) = some r := by rw [← hbq6] at H; exact H
      have Nbq6 := Aside0.mk hbq6
      clear hbq6
      (try rw [← Nbq6.out])
      by_cases c7 : (bq6 = true)
      ·subst c7
       have H1 : (sennitref07_Choose.j1 k1 l0 a1 x5_1 x6_1) = some r := by rw [if_pos rfl] at H; exact H
       clear H
       have H := H1
       clear H1
       have H' := Aside0.mk H
       clear H
       go_wp2
       go_meet
       case rel => exact ⟨_, (x5_1), H', ⟨by have := HK1.out; first | omega | exact Nat.le_refl _⟩, ⟨by (with_reducible repeat (first | apply Kd.R_alloc | apply Kd.R_drewN | apply Kd.R_drew)); exact HO_5.out⟩, ⟨by repeat (first | (with_reducible first | exact HB.out | apply below_alloc | apply pw_below_drewN | apply below_drew1) | exact HB.out)⟩⟩
      ·replace c7 := Bool.eq_false_iff.mpr c7
       subst c7
       have H1 : (if x5_1.length + ((rd_T36 l0 x6_1).f1).length < 8796093022208 then (sennitref07_Choose.j1 k1 l0 a1 (x5_1 ++ ((rd_T36 l0 x6_1).f1)) x6_1) else (none)) = some r := by rw [if_neg (show ¬ (false = true) by decide)] at H; exact H
       clear H
       have H := H1
       clear H1
       by_cases c8 : x5_1.length + ((rd_T36 l0 x6_1).f1).length < 8796093022208
       ·rw [if_pos c8] at H
        have LMc8 := Aside0.mk c8
        clear c8
        obtain ⟨y161, hy161⟩ : ∃ y_ : List ByteArray, y_ = (x5_1 ++ ((rd_T36 l0 x6_1).f1)) := ⟨_, rfl⟩
        replace H : (sennitref07_Choose.j1 k1 l0 a1 y161 x6_1) = some r := by first | (rw [hy161]; with_reducible exact H) | (have H2_ := (Option.bind_some _ _).symm.trans H; rw [hy161]; with_reducible exact H2_) | (have H2_ := (Option.bind_some _ _).symm.trans H; with_reducible exact H2_) | with_reducible exact H | (rw [hy161]; exact H) | exact H
        have Ny161 := Aside0.mk hy161
        clear hy161
        have H' := Aside0.mk H
        clear H
        have p160 : 0 ≤ (x6_1 : Int) := of_decide_eq_true (by first | (with_reducible assumption) | assumption)
        have q160 : x6_1 < (l0.length : Int) := of_decide_eq_true (by first | (with_reducible assumption) | assumption)
        obtain ⟨ad160, A160_1, c160_1, A160_2, c160_2, A160_3, c160_3, e160, hx160_0, hx160_1, hx160_2, hx160_3, hl160_1, hi160_1, hl160_2, hi160_2, hl160_3, hi160_3⟩ := at_T36 HR0.out x6_1 p160 q160
        (try rw [← Nbq6.out] at hx160_0)
        obtain rfl : ad159 = ad160 := (by injection e160)
        (try clear hx159_0); (try clear hx159_1); (try clear hx159_2); (try clear hx159_3)
        replace hx160_0 := (HB.out.cell (World.block_lt_of_cell? w _ hx160_0)).trans hx160_0
        replace hx160_1 := (HB.out.cell (World.block_lt_of_cell? w _ hx160_1)).trans hx160_1
        replace hx160_2 := (HB.out.cell (World.block_lt_of_cell? w _ hx160_2)).trans hx160_2
        replace hx160_3 := (HB.out.cell (World.block_lt_of_cell? w _ hx160_3)).trans hx160_3
        have HR160_1 := Aside0.mk hi160_1
        have HC160_1 := Aside0.mk hl160_1
        clear hi160_1 hl160_1
        have HR160_2 := Aside0.mk hi160_2
        have HC160_2 := Aside0.mk hl160_2
        clear hi160_2 hl160_2
        have HR160_3 := Aside0.mk hi160_3
        have HC160_3 := Aside0.mk hl160_3
        clear hi160_3 hl160_3
        replace p160 := eq_true p160
        replace q160 := eq_true q160
        go_wp2_with (first | ((with_reducible refine gate_builtin (b := .append) (xs := #[.tmp 20, .tmp 25]) rfl ?_); (try (refine gate_guard (by rfl) ?_; dsimp only)); at_builtin; refine Kd.R_append_rows Kd.string (w0 := w) w.heap.size rfl (.tmp 20) (.tmp 25) 25 9 (.string ⟨#[]⟩) 16 rfl Tryz.underlying25 info9 rfl (by decide) (by omega) u5 x5_1 ((rd_T36 l0 x6_1).f1) _ _ _ (fun _ => True) (fun _ => False) rfl rfl ?aO ?aR (fun _ _ h => h) (fun _ h => h.elim) ?aF ?aB ?aS ?aL ?_; (case aR => repeat (first | exact (Kd.C_below HR160_1.out HB.out) | (with_reducible refine Kd.C_alloc ?_ _) | (with_reducible refine Kd.C_drewN ?_ _) | (with_reducible refine Kd.C_drew ?_))); (case aB => exact (by repeat (first | (with_reducible first | exact HB.out | apply below_alloc | apply pw_below_drewN | apply below_drew1) | exact HB.out))); (case aF => exact (fun _ _ => trivial)); (case aO => exact (by (with_reducible repeat (first | apply Kd.R_alloc | apply Kd.R_drewN | apply Kd.R_drew)); exact HO_5.out)); (case aS => exact (below_size (by repeat (first | (with_reducible first | exact HB.out | apply below_alloc | apply pw_below_drewN | apply below_drew1) | exact HB.out)))); (case aL => have := LMc8.out; omega); intro v162 w9 ho hb hg hat; rw [← Ny161.out] at ho; have n0_ := Aside0.mk (hb); have n1_ := Aside0.mk (ho); clear HB; clear HO_5; have HB := n0_; have HO163 := n1_; clear n0_ n1_; clear ho hb hg hat))
        go_meet
        case rel => exact ⟨_, (y161), H', ⟨by have := HK1.out; first | omega | exact Nat.le_refl _⟩, ⟨by (with_reducible repeat (first | apply Kd.R_alloc | apply Kd.R_drewN | apply Kd.R_drew)); exact HO163.out⟩, ⟨by repeat (first | (with_reducible first | exact HB.out | apply below_alloc | apply pw_below_drewN | apply below_drew1) | exact HB.out)⟩⟩
       ·rw [if_neg c8] at H
        exact absurd H (by simp)
     case rest =>
      clear HC5
      try clear c1
      try clear p1
      try clear q1
      try clear hx1
      try clear c2
      try clear p2
      try clear c3
      try clear c3b0
      try clear c4
      try clear c4b0
      try clear q6
      try clear c7
      try clear c8
      try clear hx159_0
      try clear hx159_1
      try clear hx159_2
      try clear hx159_3
      try clear hx160_0
      try clear hx160_1
      try clear hx160_2
      try clear hx160_3
      try clear p159
      try clear p160
      try clear p2
      try clear q159
      try clear q160
      obtain ⟨kq, x5_4, HA, HJ4, HO_5, HB⟩ := hcut
      cases kq with
      | zero => exact absurd HA.out (by simp [sennitref07_Choose.j1])
      | succ kj4 =>
       have H := HA.out
       clear HA
       simp only [sennitref07_Choose.j1] at H
       have H' := Aside0.mk H
       clear H
       go_wp2
       go_loopg [5, 7] kj4 (fun kq v5 v7 w' => ∃ (x5_3 : List ByteArray) (x7_3 : Int), v7 = .int .i64 x7_3 ∧ Aside0 (sennitref07_Choose.l1 kq l0 a1 x5_3 x6_1 x7_3 = some r) ∧ Aside0 (kq ≤ kj4) ∧ Aside0 (Kd.R Kd.string 9 w' w.heap.size (fun _ => True) v5 x5_3) ∧ Aside0 (Below w.heap.size w w'))
       case atStart => exact ⟨(x5_4), (0), (by first | rfl | (simp; done) | (simp [*]; done)), H', ⟨Nat.le_refl _⟩, ⟨by (with_reducible repeat (first | apply Kd.R_alloc | apply Kd.R_drewN | apply Kd.R_drew)); exact HO_5.out⟩, ⟨by repeat (first | (with_reducible first | exact HB.out | apply below_alloc | apply pw_below_drewN | apply below_drew1) | exact HB.out)⟩⟩
       case round =>
        clear H'
        try clear c1
        try clear p1
        try clear q1
        try clear hx1
        try clear c2
        try clear p2
        try clear c3
        try clear c3b0
        try clear c4
        try clear c4b0
        try clear q6
        try clear c7
        try clear c8
        try clear hx159_0
        try clear hx159_1
        try clear hx159_2
        try clear hx159_3
        try clear hx160_0
        try clear hx160_1
        try clear hx160_2
        try clear hx160_3
        try clear p1
        try clear p159
        try clear p160
        try clear p2
        try clear q1
        try clear q159
        try clear q160
        try clear q6
        obtain ⟨x5_3, x7_3, rfl, HA, HK3, HO_5, HB⟩ := hrel
        cases gk with
        | zero => exact absurd HA.out (by simp [sennitref07_Choose.l1])
        | succ k3 =>
         have H := HA.out
         clear HA
         simp only [sennitref07_Choose.l1] at H
         have HC10 := Aside0.mk H
         clear H
         go_upto_region 8 with (fail)
         go_cut [41] (fun v41 wc => ∃ (kq : Nat) (x41_9 : Bool), v41 = .bool x41_9 ∧ Aside0 (sennitref07_Choose.j3 kq l0 a1 x5_3 x6_1 x7_3 x41_9 = some r) ∧ Aside0 (kq ≤ k3) ∧ Aside0 (Kd.R Kd.string 9 wc w.heap.size (fun _ => True) u5 x5_3) ∧ Aside0 (Below w.heap.size w wc))
         case first =>
          have H := HC10.out
          clear HC10
          by_cases c11 : 0 ≤ x6_1
          ·rw [if_pos c11] at H
           have c11b0 : decide (0 ≤ x6_1) = true := decide_eq_true c11
           clear c11
           (first | rw [c11b0] | (simp only [i64_w, i32_w]; rw [c11b0]) | skip)
           by_cases c12 : x6_1 < (l0.length : Int)
           ·rw [if_pos c12] at H
            have c12b0 : decide (x6_1 < (l0.length : Int)) = true := decide_eq_true c12
            clear c12
            obtain ⟨bq13, hbq13⟩ : ∃ b_ : Bool, b_ = ((rd_T36 l0 x6_1).f0) := ⟨_, rfl⟩
            replace H : (if bq13 = true then (sennitref07_Choose.j3 k3 l0 a1 x5_3 x6_1 x7_3 (decide (x7_3 < (((rd_T36 l0 x6_1).f3).length : Int)))) else (sennitref07_Choose.j3 k3 l0 a1 x5_3 x6_1 x7_3 false)) = some r := by rw [← hbq13] at H; exact H
            have Nbq13 := Aside0.mk hbq13
            clear hbq13
            by_cases c14 : bq13 = true
            ·subst c14
             have H1 : (sennitref07_Choose.j3 k3 l0 a1 x5_3 x6_1 x7_3 (decide (x7_3 < (((rd_T36 l0 x6_1).f3).length : Int)))) = some r := by rw [if_pos rfl] at H; exact H
             clear H
             have H := H1
             clear H1
             have H' := Aside0.mk H
             clear H
             have p164 : 0 ≤ (x6_1 : Int) := of_decide_eq_true (by first | (with_reducible assumption) | assumption)
             have q164 : x6_1 < (l0.length : Int) := of_decide_eq_true (by first | (with_reducible assumption) | assumption)
             obtain ⟨ad164, A164_1, c164_1, A164_2, c164_2, A164_3, c164_3, e164, hx164_0, hx164_1, hx164_2, hx164_3, hl164_1, hi164_1, hl164_2, hi164_2, hl164_3, hi164_3⟩ := at_T36 HR0.out x6_1 p164 q164
             (try rw [← Nbq13.out] at hx164_0)
             obtain rfl : ad159 = ad164 := (by injection e164)
             (try clear hx159_0); (try clear hx159_1); (try clear hx159_2); (try clear hx159_3)
             replace hx164_0 := (HB.out.cell (World.block_lt_of_cell? w _ hx164_0)).trans hx164_0
             replace hx164_1 := (HB.out.cell (World.block_lt_of_cell? w _ hx164_1)).trans hx164_1
             replace hx164_2 := (HB.out.cell (World.block_lt_of_cell? w _ hx164_2)).trans hx164_2
             replace hx164_3 := (HB.out.cell (World.block_lt_of_cell? w _ hx164_3)).trans hx164_3
             have HR164_1 := Aside0.mk hi164_1
             have HC164_1 := Aside0.mk hl164_1
             clear hi164_1 hl164_1
             have HR164_2 := Aside0.mk hi164_2
             have HC164_2 := Aside0.mk hl164_2
             clear hi164_2 hl164_2
             have HR164_3 := Aside0.mk hi164_3
             have HC164_3 := Aside0.mk hl164_3
             clear hi164_3 hl164_3
             replace p164 := eq_true p164
             replace q164 := eq_true q164
             have p165 : 0 ≤ (x6_1 : Int) := of_decide_eq_true (by first | (with_reducible assumption) | assumption)
             have q165 : x6_1 < (l0.length : Int) := of_decide_eq_true (by first | (with_reducible assumption) | assumption)
             obtain ⟨ad165, A165_1, c165_1, A165_2, c165_2, A165_3, c165_3, e165, hx165_0, hx165_1, hx165_2, hx165_3, hl165_1, hi165_1, hl165_2, hi165_2, hl165_3, hi165_3⟩ := at_T36 HR0.out x6_1 p165 q165
             (try rw [← Nbq13.out] at hx165_0)
             obtain rfl : ad159 = ad165 := (by injection e165)
             (try clear hx159_0); (try clear hx159_1); (try clear hx159_2); (try clear hx159_3)
             replace hx165_0 := (HB.out.cell (World.block_lt_of_cell? w _ hx165_0)).trans hx165_0
             replace hx165_1 := (HB.out.cell (World.block_lt_of_cell? w _ hx165_1)).trans hx165_1
             replace hx165_2 := (HB.out.cell (World.block_lt_of_cell? w _ hx165_2)).trans hx165_2
             replace hx165_3 := (HB.out.cell (World.block_lt_of_cell? w _ hx165_3)).trans hx165_3
             have HR165_1 := Aside0.mk hi165_1
             have HC165_1 := Aside0.mk hl165_1
             clear hi165_1 hl165_1
             have HR165_2 := Aside0.mk hi165_2
             have HC165_2 := Aside0.mk hl165_2
             clear hi165_2 hl165_2
             have HR165_3 := Aside0.mk hi165_3
             have HC165_3 := Aside0.mk hl165_3
             clear hi165_3 hl165_3
             replace p165 := eq_true p165
             replace q165 := eq_true q165
             have ea_ := Option.some.inj (hx164_1.symm.trans hx165_1)
             injection ea_ with ea_ en_ ec_
             subst ea_
             subst ec_
             clear en_
             have ea_ := Option.some.inj (hx164_2.symm.trans hx165_2)
             injection ea_ with ea_ en_ ec_
             subst ea_
             subst ec_
             clear en_
             have ea_ := Option.some.inj (hx164_3.symm.trans hx165_3)
             injection ea_ with ea_ en_ ec_
             subst ea_
             subst ec_
             clear en_
             go_wp2
             go_meet
             case rel => exact ⟨_, (decide (x7_3 < (((rd_T36 l0 x6_1).f3).length : Int))), (by first | rfl | (simp; done) | (simp [*]; done)), H', ⟨by have := HK1.out; have := HJ4.out; have := HK3.out; first | omega | exact Nat.le_refl _⟩, ⟨by (with_reducible repeat (first | apply Kd.R_alloc | apply Kd.R_drewN | apply Kd.R_drew)); exact HO_5.out⟩, ⟨by repeat (first | (with_reducible first | exact HB.out | apply below_alloc | apply pw_below_drewN | apply below_drew1) | exact HB.out)⟩⟩
            ·replace c14 := Bool.eq_false_iff.mpr c14
             subst c14
             have H1 : (sennitref07_Choose.j3 k3 l0 a1 x5_3 x6_1 x7_3 false) = some r := by rw [if_neg (show ¬ (false = true) by decide)] at H; exact H
             clear H
             have H := H1
             clear H1
             have H' := Aside0.mk H
             clear H
             have p164 : 0 ≤ (x6_1 : Int) := of_decide_eq_true (by first | (with_reducible assumption) | assumption)
             have q164 : x6_1 < (l0.length : Int) := of_decide_eq_true (by first | (with_reducible assumption) | assumption)
             obtain ⟨ad164, A164_1, c164_1, A164_2, c164_2, A164_3, c164_3, e164, hx164_0, hx164_1, hx164_2, hx164_3, hl164_1, hi164_1, hl164_2, hi164_2, hl164_3, hi164_3⟩ := at_T36 HR0.out x6_1 p164 q164
             (try rw [← Nbq13.out] at hx164_0)
             obtain rfl : ad159 = ad164 := (by injection e164)
             (try clear hx159_0); (try clear hx159_1); (try clear hx159_2); (try clear hx159_3)
             replace hx164_0 := (HB.out.cell (World.block_lt_of_cell? w _ hx164_0)).trans hx164_0
             replace hx164_1 := (HB.out.cell (World.block_lt_of_cell? w _ hx164_1)).trans hx164_1
             replace hx164_2 := (HB.out.cell (World.block_lt_of_cell? w _ hx164_2)).trans hx164_2
             replace hx164_3 := (HB.out.cell (World.block_lt_of_cell? w _ hx164_3)).trans hx164_3
             have HR164_1 := Aside0.mk hi164_1
             have HC164_1 := Aside0.mk hl164_1
             clear hi164_1 hl164_1
             have HR164_2 := Aside0.mk hi164_2
             have HC164_2 := Aside0.mk hl164_2
             clear hi164_2 hl164_2
             have HR164_3 := Aside0.mk hi164_3
             have HC164_3 := Aside0.mk hl164_3
             clear hi164_3 hl164_3
             replace p164 := eq_true p164
             replace q164 := eq_true q164
             go_wp2
             go_meet
             case rel => exact ⟨_, (false), (by first | rfl | (simp; done) | (simp [*]; done)), H', ⟨by have := HK1.out; have := HJ4.out; have := HK3.out; first | omega | exact Nat.le_refl _⟩, ⟨by (with_reducible repeat (first | apply Kd.R_alloc | apply Kd.R_drewN | apply Kd.R_drew)); exact HO_5.out⟩, ⟨by repeat (first | (with_reducible first | exact HB.out | apply below_alloc | apply pw_below_drewN | apply below_drew1) | exact HB.out)⟩⟩
           ·rw [if_neg c12] at H
            exact absurd H (by simp)
          ·rw [if_neg c11] at H
           exact absurd H (by simp)
         case rest =>
          clear HC10
          try clear c1
          try clear p1
          try clear q1
          try clear hx1
          try clear c2
          try clear p2
          try clear c3
          try clear c3b0
          try clear c4
          try clear c4b0
          try clear q6
          try clear c7
          try clear c8
          try clear c11
          try clear c11b0
          try clear c12
          try clear c12b0
          try clear q13
          try clear c14
          try clear hx159_0
          try clear hx159_1
          try clear hx159_2
          try clear hx159_3
          try clear hx160_0
          try clear hx160_1
          try clear hx160_2
          try clear hx160_3
          try clear hx164_0
          try clear hx164_1
          try clear hx164_2
          try clear hx164_3
          try clear hx165_0
          try clear hx165_1
          try clear hx165_2
          try clear hx165_3
          try clear p1
          try clear p159
          try clear p160
          try clear p164
          try clear p165
          try clear p2
          try clear q1
          try clear q159
          try clear q160
          try clear q164
          try clear q165
          try clear q6
          obtain ⟨kq, x41_9, rfl, HA, HJ9, HO_5, HB⟩ := hcut
          cases kq with
          | zero => exact absurd HA.out (by simp [sennitref07_Choose.j3])
          | succ kj9 =>
           have H := HA.out
           clear HA
           simp only [sennitref07_Choose.j3] at H
           by_cases c15 : x41_9 = true
           ·subst c15
            have H1 : (if x7_3 = (wrap64 (a1 - 1)) then (if 0 ≤ x6_1 then (if x6_1 < (l0.length : Int) then (if 0 ≤ x7_3 then (if x7_3 < (((rd_T36 l0 x6_1).f3).length : Int) then (if x5_3.length + (rd_L2 ((rd_T36 l0 x6_1).f3) x7_3).length < 8796093022208 then (sennitref07_Choose.l1 kj9 l0 a1 (x5_3 ++ (rd_L2 ((rd_T36 l0 x6_1).f3) x7_3)) x6_1 (wrap64 (x7_3 + 1))) else (none)) else (none)) else (none)) else (none)) else (none)) else (sennitref07_Choose.l1 kj9 l0 a1 x5_3 x6_1 (wrap64 (x7_3 + 1)))) = some r := by rw [if_pos rfl] at H; exact H
            clear H
            have H := H1
            clear H1
            by_cases c16 : x7_3 = (wrap64 (a1 - 1))
            ·rw [if_pos c16] at H
             have c16b0 : (x7_3 == (wrap64 (a1 - 1))) = true := beq_iff_eq.mpr c16
             have c16b1 : (x7_3 != (wrap64 (a1 - 1))) = false := bne_eq_false_iff_eq.mpr c16
             clear c16
             by_cases c17 : 0 ≤ x6_1
             ·rw [if_pos c17] at H
              have c17b0 : decide (0 ≤ x6_1) = true := decide_eq_true c17
              clear c17
              by_cases c18 : x6_1 < (l0.length : Int)
              ·rw [if_pos c18] at H
               have c18b0 : decide (x6_1 < (l0.length : Int)) = true := decide_eq_true c18
               clear c18
               by_cases c19 : 0 ≤ x7_3
               ·rw [if_pos c19] at H
                have c19b0 : decide (0 ≤ x7_3) = true := decide_eq_true c19
                clear c19
                by_cases c20 : x7_3 < (((rd_T36 l0 x6_1).f3).length : Int)
                ·rw [if_pos c20] at H
                 have c20b0 : decide (x7_3 < (((rd_T36 l0 x6_1).f3).length : Int)) = true := decide_eq_true c20
                 clear c20
                 by_cases c21 : x5_3.length + (rd_L2 ((rd_T36 l0 x6_1).f3) x7_3).length < 8796093022208
                 ·rw [if_pos c21] at H
                  have LMc21 := Aside0.mk c21
                  clear c21
                  obtain ⟨y168, hy168⟩ : ∃ y_ : List ByteArray, y_ = (x5_3 ++ (rd_L2 ((rd_T36 l0 x6_1).f3) x7_3)) := ⟨_, rfl⟩
                  replace H : (sennitref07_Choose.l1 kj9 l0 a1 y168 x6_1 (wrap64 (x7_3 + 1))) = some r := by first | (rw [hy168]; with_reducible exact H) | (have H2_ := (Option.bind_some _ _).symm.trans H; rw [hy168]; with_reducible exact H2_) | (have H2_ := (Option.bind_some _ _).symm.trans H; with_reducible exact H2_) | with_reducible exact H | (rw [hy168]; exact H) | exact H
                  have Ny168 := Aside0.mk hy168
                  clear hy168
                  have H' := Aside0.mk H
                  clear H
                  have p166 : 0 ≤ (x6_1 : Int) := of_decide_eq_true (by first | (with_reducible assumption) | assumption)
                  have q166 : x6_1 < (l0.length : Int) := of_decide_eq_true (by first | (with_reducible assumption) | assumption)
                  obtain ⟨ad166, A166_1, c166_1, A166_2, c166_2, A166_3, c166_3, e166, hx166_0, hx166_1, hx166_2, hx166_3, hl166_1, hi166_1, hl166_2, hi166_2, hl166_3, hi166_3⟩ := at_T36 HR0.out x6_1 p166 q166
                  obtain rfl : ad159 = ad166 := (by injection e166)
                  (try clear hx159_0); (try clear hx159_1); (try clear hx159_2); (try clear hx159_3)
                  replace hx166_0 := (HB.out.cell (World.block_lt_of_cell? w _ hx166_0)).trans hx166_0
                  replace hx166_1 := (HB.out.cell (World.block_lt_of_cell? w _ hx166_1)).trans hx166_1
                  replace hx166_2 := (HB.out.cell (World.block_lt_of_cell? w _ hx166_2)).trans hx166_2
                  replace hx166_3 := (HB.out.cell (World.block_lt_of_cell? w _ hx166_3)).trans hx166_3
                  have HR166_1 := Aside0.mk hi166_1
                  have HC166_1 := Aside0.mk hl166_1
                  clear hi166_1 hl166_1
                  have HR166_2 := Aside0.mk hi166_2
                  have HC166_2 := Aside0.mk hl166_2
                  clear hi166_2 hl166_2
                  have HR166_3 := Aside0.mk hi166_3
                  have HC166_3 := Aside0.mk hl166_3
                  clear hi166_3 hl166_3
                  replace p166 := eq_true p166
                  replace q166 := eq_true q166
                  have p167 : 0 ≤ (x7_3 : Int) := of_decide_eq_true (by first | (with_reducible assumption) | assumption)
                  have q167 : x7_3 < (((rd_T36 l0 x6_1).f3).length : Int) := of_decide_eq_true (by first | (with_reducible assumption) | assumption)
                  obtain ⟨ad167, A167_0, c167_0, e167, hx167_0, hl167_0, hi167_0⟩ := at_L2 HR166_3.out x7_3 p167 q167
                  cases e167
                  replace hx167_0 := (HB.out.cell (World.block_lt_of_cell? w _ hx167_0)).trans hx167_0
                  have HR167_0 := Aside0.mk hi167_0
                  have HC167_0 := Aside0.mk hl167_0
                  clear hi167_0 hl167_0
                  replace p167 := eq_true p167
                  replace q167 := eq_true q167
                  go_wp2_with (first | ((with_reducible refine gate_builtin (b := .append) (xs := #[.tmp 48, .tmp 56]) rfl ?_); (try (refine gate_guard (by rfl) ?_; dsimp only)); at_builtin; refine Kd.R_append_rows Kd.string (w0 := w) w.heap.size rfl (.tmp 48) (.tmp 56) 25 9 (.string ⟨#[]⟩) 16 rfl Tryz.underlying25 info9 rfl (by decide) (by omega) u5 x5_3 (rd_L2 ((rd_T36 l0 x6_1).f3) x7_3) _ _ _ (fun _ => True) (fun _ => False) rfl rfl ?aO ?aR (fun _ _ h => h) (fun _ h => h.elim) ?aF ?aB ?aS ?aL ?_; (case aR => repeat (first | exact (Kd.C_below HR167_0.out HB.out) | (with_reducible refine Kd.C_alloc ?_ _) | (with_reducible refine Kd.C_drewN ?_ _) | (with_reducible refine Kd.C_drew ?_))); (case aB => exact (by repeat (first | (with_reducible first | exact HB.out | apply below_alloc | apply pw_below_drewN | apply below_drew1) | exact HB.out))); (case aF => exact (fun _ _ => trivial)); (case aO => exact (by (with_reducible repeat (first | apply Kd.R_alloc | apply Kd.R_drewN | apply Kd.R_drew)); exact HO_5.out)); (case aS => exact (below_size (by repeat (first | (with_reducible first | exact HB.out | apply below_alloc | apply pw_below_drewN | apply below_drew1) | exact HB.out)))); (case aL => have := LMc21.out; omega); intro v169 w22 ho hb hg hat; rw [← Ny168.out] at ho; have n0_ := Aside0.mk (hb); have n1_ := Aside0.mk (ho); clear HB; clear HO_5; have HB := n0_; have HO170 := n1_; clear n0_ n1_; clear ho hb hg hat))
                  go_roundg kj9
                  case measure => have := HK1.out; have := HJ4.out; have := HK3.out; have := HJ9.out; omega
                  case rel => exact ⟨(y168), (wrap64 (x7_3 + 1)), (by first | rfl | (simp; done) | (simp [*]; done)), H', ⟨by have := HK1.out; have := HJ4.out; have := HK3.out; have := HJ9.out; omega⟩, ⟨by (with_reducible repeat (first | apply Kd.R_alloc | apply Kd.R_drewN | apply Kd.R_drew)); exact HO170.out⟩, ⟨by repeat (first | (with_reducible first | exact HB.out | apply below_alloc | apply pw_below_drewN | apply below_drew1) | exact HB.out)⟩⟩
                 ·rw [if_neg c21] at H
                  exact absurd H (by simp)
                ·rw [if_neg c20] at H
                 exact absurd H (by simp)
               ·rw [if_neg c19] at H
                exact absurd H (by simp)
              ·rw [if_neg c18] at H
               exact absurd H (by simp)
             ·rw [if_neg c17] at H
              exact absurd H (by simp)
            ·rw [if_neg c16] at H
             have c16b0 : (x7_3 == (wrap64 (a1 - 1))) = false := beq_eq_false_iff_ne.mpr c16
             have c16b1 : (x7_3 != (wrap64 (a1 - 1))) = true := bne_iff_ne.mpr c16
             have H' := Aside0.mk H
             clear H
             go_wp2
             go_roundg kj9
             case measure => have := HK1.out; have := HJ4.out; have := HK3.out; have := HJ9.out; omega
             case rel => exact ⟨(x5_3), (wrap64 (x7_3 + 1)), (by first | rfl | (simp; done) | (simp [*]; done)), H', ⟨by have := HK1.out; have := HJ4.out; have := HK3.out; have := HJ9.out; omega⟩, ⟨by (with_reducible repeat (first | apply Kd.R_alloc | apply Kd.R_drewN | apply Kd.R_drew)); exact HO_5.out⟩, ⟨by repeat (first | (with_reducible first | exact HB.out | apply below_alloc | apply pw_below_drewN | apply below_drew1) | exact HB.out)⟩⟩
           ·replace c15 := Bool.eq_false_iff.mpr c15
            subst c15
            have H1 : (sennitref07_Choose.l0 kj9 l0 a1 x5_3 (wrap64 (x6_1 + 1))) = some r := by rw [if_neg (show ¬ (false = true) by decide)] at H; exact H
            clear H
            have H := H1
            clear H1
            have H' := Aside0.mk H
            clear H
            go_wp2
            go_roundg kj9
            case measure => have := HK1.out; have := HJ4.out; have := HK3.out; have := HJ9.out; omega
            case rel => exact ⟨(x5_3), (wrap64 (x6_1 + 1)), (by first | rfl | (simp; done) | (simp [*]; done)), H', ⟨by have := HK1.out; have := HJ4.out; have := HK3.out; have := HJ9.out; omega⟩, ⟨by (with_reducible repeat (first | apply Kd.R_alloc | apply Kd.R_drewN | apply Kd.R_drew)); exact HO_5.out⟩, ⟨by repeat (first | (with_reducible first | exact HB.out | apply below_alloc | apply pw_below_drewN | apply below_drew1) | exact HB.out)⟩⟩
    ·rw [if_neg c4] at H
     exact absurd H (by simp)
   ·rw [if_neg c3] at H
    have c3b0 : decide (x6_1 < (l0.length : Int)) = false := decide_eq_false c3
    clear c3
    obtain rfl := Option.some.inj H
    go_wp2
    go_ret
    exact ⟨_, by first | rfl | (simp [errW_none, errW_some] <;> rfl) | (simp [*, errW_none, errW_some] <;> rfl), by (with_reducible repeat (first | apply Kd.R_alloc | apply Kd.R_drewN | apply Kd.R_drew)); exact HO_5.out, by repeat (first | (with_reducible first | exact HB.out | apply below_alloc | apply pw_below_drewN | apply below_drew1) | exact HB.out)⟩

-- function 25 (unmark_Parse): its contract is proved by hand

/-! ### sennitlaw13_awake: function 24 -/
def sennitlaw13_awake.f  : Option (Bool) := (some (([(⟨#[116, 10]⟩ : ByteArray), (⟨#[60, 60, 32, 49, 10]⟩ : ByteArray), (⟨#[97, 10]⟩ : ByteArray), (⟨#[61, 61, 32, 50, 10]⟩ : ByteArray), (⟨#[98, 10]⟩ : ByteArray), (⟨#[62, 62, 33, 10]⟩ : ByteArray)] : List ByteArray) : List ByteArray)).bind fun y171 => ((unmark_Parse.f y171 2).bind fun bt174 => (if 3 ≤ (y171.length : Int) then ((unmark_Parse.f (y171.take 3) 2).bind fun bt184 => ((unmark_Parse.f ([] : List ByteArray) 0).bind fun bt190 => (if bt174.2.2.2 = 0 then (if bt174.2.1 = 1 then (if bt174.2.2.1 = 0 then (if (bt174.1.length : Int) = 2 then (if 1 < (bt174.1.length : Int) then (if (rd_T36 bt174.1 1).f0 = true then (if (((rd_T36 bt174.1 1).f3).length : Int) = 2 then (if 1 < (((rd_T36 bt174.1 1).f3).length : Int) then (if 0 < ((rd_L2 ((rd_T36 bt174.1 1).f3) 1).length : Int) then (if (rdOf ByteArray.empty (rd_L2 ((rd_T36 bt174.1 1).f3) 1) 0).toList = ([98] : List UInt8) then (if bt184.2.2.2 = 2 then (if bt184.2.2.1 = 4 then (some (bt190.2.2.2 == 1)) else (some false)) else (some false)) else (some false)) else (none)) else (none)) else (some false)) else (some false)) else (none)) else (some false)) else (some false)) else (some false)) else (some false)))) else (none)))
theorem sennitlaw13_awake_true : sennitlaw13_awake.f = some true := by decide +kernel
set_option maxHeartbeats 8000000 in
set_option maxRecDepth 100000 in
theorem sennitlaw13_awake.calls  (r : Bool) (w : World) (h : sennitlaw13_awake.f  = some r) :
  Calls Tryz.prog 24 #[] w fun e w' => e = .returned (.bool r) ∧ Below w.heap.size w w' := by
 have hr_ : r = true := Option.some.inj (h.symm.trans sennitlaw13_awake_true)
 have HB := Aside0.mk (Below.refl w.heap.size w)
 have H : ((some (([(⟨#[116, 10]⟩ : ByteArray), (⟨#[60, 60, 32, 49, 10]⟩ : ByteArray), (⟨#[97, 10]⟩ : ByteArray), (⟨#[61, 61, 32, 50, 10]⟩ : ByteArray), (⟨#[98, 10]⟩ : ByteArray), (⟨#[62, 62, 33, 10]⟩ : ByteArray)] : List ByteArray) : List ByteArray)).bind fun y171 => ((unmark_Parse.f y171 2).bind fun bt174 => (if 3 ≤ (y171.length : Int) then ((unmark_Parse.f (y171.take 3) 2).bind fun bt184 => ((unmark_Parse.f ([] : List ByteArray) 0).bind fun bt190 => (if bt174.2.2.2 = 0 then (if bt174.2.1 = 1 then (if bt174.2.2.1 = 0 then (if (bt174.1.length : Int) = 2 then (if 1 < (bt174.1.length : Int) then (if (rd_T36 bt174.1 1).f0 = true then (if (((rd_T36 bt174.1 1).f3).length : Int) = 2 then (if 1 < (((rd_T36 bt174.1 1).f3).length : Int) then (if 0 < ((rd_L2 ((rd_T36 bt174.1 1).f3) 1).length : Int) then (if (rdOf ByteArray.empty (rd_L2 ((rd_T36 bt174.1 1).f3) 1) 0).toList = ([98] : List UInt8) then (if bt184.2.2.2 = 2 then (if bt184.2.2.1 = 4 then (some (bt190.2.2.2 == 1)) else (some false)) else (some false)) else (some false)) else (none)) else (none)) else (some false)) else (some false)) else (none)) else (some false)) else (some false)) else (some false)) else (some false)))) else (none)))) = some r := h
 clear h
 obtain ⟨y171, hy171⟩ : ∃ y_ : List ByteArray, y_ = (([(⟨#[116, 10]⟩ : ByteArray), (⟨#[60, 60, 32, 49, 10]⟩ : ByteArray), (⟨#[97, 10]⟩ : ByteArray), (⟨#[61, 61, 32, 50, 10]⟩ : ByteArray), (⟨#[98, 10]⟩ : ByteArray), (⟨#[62, 62, 33, 10]⟩ : ByteArray)] : List ByteArray)) := ⟨_, rfl⟩
 replace H : ((unmark_Parse.f y171 2).bind fun bt174 => (if 3 ≤ (y171.length : Int) then ((unmark_Parse.f (y171.take 3) 2).bind fun bt184 => ((unmark_Parse.f ([] : List ByteArray) 0).bind fun bt190 => (if bt174.2.2.2 = 0 then (if bt174.2.1 = 1 then (if bt174.2.2.1 = 0 then (if (bt174.1.length : Int) = 2 then (if 1 < (bt174.1.length : Int) then (if (rd_T36 bt174.1 1).f0 = true then (if (((rd_T36 bt174.1 1).f3).length : Int) = 2 then (if 1 < (((rd_T36 bt174.1 1).f3).length : Int) then (if 0 < ((rd_L2 ((rd_T36 bt174.1 1).f3) 1).length : Int) then (if (rdOf ByteArray.empty (rd_L2 ((rd_T36 bt174.1 1).f3) 1) 0).toList = ([98] : List UInt8) then (if bt184.2.2.2 = 2 then (if bt184.2.2.1 = 4 then (some (bt190.2.2.2 == 1)) else (some false)) else (some false)) else (some false)) else (none)) else (none)) else (some false)) else (some false)) else (none)) else (some false)) else (some false)) else (some false)) else (some false)))) else (none))) = some r := by first | (rw [hy171]; with_reducible exact H) | (have H2_ := (Option.bind_some _ _).symm.trans H; rw [hy171]; with_reducible exact H2_) | (have H2_ := (Option.bind_some _ _).symm.trans H; with_reducible exact H2_) | with_reducible exact H | (rw [hy171]; exact H) | exact H
 have Ny171 := Aside0.mk hy171
 clear hy171
 replace H := Option.bind_eq_some_iff.mp H
 obtain ⟨⟨t174, t177, t178, t179⟩, A10, H⟩ := H
 replace H : (if 3 ≤ (y171.length : Int) then ((unmark_Parse.f (y171.take 3) 2).bind fun bt184 => ((unmark_Parse.f ([] : List ByteArray) 0).bind fun bt190 => (if t179 = 0 then (if t177 = 1 then (if t178 = 0 then (if (t174.length : Int) = 2 then (if 1 < (t174.length : Int) then (if (rd_T36 t174 1).f0 = true then (if (((rd_T36 t174 1).f3).length : Int) = 2 then (if 1 < (((rd_T36 t174 1).f3).length : Int) then (if 0 < ((rd_L2 ((rd_T36 t174 1).f3) 1).length : Int) then (if (rdOf ByteArray.empty (rd_L2 ((rd_T36 t174 1).f3) 1) 0).toList = ([98] : List UInt8) then (if bt184.2.2.2 = 2 then (if bt184.2.2.1 = 4 then (some (bt190.2.2.2 == 1)) else (some false)) else (some false)) else (some false)) else (none)) else (none)) else (some false)) else (some false)) else (none)) else (some false)) else (some false)) else (some false)) else (some false)))) else (none)) = some r := H
 have A1 := Aside0.mk A10
 clear A10
 by_cases c2 : 3 ≤ (y171.length : Int)
 ·rw [if_pos c2] at H
  have c2b0 := eq_true c2
  have c2b1 : decide (3 ≤ (y171.length : Int)) = true := decide_eq_true c2
  clear c2
  obtain ⟨y180, hy180⟩ : ∃ y_ : List ByteArray, y_ = (y171.take 3) := ⟨_, rfl⟩
  replace H : ((unmark_Parse.f y180 2).bind fun bt184 => ((unmark_Parse.f ([] : List ByteArray) 0).bind fun bt190 => (if t179 = 0 then (if t177 = 1 then (if t178 = 0 then (if (t174.length : Int) = 2 then (if 1 < (t174.length : Int) then (if (rd_T36 t174 1).f0 = true then (if (((rd_T36 t174 1).f3).length : Int) = 2 then (if 1 < (((rd_T36 t174 1).f3).length : Int) then (if 0 < ((rd_L2 ((rd_T36 t174 1).f3) 1).length : Int) then (if (rdOf ByteArray.empty (rd_L2 ((rd_T36 t174 1).f3) 1) 0).toList = ([98] : List UInt8) then (if bt184.2.2.2 = 2 then (if bt184.2.2.1 = 4 then (some (bt190.2.2.2 == 1)) else (some false)) else (some false)) else (some false)) else (none)) else (none)) else (some false)) else (some false)) else (none)) else (some false)) else (some false)) else (some false)) else (some false)))) = some r := by first | (rw [hy180]; with_reducible exact H) | (have H2_ := (Option.bind_some _ _).symm.trans H; rw [hy180]; with_reducible exact H2_) | (have H2_ := (Option.bind_some _ _).symm.trans H; with_reducible exact H2_) | with_reducible exact H | (rw [hy180]; exact H) | exact H
  have Ny180 := Aside0.mk hy180
  clear hy180
  replace H := Option.bind_eq_some_iff.mp H
  obtain ⟨⟨t184, t187, t188, t189⟩, A30, H⟩ := H
  replace H : ((unmark_Parse.f ([] : List ByteArray) 0).bind fun bt190 => (if t179 = 0 then (if t177 = 1 then (if t178 = 0 then (if (t174.length : Int) = 2 then (if 1 < (t174.length : Int) then (if (rd_T36 t174 1).f0 = true then (if (((rd_T36 t174 1).f3).length : Int) = 2 then (if 1 < (((rd_T36 t174 1).f3).length : Int) then (if 0 < ((rd_L2 ((rd_T36 t174 1).f3) 1).length : Int) then (if (rdOf ByteArray.empty (rd_L2 ((rd_T36 t174 1).f3) 1) 0).toList = ([98] : List UInt8) then (if t189 = 2 then (if t188 = 4 then (some (bt190.2.2.2 == 1)) else (some false)) else (some false)) else (some false)) else (none)) else (none)) else (some false)) else (some false)) else (none)) else (some false)) else (some false)) else (some false)) else (some false))) = some r := H
  have A3 := Aside0.mk A30
  clear A30
  replace H := Option.bind_eq_some_iff.mp H
  obtain ⟨⟨t190, t193, t194, t195⟩, A40, H⟩ := H
  replace H : (if t179 = 0 then (if t177 = 1 then (if t178 = 0 then (if (t174.length : Int) = 2 then (if 1 < (t174.length : Int) then (if (rd_T36 t174 1).f0 = true then (if (((rd_T36 t174 1).f3).length : Int) = 2 then (if 1 < (((rd_T36 t174 1).f3).length : Int) then (if 0 < ((rd_L2 ((rd_T36 t174 1).f3) 1).length : Int) then (if (rdOf ByteArray.empty (rd_L2 ((rd_T36 t174 1).f3) 1) 0).toList = ([98] : List UInt8) then (if t189 = 2 then (if t188 = 4 then (some (t195 == 1)) else (some false)) else (some false)) else (some false)) else (none)) else (none)) else (some false)) else (some false)) else (none)) else (some false)) else (some false)) else (some false)) else (some false)) = some r := H
  have A4 := Aside0.mk A40
  clear A40
  by_cases c5 : t179 = 0
  ·rw [if_pos c5] at H
   have c5b0 : (t179 == 0) = true := beq_iff_eq.mpr c5
   have c5b1 : (t179 != 0) = false := bne_eq_false_iff_eq.mpr c5
   clear c5
   by_cases c6 : t177 = 1
   ·rw [if_pos c6] at H
    have c6b0 : (t177 == 1) = true := beq_iff_eq.mpr c6
    have c6b1 : (t177 != 1) = false := bne_eq_false_iff_eq.mpr c6
    clear c6
    by_cases c7 : t178 = 0
    ·rw [if_pos c7] at H
     have c7b0 : (t178 == 0) = true := beq_iff_eq.mpr c7
     have c7b1 : (t178 != 0) = false := bne_eq_false_iff_eq.mpr c7
     clear c7
     by_cases c8 : (t174.length : Int) = 2
     ·rw [if_pos c8] at H
      have c8b0 : ((t174.length : Int) == 2) = true := beq_iff_eq.mpr c8
      have c8b1 : ((t174.length : Int) != 2) = false := bne_eq_false_iff_eq.mpr c8
      clear c8
      by_cases c9 : 1 < (t174.length : Int)
      ·rw [if_pos c9] at H
       have c9b0 : decide (1 < (t174.length : Int)) = true := decide_eq_true c9
       have c9b1 : decide (1 < t174.length) = true := decide_eq_true (by omega)
       clear c9
       obtain ⟨bq10, hbq10⟩ : ∃ b_ : Bool, b_ = ((rd_T36 t174 1).f0) := ⟨_, rfl⟩
       replace H : (if bq10 = true then (if (((rd_T36 t174 1).f3).length : Int) = 2 then (if 1 < (((rd_T36 t174 1).f3).length : Int) then (if 0 < ((rd_L2 ((rd_T36 t174 1).f3) 1).length : Int) then (if (rdOf ByteArray.empty (rd_L2 ((rd_T36 t174 1).f3) 1) 0).toList = ([98] : List UInt8) then (if t189 = 2 then (if t188 = 4 then (some (t195 == 1)) else (some false)) else (some false)) else (some false)) else (none)) else (none)) else (some false)) else (some false)) = some r := by rw [← hbq10] at H; exact H
       have Nbq10 := Aside0.mk hbq10
       clear hbq10
       by_cases c11 : bq10 = true
       ·subst c11
        have H1 : (if (((rd_T36 t174 1).f3).length : Int) = 2 then (if 1 < (((rd_T36 t174 1).f3).length : Int) then (if 0 < ((rd_L2 ((rd_T36 t174 1).f3) 1).length : Int) then (if (rdOf ByteArray.empty (rd_L2 ((rd_T36 t174 1).f3) 1) 0).toList = ([98] : List UInt8) then (if t189 = 2 then (if t188 = 4 then (some (t195 == 1)) else (some false)) else (some false)) else (some false)) else (none)) else (none)) else (some false)) = some r := by rw [if_pos rfl] at H; exact H
        clear H
        have H := H1
        clear H1
        by_cases c12 : (((rd_T36 t174 1).f3).length : Int) = 2
        ·rw [if_pos c12] at H
         have c12b0 : ((((rd_T36 t174 1).f3).length : Int) == 2) = true := beq_iff_eq.mpr c12
         have c12b1 : ((((rd_T36 t174 1).f3).length : Int) != 2) = false := bne_eq_false_iff_eq.mpr c12
         clear c12
         by_cases c13 : 1 < (((rd_T36 t174 1).f3).length : Int)
         ·rw [if_pos c13] at H
          have c13b0 : decide (1 < (((rd_T36 t174 1).f3).length : Int)) = true := decide_eq_true c13
          have c13b1 : decide (1 < ((rd_T36 t174 1).f3).length) = true := decide_eq_true (by omega)
          clear c13
          by_cases c14 : 0 < ((rd_L2 ((rd_T36 t174 1).f3) 1).length : Int)
          ·rw [if_pos c14] at H
           have c14b0 : decide (0 < ((rd_L2 ((rd_T36 t174 1).f3) 1).length : Int)) = true := decide_eq_true c14
           have c14b1 : decide (0 < (rd_L2 ((rd_T36 t174 1).f3) 1).length) = true := decide_eq_true (by omega)
           clear c14
           by_cases c15 : (rdOf ByteArray.empty (rd_L2 ((rd_T36 t174 1).f3) 1) 0).toList = ([98] : List UInt8)
           ·rw [if_pos c15] at H
            have c15b0 : ((rdOf ByteArray.empty (rd_L2 ((rd_T36 t174 1).f3) 1) 0).toList == ([98] : List UInt8)) = true := beq_iff_eq.mpr c15
            have c15b1 : ((rdOf ByteArray.empty (rd_L2 ((rd_T36 t174 1).f3) 1) 0).toList != ([98] : List UInt8)) = false := bne_eq_false_iff_eq.mpr c15
            clear c15
            by_cases c16 : t189 = 2
            ·rw [if_pos c16] at H
             have c16b0 : (t189 == 2) = true := beq_iff_eq.mpr c16
             have c16b1 : (t189 != 2) = false := bne_eq_false_iff_eq.mpr c16
             clear c16
             by_cases c17 : t188 = 4
             ·rw [if_pos c17] at H
              have c17b0 : (t188 == 4) = true := beq_iff_eq.mpr c17
              have c17b1 : (t188 != 4) = false := bne_eq_false_iff_eq.mpr c17
              clear c17
              obtain rfl := Option.some.inj H
              go_enter Tryz.func24, Tryz.ntmps24
              go_wp2_with (first | ((with_reducible refine gate_dst (N := 14) rfl ?_); (try (refine gate_guard (by rfl) ?_; dsimp only)); refine Kd.R_lit Kd.string _ 9 ?hg (N := 14) ?hd (xs := ([(⟨#[116, 10]⟩ : ByteArray), (⟨#[60, 60, 32, 49, 10]⟩ : ByteArray), (⟨#[97, 10]⟩ : ByteArray), (⟨#[61, 61, 32, 50, 10]⟩ : ByteArray), (⟨#[98, 10]⟩ : ByteArray), (⟨#[62, 62, 33, 10]⟩ : ByteArray)] : List ByteArray)) (inner := [.string (⟨#[116, 10]⟩ : ByteArray), .string (⟨#[60, 60, 32, 49, 10]⟩ : ByteArray), .string (⟨#[97, 10]⟩ : ByteArray), .string (⟨#[61, 61, 32, 50, 10]⟩ : ByteArray), .string (⟨#[98, 10]⟩ : ByteArray), .string (⟨#[62, 62, 33, 10]⟩ : ByteArray)]) (ok := fun _ => True) (okp := fun _ => True) ?hr ?hp (fun _ hk => hk) trivial (Below.refl _ _) (Nat.le_refl _) (by simp) ?_; (case hd => rfl); (case hg => rfl); (case hr => first | (go_simp; done) | (go_simp; rfl)); (case hp => exact (Reps.one (show Kd.M Kd.string _ _ _ (⟨#[116, 10]⟩ : ByteArray) [.string (⟨#[116, 10]⟩ : ByteArray)] from rfl) (Reps.one (show Kd.M Kd.string _ _ _ (⟨#[60, 60, 32, 49, 10]⟩ : ByteArray) [.string (⟨#[60, 60, 32, 49, 10]⟩ : ByteArray)] from rfl) (Reps.one (show Kd.M Kd.string _ _ _ (⟨#[97, 10]⟩ : ByteArray) [.string (⟨#[97, 10]⟩ : ByteArray)] from rfl) (Reps.one (show Kd.M Kd.string _ _ _ (⟨#[61, 61, 32, 50, 10]⟩ : ByteArray) [.string (⟨#[61, 61, 32, 50, 10]⟩ : ByteArray)] from rfl) (Reps.one (show Kd.M Kd.string _ _ _ (⟨#[98, 10]⟩ : ByteArray) [.string (⟨#[98, 10]⟩ : ByteArray)] from rfl) (Reps.one (show Kd.M Kd.string _ _ _ (⟨#[62, 62, 33, 10]⟩ : ByteArray) [.string (⟨#[62, 62, 33, 10]⟩ : ByteArray)] from rfl) (Reps.none _ _)))))))); intro v172 w18 ho19 hb hg_ hnew_; clear hg_ hnew_; (first | rw [← Ny171.out] at ho19 | (simp only [Int.reduceToNat] at ho19; rw [← Ny171.out] at ho19)); have n0_ := Aside0.mk (Kd.R_lower ho19 (below_size (by repeat (first | (with_reducible first | exact HB.out | apply below_alloc | apply pw_below_drewN | apply below_drew1) | exact HB.out)))); have n1_ := Aside0.mk (below_step (by repeat (first | (with_reducible first | exact HB.out | apply below_alloc | apply pw_below_drewN | apply below_drew1) | exact HB.out)) hb); clear HB; have HO173 := n0_; have HB := n1_; clear n0_ n1_; clear hb ho19; obtain ⟨Ao20, co20, eo20⟩ := Kd.R_slice HO173.out; subst eo20) | ((with_reducible refine gate_callee (f := 25) rfl ?_); refine goesL_ (some 17) rfl rfl Tryz.func25 (by kernel_rfl) rfl #[.slice Ao20 y171.length co20, .int .i64 2] rfl (by (try simp only [List.map_toArray, List.map_cons, List.map_nil]); first | done | rfl | (simp only [List.length_drop, List.length_take]; rfl)) ?_; (with_reducible refine (unmark_Parse.calls _ _ y171 2 t174 t177 t178 t179 _ ?side1 ?side2 A1.out).mono ?_); (case side1 => repeat (first | exact (Kd.R_reads' HO173.out).2.2 | (with_reducible refine Kd.C_alloc ?_ _) | (with_reducible refine Kd.C_drewN ?_ _) | (with_reducible refine Kd.C_drew ?_))); (case side2 => exact (Kd.R_reads' HO173.out).2.1); rintro e w21 ⟨v175, rfl, ho0, hb⟩; refine ⟨_, rfl, ?_⟩; have n0_ := Aside0.mk (Kd.R_below (by (with_reducible repeat (first | apply Kd.R_alloc | apply Kd.R_drewN | apply Kd.R_drew)); exact HO173.out) hb); have n1_ := Aside0.mk (Kd.V_lower (Kd.V_mono (ok' := fun k_ => some k_ ≠ (.slice Ao20 y171.length co20 : Value).ownBlock) ho0 (fun k_ hk_ => (Kd.fresh' (Kd.R_lt (by (with_reducible repeat (first | apply Kd.R_alloc | apply Kd.R_drewN | apply Kd.R_drew)); exact HO173.out)) k_ hk_))) (below_size (by repeat (first | (with_reducible first | exact HB.out | apply below_alloc | apply pw_below_drewN | apply below_drew1) | exact HB.out)))); have n2_ := Aside0.mk (below_step (by repeat (first | (with_reducible first | exact HB.out | apply below_alloc | apply pw_below_drewN | apply below_drew1) | exact HB.out)) hb); clear HO173; clear HB; have HO173 := n0_; have HO176 := n1_; have HB := n2_; clear n0_ n1_ n2_; (try clear hb); (try clear hb2); (try clear hk); (try clear hi); (try clear ho0); have q22 : (3 : Int) ≤ ((y171.length : Int) : Int) := of_decide_eq_true (by first | (with_reducible assumption) | assumption); obtain ⟨i022, hi022, _, hsz22, _⟩ := info_parts info9; have hroom22 : y171.length ≤ co20 := (Kd.R_reads' HO173.out).2.1; have hC22 : Kd.C Kd.string _ Ao20 y171.length y171 := (Kd.R_reads' HO173.out).2.2; have hcut22 := cut_to (P := Tryz.prog) 25 9 .i64 Tryz.underlying25 hi022 Ao20 y171.length co20 3 (by omega) q22 hroom22; have hr22 := Kd.C_take (m := 3) hC22 (by omega); have hy22 : y180.length = (3 : Int).toNat := (by rw [Ny180.out, List.length_take]; omega); rw [← Ny180.out] at hr22; rw [← hy22] at hcut22; have HR183 := Aside0.mk hr22; have HC183 := Aside0.mk (show y180.length ≤ co20 from by omega); clear hr22 hC22 hroom22 hi022 hsz22; have KY22 := Aside0.mk hy22; clear hy22; have KL22 := Aside0.mk (show 3 ≤ y171.length from by omega); replace q22 := eq_true q22) | ((with_reducible refine gate_callee (f := 25) rfl ?_); refine goesL_ (some 25) rfl rfl Tryz.func25 (by kernel_rfl) rfl #[.slice Ao20 y180.length co20, .int .i64 2] rfl (by (try simp only [List.map_toArray, List.map_cons, List.map_nil]); first | done | rfl | (simp only [List.length_drop, List.length_take]; rfl)) ?_; (with_reducible refine (unmark_Parse.calls _ _ y180 2 t184 t187 t188 t189 _ ?side1 ?side2 A3.out).mono ?_); (case side1 => repeat (first | exact (by repeat (first | (with_reducible exact HR183.out) | (with_reducible refine Kd.C_alloc ?_ _) | (with_reducible refine Kd.C_drewN ?_ _) | (with_reducible refine Kd.C_drew ?_) | exact HR183.out)) | (with_reducible refine Kd.C_alloc ?_ _) | (with_reducible refine Kd.C_drewN ?_ _) | (with_reducible refine Kd.C_drew ?_))); (case side2 => exact HC183.out); rintro e w23 ⟨v185, rfl, ho0, hb⟩; refine ⟨_, rfl, ?_⟩; have n0_ := Aside0.mk (Kd.R_below (by (with_reducible repeat (first | apply Kd.R_alloc | apply Kd.R_drewN | apply Kd.R_drew)); exact HO173.out) hb); have n1_ := Aside0.mk (Kd.V_below (by (with_reducible repeat (first | apply Kd.V_alloc | apply Kd.V_drewN | apply Kd.V_drew)); exact HO176.out) hb); have n2_ := Aside0.mk (Kd.V_lower (Kd.V_mono (ok' := fun k_ => some k_ ≠ (.slice Ao20 y171.length co20 : Value).ownBlock) ho0 (fun k_ hk_ => (Kd.fresh' (Kd.R_lt (by (with_reducible repeat (first | apply Kd.R_alloc | apply Kd.R_drewN | apply Kd.R_drew)); exact HO173.out)) k_ hk_))) (below_size (by repeat (first | (with_reducible first | exact HB.out | apply below_alloc | apply pw_below_drewN | apply below_drew1) | exact HB.out)))); have n3_ := Aside0.mk (Kd.C_below (by repeat (first | (with_reducible exact HR183.out) | (with_reducible refine Kd.C_alloc ?_ _) | (with_reducible refine Kd.C_drewN ?_ _) | (with_reducible refine Kd.C_drew ?_) | exact HR183.out)) hb); have n4_ := Aside0.mk (below_step (by repeat (first | (with_reducible first | exact HB.out | apply below_alloc | apply pw_below_drewN | apply below_drew1) | exact HB.out)) hb); clear HO173; clear HO176; clear HR183; clear HB; have HO173 := n0_; have HO176 := n1_; have HO186 := n2_; have HR183 := n3_; have HB := n4_; clear n0_ n1_ n2_ n3_ n4_; (try clear hb); (try clear hb2); (try clear hk); (try clear hi); (try clear ho0)) | ((with_reducible refine gate_callee (f := 25) rfl ?_); refine goesL_ (some 31) rfl rfl Tryz.func25 (by kernel_rfl) rfl #[.slice none 0 0, .int .i64 0] rfl (by (try simp only [List.map_toArray, List.map_cons, List.map_nil]); first | done | rfl | (simp only [List.length_drop, List.length_take]; rfl)) ?_; (refine (unmark_Parse.calls _ _ ([] : List ByteArray) 0 t190 t193 t194 t195 _ ?side1 ?side2 A4.out).mono ?_); (case side1 => exact Kd.C_nil _ _); (case side2 => exact Nat.le_refl _); rintro e w24 ⟨v191, rfl, ho0, hb⟩; refine ⟨_, rfl, ?_⟩; have n0_ := Aside0.mk (Kd.R_below (by (with_reducible repeat (first | apply Kd.R_alloc | apply Kd.R_drewN | apply Kd.R_drew)); exact HO173.out) hb); have n1_ := Aside0.mk (Kd.V_below (by (with_reducible repeat (first | apply Kd.V_alloc | apply Kd.V_drewN | apply Kd.V_drew)); exact HO176.out) hb); have n2_ := Aside0.mk (Kd.V_below (by (with_reducible repeat (first | apply Kd.V_alloc | apply Kd.V_drewN | apply Kd.V_drew)); exact HO186.out) hb); have n3_ := Aside0.mk (Kd.V_lower (Kd.V_mono (ok' := fun k_ => some k_ ≠ (.slice Ao20 y171.length co20 : Value).ownBlock) ho0 (fun k_ hk_ => (Kd.fresh' (Kd.R_lt (by (with_reducible repeat (first | apply Kd.R_alloc | apply Kd.R_drewN | apply Kd.R_drew)); exact HO173.out)) k_ hk_))) (below_size (by repeat (first | (with_reducible first | exact HB.out | apply below_alloc | apply pw_below_drewN | apply below_drew1) | exact HB.out)))); have n4_ := Aside0.mk (Kd.C_below (by repeat (first | (with_reducible exact HR183.out) | (with_reducible refine Kd.C_alloc ?_ _) | (with_reducible refine Kd.C_drewN ?_ _) | (with_reducible refine Kd.C_drew ?_) | exact HR183.out)) hb); have n5_ := Aside0.mk (below_step (by repeat (first | (with_reducible first | exact HB.out | apply below_alloc | apply pw_below_drewN | apply below_drew1) | exact HB.out)) hb); clear HO173; clear HO176; clear HO186; clear HR183; clear HB; have HO173 := n0_; have HO176 := n1_; have HO186 := n2_; have HO192 := n3_; have HR183 := n4_; have HB := n5_; clear n0_ n1_ n2_ n3_ n4_ n5_; (try clear hb); (try clear hb2); (try clear hk); (try clear hi); (try clear ho0); obtain ⟨Ao25, co25, eo25⟩ := Kd.V_slice HO176.out; subst eo25; have p196 : 0 ≤ (1 : Int) := (by omega); have q196 : 1 < (t174.length : Int) := of_decide_eq_true (by first | (with_reducible assumption) | assumption); obtain ⟨ad196, A196_1, c196_1, A196_2, c196_2, A196_3, c196_3, e196, hx196_0, hx196_1, hx196_2, hx196_3, hl196_1, hi196_1, hl196_2, hi196_2, hl196_3, hi196_3⟩ := at_T36 (Kd.V_reads' HO176.out).2.2 1 p196 q196; (try rw [← Nbq10.out] at hx196_0); cases e196; obtain ⟨ce196, hce196, hMe196, hcc196⟩ := Kd.V_get HO176.out z36 1 p196 (by first | exact q196 | exact of_decide_eq_true (by first | (with_reducible assumption) | assumption) | (have e_ := (Kd.V_reads' HO176.out).1; omega)); obtain ⟨ua196_1, uc196_1, ua196_2, uc196_2, ua196_3, uc196_3, rfl, ul196_1, ge196_1, ul196_2, ge196_2, ul196_3, ge196_3⟩ := k36_openF hMe196; have hv196_1 := hcc196 1 _ rfl; rw [add_field _ _ 1 (by omega)] at hv196_1; replace hv196_1 := Option.some.inj (hv196_1.symm.trans hx196_1); injection hv196_1 with hva_ hvn_ hvc_; rw [hva_] at ge196_1; rw [hvc_] at ul196_1; have HL196_1 := Aside0.mk (show Kd.V Kd.string 9 _ w.heap.size _ _ ((rd_T36 t174 1).f1) from Kd.V_mk ul196_1 ge196_1); clear hva_ hvn_ hvc_ ge196_1 ul196_1; have hv196_2 := hcc196 2 _ rfl; rw [add_field _ _ 2 (by omega)] at hv196_2; replace hv196_2 := Option.some.inj (hv196_2.symm.trans hx196_2); injection hv196_2 with hva_ hvn_ hvc_; rw [hva_] at ge196_2; rw [hvc_] at ul196_2; have HL196_2 := Aside0.mk (show Kd.V Kd.string 9 _ w.heap.size _ _ ((rd_T36 t174 1).f2) from Kd.V_mk ul196_2 ge196_2); clear hva_ hvn_ hvc_ ge196_2 ul196_2; have hv196_3 := hcc196 3 _ rfl; rw [add_field _ _ 3 (by omega)] at hv196_3; replace hv196_3 := Option.some.inj (hv196_3.symm.trans hx196_3); injection hv196_3 with hva_ hvn_ hvc_; rw [hva_] at ge196_3; rw [hvc_] at ul196_3; have HL196_3 := Aside0.mk (show Kd.V (Kd.slice 9 Kd.string) 25 _ w.heap.size _ _ ((rd_T36 t174 1).f3) from Kd.V_mk ul196_3 ge196_3); clear hva_ hvn_ hvc_ ge196_3 ul196_3; clear hcc196 hce196; (try simp only [show (1 : Int).toNat = 1 from rfl, Nat.reduceMul, Nat.reduceEqDiff, Go.Addr.add, ↓reduceIte] at hx196_0); (try simp only [show (1 : Int).toNat = 1 from rfl, Nat.reduceMul, Nat.reduceEqDiff, Go.Addr.add, ↓reduceIte] at hx196_1); (try simp only [show (1 : Int).toNat = 1 from rfl, Nat.reduceMul, Nat.reduceEqDiff, Go.Addr.add, ↓reduceIte] at hx196_2); (try simp only [show (1 : Int).toNat = 1 from rfl, Nat.reduceMul, Nat.reduceEqDiff, Go.Addr.add, ↓reduceIte] at hx196_3); have qi196 : (1 < t174.length) = True := eq_true (by omega); (try rw [show ((1 : Int)).toNat = 1 from rfl] at hx196_0); (try rw [show 1 * 4 = 4 from rfl] at hx196_0); (try rw [show ((1 : Int)).toNat = 1 from rfl] at hx196_1); (try rw [show 1 * 4 = 4 from rfl] at hx196_1); (try rw [show ((1 : Int)).toNat = 1 from rfl] at hx196_2); (try rw [show 1 * 4 = 4 from rfl] at hx196_2); (try rw [show ((1 : Int)).toNat = 1 from rfl] at hx196_3); (try rw [show 1 * 4 = 4 from rfl] at hx196_3); have HR196_1 := Aside0.mk hi196_1; have HC196_1 := Aside0.mk hl196_1; clear hi196_1 hl196_1; have HR196_2 := Aside0.mk hi196_2; have HC196_2 := Aside0.mk hl196_2; clear hi196_2 hl196_2; have HR196_3 := Aside0.mk hi196_3; have HC196_3 := Aside0.mk hl196_3; clear hi196_3 hl196_3; replace p196 := eq_true p196; replace q196 := eq_true q196; have p197 : 0 ≤ (1 : Int) := (by omega); have q197 : 1 < (t174.length : Int) := of_decide_eq_true (by first | (with_reducible assumption) | assumption); obtain ⟨ad197, A197_1, c197_1, A197_2, c197_2, A197_3, c197_3, e197, hx197_0, hx197_1, hx197_2, hx197_3, hl197_1, hi197_1, hl197_2, hi197_2, hl197_3, hi197_3⟩ := at_T36 (Kd.V_reads' HO176.out).2.2 1 p197 q197; (try rw [← Nbq10.out] at hx197_0); obtain rfl : ad196 = ad197 := (by injection e197); obtain ⟨ce197, hce197, hMe197, hcc197⟩ := Kd.V_get HO176.out z36 1 p197 (by first | exact q197 | exact of_decide_eq_true (by first | (with_reducible assumption) | assumption) | (have e_ := (Kd.V_reads' HO176.out).1; omega)); obtain ⟨ua197_1, uc197_1, ua197_2, uc197_2, ua197_3, uc197_3, rfl, ul197_1, ge197_1, ul197_2, ge197_2, ul197_3, ge197_3⟩ := k36_openF hMe197; have hv197_1 := hcc197 1 _ rfl; rw [add_field _ _ 1 (by omega)] at hv197_1; replace hv197_1 := Option.some.inj (hv197_1.symm.trans hx197_1); injection hv197_1 with hva_ hvn_ hvc_; rw [hva_] at ge197_1; rw [hvc_] at ul197_1; have HL197_1 := Aside0.mk (show Kd.V Kd.string 9 _ w.heap.size _ _ ((rd_T36 t174 1).f1) from Kd.V_mk ul197_1 ge197_1); clear hva_ hvn_ hvc_ ge197_1 ul197_1; have hv197_2 := hcc197 2 _ rfl; rw [add_field _ _ 2 (by omega)] at hv197_2; replace hv197_2 := Option.some.inj (hv197_2.symm.trans hx197_2); injection hv197_2 with hva_ hvn_ hvc_; rw [hva_] at ge197_2; rw [hvc_] at ul197_2; have HL197_2 := Aside0.mk (show Kd.V Kd.string 9 _ w.heap.size _ _ ((rd_T36 t174 1).f2) from Kd.V_mk ul197_2 ge197_2); clear hva_ hvn_ hvc_ ge197_2 ul197_2; have hv197_3 := hcc197 3 _ rfl; rw [add_field _ _ 3 (by omega)] at hv197_3; replace hv197_3 := Option.some.inj (hv197_3.symm.trans hx197_3); injection hv197_3 with hva_ hvn_ hvc_; rw [hva_] at ge197_3; rw [hvc_] at ul197_3; have HL197_3 := Aside0.mk (show Kd.V (Kd.slice 9 Kd.string) 25 _ w.heap.size _ _ ((rd_T36 t174 1).f3) from Kd.V_mk ul197_3 ge197_3); clear hva_ hvn_ hvc_ ge197_3 ul197_3; clear hcc197 hce197; (try simp only [show (1 : Int).toNat = 1 from rfl, Nat.reduceMul, Nat.reduceEqDiff, Go.Addr.add, ↓reduceIte] at hx197_0); (try simp only [show (1 : Int).toNat = 1 from rfl, Nat.reduceMul, Nat.reduceEqDiff, Go.Addr.add, ↓reduceIte] at hx197_1); (try simp only [show (1 : Int).toNat = 1 from rfl, Nat.reduceMul, Nat.reduceEqDiff, Go.Addr.add, ↓reduceIte] at hx197_2); (try simp only [show (1 : Int).toNat = 1 from rfl, Nat.reduceMul, Nat.reduceEqDiff, Go.Addr.add, ↓reduceIte] at hx197_3); have qi197 : (1 < t174.length) = True := eq_true (by omega); (try rw [show ((1 : Int)).toNat = 1 from rfl] at hx197_0); (try rw [show 1 * 4 = 4 from rfl] at hx197_0); (try rw [show ((1 : Int)).toNat = 1 from rfl] at hx197_1); (try rw [show 1 * 4 = 4 from rfl] at hx197_1); (try rw [show ((1 : Int)).toNat = 1 from rfl] at hx197_2); (try rw [show 1 * 4 = 4 from rfl] at hx197_2); (try rw [show ((1 : Int)).toNat = 1 from rfl] at hx197_3); (try rw [show 1 * 4 = 4 from rfl] at hx197_3); have HR197_1 := Aside0.mk hi197_1; have HC197_1 := Aside0.mk hl197_1; clear hi197_1 hl197_1; have HR197_2 := Aside0.mk hi197_2; have HC197_2 := Aside0.mk hl197_2; clear hi197_2 hl197_2; have HR197_3 := Aside0.mk hi197_3; have HC197_3 := Aside0.mk hl197_3; clear hi197_3 hl197_3; replace p197 := eq_true p197; replace q197 := eq_true q197; have ea_ := Option.some.inj (hx196_1.symm.trans hx197_1); injection ea_ with ea_ en_ ec_; subst ea_; subst ec_; clear en_; have ea_ := Option.some.inj (hx196_2.symm.trans hx197_2); injection ea_ with ea_ en_ ec_; subst ea_; subst ec_; clear en_; have ea_ := Option.some.inj (hx196_3.symm.trans hx197_3); injection ea_ with ea_ en_ ec_; subst ea_; subst ec_; clear en_; have p198 : 0 ≤ (1 : Int) := (by omega); have q198 : 1 < (t174.length : Int) := of_decide_eq_true (by first | (with_reducible assumption) | assumption); obtain ⟨ad198, A198_1, c198_1, A198_2, c198_2, A198_3, c198_3, e198, hx198_0, hx198_1, hx198_2, hx198_3, hl198_1, hi198_1, hl198_2, hi198_2, hl198_3, hi198_3⟩ := at_T36 (Kd.V_reads' HO176.out).2.2 1 p198 q198; (try rw [← Nbq10.out] at hx198_0); obtain rfl : ad196 = ad198 := (by injection e198); obtain ⟨ce198, hce198, hMe198, hcc198⟩ := Kd.V_get HO176.out z36 1 p198 (by first | exact q198 | exact of_decide_eq_true (by first | (with_reducible assumption) | assumption) | (have e_ := (Kd.V_reads' HO176.out).1; omega)); obtain ⟨ua198_1, uc198_1, ua198_2, uc198_2, ua198_3, uc198_3, rfl, ul198_1, ge198_1, ul198_2, ge198_2, ul198_3, ge198_3⟩ := k36_openF hMe198; have hv198_1 := hcc198 1 _ rfl; rw [add_field _ _ 1 (by omega)] at hv198_1; replace hv198_1 := Option.some.inj (hv198_1.symm.trans hx198_1); injection hv198_1 with hva_ hvn_ hvc_; rw [hva_] at ge198_1; rw [hvc_] at ul198_1; have HL198_1 := Aside0.mk (show Kd.V Kd.string 9 _ w.heap.size _ _ ((rd_T36 t174 1).f1) from Kd.V_mk ul198_1 ge198_1); clear hva_ hvn_ hvc_ ge198_1 ul198_1; have hv198_2 := hcc198 2 _ rfl; rw [add_field _ _ 2 (by omega)] at hv198_2; replace hv198_2 := Option.some.inj (hv198_2.symm.trans hx198_2); injection hv198_2 with hva_ hvn_ hvc_; rw [hva_] at ge198_2; rw [hvc_] at ul198_2; have HL198_2 := Aside0.mk (show Kd.V Kd.string 9 _ w.heap.size _ _ ((rd_T36 t174 1).f2) from Kd.V_mk ul198_2 ge198_2); clear hva_ hvn_ hvc_ ge198_2 ul198_2; have hv198_3 := hcc198 3 _ rfl; rw [add_field _ _ 3 (by omega)] at hv198_3; replace hv198_3 := Option.some.inj (hv198_3.symm.trans hx198_3); injection hv198_3 with hva_ hvn_ hvc_; rw [hva_] at ge198_3; rw [hvc_] at ul198_3; have HL198_3 := Aside0.mk (show Kd.V (Kd.slice 9 Kd.string) 25 _ w.heap.size _ _ ((rd_T36 t174 1).f3) from Kd.V_mk ul198_3 ge198_3); clear hva_ hvn_ hvc_ ge198_3 ul198_3; clear hcc198 hce198; (try simp only [show (1 : Int).toNat = 1 from rfl, Nat.reduceMul, Nat.reduceEqDiff, Go.Addr.add, ↓reduceIte] at hx198_0); (try simp only [show (1 : Int).toNat = 1 from rfl, Nat.reduceMul, Nat.reduceEqDiff, Go.Addr.add, ↓reduceIte] at hx198_1); (try simp only [show (1 : Int).toNat = 1 from rfl, Nat.reduceMul, Nat.reduceEqDiff, Go.Addr.add, ↓reduceIte] at hx198_2); (try simp only [show (1 : Int).toNat = 1 from rfl, Nat.reduceMul, Nat.reduceEqDiff, Go.Addr.add, ↓reduceIte] at hx198_3); have qi198 : (1 < t174.length) = True := eq_true (by omega); (try rw [show ((1 : Int)).toNat = 1 from rfl] at hx198_0); (try rw [show 1 * 4 = 4 from rfl] at hx198_0); (try rw [show ((1 : Int)).toNat = 1 from rfl] at hx198_1); (try rw [show 1 * 4 = 4 from rfl] at hx198_1); (try rw [show ((1 : Int)).toNat = 1 from rfl] at hx198_2); (try rw [show 1 * 4 = 4 from rfl] at hx198_2); (try rw [show ((1 : Int)).toNat = 1 from rfl] at hx198_3); (try rw [show 1 * 4 = 4 from rfl] at hx198_3); have HR198_1 := Aside0.mk hi198_1; have HC198_1 := Aside0.mk hl198_1; clear hi198_1 hl198_1; have HR198_2 := Aside0.mk hi198_2; have HC198_2 := Aside0.mk hl198_2; clear hi198_2 hl198_2; have HR198_3 := Aside0.mk hi198_3; have HC198_3 := Aside0.mk hl198_3; clear hi198_3 hl198_3; replace p198 := eq_true p198; replace q198 := eq_true q198; have ea_ := Option.some.inj (hx196_1.symm.trans hx198_1); injection ea_ with ea_ en_ ec_; subst ea_; subst ec_; clear en_; have ea_ := Option.some.inj (hx196_2.symm.trans hx198_2); injection ea_ with ea_ en_ ec_; subst ea_; subst ec_; clear en_; have ea_ := Option.some.inj (hx196_3.symm.trans hx198_3); injection ea_ with ea_ en_ ec_; subst ea_; subst ec_; clear en_; have p199 : 0 ≤ (1 : Int) := (by omega); have q199 : 1 < (((rd_T36 t174 1).f3).length : Int) := of_decide_eq_true (by first | (with_reducible assumption) | assumption); obtain ⟨ad199, A199_0, c199_0, e199, hx199_0, hl199_0, hi199_0⟩ := at_L2 (by repeat (first | (with_reducible exact HR198_3.out) | (with_reducible refine Kd.C_alloc ?_ _) | (with_reducible refine Kd.C_drewN ?_ _) | (with_reducible refine Kd.C_drew ?_) | exact HR198_3.out)) 1 p199 q199; cases e199; obtain ⟨ce199, hce199, hMe199, hcc199⟩ := Kd.V_get HL198_3.out [] 1 p199 (by first | exact q199 | exact of_decide_eq_true (by first | (with_reducible assumption) | assumption) | (have e_ := (Kd.V_reads' HL198_3.out).1; omega)); obtain ⟨ua199_0, uc199_0, rfl, ul199_0, ge199_0⟩ := Kd.FK_slice_open hMe199; have hv199_0 := hcc199 0 _ rfl; rw [Nat.add_zero, show ((Kd.slice 9 Kd.string)).sz = 1 from rfl, Nat.mul_one] at hv199_0; replace hv199_0 := Option.some.inj (hv199_0.symm.trans hx199_0); injection hv199_0 with hva_ hvn_ hvc_; rw [hva_] at ge199_0; rw [hvc_] at ul199_0; have HL199_0 := Aside0.mk (show Kd.V Kd.string 9 _ w.heap.size _ _ (rd_L2 ((rd_T36 t174 1).f3) 1) from Kd.V_mk ul199_0 ge199_0); clear hva_ hvn_ hvc_ ge199_0 ul199_0; clear hcc199 hce199; (try simp only [show (1 : Int).toNat = 1 from rfl, Nat.reduceMul, Nat.reduceEqDiff, Go.Addr.add, ↓reduceIte] at hx199_0); have qi199 : (1 < ((rd_T36 t174 1).f3).length) = True := eq_true (by omega); (try rw [show ((1 : Int)).toNat = 1 from rfl] at hx199_0); have HR199_0 := Aside0.mk hi199_0; have HC199_0 := Aside0.mk hl199_0; clear hi199_0 hl199_0; replace p199 := eq_true p199; replace q199 := eq_true q199; have p200 : 0 ≤ (0 : Int) := (by omega); have q200 : 0 < ((rd_L2 ((rd_T36 t174 1).f3) 1).length : Int) := of_decide_eq_true (by first | (with_reducible assumption) | assumption); obtain ⟨ad200, e200, hx200_0⟩ := Kd.at_string (by repeat (first | (with_reducible exact HR199_0.out) | (with_reducible refine Kd.C_alloc ?_ _) | (with_reducible refine Kd.C_drewN ?_ _) | (with_reducible refine Kd.C_drew ?_) | exact HR199_0.out)) 0 p200 q200; cases e200; have qi200 : (0 < (rd_L2 ((rd_T36 t174 1).f3) 1).length) = True := eq_true (by omega); (try rw [show ((0 : Int)).toNat = 0 from rfl] at hx200_0); (try rw [Addr.add_zero'] at hx200_0); replace p200 := eq_true p200; replace q200 := eq_true q200))
              go_ret
              exact ⟨by first | rfl | (simp [errW_none, errW_some] <;> rfl) | (simp [*, errW_none, errW_some] <;> rfl), by repeat (first | (with_reducible first | exact HB.out | apply below_alloc | apply pw_below_drewN | apply below_drew1) | exact HB.out)⟩
             ·rw [if_neg c17] at H
              exact absurd (H.trans (congrArg some hr_)) (by simp)
            ·rw [if_neg c16] at H
             exact absurd (H.trans (congrArg some hr_)) (by simp)
           ·rw [if_neg c15] at H
            exact absurd (H.trans (congrArg some hr_)) (by simp)
          ·rw [if_neg c14] at H
           exact absurd (H.trans (congrArg some hr_)) (by simp)
         ·rw [if_neg c13] at H
          exact absurd (H.trans (congrArg some hr_)) (by simp)
        ·rw [if_neg c12] at H
         exact absurd (H.trans (congrArg some hr_)) (by simp)
       ·replace c11 := Bool.eq_false_iff.mpr c11
        subst c11
        have H1 : (some false) = some r := by rw [if_neg (show ¬ (false = true) by decide)] at H; exact H
        exact absurd (H1.trans (congrArg some hr_)) (by simp)
      ·rw [if_neg c9] at H
       exact absurd (H.trans (congrArg some hr_)) (by simp)
     ·rw [if_neg c8] at H
      exact absurd (H.trans (congrArg some hr_)) (by simp)
    ·rw [if_neg c7] at H
     exact absurd (H.trans (congrArg some hr_)) (by simp)
   ·rw [if_neg c6] at H
    exact absurd (H.trans (congrArg some hr_)) (by simp)
  ·rw [if_neg c5] at H
   exact absurd (H.trans (congrArg some hr_)) (by simp)
 ·rw [if_neg c2] at H
  exact absurd (H.trans (congrArg some hr_)) (by simp)

-- function 28 (pick_Choose): its contract is proved by hand

-- NOT PRINTED: function 9 (sennitlaw13_UnmarkChoose)

-- function 69 (strings_Index): its contract is proved by hand

end Go.Proofs.YtcnjbmdnnhbfkaaGreatDoor.XD
