-- Printed by this session's xprint.sh (a patched copy of the kit's print program). Not trusted: Lean checks it.
import Derived.Test.YtcnjbmdnnhbfkaaGreatDoorXD0
namespace Go.Proofs.YtcnjbmdnnhbfkaaGreatDoor.XD
open Go.RowKit Go.Proofs.YtcnjbmdnnhbfkaaGreatDoorW.PrintWords Go.Proofs.YtcnjbmdnnhbfkaaGreatDoorW.PrintLast Go.Proofs.YtcnjbmdnnhbfkaaGreatDoorW.PrintMore
attribute [local go_sem] max2_int min2_int max_two min_two max_three min_three max_four min_four   -- for this text's walks alone
set_option linter.unusedVariables false
set_option linter.unusedSimpArgs false

/-! ### sennitref07_Choose: function 21 -/
mutual
def sennitref07_Choose.l0 : Nat → List (S36) → Int → List ByteArray → Int → Option (List ByteArray)
 | 0, _, _, _, _ => none
 | k + 1, x0, x1, x5, x6 => if x6 < (x0.length : Int) then (if 0 ≤ x6 then (if ((rd_T36 x0 x6).f0 = true) then (sennitref07_Choose.j1 k x0 x1 x5 x6) else (if x5.length + ((rd_T36 x0 x6).f1).length < 8796093022208 then (sennitref07_Choose.j1 k x0 x1 (x5 ++ ((rd_T36 x0 x6).f1)) x6) else (none))) else (none)) else (some x5)
def sennitref07_Choose.j1 : Nat → List (S36) → Int → List ByteArray → Int → Option (List ByteArray)
 | 0, _, _, _, _ => none
 | k + 1, x0, x1, x5, x6 => sennitref07_Choose.l1 k x0 x1 x5 x6 0
def sennitref07_Choose.l1 : Nat → List (S36) → Int → List ByteArray → Int → Int → Option (List ByteArray)
 | 0, _, _, _, _, _ => none
 | k + 1, x0, x1, x5, x6, x7 => if 0 ≤ x6 then (if x6 < (x0.length : Int) then (if (rd_T36 x0 x6).f0 = true then (sennitref07_Choose.j3 k x0 x1 x5 x6 x7 (decide (x7 < (((rd_T36 x0 x6).f3).length : Int)))) else (sennitref07_Choose.j3 k x0 x1 x5 x6 x7 false)) else (none)) else (none)
def sennitref07_Choose.j3 : Nat → List (S36) → Int → List ByteArray → Int → Int → Bool → Option (List ByteArray)
 | 0, _, _, _, _, _, _ => none
 | k + 1, x0, x1, x5, x6, x7, x41 => if x41 = true then (if x7 = (wrap64 (x1 - 1)) then (if 0 ≤ x6 then (if x6 < (x0.length : Int) then (if 0 ≤ x7 then (if x7 < (((rd_T36 x0 x6).f3).length : Int) then (if x5.length + (rd_L2 ((rd_T36 x0 x6).f3) x7).length < 8796093022208 then (sennitref07_Choose.l1 k x0 x1 (x5 ++ (rd_L2 ((rd_T36 x0 x6).f3) x7)) x6 (wrap64 (x7 + 1))) else (none)) else (none)) else (none)) else (none)) else (none)) else (sennitref07_Choose.l1 k x0 x1 x5 x6 (wrap64 (x7 + 1)))) else (sennitref07_Choose.l0 k x0 x1 x5 (wrap64 (x6 + 1)))
end
def sennitref07_Choose.f (k : Nat) (l0 : List (S36)) (a1 : Int) : Option (List ByteArray) := sennitref07_Choose.l0 k l0 a1 ([] : List ByteArray) 0
theorem sennitref07_Choose.mono_l : ∀ k, (∀ y0 y1 y2 y3, LeO (sennitref07_Choose.l0 k y0 y1 y2 y3) (sennitref07_Choose.l0 (k + 1) y0 y1 y2 y3)) ∧ (∀ y0 y1 y2 y3, LeO (sennitref07_Choose.j1 k y0 y1 y2 y3) (sennitref07_Choose.j1 (k + 1) y0 y1 y2 y3)) ∧ (∀ y0 y1 y2 y3 y4, LeO (sennitref07_Choose.l1 k y0 y1 y2 y3 y4) (sennitref07_Choose.l1 (k + 1) y0 y1 y2 y3 y4)) ∧ (∀ y0 y1 y2 y3 y4 y5, LeO (sennitref07_Choose.j3 k y0 y1 y2 y3 y4 y5) (sennitref07_Choose.j3 (k + 1) y0 y1 y2 y3 y4 y5))
 | 0 => ⟨fun _ _ _ _ r h => by simp [sennitref07_Choose.l0] at h, fun _ _ _ _ r h => by simp [sennitref07_Choose.j1] at h, fun _ _ _ _ _ r h => by simp [sennitref07_Choose.l1] at h, fun _ _ _ _ _ _ r h => by simp [sennitref07_Choose.j3] at h⟩
 | k + 1 => by
  obtain ⟨ih0, ih1, ih2, ih3⟩ := sennitref07_Choose.mono_l k
  refine ⟨?_, ?_, ?_, ?_⟩
  ·intro y0 y1 y2 y3
   unfold sennitref07_Choose.l0
   repeat' first
   | (with_reducible exact ih0 _ _ _ _)
   | (with_reducible exact ih1 _ _ _ _)
   | (with_reducible exact ih2 _ _ _ _ _)
   | (with_reducible exact ih3 _ _ _ _ _ _)
   | (with_reducible exact LeO.refl _)
   | (with_reducible exact LeO.none _)
   | (with_reducible refine LeO.ite ?_ ?_)
   | (with_reducible refine LeO.bind ?_ (fun _ => ?_))
   | exact ih0 _ _ _ _
   | exact ih1 _ _ _ _
   | exact ih2 _ _ _ _ _
   | exact ih3 _ _ _ _ _ _
   | exact LeO.none _
   | refine LeO.ite ?_ ?_
   | refine LeO.bind ?_ (fun _ => ?_)
  ·intro y0 y1 y2 y3
   unfold sennitref07_Choose.j1
   repeat' first
   | (with_reducible exact ih0 _ _ _ _)
   | (with_reducible exact ih1 _ _ _ _)
   | (with_reducible exact ih2 _ _ _ _ _)
   | (with_reducible exact ih3 _ _ _ _ _ _)
   | (with_reducible exact LeO.refl _)
   | (with_reducible exact LeO.none _)
   | (with_reducible refine LeO.ite ?_ ?_)
   | (with_reducible refine LeO.bind ?_ (fun _ => ?_))
   | exact ih0 _ _ _ _
   | exact ih1 _ _ _ _
   | exact ih2 _ _ _ _ _
   | exact ih3 _ _ _ _ _ _
   | exact LeO.none _
   | refine LeO.ite ?_ ?_
   | refine LeO.bind ?_ (fun _ => ?_)
  ·intro y0 y1 y2 y3 y4
   unfold sennitref07_Choose.l1
   repeat' first
   | (with_reducible exact ih0 _ _ _ _)
   | (with_reducible exact ih1 _ _ _ _)
   | (with_reducible exact ih2 _ _ _ _ _)
   | (with_reducible exact ih3 _ _ _ _ _ _)
   | (with_reducible exact LeO.refl _)
   | (with_reducible exact LeO.none _)
   | (with_reducible refine LeO.ite ?_ ?_)
   | (with_reducible refine LeO.bind ?_ (fun _ => ?_))
   | exact ih0 _ _ _ _
   | exact ih1 _ _ _ _
   | exact ih2 _ _ _ _ _
   | exact ih3 _ _ _ _ _ _
   | exact LeO.none _
   | refine LeO.ite ?_ ?_
   | refine LeO.bind ?_ (fun _ => ?_)
  ·intro y0 y1 y2 y3 y4 y5
   unfold sennitref07_Choose.j3
   repeat' first
   | (with_reducible exact ih0 _ _ _ _)
   | (with_reducible exact ih1 _ _ _ _)
   | (with_reducible exact ih2 _ _ _ _ _)
   | (with_reducible exact ih3 _ _ _ _ _ _)
   | (with_reducible exact LeO.refl _)
   | (with_reducible exact LeO.none _)
   | (with_reducible refine LeO.ite ?_ ?_)
   | (with_reducible refine LeO.bind ?_ (fun _ => ?_))
   | exact ih0 _ _ _ _
   | exact ih1 _ _ _ _
   | exact ih2 _ _ _ _ _
   | exact ih3 _ _ _ _ _ _
   | exact LeO.none _
   | refine LeO.ite ?_ ?_
   | refine LeO.bind ?_ (fun _ => ?_)
theorem sennitref07_Choose.mono : ∀ a0 a1 k, LeO (sennitref07_Choose.f k a0 a1) (sennitref07_Choose.f (k + 1) a0 a1) := by
 intro a0 a1 k
 obtain ⟨ih0, ih1, ih2, ih3⟩ := sennitref07_Choose.mono_l k
 unfold sennitref07_Choose.f
 repeat' first
   | (with_reducible exact ih0 _ _ _ _)
   | (with_reducible exact ih1 _ _ _ _)
   | (with_reducible exact ih2 _ _ _ _ _)
   | (with_reducible exact ih3 _ _ _ _ _ _)
   | (with_reducible exact LeO.refl _)
   | (with_reducible exact LeO.none _)
   | (with_reducible refine LeO.ite ?_ ?_)
   | (with_reducible refine LeO.bind ?_ (fun _ => ?_))
   | exact ih0 _ _ _ _
   | exact ih1 _ _ _ _
   | exact ih2 _ _ _ _ _
   | exact ih3 _ _ _ _ _ _
   | exact LeO.none _
   | refine LeO.ite ?_ ?_
   | refine LeO.bind ?_ (fun _ => ?_)
set_option maxHeartbeats 8000000 in
set_option maxRecDepth 100000 in
theorem sennitref07_Choose.calls (k : Nat) (A0 : Option Addr) (c0 : Nat) (l0 : List (S36)) (a1 : Int) (r : List ByteArray) (w : World) (hr0 : Kd.C k36 w A0 l0.length l0) (hc0 : l0.length ≤ c0) (h : sennitref07_Choose.f k l0 a1 = some r) :
  Calls Tryz.prog 21 #[.slice A0 l0.length c0, .int .i64 a1] w fun e w' => ∃ v0_ : Value, e = .returned (v0_) ∧ Kd.R Kd.string 9 w' w.heap.size (fun _ => True) v0_ r ∧ Below w.heap.size w w' := by
 have HR0 := Aside0.mk hr0
 have HC0 := Aside0.mk hc0
 clear hr0 hc0
 have HB := Aside0.mk (Below.refl w.heap.size w)
 have H : (sennitref07_Choose.l0 k l0 a1 ([] : List ByteArray) 0) = some r := h
 clear h
 have H' := Aside0.mk H
 clear H
 go_enter Tryz.func21, Tryz.ntmps21
 go_wp2
 go_loopg [5, 6] k (fun kq v5 v6 w' => ∃ (x5_1 : List ByteArray) (x6_1 : Int), v6 = .int .i64 x6_1 ∧ Aside0 (sennitref07_Choose.l0 kq l0 a1 x5_1 x6_1 = some r) ∧ Aside0 (kq ≤ k) ∧ Aside0 (Kd.R Kd.string 9 w' w.heap.size (fun _ => True) v5 x5_1) ∧ Aside0 (Below w.heap.size w w'))
 case atStart => exact ⟨(([] : List ByteArray)), (0), (by first | rfl | (simp; done) | (simp [*]; done)), H', ⟨Nat.le_refl _⟩, ⟨by first | exact Kd.R_nil _ _ _ _ _ | exact Kd.N_nil _ _ _ _ _ | exact Kd.V_nil _ _ _ _ _ | exact Kd.Q_nil _ _ _ _ _ | exact Kd.S_nil _ _ _ _ _⟩, ⟨by repeat (first | (with_reducible first | exact HB.out | apply below_alloc | apply pw_below_drewN | apply below_drew1) | exact HB.out)⟩⟩
 case round =>
  clear H'
  try clear c2
  try clear p2
  obtain ⟨x5_1, x6_1, rfl, HA, HK1, HO_5, HB⟩ := hrel
  cases gk with
  | zero => exact absurd HA.out (by simp [sennitref07_Choose.l0])
  | succ k1 =>
   have H := HA.out
   clear HA
   simp only [sennitref07_Choose.l0] at H
   by_cases c3 : x6_1 < (l0.length : Int)
   ·rw [if_pos c3] at H
    have c3b0 : decide (x6_1 < (l0.length : Int)) = true := decide_eq_true c3
    clear c3
    by_cases c4 : 0 ≤ x6_1
    ·rw [if_pos c4] at H
     have c4b0 : decide (0 ≤ x6_1) = true := decide_eq_true c4
     clear c4
     have HC5 := Aside0.mk H
     clear H
     have p215 : 0 ≤ (x6_1 : Int) := of_decide_eq_true (by first | (with_reducible assumption) | assumption)
     have q215 : x6_1 < (l0.length : Int) := of_decide_eq_true (by first | (with_reducible assumption) | assumption)
     obtain ⟨ad215, A215_1, c215_1, A215_2, c215_2, A215_3, c215_3, e215, hx215_0, hx215_1, hx215_2, hx215_3, hl215_1, hi215_1, hl215_2, hi215_2, hl215_3, hi215_3⟩ := at_T36 HR0.out x6_1 p215 q215
     cases e215
     replace hx215_0 := (HB.out.cell (World.block_lt_of_cell? w _ hx215_0)).trans hx215_0
     replace hx215_1 := (HB.out.cell (World.block_lt_of_cell? w _ hx215_1)).trans hx215_1
     replace hx215_2 := (HB.out.cell (World.block_lt_of_cell? w _ hx215_2)).trans hx215_2
     replace hx215_3 := (HB.out.cell (World.block_lt_of_cell? w _ hx215_3)).trans hx215_3
     have HR215_1 := Aside0.mk hi215_1
     have HC215_1 := Aside0.mk hl215_1
     clear hi215_1 hl215_1
     have HR215_2 := Aside0.mk hi215_2
     have HC215_2 := Aside0.mk hl215_2
     clear hi215_2 hl215_2
     have HR215_3 := Aside0.mk hi215_3
     have HC215_3 := Aside0.mk hl215_3
     clear hi215_3 hl215_3
     replace p215 := eq_true p215
     replace q215 := eq_true q215
     go_upto_if 19 with (fail)
     go_cut [5] (fun v5 wc => ∃ (kq : Nat) (x5_4 : List ByteArray), Aside0 (sennitref07_Choose.j1 kq l0 a1 x5_4 x6_1 = some r) ∧ Aside0 (kq ≤ k1) ∧ Aside0 (Kd.R Kd.string 9 wc w.heap.size (fun _ => True) v5 x5_4) ∧ Aside0 (Below w.heap.size w wc))
     case first =>
      have H := HC5.out
      clear HC5
      obtain ⟨bq6, hbq6⟩ : ∃ b_ : Bool, b_ = ((rd_T36 l0 x6_1).f0) := ⟨_, rfl⟩
      replace H : (if (bq6 = true) then (sennitref07_Choose.j1 k1 l0 a1 x5_1 x6_1) else (if x5_1.length + ((rd_T36 l0 x6_1).f1).length < 8796093022208 then (sennitref07_Choose.j1 k1 l0 a1 (x5_1 ++ ((rd_T36 l0 x6_1).f1)) x6_1) else (none))) = some r := by rw [← hbq6] at H; exact H
      have Nbq6 := Aside0.mk hbq6
      clear hbq6
      (try rw [← Nbq6.out])
      by_cases c7 : (bq6 = true)
      ·subst c7
       have H1 : (sennitref07_Choose.j1 k1 l0 a1 x5_1 x6_1) = some r := by rw [if_pos rfl] at H; exact H
       clear H
       have H := H1
       clear H1
       have H' := Aside0.mk H
       clear H
       go_wp2
       go_meet
       case rel => exact ⟨_, (x5_1), H', ⟨by have := HK1.out; first | omega | exact Nat.le_refl _⟩, ⟨by (with_reducible repeat (first | apply Kd.R_alloc | apply Kd.R_drewN | apply Kd.R_drew)); exact HO_5.out⟩, ⟨by repeat (first | (with_reducible first | exact HB.out | apply below_alloc | apply pw_below_drewN | apply below_drew1) | exact HB.out)⟩⟩
      ·replace c7 := Bool.eq_false_iff.mpr c7
       subst c7
       have H1 : (if x5_1.length + ((rd_T36 l0 x6_1).f1).length < 8796093022208 then (sennitref07_Choose.j1 k1 l0 a1 (x5_1 ++ ((rd_T36 l0 x6_1).f1)) x6_1) else (none)) = some r := by rw [if_neg (show ¬ (false = true) by decide)] at H; exact H
       clear H
       have H := H1
       clear H1
       by_cases c8 : x5_1.length + ((rd_T36 l0 x6_1).f1).length < 8796093022208
       ·rw [if_pos c8] at H
        have LMc8 := Aside0.mk c8
        clear c8
        obtain ⟨y217, hy217⟩ : ∃ y_ : List ByteArray, y_ = (x5_1 ++ ((rd_T36 l0 x6_1).f1)) := ⟨_, rfl⟩
        replace H : (sennitref07_Choose.j1 k1 l0 a1 y217 x6_1) = some r := by first | (rw [hy217]; with_reducible exact H) | (have H2_ := (Option.bind_some _ _).symm.trans H; rw [hy217]; with_reducible exact H2_) | (have H2_ := (Option.bind_some _ _).symm.trans H; with_reducible exact H2_) | with_reducible exact H | (rw [hy217]; exact H) | exact H
        have Ny217 := Aside0.mk hy217
        clear hy217
        have H' := Aside0.mk H
        clear H
        have p216 : 0 ≤ (x6_1 : Int) := of_decide_eq_true (by first | (with_reducible assumption) | assumption)
        have q216 : x6_1 < (l0.length : Int) := of_decide_eq_true (by first | (with_reducible assumption) | assumption)
        obtain ⟨ad216, A216_1, c216_1, A216_2, c216_2, A216_3, c216_3, e216, hx216_0, hx216_1, hx216_2, hx216_3, hl216_1, hi216_1, hl216_2, hi216_2, hl216_3, hi216_3⟩ := at_T36 HR0.out x6_1 p216 q216
        (try rw [← Nbq6.out] at hx216_0)
        obtain rfl : ad215 = ad216 := (by injection e216)
        (try clear hx215_0); (try clear hx215_1); (try clear hx215_2); (try clear hx215_3)
        replace hx216_0 := (HB.out.cell (World.block_lt_of_cell? w _ hx216_0)).trans hx216_0
        replace hx216_1 := (HB.out.cell (World.block_lt_of_cell? w _ hx216_1)).trans hx216_1
        replace hx216_2 := (HB.out.cell (World.block_lt_of_cell? w _ hx216_2)).trans hx216_2
        replace hx216_3 := (HB.out.cell (World.block_lt_of_cell? w _ hx216_3)).trans hx216_3
        have HR216_1 := Aside0.mk hi216_1
        have HC216_1 := Aside0.mk hl216_1
        clear hi216_1 hl216_1
        have HR216_2 := Aside0.mk hi216_2
        have HC216_2 := Aside0.mk hl216_2
        clear hi216_2 hl216_2
        have HR216_3 := Aside0.mk hi216_3
        have HC216_3 := Aside0.mk hl216_3
        clear hi216_3 hl216_3
        replace p216 := eq_true p216
        replace q216 := eq_true q216
        go_wp2_with (first | ((with_reducible refine gate_builtin (b := .append) (xs := #[.tmp 20, .tmp 25]) rfl ?_); (try (refine gate_guard (by rfl) ?_; dsimp only)); at_builtin; refine Kd.R_append_rows Kd.string (w0 := w) w.heap.size rfl (.tmp 20) (.tmp 25) 25 9 (.string ⟨#[]⟩) 16 rfl Tryz.underlying25 info9 rfl (by decide) (by omega) u5 x5_1 ((rd_T36 l0 x6_1).f1) _ _ _ (fun _ => True) (fun _ => False) rfl rfl ?aO ?aR (fun _ _ h => h) (fun _ h => h.elim) ?aF ?aB ?aS ?aL ?_; (case aR => repeat (first | exact (Kd.C_below HR216_1.out HB.out) | (with_reducible refine Kd.C_alloc ?_ _) | (with_reducible refine Kd.C_drewN ?_ _) | (with_reducible refine Kd.C_drew ?_))); (case aB => exact (by repeat (first | (with_reducible first | exact HB.out | apply below_alloc | apply pw_below_drewN | apply below_drew1) | exact HB.out))); (case aF => exact (fun _ _ => trivial)); (case aO => exact (by (with_reducible repeat (first | apply Kd.R_alloc | apply Kd.R_drewN | apply Kd.R_drew)); exact HO_5.out)); (case aS => exact (below_size (by repeat (first | (with_reducible first | exact HB.out | apply below_alloc | apply pw_below_drewN | apply below_drew1) | exact HB.out)))); (case aL => have := LMc8.out; omega); intro v218 w9 ho hb hg hat; rw [← Ny217.out] at ho; have n0_ := Aside0.mk (hb); have n1_ := Aside0.mk (ho); clear HB; clear HO_5; have HB := n0_; have HO219 := n1_; clear n0_ n1_; clear ho hb hg hat))
        go_meet
        case rel => exact ⟨_, (y217), H', ⟨by have := HK1.out; first | omega | exact Nat.le_refl _⟩, ⟨by (with_reducible repeat (first | apply Kd.R_alloc | apply Kd.R_drewN | apply Kd.R_drew)); exact HO219.out⟩, ⟨by repeat (first | (with_reducible first | exact HB.out | apply below_alloc | apply pw_below_drewN | apply below_drew1) | exact HB.out)⟩⟩
       ·rw [if_neg c8] at H
        exact absurd H (by simp)
     case rest =>
      clear HC5
      try clear c2
      try clear p2
      try clear q2
      try clear hx2
      try clear c3
      try clear c3b0
      try clear c4
      try clear c4b0
      try clear q6
      try clear c7
      try clear c8
      try clear hx215_0
      try clear hx215_1
      try clear hx215_2
      try clear hx215_3
      try clear hx216_0
      try clear hx216_1
      try clear hx216_2
      try clear hx216_3
      try clear p2
      try clear p215
      try clear p216
      try clear q215
      try clear q216
      obtain ⟨kq, x5_4, HA, HJ4, HO_5, HB⟩ := hcut
      cases kq with
      | zero => exact absurd HA.out (by simp [sennitref07_Choose.j1])
      | succ kj4 =>
       have H := HA.out
       clear HA
       simp only [sennitref07_Choose.j1] at H
       have H' := Aside0.mk H
       clear H
       go_wp2
       go_loopg [5, 7] kj4 (fun kq v5 v7 w' => ∃ (x5_3 : List ByteArray) (x7_3 : Int), v7 = .int .i64 x7_3 ∧ Aside0 (sennitref07_Choose.l1 kq l0 a1 x5_3 x6_1 x7_3 = some r) ∧ Aside0 (kq ≤ kj4) ∧ Aside0 (Kd.R Kd.string 9 w' w.heap.size (fun _ => True) v5 x5_3) ∧ Aside0 (Below w.heap.size w w'))
       case atStart => exact ⟨(x5_4), (0), (by first | rfl | (simp; done) | (simp [*]; done)), H', ⟨Nat.le_refl _⟩, ⟨by (with_reducible repeat (first | apply Kd.R_alloc | apply Kd.R_drewN | apply Kd.R_drew)); exact HO_5.out⟩, ⟨by repeat (first | (with_reducible first | exact HB.out | apply below_alloc | apply pw_below_drewN | apply below_drew1) | exact HB.out)⟩⟩
       case round =>
        clear H'
        try clear c2
        try clear p2
        try clear q2
        try clear hx2
        try clear c3
        try clear c3b0
        try clear c4
        try clear c4b0
        try clear q6
        try clear c7
        try clear c8
        try clear hx215_0
        try clear hx215_1
        try clear hx215_2
        try clear hx215_3
        try clear hx216_0
        try clear hx216_1
        try clear hx216_2
        try clear hx216_3
        try clear p2
        try clear p215
        try clear p216
        try clear q2
        try clear q215
        try clear q216
        try clear q6
        obtain ⟨x5_3, x7_3, rfl, HA, HK3, HO_5, HB⟩ := hrel
        cases gk with
        | zero => exact absurd HA.out (by simp [sennitref07_Choose.l1])
        | succ k3 =>
         have H := HA.out
         clear HA
         simp only [sennitref07_Choose.l1] at H
         have HC10 := Aside0.mk H
         clear H
         go_upto_region 8 with (fail)
         go_cut [41] (fun v41 wc => ∃ (kq : Nat) (x41_9 : Bool), v41 = .bool x41_9 ∧ Aside0 (sennitref07_Choose.j3 kq l0 a1 x5_3 x6_1 x7_3 x41_9 = some r) ∧ Aside0 (kq ≤ k3) ∧ Aside0 (Kd.R Kd.string 9 wc w.heap.size (fun _ => True) u5 x5_3) ∧ Aside0 (Below w.heap.size w wc))
         case first =>
          have H := HC10.out
          clear HC10
          by_cases c11 : 0 ≤ x6_1
          ·rw [if_pos c11] at H
           have c11b0 : decide (0 ≤ x6_1) = true := decide_eq_true c11
           clear c11
           (first | rw [c11b0] | (simp only [i64_w, i32_w]; rw [c11b0]) | skip)
           by_cases c12 : x6_1 < (l0.length : Int)
           ·rw [if_pos c12] at H
            have c12b0 : decide (x6_1 < (l0.length : Int)) = true := decide_eq_true c12
            clear c12
            obtain ⟨bq13, hbq13⟩ : ∃ b_ : Bool, b_ = ((rd_T36 l0 x6_1).f0) := ⟨_, rfl⟩
            replace H : (if bq13 = true then (sennitref07_Choose.j3 k3 l0 a1 x5_3 x6_1 x7_3 (decide (x7_3 < (((rd_T36 l0 x6_1).f3).length : Int)))) else (sennitref07_Choose.j3 k3 l0 a1 x5_3 x6_1 x7_3 false)) = some r := by rw [← hbq13] at H; exact H
            have Nbq13 := Aside0.mk hbq13
            clear hbq13
            by_cases c14 : bq13 = true
            ·subst c14
             have H1 : (sennitref07_Choose.j3 k3 l0 a1 x5_3 x6_1 x7_3 (decide (x7_3 < (((rd_T36 l0 x6_1).f3).length : Int)))) = some r := by rw [if_pos rfl] at H; exact H
             clear H
             have H := H1
             clear H1
             have H' := Aside0.mk H
             clear H
             have p220 : 0 ≤ (x6_1 : Int) := of_decide_eq_true (by first | (with_reducible assumption) | assumption)
             have q220 : x6_1 < (l0.length : Int) := of_decide_eq_true (by first | (with_reducible assumption) | assumption)
             obtain ⟨ad220, A220_1, c220_1, A220_2, c220_2, A220_3, c220_3, e220, hx220_0, hx220_1, hx220_2, hx220_3, hl220_1, hi220_1, hl220_2, hi220_2, hl220_3, hi220_3⟩ := at_T36 HR0.out x6_1 p220 q220
             (try rw [← Nbq13.out] at hx220_0)
             obtain rfl : ad215 = ad220 := (by injection e220)
             (try clear hx215_0); (try clear hx215_1); (try clear hx215_2); (try clear hx215_3)
             replace hx220_0 := (HB.out.cell (World.block_lt_of_cell? w _ hx220_0)).trans hx220_0
             replace hx220_1 := (HB.out.cell (World.block_lt_of_cell? w _ hx220_1)).trans hx220_1
             replace hx220_2 := (HB.out.cell (World.block_lt_of_cell? w _ hx220_2)).trans hx220_2
             replace hx220_3 := (HB.out.cell (World.block_lt_of_cell? w _ hx220_3)).trans hx220_3
             have HR220_1 := Aside0.mk hi220_1
             have HC220_1 := Aside0.mk hl220_1
             clear hi220_1 hl220_1
             have HR220_2 := Aside0.mk hi220_2
             have HC220_2 := Aside0.mk hl220_2
             clear hi220_2 hl220_2
             have HR220_3 := Aside0.mk hi220_3
             have HC220_3 := Aside0.mk hl220_3
             clear hi220_3 hl220_3
             replace p220 := eq_true p220
             replace q220 := eq_true q220
             have p221 : 0 ≤ (x6_1 : Int) := of_decide_eq_true (by first | (with_reducible assumption) | assumption)
             have q221 : x6_1 < (l0.length : Int) := of_decide_eq_true (by first | (with_reducible assumption) | assumption)
             obtain ⟨ad221, A221_1, c221_1, A221_2, c221_2, A221_3, c221_3, e221, hx221_0, hx221_1, hx221_2, hx221_3, hl221_1, hi221_1, hl221_2, hi221_2, hl221_3, hi221_3⟩ := at_T36 HR0.out x6_1 p221 q221
             (try rw [← Nbq13.out] at hx221_0)
             obtain rfl : ad215 = ad221 := (by injection e221)
             (try clear hx215_0); (try clear hx215_1); (try clear hx215_2); (try clear hx215_3)
             replace hx221_0 := (HB.out.cell (World.block_lt_of_cell? w _ hx221_0)).trans hx221_0
             replace hx221_1 := (HB.out.cell (World.block_lt_of_cell? w _ hx221_1)).trans hx221_1
             replace hx221_2 := (HB.out.cell (World.block_lt_of_cell? w _ hx221_2)).trans hx221_2
             replace hx221_3 := (HB.out.cell (World.block_lt_of_cell? w _ hx221_3)).trans hx221_3
             have HR221_1 := Aside0.mk hi221_1
             have HC221_1 := Aside0.mk hl221_1
             clear hi221_1 hl221_1
             have HR221_2 := Aside0.mk hi221_2
             have HC221_2 := Aside0.mk hl221_2
             clear hi221_2 hl221_2
             have HR221_3 := Aside0.mk hi221_3
             have HC221_3 := Aside0.mk hl221_3
             clear hi221_3 hl221_3
             replace p221 := eq_true p221
             replace q221 := eq_true q221
             have ea_ := Option.some.inj (hx220_1.symm.trans hx221_1)
             injection ea_ with ea_ en_ ec_
             subst ea_
             subst ec_
             clear en_
             have ea_ := Option.some.inj (hx220_2.symm.trans hx221_2)
             injection ea_ with ea_ en_ ec_
             subst ea_
             subst ec_
             clear en_
             have ea_ := Option.some.inj (hx220_3.symm.trans hx221_3)
             injection ea_ with ea_ en_ ec_
             subst ea_
             subst ec_
             clear en_
             go_wp2
             go_meet
             case rel => exact ⟨_, (decide (x7_3 < (((rd_T36 l0 x6_1).f3).length : Int))), (by first | rfl | (simp; done) | (simp [*]; done)), H', ⟨by have := HK1.out; have := HJ4.out; have := HK3.out; first | omega | exact Nat.le_refl _⟩, ⟨by (with_reducible repeat (first | apply Kd.R_alloc | apply Kd.R_drewN | apply Kd.R_drew)); exact HO_5.out⟩, ⟨by repeat (first | (with_reducible first | exact HB.out | apply below_alloc | apply pw_below_drewN | apply below_drew1) | exact HB.out)⟩⟩
            ·replace c14 := Bool.eq_false_iff.mpr c14
             subst c14
             have H1 : (sennitref07_Choose.j3 k3 l0 a1 x5_3 x6_1 x7_3 false) = some r := by rw [if_neg (show ¬ (false = true) by decide)] at H; exact H
             clear H
             have H := H1
             clear H1
             have H' := Aside0.mk H
             clear H
             have p220 : 0 ≤ (x6_1 : Int) := of_decide_eq_true (by first | (with_reducible assumption) | assumption)
             have q220 : x6_1 < (l0.length : Int) := of_decide_eq_true (by first | (with_reducible assumption) | assumption)
             obtain ⟨ad220, A220_1, c220_1, A220_2, c220_2, A220_3, c220_3, e220, hx220_0, hx220_1, hx220_2, hx220_3, hl220_1, hi220_1, hl220_2, hi220_2, hl220_3, hi220_3⟩ := at_T36 HR0.out x6_1 p220 q220
             (try rw [← Nbq13.out] at hx220_0)
             obtain rfl : ad215 = ad220 := (by injection e220)
             (try clear hx215_0); (try clear hx215_1); (try clear hx215_2); (try clear hx215_3)
             replace hx220_0 := (HB.out.cell (World.block_lt_of_cell? w _ hx220_0)).trans hx220_0
             replace hx220_1 := (HB.out.cell (World.block_lt_of_cell? w _ hx220_1)).trans hx220_1
             replace hx220_2 := (HB.out.cell (World.block_lt_of_cell? w _ hx220_2)).trans hx220_2
             replace hx220_3 := (HB.out.cell (World.block_lt_of_cell? w _ hx220_3)).trans hx220_3
             have HR220_1 := Aside0.mk hi220_1
             have HC220_1 := Aside0.mk hl220_1
             clear hi220_1 hl220_1
             have HR220_2 := Aside0.mk hi220_2
             have HC220_2 := Aside0.mk hl220_2
             clear hi220_2 hl220_2
             have HR220_3 := Aside0.mk hi220_3
             have HC220_3 := Aside0.mk hl220_3
             clear hi220_3 hl220_3
             replace p220 := eq_true p220
             replace q220 := eq_true q220
             go_wp2
             go_meet
             case rel => exact ⟨_, (false), (by first | rfl | (simp; done) | (simp [*]; done)), H', ⟨by have := HK1.out; have := HJ4.out; have := HK3.out; first | omega | exact Nat.le_refl _⟩, ⟨by (with_reducible repeat (first | apply Kd.R_alloc | apply Kd.R_drewN | apply Kd.R_drew)); exact HO_5.out⟩, ⟨by repeat (first | (with_reducible first | exact HB.out | apply below_alloc | apply pw_below_drewN | apply below_drew1) | exact HB.out)⟩⟩
           ·rw [if_neg c12] at H
            exact absurd H (by simp)
          ·rw [if_neg c11] at H
           exact absurd H (by simp)
         case rest =>
          clear HC10
          try clear c1
          try clear q1
          try clear c2
          try clear p2
          try clear q2
          try clear hx2
          try clear c3
          try clear c3b0
          try clear c4
          try clear c4b0
          try clear q6
          try clear c7
          try clear c8
          try clear c11
          try clear c11b0
          try clear c12
          try clear c12b0
          try clear q13
          try clear c14
          try clear hx215_0
          try clear hx215_1
          try clear hx215_2
          try clear hx215_3
          try clear hx216_0
          try clear hx216_1
          try clear hx216_2
          try clear hx216_3
          try clear hx220_0
          try clear hx220_1
          try clear hx220_2
          try clear hx220_3
          try clear hx221_0
          try clear hx221_1
          try clear hx221_2
          try clear hx221_3
          try clear p2
          try clear p215
          try clear p216
          try clear p220
          try clear p221
          try clear q2
          try clear q215
          try clear q216
          try clear q220
          try clear q221
          try clear q6
          obtain ⟨kq, x41_9, rfl, HA, HJ9, HO_5, HB⟩ := hcut
          cases kq with
          | zero => exact absurd HA.out (by simp [sennitref07_Choose.j3])
          | succ kj9 =>
           have H := HA.out
           clear HA
           simp only [sennitref07_Choose.j3] at H
           by_cases c15 : x41_9 = true
           ·subst c15
            have H1 : (if x7_3 = (wrap64 (a1 - 1)) then (if 0 ≤ x6_1 then (if x6_1 < (l0.length : Int) then (if 0 ≤ x7_3 then (if x7_3 < (((rd_T36 l0 x6_1).f3).length : Int) then (if x5_3.length + (rd_L2 ((rd_T36 l0 x6_1).f3) x7_3).length < 8796093022208 then (sennitref07_Choose.l1 kj9 l0 a1 (x5_3 ++ (rd_L2 ((rd_T36 l0 x6_1).f3) x7_3)) x6_1 (wrap64 (x7_3 + 1))) else (none)) else (none)) else (none)) else (none)) else (none)) else (sennitref07_Choose.l1 kj9 l0 a1 x5_3 x6_1 (wrap64 (x7_3 + 1)))) = some r := by rw [if_pos rfl] at H; exact H
            clear H
            have H := H1
            clear H1
            by_cases c16 : x7_3 = (wrap64 (a1 - 1))
            ·rw [if_pos c16] at H
             have c16b0 : (x7_3 == (wrap64 (a1 - 1))) = true := beq_iff_eq.mpr c16
             have c16b1 : (x7_3 != (wrap64 (a1 - 1))) = false := bne_eq_false_iff_eq.mpr c16
             clear c16
             by_cases c17 : 0 ≤ x6_1
             ·rw [if_pos c17] at H
              have c17b0 : decide (0 ≤ x6_1) = true := decide_eq_true c17
              clear c17
              by_cases c18 : x6_1 < (l0.length : Int)
              ·rw [if_pos c18] at H
               have c18b0 : decide (x6_1 < (l0.length : Int)) = true := decide_eq_true c18
               clear c18
               by_cases c19 : 0 ≤ x7_3
               ·rw [if_pos c19] at H
                have c19b0 : decide (0 ≤ x7_3) = true := decide_eq_true c19
                clear c19
                by_cases c20 : x7_3 < (((rd_T36 l0 x6_1).f3).length : Int)
                ·rw [if_pos c20] at H
                 have c20b0 : decide (x7_3 < (((rd_T36 l0 x6_1).f3).length : Int)) = true := decide_eq_true c20
                 clear c20
                 by_cases c21 : x5_3.length + (rd_L2 ((rd_T36 l0 x6_1).f3) x7_3).length < 8796093022208
                 ·rw [if_pos c21] at H
                  have LMc21 := Aside0.mk c21
                  clear c21
                  obtain ⟨y224, hy224⟩ : ∃ y_ : List ByteArray, y_ = (x5_3 ++ (rd_L2 ((rd_T36 l0 x6_1).f3) x7_3)) := ⟨_, rfl⟩
                  replace H : (sennitref07_Choose.l1 kj9 l0 a1 y224 x6_1 (wrap64 (x7_3 + 1))) = some r := by first | (rw [hy224]; with_reducible exact H) | (have H2_ := (Option.bind_some _ _).symm.trans H; rw [hy224]; with_reducible exact H2_) | (have H2_ := (Option.bind_some _ _).symm.trans H; with_reducible exact H2_) | with_reducible exact H | (rw [hy224]; exact H) | exact H
                  have Ny224 := Aside0.mk hy224
                  clear hy224
                  have H' := Aside0.mk H
                  clear H
                  have p222 : 0 ≤ (x6_1 : Int) := of_decide_eq_true (by first | (with_reducible assumption) | assumption)
                  have q222 : x6_1 < (l0.length : Int) := of_decide_eq_true (by first | (with_reducible assumption) | assumption)
                  obtain ⟨ad222, A222_1, c222_1, A222_2, c222_2, A222_3, c222_3, e222, hx222_0, hx222_1, hx222_2, hx222_3, hl222_1, hi222_1, hl222_2, hi222_2, hl222_3, hi222_3⟩ := at_T36 HR0.out x6_1 p222 q222
                  obtain rfl : ad215 = ad222 := (by injection e222)
                  (try clear hx215_0); (try clear hx215_1); (try clear hx215_2); (try clear hx215_3)
                  replace hx222_0 := (HB.out.cell (World.block_lt_of_cell? w _ hx222_0)).trans hx222_0
                  replace hx222_1 := (HB.out.cell (World.block_lt_of_cell? w _ hx222_1)).trans hx222_1
                  replace hx222_2 := (HB.out.cell (World.block_lt_of_cell? w _ hx222_2)).trans hx222_2
                  replace hx222_3 := (HB.out.cell (World.block_lt_of_cell? w _ hx222_3)).trans hx222_3
                  have HR222_1 := Aside0.mk hi222_1
                  have HC222_1 := Aside0.mk hl222_1
                  clear hi222_1 hl222_1
                  have HR222_2 := Aside0.mk hi222_2
                  have HC222_2 := Aside0.mk hl222_2
                  clear hi222_2 hl222_2
                  have HR222_3 := Aside0.mk hi222_3
                  have HC222_3 := Aside0.mk hl222_3
                  clear hi222_3 hl222_3
                  replace p222 := eq_true p222
                  replace q222 := eq_true q222
                  have p223 : 0 ≤ (x7_3 : Int) := of_decide_eq_true (by first | (with_reducible assumption) | assumption)
                  have q223 : x7_3 < (((rd_T36 l0 x6_1).f3).length : Int) := of_decide_eq_true (by first | (with_reducible assumption) | assumption)
                  obtain ⟨ad223, A223_0, c223_0, e223, hx223_0, hl223_0, hi223_0⟩ := at_L2 HR222_3.out x7_3 p223 q223
                  cases e223
                  replace hx223_0 := (HB.out.cell (World.block_lt_of_cell? w _ hx223_0)).trans hx223_0
                  have HR223_0 := Aside0.mk hi223_0
                  have HC223_0 := Aside0.mk hl223_0
                  clear hi223_0 hl223_0
                  replace p223 := eq_true p223
                  replace q223 := eq_true q223
                  go_wp2_with (first | ((with_reducible refine gate_builtin (b := .append) (xs := #[.tmp 48, .tmp 56]) rfl ?_); (try (refine gate_guard (by rfl) ?_; dsimp only)); at_builtin; refine Kd.R_append_rows Kd.string (w0 := w) w.heap.size rfl (.tmp 48) (.tmp 56) 25 9 (.string ⟨#[]⟩) 16 rfl Tryz.underlying25 info9 rfl (by decide) (by omega) u5 x5_3 (rd_L2 ((rd_T36 l0 x6_1).f3) x7_3) _ _ _ (fun _ => True) (fun _ => False) rfl rfl ?aO ?aR (fun _ _ h => h) (fun _ h => h.elim) ?aF ?aB ?aS ?aL ?_; (case aR => repeat (first | exact (Kd.C_below HR223_0.out HB.out) | (with_reducible refine Kd.C_alloc ?_ _) | (with_reducible refine Kd.C_drewN ?_ _) | (with_reducible refine Kd.C_drew ?_))); (case aB => exact (by repeat (first | (with_reducible first | exact HB.out | apply below_alloc | apply pw_below_drewN | apply below_drew1) | exact HB.out))); (case aF => exact (fun _ _ => trivial)); (case aO => exact (by (with_reducible repeat (first | apply Kd.R_alloc | apply Kd.R_drewN | apply Kd.R_drew)); exact HO_5.out)); (case aS => exact (below_size (by repeat (first | (with_reducible first | exact HB.out | apply below_alloc | apply pw_below_drewN | apply below_drew1) | exact HB.out)))); (case aL => have := LMc21.out; omega); intro v225 w22 ho hb hg hat; rw [← Ny224.out] at ho; have n0_ := Aside0.mk (hb); have n1_ := Aside0.mk (ho); clear HB; clear HO_5; have HB := n0_; have HO226 := n1_; clear n0_ n1_; clear ho hb hg hat))
                  go_roundg kj9
                  case measure => have := HK1.out; have := HJ4.out; have := HK3.out; have := HJ9.out; omega
                  case rel => exact ⟨(y224), (wrap64 (x7_3 + 1)), (by first | rfl | (simp; done) | (simp [*]; done)), H', ⟨by have := HK1.out; have := HJ4.out; have := HK3.out; have := HJ9.out; omega⟩, ⟨by (with_reducible repeat (first | apply Kd.R_alloc | apply Kd.R_drewN | apply Kd.R_drew)); exact HO226.out⟩, ⟨by repeat (first | (with_reducible first | exact HB.out | apply below_alloc | apply pw_below_drewN | apply below_drew1) | exact HB.out)⟩⟩
                 ·rw [if_neg c21] at H
                  exact absurd H (by simp)
                ·rw [if_neg c20] at H
                 exact absurd H (by simp)
               ·rw [if_neg c19] at H
                exact absurd H (by simp)
              ·rw [if_neg c18] at H
               exact absurd H (by simp)
             ·rw [if_neg c17] at H
              exact absurd H (by simp)
            ·rw [if_neg c16] at H
             have c16b0 : (x7_3 == (wrap64 (a1 - 1))) = false := beq_eq_false_iff_ne.mpr c16
             have c16b1 : (x7_3 != (wrap64 (a1 - 1))) = true := bne_iff_ne.mpr c16
             have H' := Aside0.mk H
             clear H
             go_wp2
             go_roundg kj9
             case measure => have := HK1.out; have := HJ4.out; have := HK3.out; have := HJ9.out; omega
             case rel => exact ⟨(x5_3), (wrap64 (x7_3 + 1)), (by first | rfl | (simp; done) | (simp [*]; done)), H', ⟨by have := HK1.out; have := HJ4.out; have := HK3.out; have := HJ9.out; omega⟩, ⟨by (with_reducible repeat (first | apply Kd.R_alloc | apply Kd.R_drewN | apply Kd.R_drew)); exact HO_5.out⟩, ⟨by repeat (first | (with_reducible first | exact HB.out | apply below_alloc | apply pw_below_drewN | apply below_drew1) | exact HB.out)⟩⟩
           ·replace c15 := Bool.eq_false_iff.mpr c15
            subst c15
            have H1 : (sennitref07_Choose.l0 kj9 l0 a1 x5_3 (wrap64 (x6_1 + 1))) = some r := by rw [if_neg (show ¬ (false = true) by decide)] at H; exact H
            clear H
            have H := H1
            clear H1
            have H' := Aside0.mk H
            clear H
            go_wp2
            go_roundg kj9
            case measure => have := HK1.out; have := HJ4.out; have := HK3.out; have := HJ9.out; omega
            case rel => exact ⟨(x5_3), (wrap64 (x6_1 + 1)), (by first | rfl | (simp; done) | (simp [*]; done)), H', ⟨by have := HK1.out; have := HJ4.out; have := HK3.out; have := HJ9.out; omega⟩, ⟨by (with_reducible repeat (first | apply Kd.R_alloc | apply Kd.R_drewN | apply Kd.R_drew)); exact HO_5.out⟩, ⟨by repeat (first | (with_reducible first | exact HB.out | apply below_alloc | apply pw_below_drewN | apply below_drew1) | exact HB.out)⟩⟩
    ·rw [if_neg c4] at H
     exact absurd H (by simp)
   ·rw [if_neg c3] at H
    have c3b0 : decide (x6_1 < (l0.length : Int)) = false := decide_eq_false c3
    clear c3
    obtain rfl := Option.some.inj H
    go_wp2
    go_ret
    exact ⟨_, by first | rfl | (simp [errW_none, errW_some] <;> rfl) | (simp [*, errW_none, errW_some] <;> rfl), by (with_reducible repeat (first | apply Kd.R_alloc | apply Kd.R_drewN | apply Kd.R_drew)); exact HO_5.out, by repeat (first | (with_reducible first | exact HB.out | apply below_alloc | apply pw_below_drewN | apply below_drew1) | exact HB.out)⟩

end Go.Proofs.YtcnjbmdnnhbfkaaGreatDoor.XD
