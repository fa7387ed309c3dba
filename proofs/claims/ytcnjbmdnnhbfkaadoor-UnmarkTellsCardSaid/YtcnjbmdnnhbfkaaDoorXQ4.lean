-- Printed by this session's xprint.sh (a patched copy of the kit's print program). Not trusted: Lean checks it.
import Derived.Test.YtcnjbmdnnhbfkaaDoorXD0
namespace Go.Proofs.YtcnjbmdnnhbfkaaDoor.XQ
open Go.RowKit Go.Proofs.YtcnjbmdnnhbfkaaDoorW.PrintWords Go.Proofs.YtcnjbmdnnhbfkaaDoorW.PrintLast Go.Proofs.YtcnjbmdnnhbfkaaDoorW.PrintMore
attribute [local go_sem] max2_int min2_int max_two min_two max_three min_three max_four min_four   -- for this text's walks alone
set_option linter.unusedVariables false
set_option linter.unusedSimpArgs false
open Go.Proofs.YtcnjbmdnnhbfkaaDoor.XD
/-! ### sennitref13_opened: function 43 -/
def sennitref13_opened.j0 : Nat → List ByteArray → Bool → Option (List ByteArray × Bool)
 | 0, _, _ => none
 | k + 1, x0, x23 => if x23 = true then (some (([] : List ByteArray), false)) else ((some (([] : List ByteArray) : List ByteArray)).bind fun y128 => (if y128.length + x0.length < 8796093022208 then ((some (y128 ++ x0 : List ByteArray)).bind fun y131 => (if 0 ≤ (wrap64 ((y131.length : Int) - 1)) then (if (wrap64 ((y131.length : Int) - 1)) < (y131.length : Int) then (if 0 ≤ (wrap64 (((rdOf ByteArray.empty y131 (wrap64 ((y131.length : Int) - 1))).size : Int) - 1)) then (if (wrap64 (((rdOf ByteArray.empty y131 (wrap64 ((y131.length : Int) - 1))).size : Int) - 1)) ≤ ((rdOf ByteArray.empty y131 (wrap64 ((y131.length : Int) - 1))).size : Int) then (some ((y131.set ((wrap64 ((y131.length : Int) - 1)) : Int).toNat ((rdOf ByteArray.empty y131 (wrap64 ((y131.length : Int) - 1))).extract 0 ((wrap64 (((rdOf ByteArray.empty y131 (wrap64 ((y131.length : Int) - 1))).size : Int) - 1)) : Int).toNat)), true)) else (none)) else (none)) else (none)) else (none))) else (none)))
def sennitref13_opened.f (k : Nat) (l0 : List ByteArray) (a1 : Int) : Option (List ByteArray × Bool) := if a1 < 2 then (some (l0, true)) else (if (l0.length : Int) = 0 then (sennitref13_opened.j0 k l0 true) else (if 0 ≤ (wrap64 ((l0.length : Int) - 1)) then (if (wrap64 ((l0.length : Int) - 1)) < (l0.length : Int) then (sennitref13_opened.j0 k l0 (decide (((rdOf ByteArray.empty l0 (wrap64 ((l0.length : Int) - 1))).size : Int) < 2))) else (none)) else (none)))
set_option maxHeartbeats 8000000 in
set_option maxRecDepth 100000 in
theorem sennitref13_opened.calls (k : Nat) (P0_ : Nat → Prop) (A0 : Option Addr) (c0 : Nat) (l0 : List ByteArray) (a1 : Int) (r1 : List ByteArray) (r2 : Bool) (w : World) (hs0 : Kd.V Kd.string 9 w w.heap.size (fun k_ => P0_ k_) (.slice A0 l0.length c0) l0) (h : sennitref13_opened.f k l0 a1 = some (r1, r2)) :
  Calls Tryd.prog 43 #[.slice A0 l0.length c0, .int .i64 a1] w fun e w' => ∃ v0_ : Value, e = .returned (.tuple #[v0_, .bool r2]) ∧ Kd.V Kd.string 9 w' w.heap.size (fun k_ => (P0_ k_ ∨ w.heap.size ≤ k_)) v0_ r1 ∧ Below w.heap.size w w' := by
 have HO0 := Aside0.mk (show Kd.V Kd.string 9 w w.heap.size (fun k_ => (P0_ k_ ∨ w.heap.size ≤ k_)) (.slice A0 l0.length c0) l0 from Kd.V_mono hs0 (fun k_ hk => .inl hk))
 have HB := Aside0.mk (Below.refl w.heap.size w)
 have H : (if a1 < 2 then (some (l0, true)) else (if (l0.length : Int) = 0 then (sennitref13_opened.j0 k l0 true) else (if 0 ≤ (wrap64 ((l0.length : Int) - 1)) then (if (wrap64 ((l0.length : Int) - 1)) < (l0.length : Int) then (sennitref13_opened.j0 k l0 (decide (((rdOf ByteArray.empty l0 (wrap64 ((l0.length : Int) - 1))).size : Int) < 2))) else (none)) else (none)))) = some (r1, r2) := h
 clear h
 by_cases c3 : a1 < 2
 ·rw [if_pos c3] at H
  have c3b0 : decide (a1 < 2) = true := decide_eq_true c3
  clear c3
  simp only [Option.some.injEq, Prod.mk.injEq] at H
  obtain ⟨rfl, rfl⟩ := H
  go_enter Tryd.func43, Tryd.ntmps43
  go_wp2
  go_ret2
  exact ⟨_, by first | rfl | (simp [errW_none, errW_some] <;> rfl) | (simp [*, errW_none, errW_some] <;> rfl), by (with_reducible repeat (first | apply Kd.V_alloc | apply Kd.V_drewN | apply Kd.V_drew)); exact HO0.out, by repeat (first | (with_reducible first | exact HB.out | apply below_alloc | apply pw_below_drewN | apply below_drew1) | exact HB.out)⟩
 ·rw [if_neg c3] at H
  have c3b0 : decide (a1 < 2) = false := decide_eq_false c3
  clear c3
  have HC4 := Aside0.mk H
  clear H
  go_enter Tryd.func43, Tryd.ntmps43
  go_upto_region 3 with (fail)
  go_cut [23] (fun v23 wc => ∃ (kq : Nat) (x23_3 : Bool), v23 = .bool x23_3 ∧ Aside0 (sennitref13_opened.j0 kq l0 x23_3 = some (r1, r2)) ∧ Aside0 (kq ≤ k) ∧ Aside0 (Kd.V Kd.string 9 wc w.heap.size (fun k_ => (P0_ k_ ∨ w.heap.size ≤ k_)) (.slice A0 l0.length c0) l0) ∧ Aside0 (Below w.heap.size w wc))
  case first =>
   have H := HC4.out
   clear HC4
   by_cases c5 : (l0.length : Int) = 0
   ·rw [if_pos c5] at H
    have c5b0 : ((l0.length : Int) == 0) = true := beq_iff_eq.mpr c5
    have c5b1 : ((l0.length : Int) != 0) = false := bne_eq_false_iff_eq.mpr c5
    clear c5
    (first | rw [c5b0] | (simp only [i64_w, i32_w]; rw [c5b0]) | skip)
    have H' := Aside0.mk H
    clear H
    go_wp2
    go_meet
    case rel => exact ⟨_, (true), (by first | rfl | (simp; done) | (simp [*]; done)), H', ⟨by first | omega | exact Nat.le_refl _⟩, ⟨by (with_reducible repeat (first | apply Kd.V_alloc | apply Kd.V_drewN | apply Kd.V_drew)); exact HO0.out⟩, ⟨by repeat (first | (with_reducible first | exact HB.out | apply below_alloc | apply pw_below_drewN | apply below_drew1) | exact HB.out)⟩⟩
   ·rw [if_neg c5] at H
    have c5b0 : ((l0.length : Int) == 0) = false := beq_eq_false_iff_ne.mpr c5
    have c5b1 : ((l0.length : Int) != 0) = true := bne_iff_ne.mpr c5
    have c5b2 : ¬ (l0 = []) := fun h_ => c5 (by rw [h_]; rfl)
    (first | rw [c5b0] | (simp only [i64_w, i32_w]; rw [c5b0]) | skip)
    obtain ⟨ji6, hji6⟩ : ∃ j_ : Int, (wrap64 ((l0.length : Int) - 1)) = j_ := ⟨_, rfl⟩
    replace H : (if 0 ≤ (ji6) then (if (ji6) < (l0.length : Int) then (sennitref13_opened.j0 k l0 (decide (((rdOf ByteArray.empty l0 (ji6)).size : Int) < 2))) else (none)) else (none)) = some (r1, r2) := by first | (rw [hji6] at H; exact H) | (simp only [hji6] at H ⊢; exact H)
    have hji6w : (IntKind.i64.wrap ((l0.length : Int) - 1)) = ji6 := (i64_w _).trans hji6
    by_cases c7 : 0 ≤ (ji6)
    ·rw [if_pos c7] at H
     have c7b0 : decide (0 ≤ (ji6)) = true := decide_eq_true c7
     clear c7
     by_cases c8 : (ji6) < (l0.length : Int)
     ·rw [if_pos c8] at H
      have c8b0 : decide ((ji6) < (l0.length : Int)) = true := decide_eq_true c8
      clear c8
      have H' := Aside0.mk H
      clear H
      have p127 : 0 ≤ ((ji6) : Int) := of_decide_eq_true (by first | (with_reducible assumption) | assumption)
      have q127 : (ji6) < (l0.length : Int) := of_decide_eq_true (by first | (with_reducible assumption) | assumption)
      obtain ⟨ad127, e127, hx127_0⟩ := Kd.at_string (Kd.V_reads' HO0.out).2.2 (ji6) p127 q127
      cases e127
      replace p127 := eq_true p127
      replace q127 := eq_true q127
      go_wp2
      go_meet
      case rel => exact ⟨_, (decide (((rdOf ByteArray.empty l0 (ji6)).size : Int) < 2)), (by first | rfl | (simp; done) | (simp only [← hji6] <;> (first | rfl | simp)) | (simp [*]; done)), H', ⟨by first | omega | exact Nat.le_refl _⟩, ⟨by (with_reducible repeat (first | apply Kd.V_alloc | apply Kd.V_drewN | apply Kd.V_drew)); exact HO0.out⟩, ⟨by repeat (first | (with_reducible first | exact HB.out | apply below_alloc | apply pw_below_drewN | apply below_drew1) | exact HB.out)⟩⟩
     ·rw [if_neg c8] at H
      exact absurd H (by simp)
    ·rw [if_neg c7] at H
     exact absurd H (by simp)
  case rest =>
   clear HC4
   try clear p1
   try clear q1
   try clear hx1
   try clear p2
   try clear c3
   try clear c3b0
   try clear c4
   try clear c5
   try clear c5b0
   try clear c5b1
   try clear c5b2
   try clear p6
   try clear c7
   try clear c7b0
   try clear c8
   try clear c8b0
   try clear hx127_0
   try clear p127
   try clear q127
   obtain ⟨kq, x23_3, rfl, HA, HJ3, HO_0, HB⟩ := hcut
   cases kq with
   | zero => exact absurd HA.out (by simp [sennitref13_opened.j0])
   | succ kj3 =>
    have H := HA.out
    clear HA
    simp only [sennitref13_opened.j0] at H
    by_cases c9 : x23_3 = true
    ·subst c9
     have H1 : (some (([] : List ByteArray), false)) = some (r1, r2) := by rw [if_pos rfl] at H; exact H
     clear H
     have H := H1
     clear H1
     simp only [Option.some.injEq, Prod.mk.injEq] at H
     obtain ⟨rfl, rfl⟩ := H
     go_wp2
     go_ret2
     exact ⟨.slice none 0 0, by first | rfl | (simp [errW_none, errW_some] <;> rfl) | (simp [*, errW_none, errW_some] <;> rfl), Kd.V_nil _ _ _ _ _, by repeat (first | (with_reducible first | exact HB.out | apply below_alloc | apply pw_below_drewN | apply below_drew1) | exact HB.out)⟩
    ·replace c9 := Bool.eq_false_iff.mpr c9
     subst c9
     have H1 : ((some (([] : List ByteArray) : List ByteArray)).bind fun y128 => (if y128.length + l0.length < 8796093022208 then ((some (y128 ++ l0 : List ByteArray)).bind fun y131 => (if 0 ≤ (wrap64 ((y131.length : Int) - 1)) then (if (wrap64 ((y131.length : Int) - 1)) < (y131.length : Int) then (if 0 ≤ (wrap64 (((rdOf ByteArray.empty y131 (wrap64 ((y131.length : Int) - 1))).size : Int) - 1)) then (if (wrap64 (((rdOf ByteArray.empty y131 (wrap64 ((y131.length : Int) - 1))).size : Int) - 1)) ≤ ((rdOf ByteArray.empty y131 (wrap64 ((y131.length : Int) - 1))).size : Int) then (some ((y131.set ((wrap64 ((y131.length : Int) - 1)) : Int).toNat ((rdOf ByteArray.empty y131 (wrap64 ((y131.length : Int) - 1))).extract 0 ((wrap64 (((rdOf ByteArray.empty y131 (wrap64 ((y131.length : Int) - 1))).size : Int) - 1)) : Int).toNat)), true)) else (none)) else (none)) else (none)) else (none))) else (none))) = some (r1, r2) := by rw [if_neg (show ¬ (false = true) by decide)] at H; exact H
     clear H
     have H := H1
     clear H1
     obtain ⟨y128, hy128⟩ : ∃ y_ : List ByteArray, y_ = (([] : List ByteArray)) := ⟨_, rfl⟩
     replace H : (if y128.length + l0.length < 8796093022208 then ((some (y128 ++ l0 : List ByteArray)).bind fun y131 => (if 0 ≤ (wrap64 ((y131.length : Int) - 1)) then (if (wrap64 ((y131.length : Int) - 1)) < (y131.length : Int) then (if 0 ≤ (wrap64 (((rdOf ByteArray.empty y131 (wrap64 ((y131.length : Int) - 1))).size : Int) - 1)) then (if (wrap64 (((rdOf ByteArray.empty y131 (wrap64 ((y131.length : Int) - 1))).size : Int) - 1)) ≤ ((rdOf ByteArray.empty y131 (wrap64 ((y131.length : Int) - 1))).size : Int) then (some ((y131.set ((wrap64 ((y131.length : Int) - 1)) : Int).toNat ((rdOf ByteArray.empty y131 (wrap64 ((y131.length : Int) - 1))).extract 0 ((wrap64 (((rdOf ByteArray.empty y131 (wrap64 ((y131.length : Int) - 1))).size : Int) - 1)) : Int).toNat)), true)) else (none)) else (none)) else (none)) else (none))) else (none)) = some (r1, r2) := by first | (rw [hy128]; with_reducible exact H) | (have H2_ := (Option.bind_some _ _).symm.trans H; rw [hy128]; with_reducible exact H2_) | (have H2_ := (Option.bind_some _ _).symm.trans H; with_reducible exact H2_) | with_reducible exact H | (rw [hy128]; exact H) | exact H
     have Ny128 := Aside0.mk hy128
     clear hy128
     by_cases c10 : y128.length + l0.length < 8796093022208
     ·rw [if_pos c10] at H
      have LMc10 := Aside0.mk c10
      clear c10
      obtain ⟨y131, hy131⟩ : ∃ y_ : List ByteArray, y_ = (y128 ++ l0) := ⟨_, rfl⟩
      replace H : (if 0 ≤ (wrap64 ((y131.length : Int) - 1)) then (if (wrap64 ((y131.length : Int) - 1)) < (y131.length : Int) then (if 0 ≤ (wrap64 (((rdOf ByteArray.empty y131 (wrap64 ((y131.length : Int) - 1))).size : Int) - 1)) then (if (wrap64 (((rdOf ByteArray.empty y131 (wrap64 ((y131.length : Int) - 1))).size : Int) - 1)) ≤ ((rdOf ByteArray.empty y131 (wrap64 ((y131.length : Int) - 1))).size : Int) then (some ((y131.set ((wrap64 ((y131.length : Int) - 1)) : Int).toNat ((rdOf ByteArray.empty y131 (wrap64 ((y131.length : Int) - 1))).extract 0 ((wrap64 (((rdOf ByteArray.empty y131 (wrap64 ((y131.length : Int) - 1))).size : Int) - 1)) : Int).toNat)), true)) else (none)) else (none)) else (none)) else (none)) = some (r1, r2) := by first | (rw [hy131]; with_reducible exact H) | (have H2_ := (Option.bind_some _ _).symm.trans H; rw [hy131]; with_reducible exact H2_) | (have H2_ := (Option.bind_some _ _).symm.trans H; with_reducible exact H2_) | with_reducible exact H | (rw [hy131]; exact H) | exact H
      have Ny131 := Aside0.mk hy131
      clear hy131
      obtain ⟨ji11, hji11⟩ : ∃ j_ : Int, (wrap64 ((y131.length : Int) - 1)) = j_ := ⟨_, rfl⟩
      replace H : (if 0 ≤ (ji11) then (if (ji11) < (y131.length : Int) then (if 0 ≤ (wrap64 (((rdOf ByteArray.empty y131 (ji11)).size : Int) - 1)) then (if (wrap64 (((rdOf ByteArray.empty y131 (ji11)).size : Int) - 1)) ≤ ((rdOf ByteArray.empty y131 (ji11)).size : Int) then (some ((y131.set ((ji11) : Int).toNat ((rdOf ByteArray.empty y131 (ji11)).extract 0 ((wrap64 (((rdOf ByteArray.empty y131 (ji11)).size : Int) - 1)) : Int).toNat)), true)) else (none)) else (none)) else (none)) else (none)) = some (r1, r2) := by first | (rw [hji11] at H; exact H) | (simp only [hji11] at H ⊢; exact H)
      have hji11w : (IntKind.i64.wrap ((y131.length : Int) - 1)) = ji11 := (i64_w _).trans hji11
      by_cases c12 : 0 ≤ (ji11)
      ·rw [if_pos c12] at H
       have c12b0 : decide (0 ≤ (ji11)) = true := decide_eq_true c12
       clear c12
       by_cases c13 : (ji11) < (y131.length : Int)
       ·rw [if_pos c13] at H
        have c13b0 : decide ((ji11) < (y131.length : Int)) = true := decide_eq_true c13
        clear c13
        obtain ⟨ji14, hji14⟩ : ∃ j_ : Int, (wrap64 (((rdOf ByteArray.empty y131 (ji11)).size : Int) - 1)) = j_ := ⟨_, rfl⟩
        replace H : (if 0 ≤ (ji14) then (if (ji14) ≤ ((rdOf ByteArray.empty y131 (ji11)).size : Int) then (some ((y131.set ((ji11) : Int).toNat ((rdOf ByteArray.empty y131 (ji11)).extract 0 ((ji14) : Int).toNat)), true)) else (none)) else (none)) = some (r1, r2) := by first | (rw [hji14] at H; exact H) | (simp only [hji14] at H ⊢; exact H)
        have hji14w : (IntKind.i64.wrap (((rdOf ByteArray.empty y131 (ji11)).size : Int) - 1)) = ji14 := (i64_w _).trans hji14
        by_cases c15 : 0 ≤ (ji14)
        ·rw [if_pos c15] at H
         have c15b0 := eq_true c15
         have c15b1 : decide (0 ≤ (ji14)) = true := decide_eq_true c15
         clear c15
         by_cases c16 : (ji14) ≤ ((rdOf ByteArray.empty y131 (ji11)).size : Int)
         ·rw [if_pos c16] at H
          have c16b0 := eq_true c16
          have c16b1 : decide ((ji14) ≤ ((rdOf ByteArray.empty y131 (ji11)).size : Int)) = true := decide_eq_true c16
          clear c16
          obtain ⟨y135, hy135⟩ : ∃ y_ : List ByteArray, y_ = (y131.set ((ji11) : Int).toNat ((rdOf ByteArray.empty y131 (ji11)).extract 0 ((ji14) : Int).toNat)) := ⟨_, rfl⟩
          replace H : (some (y135, true)) = some (r1, r2) := by first | (rw [hy135]; with_reducible exact H) | (have H2_ := (Option.bind_some _ _).symm.trans H; rw [hy135]; with_reducible exact H2_) | (have H2_ := (Option.bind_some _ _).symm.trans H; with_reducible exact H2_) | with_reducible exact H | (rw [hy135]; exact H) | exact H
          have Ny135 := Aside0.mk hy135
          clear hy135
          simp only [Option.some.injEq, Prod.mk.injEq] at H
          obtain ⟨rfl, rfl⟩ := H
          go_wp2_with (first | ((with_reducible refine gate_dst (N := 24) rfl ?_); (try (refine gate_guard (by rfl) ?_; dsimp only)); refine Kd.R_lit Kd.string _ 9 ?hg (N := 24) ?hd (xs := ([] : List ByteArray)) (inner := []) (ok := fun _ => True) (okp := fun _ => True) ?hr ?hp (fun _ hk => hk) trivial (Below.refl _ _) (Nat.le_refl _) (by simp) ?_; (case hd => rfl); (case hg => rfl); (case hr => first | (go_simp; done) | (go_simp; rfl)); (case hp => exact (Reps.none _ _)); intro v129 w18 ho19 hb hg_ hnew_; clear hg_ hnew_; (first | rw [← Ny128.out] at ho19 | (simp only [Int.reduceToNat] at ho19; rw [← Ny128.out] at ho19)); have n0_ := Aside0.mk (Kd.V_elder' (by (with_reducible repeat (first | apply Kd.V_alloc | apply Kd.V_drewN | apply Kd.V_drew)); exact HO_0.out) (Kd.R_base ho19) hb); have n1_ := Aside0.mk (Kd.R_lower (Kd.R_newM (M := fun k_ => (w.heap.size ≤ k_)) ho19 (below_size (by repeat (first | (with_reducible first | exact HB.out | apply below_alloc | apply pw_below_drewN | apply below_drew1) | exact HB.out))) (fun k_ h_ => h_)) (below_size (by repeat (first | (with_reducible first | exact HB.out | apply below_alloc | apply pw_below_drewN | apply below_drew1) | exact HB.out)))); have n2_ := Aside0.mk (below_step (by repeat (first | (with_reducible first | exact HB.out | apply below_alloc | apply pw_below_drewN | apply below_drew1) | exact HB.out)) hb); clear HO_0; clear HB; have HO_0 := n0_; have HO130 := n1_; have HB := n2_; clear n0_ n1_ n2_; clear hb ho19) | ((with_reducible refine gate_builtin (b := .append) (xs := #[.tmp 24, .tmp 25]) rfl ?_); (try (refine gate_guard (by rfl) ?_; dsimp only)); at_builtin; refine Kd.R_append_rows Kd.string (w0 := w) w.heap.size rfl (.tmp 24) (.tmp 25) 22 9 (.string ⟨#[]⟩) 16 rfl Tryd.underlying22 info9 rfl (by decide) (by omega) v129 y128 l0 _ _ _ (fun k_ => (w.heap.size ≤ k_)) (fun _ => False) rfl rfl ?aO ?aR (fun _ _ h => h) (fun _ h => h.elim) ?aF ?aB ?aS ?aL ?_; (case aR => repeat (first | exact (Kd.V_reads' HO_0.out).2.2 | (with_reducible refine Kd.C_alloc ?_ _) | (with_reducible refine Kd.C_drewN ?_ _) | (with_reducible refine Kd.C_drew ?_))); (case aB => exact (by repeat (first | (with_reducible first | exact HB.out | apply below_alloc | apply pw_below_drewN | apply below_drew1) | exact HB.out))); (case aF => exact (fun k_ hk => (Nat.le_trans (below_size (by repeat (first | (with_reducible first | exact HB.out | apply below_alloc | apply pw_below_drewN | apply below_drew1) | exact HB.out))) hk))); (case aO => exact (by (with_reducible repeat (first | apply Kd.R_alloc | apply Kd.R_drewN | apply Kd.R_drew)); exact Kd.R_mono HO130.out (fun _ hk => hk.1))); (case aS => exact (below_size (by repeat (first | (with_reducible first | exact HB.out | apply below_alloc | apply pw_below_drewN | apply below_drew1) | exact HB.out)))); (case aL => have := LMc10.out; omega); intro v132 w20 ho hb hg hat; rw [← Ny131.out] at ho; have n0_ := Aside0.mk (Kd.V_afterv (ok := (fun k_ => (P0_ k_ ∨ w.heap.size ≤ k_))) (by (with_reducible repeat (first | apply Kd.V_alloc | apply Kd.V_drewN | apply Kd.V_drew)); exact HO_0.out) hg hat); have n1_ := Aside0.mk (hb); have n2_ := Aside0.mk (ho); clear HO_0; clear HB; clear HO130; have HO_0 := n0_; have HB := n1_; have HO133 := n2_; clear n0_ n1_ n2_; clear ho hb hg hat; obtain ⟨Ao21, co21, eo21⟩ := Kd.R_slice HO133.out; subst eo21; have p134 : 0 ≤ ((ji11) : Int) := of_decide_eq_true (by first | (with_reducible assumption) | assumption); have q134 : (ji11) < (y131.length : Int) := of_decide_eq_true (by first | (with_reducible assumption) | assumption); obtain ⟨ad134, e134, hx134_0⟩ := Kd.at_string (Kd.R_reads' HO133.out).2.2 (ji11) p134 q134; cases e134; replace p134 := eq_true p134; replace q134 := eq_true q134; have p17 : 0 ≤ ((ji11) : Int) := of_decide_eq_true (by first | (with_reducible assumption) | assumption); have q17 : ((ji11) : Int) < ((y131.length : Int) : Int) := of_decide_eq_true (by first | (with_reducible assumption) | assumption); obtain ⟨go17, co17, eo17, gb17, gl17, cl17, HG17⟩ := Kd.R_form HO133.out (by omega); (first | cases eo17 | (injection eo17 with ea_ en_ ec_; (first | subst ea_ | (injection ea_ with ea_; subst ea_)); subst ec_; clear en_)); have GB17 := Aside0.mk gb17; have GG17 := Aside0.mk HG17; clear gb17 gl17 HG17; (first | simp only [add_plain] at hx134_0 | skip); obtain ⟨hx17_0, hf17_0⟩ := Kd.R_celln (⟨#[]⟩ : ByteArray) HO133.out ((ji11) : Int) p17 q17; replace p17 := eq_true p17; replace q17 := eq_true q17; obtain ⟨hy22_, hz22_⟩ := Kd.R_celln (⟨#[]⟩ : ByteArray) HO133.out ((ji11) : Int) (of_decide_eq_true (by first | (with_reducible assumption) | assumption)) (of_decide_eq_true (by first | (with_reducible assumption) | assumption)); have HP22 := Kd.R_putg HO133.out ((ji11) : Int) ((rdOf ByteArray.empty y131 (ji11)).extract 0 ((ji14) : Int).toNat)) | ((with_reducible refine gate_store (t := 9) (p := 42) rfl ?_); refine store_event (t := 9) (p := 42) (v := ?vo_w23) (w1 := (w20.setCell ⟨go17, ((ji11) : Int).toNat, none⟩ (.string ((rdOf ByteArray.empty y131 (ji11)).extract 0 ((ji14) : Int).toNat)))) ?hg ?ho ?hn ?hr ?_; (case ho => rfl); (case hg => rfl); (case hn => rfl); (case hr => first | (go_simp; done) | (go_simp; rfl)); intro w23 hw; have hg : w20.grownBy w23 (some go17) := (by rw [hw]; exact HP22.2); have hp_ : Kd.R Kd.string 9 w23 w.heap.size (fun k_ => (w.heap.size ≤ k_)) (.slice (some ⟨go17, 0, none⟩) y131.length co21) y135 := (by rw [hw, Ny135.out]; exact HP22.1); clear HP22; have n0_ := Aside0.mk (Kd.V_afterv (v := (.slice (some ⟨go17, 0, none⟩) y131.length co21)) (v1 := (.slice (some ⟨go17, 0, none⟩) y131.length co21)) (ok := (fun k_ => (P0_ k_ ∨ w.heap.size ≤ k_))) (by (with_reducible repeat (first | apply Kd.V_alloc | apply Kd.V_drewN | apply Kd.V_drew)); exact HO_0.out) hg (.inl rfl)); have n1_ := Aside0.mk (hp_); have n2_ := Aside0.mk ((by rw [hw]; exact below_set (HB.out) GB17.out : Below w.heap.size w w23)); clear HO_0; clear HO133; clear HB; have HO_0 := n0_; have HO133 := n1_; have HB := n2_; clear n0_ n1_ n2_; clear hg hw hp_))
          go_ret2
          exact ⟨_, by first | rfl | (simp [errW_none, errW_some] <;> rfl) | (simp only [← hji11, ← hji14]; first | rfl | (simp [errW_none, errW_some] <;> rfl)) | (simp [*, errW_none, errW_some] <;> rfl), Kd.V_mono (Kd.R_V (by (with_reducible repeat (first | apply Kd.R_alloc | apply Kd.R_drewN | apply Kd.R_drew)); exact HO133.out)) (fun k_ hk => by first | exact ⟨(.inr (hk.1)), hk.2⟩ | exact (.inr (hk))), by repeat (first | (with_reducible first | exact HB.out | apply below_alloc | apply pw_below_drewN | apply below_drew1) | exact HB.out)⟩
         ·rw [if_neg c16] at H
          exact absurd H (by simp)
        ·rw [if_neg c15] at H
         exact absurd H (by simp)
       ·rw [if_neg c13] at H
        exact absurd H (by simp)
      ·rw [if_neg c12] at H
       exact absurd H (by simp)
     ·rw [if_neg c10] at H
      exact absurd H (by simp)
end Go.Proofs.YtcnjbmdnnhbfkaaDoor.XQ
