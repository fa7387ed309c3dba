-- Printed by this session's xprint.sh (a patched copy of the kit's print program). Not trusted: Lean checks it.
import Derived.Test.YthdehnegfgkljaaXSize0
import Derived.Test.YthdehnegfgkljaaXSize1
import Derived.Test.YthdehnegfgkljaaXSize2
namespace Go.Proofs.Ythdehnegfgkljaa.XSize
open Go.RowKit Go.Proofs.Ythdehnegfgkljaa.Size Go.Proofs.YthdehnegfgkljaaW.PrintWords Go.Proofs.YthdehnegfgkljaaW.PrintLast Go.Proofs.YthdehnegfgkljaaW.PrintMore
attribute [local go_sem] max2_int min2_int max_two min_two max_three min_three max_four min_four   -- for this text's walks alone
set_option linter.unusedVariables false
set_option linter.unusedSimpArgs false

/-! ### sennitlaw11_SizeMarks: function 6 -/
mutual
def sennitlaw11_SizeMarks.j0 : Nat → List (List ByteArray) → ByteArray → Int → Bool → Bool → Option (Bool)
  | 0, _, _, _, _, _ => none
  | k + 1, x0, x1, x2, x7, x21 => if x21 = true then (some x7) else (sennitlaw11_SizeMarks.l0 k x0 x1 x7 (wrap64 (1 + (Int.tmod (wrap64 (x2)) 12))) 0)
def sennitlaw11_SizeMarks.l0 : Nat → List (List ByteArray) → ByteArray → Bool → Int → Int → Option (Bool)
  | 0, _, _, _, _, _ => none
  | k + 1, x0, x1, x7, x8, x9 => if x9 < (x0.length : Int) then (sennitlaw11_SizeMarks.l1 k x0 x1 x7 x8 x9 0) else (if 0 ≤ x8 then (if x8 ≤ 12 then (if x7 = true then (if ((⟨#[61, 61, 61, 61, 61, 61, 61, 61, 61, 61, 61, 61]⟩ : ByteArray).extract 0 (x8 : Int).toNat).size + x1.size ≤ 9223372036854775807 then ((size_Run.f (((⟨#[61, 61, 61, 61, 61, 61, 61, 61, 61, 61, 61, 61]⟩ : ByteArray).extract 0 (x8 : Int).toNat) ++ x1)).bind fun t162 => (if t162 ≥ x8 then ((some (([] : List (List ByteArray)) : List (List ByteArray))).bind fun y163 => (if y163.length + x0.length < 5864062014805 then ((some (y163 ++ x0 : List (List ByteArray))).bind fun y166 => (if y166.length < 5864062014805 then ((size_Fits.f k x8 (y166 ++ [(([((⟨#[61, 61, 61, 61, 61, 61, 61, 61, 61, 61, 61, 61]⟩ : ByteArray).extract 0 (x8 : Int).toNat) ++ x1] : List ByteArray))])).bind fun t175 => (some (!t175))) else (none))) else (none))) else (some false))) else (none)) else (some false)) else (none)) else (none))
def sennitlaw11_SizeMarks.l1 : Nat → List (List ByteArray) → ByteArray → Bool → Int → Int → Int → Option (Bool)
  | 0, _, _, _, _, _, _ => none
  | k + 1, x0, x1, x7, x8, x9, x10 => if 0 ≤ x9 then (if x9 < (x0.length : Int) then (if x10 < ((rd_L2 x0 x9).length : Int) then (if 0 ≤ x10 then ((size_Fits.f k x8 x0).bind fun t179 => (if t179 = true then (if ((rdOf ByteArray.empty (rd_L2 x0 x9) x10).size : Int) ≥ x8 then (if 0 ≤ x8 then (if x8 ≤ ((rdOf ByteArray.empty (rd_L2 x0 x9) x10).size : Int) then ((size_Run.f ((rdOf ByteArray.empty (rd_L2 x0 x9) x10).extract 0 (x8 : Int).toNat)).bind fun t180 => (if t180 = x8 then (some false) else (sennitlaw11_SizeMarks.l1 k x0 x1 x7 x8 x9 (wrap64 (x10 + 1))))) else (none)) else (none)) else (sennitlaw11_SizeMarks.l1 k x0 x1 x7 x8 x9 (wrap64 (x10 + 1)))) else (sennitlaw11_SizeMarks.l1 k x0 x1 x7 x8 x9 (wrap64 (x10 + 1))))) else (none)) else (sennitlaw11_SizeMarks.l0 k x0 x1 x7 x8 (wrap64 (x9 + 1)))) else (none)) else (none)
end
def sennitlaw11_SizeMarks.f (k : Nat) (l0 : List (List ByteArray)) (a1 : ByteArray) (a2 : Int) : Option (Bool) := (sennitlaw11_awake.f k).bind fun t160 => ((sennitref06_Few.f k ([] : List ByteArray) l0).bind fun t161 => (if t161 = true then (sennitlaw11_SizeMarks.j0 k l0 a1 a2 t160 (decide ((a1.size : Int) > 100))) else (sennitlaw11_SizeMarks.j0 k l0 a1 a2 t160 true)))
theorem sennitlaw11_SizeMarks.mono_l : ∀ k, (∀ y0 y1 y2 y3 y4, LeO (sennitlaw11_SizeMarks.j0 k y0 y1 y2 y3 y4) (sennitlaw11_SizeMarks.j0 (k + 1) y0 y1 y2 y3 y4)) ∧ (∀ y0 y1 y2 y3 y4, LeO (sennitlaw11_SizeMarks.l0 k y0 y1 y2 y3 y4) (sennitlaw11_SizeMarks.l0 (k + 1) y0 y1 y2 y3 y4)) ∧ (∀ y0 y1 y2 y3 y4 y5, LeO (sennitlaw11_SizeMarks.l1 k y0 y1 y2 y3 y4 y5) (sennitlaw11_SizeMarks.l1 (k + 1) y0 y1 y2 y3 y4 y5))
  | 0 => ⟨fun _ _ _ _ _ r h => by simp [sennitlaw11_SizeMarks.j0] at h, fun _ _ _ _ _ r h => by simp [sennitlaw11_SizeMarks.l0] at h, fun _ _ _ _ _ _ r h => by simp [sennitlaw11_SizeMarks.l1] at h⟩
  | k + 1 => by
    obtain ⟨ih0, ih1, ih2⟩ := sennitlaw11_SizeMarks.mono_l k
    refine ⟨?_, ?_, ?_⟩
    · intro y0 y1 y2 y3 y4
      unfold sennitlaw11_SizeMarks.j0
      repeat' first
      | (with_reducible exact ih0 _ _ _ _ _)
      | (with_reducible exact ih1 _ _ _ _ _)
      | (with_reducible exact ih2 _ _ _ _ _ _)
      | (with_reducible exact sennitlaw11_awake.mono _)
      | (with_reducible exact sennitref06_Few.mono _ _ _)
      | (with_reducible exact size_Fits.mono _ _ _)
      | (with_reducible exact LeO.refl _)
      | (with_reducible exact LeO.none _)
      | (with_reducible refine LeO.ite ?_ ?_)
      | (with_reducible refine LeO.bind ?_ (fun _ => ?_))
      | exact ih0 _ _ _ _ _
      | exact ih1 _ _ _ _ _
      | exact ih2 _ _ _ _ _ _
      | exact sennitlaw11_awake.mono _
      | exact sennitref06_Few.mono _ _ _
      | exact size_Fits.mono _ _ _
      | exact LeO.none _
      | refine LeO.ite ?_ ?_
      | refine LeO.bind ?_ (fun _ => ?_)
    · intro y0 y1 y2 y3 y4
      unfold sennitlaw11_SizeMarks.l0
      repeat' first
      | (with_reducible exact ih0 _ _ _ _ _)
      | (with_reducible exact ih1 _ _ _ _ _)
      | (with_reducible exact ih2 _ _ _ _ _ _)
      | (with_reducible exact sennitlaw11_awake.mono _)
      | (with_reducible exact sennitref06_Few.mono _ _ _)
      | (with_reducible exact size_Fits.mono _ _ _)
      | (with_reducible exact LeO.refl _)
      | (with_reducible exact LeO.none _)
      | (with_reducible refine LeO.ite ?_ ?_)
      | (with_reducible refine LeO.bind ?_ (fun _ => ?_))
      | exact ih0 _ _ _ _ _
      | exact ih1 _ _ _ _ _
      | exact ih2 _ _ _ _ _ _
      | exact sennitlaw11_awake.mono _
      | exact sennitref06_Few.mono _ _ _
      | exact size_Fits.mono _ _ _
      | exact LeO.none _
      | refine LeO.ite ?_ ?_
      | refine LeO.bind ?_ (fun _ => ?_)
    · intro y0 y1 y2 y3 y4 y5
      unfold sennitlaw11_SizeMarks.l1
      repeat' first
      | (with_reducible exact ih0 _ _ _ _ _)
      | (with_reducible exact ih1 _ _ _ _ _)
      | (with_reducible exact ih2 _ _ _ _ _ _)
      | (with_reducible exact sennitlaw11_awake.mono _)
      | (with_reducible exact sennitref06_Few.mono _ _ _)
      | (with_reducible exact size_Fits.mono _ _ _)
      | (with_reducible exact LeO.refl _)
      | (with_reducible exact LeO.none _)
      | (with_reducible refine LeO.ite ?_ ?_)
      | (with_reducible refine LeO.bind ?_ (fun _ => ?_))
      | exact ih0 _ _ _ _ _
      | exact ih1 _ _ _ _ _
      | exact ih2 _ _ _ _ _ _
      | exact sennitlaw11_awake.mono _
      | exact sennitref06_Few.mono _ _ _
      | exact size_Fits.mono _ _ _
      | exact LeO.none _
      | refine LeO.ite ?_ ?_
      | refine LeO.bind ?_ (fun _ => ?_)
theorem sennitlaw11_SizeMarks.mono : ∀ a0 a1 a2 k, LeO (sennitlaw11_SizeMarks.f k a0 a1 a2) (sennitlaw11_SizeMarks.f (k + 1) a0 a1 a2) := by
  intro a0 a1 a2 k
  obtain ⟨ih0, ih1, ih2⟩ := sennitlaw11_SizeMarks.mono_l k
  unfold sennitlaw11_SizeMarks.f
  repeat' first
      | (with_reducible exact ih0 _ _ _ _ _)
      | (with_reducible exact ih1 _ _ _ _ _)
      | (with_reducible exact ih2 _ _ _ _ _ _)
      | (with_reducible exact sennitlaw11_awake.mono _)
      | (with_reducible exact sennitref06_Few.mono _ _ _)
      | (with_reducible exact size_Fits.mono _ _ _)
      | (with_reducible exact LeO.refl _)
      | (with_reducible exact LeO.none _)
      | (with_reducible refine LeO.ite ?_ ?_)
      | (with_reducible refine LeO.bind ?_ (fun _ => ?_))
      | exact ih0 _ _ _ _ _
      | exact ih1 _ _ _ _ _
      | exact ih2 _ _ _ _ _ _
      | exact sennitlaw11_awake.mono _
      | exact sennitref06_Few.mono _ _ _
      | exact size_Fits.mono _ _ _
      | exact LeO.none _
      | refine LeO.ite ?_ ?_
      | refine LeO.bind ?_ (fun _ => ?_)
set_option maxHeartbeats 8000000 in
set_option maxRecDepth 100000 in
theorem sennitlaw11_SizeMarks.calls (k : Nat) (P0_ : Nat → Prop) (A0 : Option Addr) (c0 : Nat) (l0 : List (List ByteArray)) (a1 : ByteArray) (a2 : Int) (r : Bool) (w : World) (hs0 : Kd.V (Kd.slice 9 Kd.string) 34 w w.heap.size (fun k_ => P0_ k_) (.slice A0 l0.length c0) l0) (h : sennitlaw11_SizeMarks.f k l0 a1 a2 = some r) :
    Calls Try.prog 6 #[.slice A0 l0.length c0, .string a1, .int .u8 a2] w fun e w' => e = .returned (.bool r) ∧ Below w.heap.size w w' := by
  have HO0 := Aside0.mk (show Kd.V (Kd.slice 9 Kd.string) 34 w w.heap.size (fun k_ => (P0_ k_ ∨ w.heap.size ≤ k_)) (.slice A0 l0.length c0) l0 from Kd.V_mono hs0 (fun k_ hk => .inl hk))
  have HB := Aside0.mk (Below.refl w.heap.size w)
  have H : ((sennitlaw11_awake.f k).bind fun t160 => ((sennitref06_Few.f k ([] : List ByteArray) l0).bind fun t161 => (if t161 = true then (sennitlaw11_SizeMarks.j0 k l0 a1 a2 t160 (decide ((a1.size : Int) > 100))) else (sennitlaw11_SizeMarks.j0 k l0 a1 a2 t160 true)))) = some r := h
  clear h
  replace H := Option.bind_eq_some_iff.mp H
  obtain ⟨t160, A40, H⟩ := H
  replace H : ((sennitref06_Few.f k ([] : List ByteArray) l0).bind fun t161 => (if t161 = true then (sennitlaw11_SizeMarks.j0 k l0 a1 a2 t160 (decide ((a1.size : Int) > 100))) else (sennitlaw11_SizeMarks.j0 k l0 a1 a2 t160 true))) = some r := H
  have A4 := Aside0.mk A40
  clear A40
  have HC5 := Aside0.mk H
  clear H
  go_enter Try.func6, Try.ntmps6
  go_upto_region 2 with (first | ((with_reducible refine gate_callee (f := 8) rfl ?_); refine goesL_ (some 13) rfl rfl Try.func8 (by kernel_rfl) rfl #[] rfl (by (try simp only [List.map_toArray, List.map_cons, List.map_nil]); first | done | rfl | (simp only [List.length_drop, List.length_take]; rfl)) ?_; (with_reducible refine (sennitlaw11_awake.calls k  t160 _ A4.out).mono ?_); rintro e w6 ⟨rfl, hb⟩; refine ⟨_, rfl, ?_⟩; have n0_ := Aside0.mk (Kd.V_below (by (with_reducible repeat (first | apply Kd.V_alloc | apply Kd.V_drewN | apply Kd.V_drew)); exact HO0.out) hb); have n1_ := Aside0.mk (below_step (by repeat (first | (with_reducible first | exact HB.out | apply below_alloc | apply pw_below_drewN | apply below_drew1) | exact HB.out)) hb); clear HO0; clear HB; have HO0 := n0_; have HB := n1_; clear n0_ n1_; (try clear hb); (try clear hb2); (try clear hk); (try clear hi)))
  (try simp only [Act.put, List.setIfInBounds_toArray, List.set_cons_zero, List.set_cons_succ])
  go_cut [21] (fun v21 wc => ∃ (kq : Nat) (x21_4 : Bool), v21 = .bool x21_4 ∧ Aside0 (sennitlaw11_SizeMarks.j0 kq l0 a1 a2 t160 x21_4 = some r) ∧ Aside0 (kq ≤ k) ∧ Aside0 (Kd.V (Kd.slice 9 Kd.string) 34 wc w.heap.size (fun k_ => (P0_ k_ ∨ w.heap.size ≤ k_)) (.slice A0 l0.length c0) l0) ∧ Aside0 (Below w.heap.size w wc))
  case first =>
    have H := HC5.out
    clear HC5
    replace H := Option.bind_eq_some_iff.mp H
    obtain ⟨t161, A70, H⟩ := H
    replace H : (if t161 = true then (sennitlaw11_SizeMarks.j0 k l0 a1 a2 t160 (decide ((a1.size : Int) > 100))) else (sennitlaw11_SizeMarks.j0 k l0 a1 a2 t160 true)) = some r := H
    have A7 := Aside0.mk A70
    clear A70
    by_cases c8 : t161 = true
    · subst c8
      have H1 : (sennitlaw11_SizeMarks.j0 k l0 a1 a2 t160 (decide ((a1.size : Int) > 100))) = some r := by rw [if_pos rfl] at H; exact H
      clear H
      have H := H1
      clear H1
      have H' := Aside0.mk H
      clear H
      go_wp2_with (first | ((with_reducible refine gate_callee (f := 11) rfl ?_); refine goesL_ (some 15) rfl rfl Try.func11 (by kernel_rfl) rfl #[.slice none 0 0, .slice A0 l0.length c0] rfl (by (try simp only [List.map_toArray, List.map_cons, List.map_nil]); first | done | rfl | (simp only [List.length_drop, List.length_take]; rfl)) ?_; (refine (sennitref06_Few.calls k _ _ ([] : List ByteArray) _ _ l0 true _ ?side1 ?side2 ?side3 ?side4 A7.out).mono ?_); (case side1 => exact Kd.C_nil _ _); (case side2 => exact Nat.le_refl _); (case side3 => repeat (first | exact (Kd.V_reads' HO0.out).2.2 | (with_reducible refine Kd.C_alloc ?_ _) | (with_reducible refine Kd.C_drewN ?_ _) | (with_reducible refine Kd.C_drew ?_))); (case side4 => exact (Kd.V_reads' HO0.out).2.1); rintro e w' ⟨rfl, ⟨nd, rfl⟩⟩; refine ⟨_, rfl, ?_⟩))
      go_meet
      case rel => exact ⟨_, (decide ((a1.size : Int) > 100)), (by first | rfl | (simp; done) | (simp [*]; done)), H', ⟨by first | omega | exact Nat.le_refl _⟩, ⟨by (with_reducible repeat (first | apply Kd.V_alloc | apply Kd.V_drewN | apply Kd.V_drew)); exact HO0.out⟩, ⟨by repeat (first | (with_reducible first | exact HB.out | apply below_alloc | apply pw_below_drewN | apply below_drew1) | exact HB.out)⟩⟩
    · replace c8 := Bool.eq_false_iff.mpr c8
      subst c8
      have H1 : (sennitlaw11_SizeMarks.j0 k l0 a1 a2 t160 true) = some r := by rw [if_neg (show ¬ (false = true) by decide)] at H; exact H
      clear H
      have H := H1
      clear H1
      have H' := Aside0.mk H
      clear H
      go_wp2_with (first | ((with_reducible refine gate_callee (f := 11) rfl ?_); refine goesL_ (some 15) rfl rfl Try.func11 (by kernel_rfl) rfl #[.slice none 0 0, .slice A0 l0.length c0] rfl (by (try simp only [List.map_toArray, List.map_cons, List.map_nil]); first | done | rfl | (simp only [List.length_drop, List.length_take]; rfl)) ?_; (refine (sennitref06_Few.calls k _ _ ([] : List ByteArray) _ _ l0 false _ ?side1 ?side2 ?side3 ?side4 A7.out).mono ?_); (case side1 => exact Kd.C_nil _ _); (case side2 => exact Nat.le_refl _); (case side3 => repeat (first | exact (Kd.V_reads' HO0.out).2.2 | (with_reducible refine Kd.C_alloc ?_ _) | (with_reducible refine Kd.C_drewN ?_ _) | (with_reducible refine Kd.C_drew ?_))); (case side4 => exact (Kd.V_reads' HO0.out).2.1); rintro e w' ⟨rfl, ⟨nd, rfl⟩⟩; refine ⟨_, rfl, ?_⟩))
      go_meet
      case rel => exact ⟨_, (true), (by first | rfl | (simp; done) | (simp [*]; done)), H', ⟨by first | omega | exact Nat.le_refl _⟩, ⟨by (with_reducible repeat (first | apply Kd.V_alloc | apply Kd.V_drewN | apply Kd.V_drew)); exact HO0.out⟩, ⟨by repeat (first | (with_reducible first | exact HB.out | apply below_alloc | apply pw_below_drewN | apply below_drew1) | exact HB.out)⟩⟩
  case rest =>
    clear HC5
    try clear c1
    try clear p2
    try clear c6
    try clear c8
    obtain ⟨kq, x21_4, rfl, HA, HJ4, HO_0, HB⟩ := hcut
    cases kq with
    | zero => exact absurd HA.out (by simp [sennitlaw11_SizeMarks.j0])
    | succ kj4 =>
      have H := HA.out
      clear HA
      simp only [sennitlaw11_SizeMarks.j0] at H
      by_cases c9 : x21_4 = true
      · subst c9
        have H1 : (some t160) = some r := by rw [if_pos rfl] at H; exact H
        clear H
        have H := H1
        clear H1
        obtain rfl := Option.some.inj H
        go_wp2
        go_ret
        exact ⟨by first | rfl | (simp [errW_none, errW_some] <;> rfl) | (simp [*, errW_none, errW_some] <;> rfl), by repeat (first | (with_reducible first | exact HB.out | apply below_alloc | apply pw_below_drewN | apply below_drew1) | exact HB.out)⟩
      · replace c9 := Bool.eq_false_iff.mpr c9
        subst c9
        have H1 : (sennitlaw11_SizeMarks.l0 kj4 l0 a1 t160 (wrap64 (1 + (Int.tmod (wrap64 (a2)) 12))) 0) = some r := by rw [if_neg (show ¬ (false = true) by decide)] at H; exact H
        clear H
        have H := H1
        clear H1
        have H' := Aside0.mk H
        clear H
        go_wp2
        go_loopg [9] kj4 (fun kq v9 w' => ∃ (x9_2 : Int), v9 = .int .i64 x9_2 ∧ Aside0 (sennitlaw11_SizeMarks.l0 kq l0 a1 t160 (wrap64 (1 + (Int.tmod (wrap64 (a2)) 12))) x9_2 = some r) ∧ Aside0 (kq ≤ kj4) ∧ Aside0 (Kd.V (Kd.slice 9 Kd.string) 34 w' w.heap.size (fun k_ => (P0_ k_ ∨ w.heap.size ≤ k_)) (.slice A0 l0.length c0) l0) ∧ Aside0 (Below w.heap.size w w'))
        case atStart => exact ⟨(0), (by first | rfl | (simp; done) | (simp [*]; done)), H', ⟨Nat.le_refl _⟩, ⟨by (with_reducible repeat (first | apply Kd.V_alloc | apply Kd.V_drewN | apply Kd.V_drew)); exact HO_0.out⟩, ⟨by repeat (first | (with_reducible first | exact HB.out | apply below_alloc | apply pw_below_drewN | apply below_drew1) | exact HB.out)⟩⟩
        case round =>
          clear H'
          try clear c1
          try clear p2
          try clear c6
          try clear p6
          try clear c8
          try clear c9
          try clear p2
          obtain ⟨x9_2, rfl, HA, HK2, HO_0, HB⟩ := hrel
          cases gk with
          | zero => exact absurd HA.out (by simp [sennitlaw11_SizeMarks.l0])
          | succ k2 =>
            have H := HA.out
            clear HA
            simp only [sennitlaw11_SizeMarks.l0] at H
            by_cases c10 : x9_2 < (l0.length : Int)
            · rw [if_pos c10] at H
              have c10b0 : decide (x9_2 < (l0.length : Int)) = true := decide_eq_true c10
              clear c10
              have H' := Aside0.mk H
              clear H
              go_wp2
              go_loopg [10] k2 (fun kq v10 w' => ∃ (x10_3 : Int), v10 = .int .i64 x10_3 ∧ Aside0 (sennitlaw11_SizeMarks.l1 kq l0 a1 t160 (wrap64 (1 + (Int.tmod (wrap64 (a2)) 12))) x9_2 x10_3 = some r) ∧ Aside0 (kq ≤ k2) ∧ Aside0 (Kd.V (Kd.slice 9 Kd.string) 34 w' w.heap.size (fun k_ => (P0_ k_ ∨ w.heap.size ≤ k_)) (.slice A0 l0.length c0) l0) ∧ Aside0 (Below w.heap.size w w'))
              case atStart => exact ⟨(0), (by first | rfl | (simp; done) | (simp [*]; done)), H', ⟨Nat.le_refl _⟩, ⟨by (with_reducible repeat (first | apply Kd.V_alloc | apply Kd.V_drewN | apply Kd.V_drew)); exact HO_0.out⟩, ⟨by repeat (first | (with_reducible first | exact HB.out | apply below_alloc | apply pw_below_drewN | apply below_drew1) | exact HB.out)⟩⟩
              case round =>
                clear H'
                try clear c1
                try clear p2
                try clear c6
                try clear p6
                try clear c8
                try clear c9
                try clear c10
                try clear c10b0
                try clear p2
                try clear p6
                obtain ⟨x10_3, rfl, HA, HK3, HO_0, HB⟩ := hrel
                cases gk with
                | zero => exact absurd HA.out (by simp [sennitlaw11_SizeMarks.l1])
                | succ k3 =>
                  have H := HA.out
                  clear HA
                  simp only [sennitlaw11_SizeMarks.l1] at H
                  by_cases c11 : 0 ≤ x9_2
                  · rw [if_pos c11] at H
                    have c11b0 : decide (0 ≤ x9_2) = true := decide_eq_true c11
                    clear c11
                    by_cases c12 : x9_2 < (l0.length : Int)
                    · rw [if_pos c12] at H
                      have c12b0 : decide (x9_2 < (l0.length : Int)) = true := decide_eq_true c12
                      clear c12
                      by_cases c13 : x10_3 < ((rd_L2 l0 x9_2).length : Int)
                      · rw [if_pos c13] at H
                        have c13b0 : decide (x10_3 < ((rd_L2 l0 x9_2).length : Int)) = true := decide_eq_true c13
                        clear c13
                        by_cases c14 : 0 ≤ x10_3
                        · rw [if_pos c14] at H
                          have c14b0 : decide (0 ≤ x10_3) = true := decide_eq_true c14
                          clear c14
                          replace H := Option.bind_eq_some_iff.mp H
                          obtain ⟨t179, A150, H⟩ := H
                          replace H : (if t179 = true then (if ((rdOf ByteArray.empty (rd_L2 l0 x9_2) x10_3).size : Int) ≥ (wrap64 (1 + (Int.tmod (wrap64 (a2)) 12))) then (if 0 ≤ (wrap64 (1 + (Int.tmod (wrap64 (a2)) 12))) then (if (wrap64 (1 + (Int.tmod (wrap64 (a2)) 12))) ≤ ((rdOf ByteArray.empty (rd_L2 l0 x9_2) x10_3).size : Int) then ((size_Run.f ((rdOf ByteArray.empty (rd_L2 l0 x9_2) x10_3).extract 0 ((wrap64 (1 + (Int.tmod (wrap64 (a2)) 12))) : Int).toNat)).bind fun t180 => (if t180 = (wrap64 (1 + (Int.tmod (wrap64 (a2)) 12))) then (some false) else (sennitlaw11_SizeMarks.l1 k3 l0 a1 t160 (wrap64 (1 + (Int.tmod (wrap64 (a2)) 12))) x9_2 (wrap64 (x10_3 + 1))))) else (none)) else (none)) else (sennitlaw11_SizeMarks.l1 k3 l0 a1 t160 (wrap64 (1 + (Int.tmod (wrap64 (a2)) 12))) x9_2 (wrap64 (x10_3 + 1)))) else (sennitlaw11_SizeMarks.l1 k3 l0 a1 t160 (wrap64 (1 + (Int.tmod (wrap64 (a2)) 12))) x9_2 (wrap64 (x10_3 + 1)))) = some r := H
                          have A15 := Aside0.mk A150
                          clear A150
                          by_cases c16 : t179 = true
                          · subst c16
                            have H1 : (if ((rdOf ByteArray.empty (rd_L2 l0 x9_2) x10_3).size : Int) ≥ (wrap64 (1 + (Int.tmod (wrap64 (a2)) 12))) then (if 0 ≤ (wrap64 (1 + (Int.tmod (wrap64 (a2)) 12))) then (if (wrap64 (1 + (Int.tmod (wrap64 (a2)) 12))) ≤ ((rdOf ByteArray.empty (rd_L2 l0 x9_2) x10_3).size : Int) then ((size_Run.f ((rdOf ByteArray.empty (rd_L2 l0 x9_2) x10_3).extract 0 ((wrap64 (1 + (Int.tmod (wrap64 (a2)) 12))) : Int).toNat)).bind fun t180 => (if t180 = (wrap64 (1 + (Int.tmod (wrap64 (a2)) 12))) then (some false) else (sennitlaw11_SizeMarks.l1 k3 l0 a1 t160 (wrap64 (1 + (Int.tmod (wrap64 (a2)) 12))) x9_2 (wrap64 (x10_3 + 1))))) else (none)) else (none)) else (sennitlaw11_SizeMarks.l1 k3 l0 a1 t160 (wrap64 (1 + (Int.tmod (wrap64 (a2)) 12))) x9_2 (wrap64 (x10_3 + 1)))) = some r := by rw [if_pos rfl] at H; exact H
                            clear H
                            have H := H1
                            clear H1
                            by_cases c17 : ((rdOf ByteArray.empty (rd_L2 l0 x9_2) x10_3).size : Int) ≥ (wrap64 (1 + (Int.tmod (wrap64 (a2)) 12)))
                            · rw [if_pos c17] at H
                              have c17b0 : decide ((wrap64 (1 + (Int.tmod (wrap64 (a2)) 12))) ≤ ((rdOf ByteArray.empty (rd_L2 l0 x9_2) x10_3).size : Int)) = true := decide_eq_true c17
                              clear c17
                              obtain ⟨ji18, hji18⟩ : ∃ j_ : Int, (wrap64 (1 + (Int.tmod (wrap64 (a2)) 12))) = j_ := ⟨_, rfl⟩
                              replace H : (if 0 ≤ (ji18) then (if (ji18) ≤ ((rdOf ByteArray.empty (rd_L2 l0 x9_2) x10_3).size : Int) then ((size_Run.f ((rdOf ByteArray.empty (rd_L2 l0 x9_2) x10_3).extract 0 ((ji18) : Int).toNat)).bind fun t180 => (if t180 = (ji18) then (some false) else (sennitlaw11_SizeMarks.l1 k3 l0 a1 t160 (ji18) x9_2 (wrap64 (x10_3 + 1))))) else (none)) else (none)) = some r := by first | (rw [hji18] at H; exact H) | (simp only [hji18] at H ⊢; exact H)
                              (try rw [hji18] at c17b0)
                              (try rw [hji18] at A15)
                              have hji18w : (IntKind.i64.wrap (1 + (Int.tmod (wrap64 (a2)) 12))) = ji18 := (i64_w _).trans hji18
                              by_cases c19 : 0 ≤ (ji18)
                              · rw [if_pos c19] at H
                                have c19b0 := eq_true c19
                                have c19b1 : decide (0 ≤ (ji18)) = true := decide_eq_true c19
                                clear c19
                                by_cases c20 : (ji18) ≤ ((rdOf ByteArray.empty (rd_L2 l0 x9_2) x10_3).size : Int)
                                · rw [if_pos c20] at H
                                  have c20b0 := eq_true c20
                                  have c20b1 : decide ((ji18) ≤ ((rdOf ByteArray.empty (rd_L2 l0 x9_2) x10_3).size : Int)) = true := decide_eq_true c20
                                  clear c20
                                  replace H := Option.bind_eq_some_iff.mp H
                                  obtain ⟨t180, A210, H⟩ := H
                                  replace H : (if t180 = (ji18) then (some false) else (sennitlaw11_SizeMarks.l1 k3 l0 a1 t160 (ji18) x9_2 (wrap64 (x10_3 + 1)))) = some r := H
                                  have A21 := Aside0.mk A210
                                  clear A210
                                  by_cases c22 : t180 = (ji18)
                                  · rw [if_pos c22] at H
                                    have c22b0 : (t180 == (ji18)) = true := beq_iff_eq.mpr c22
                                    have c22b1 : (t180 != (ji18)) = false := bne_eq_false_iff_eq.mpr c22
                                    clear c22
                                    obtain rfl := Option.some.inj H
                                    have p176 : 0 ≤ (x9_2 : Int) := of_decide_eq_true (by first | (with_reducible assumption) | assumption)
                                    have q176 : x9_2 < (l0.length : Int) := of_decide_eq_true (by first | (with_reducible assumption) | assumption)
                                    obtain ⟨ad176, A176_0, c176_0, e176, hx176_0, hl176_0, hi176_0⟩ := at_L2 (Kd.V_reads' HO_0.out).2.2 x9_2 p176 q176
                                    cases e176
                                    obtain ⟨ce176, hce176, hMe176, hcc176⟩ := Kd.V_get HO_0.out [] x9_2 p176 (by first | exact q176 | exact of_decide_eq_true (by first | (with_reducible assumption) | assumption) | (have e_ := (Kd.V_reads' HO_0.out).1; omega))
                                    obtain ⟨ua176_0, uc176_0, rfl, ul176_0, ge176_0⟩ := Kd.FK_slice_open hMe176
                                    have hv176_0 := hcc176 0 _ rfl
                                    rw [Nat.add_zero, show ((Kd.slice 9 Kd.string)).sz = 1 from rfl, Nat.mul_one] at hv176_0
                                    replace hv176_0 := Option.some.inj (hv176_0.symm.trans hx176_0)
                                    injection hv176_0 with hva_ hvn_ hvc_
                                    rw [hva_] at ge176_0
                                    rw [hvc_] at ul176_0
                                    have HL176_0 := Aside0.mk (show Kd.V Kd.string 9 _ w.heap.size _ _ (rd_L2 l0 x9_2) from Kd.V_mk ul176_0 ge176_0)
                                    clear hva_ hvn_ hvc_ ge176_0 ul176_0
                                    clear hcc176 hce176
                                    have HR176_0 := Aside0.mk hi176_0
                                    have HC176_0 := Aside0.mk hl176_0
                                    clear hi176_0 hl176_0
                                    replace p176 := eq_true p176
                                    replace q176 := eq_true q176
                                    have p177 : 0 ≤ (x9_2 : Int) := of_decide_eq_true (by first | (with_reducible assumption) | assumption)
                                    have q177 : x9_2 < (l0.length : Int) := of_decide_eq_true (by first | (with_reducible assumption) | assumption)
                                    obtain ⟨ad177, A177_0, c177_0, e177, hx177_0, hl177_0, hi177_0⟩ := at_L2 (Kd.V_reads' HO_0.out).2.2 x9_2 p177 q177
                                    obtain rfl : ad176 = ad177 := (by injection e177)
                                    obtain ⟨ce177, hce177, hMe177, hcc177⟩ := Kd.V_get HO_0.out [] x9_2 p177 (by first | exact q177 | exact of_decide_eq_true (by first | (with_reducible assumption) | assumption) | (have e_ := (Kd.V_reads' HO_0.out).1; omega))
                                    obtain ⟨ua177_0, uc177_0, rfl, ul177_0, ge177_0⟩ := Kd.FK_slice_open hMe177
                                    have hv177_0 := hcc177 0 _ rfl
                                    rw [Nat.add_zero, show ((Kd.slice 9 Kd.string)).sz = 1 from rfl, Nat.mul_one] at hv177_0
                                    replace hv177_0 := Option.some.inj (hv177_0.symm.trans hx177_0)
                                    injection hv177_0 with hva_ hvn_ hvc_
                                    rw [hva_] at ge177_0
                                    rw [hvc_] at ul177_0
                                    have HL177_0 := Aside0.mk (show Kd.V Kd.string 9 _ w.heap.size _ _ (rd_L2 l0 x9_2) from Kd.V_mk ul177_0 ge177_0)
                                    clear hva_ hvn_ hvc_ ge177_0 ul177_0
                                    clear hcc177 hce177
                                    have HR177_0 := Aside0.mk hi177_0
                                    have HC177_0 := Aside0.mk hl177_0
                                    clear hi177_0 hl177_0
                                    replace p177 := eq_true p177
                                    replace q177 := eq_true q177
                                    have ea_ := Option.some.inj (hx176_0.symm.trans hx177_0)
                                    injection ea_ with ea_ en_ ec_
                                    subst ea_
                                    subst ec_
                                    clear en_
                                    have p178 : 0 ≤ (x10_3 : Int) := of_decide_eq_true (by first | (with_reducible assumption) | assumption)
                                    have q178 : x10_3 < ((rd_L2 l0 x9_2).length : Int) := of_decide_eq_true (by first | (with_reducible assumption) | assumption)
                                    obtain ⟨ad178, e178, hx178_0⟩ := Kd.at_string (by repeat (first | (with_reducible exact HR177_0.out) | (with_reducible refine Kd.C_alloc ?_ _) | (with_reducible refine Kd.C_drewN ?_ _) | (with_reducible refine Kd.C_drew ?_) | exact HR177_0.out)) x10_3 p178 q178
                                    cases e178
                                    replace p178 := eq_true p178
                                    replace q178 := eq_true q178
                                    go_wp2_with (first | ((with_reducible refine gate_callee (f := 14) rfl ?_); refine goesL_ (some 51) rfl rfl Try.func14 (by kernel_rfl) rfl #[.int .i64 (ji18), .slice (some ad176) l0.length c0] rfl (by (try simp only [List.map_toArray, List.map_cons, List.map_nil]); first | done | (simp only [hji18]; rfl) | rfl | (simp only [List.length_drop, List.length_take]; rfl)) ?_; (with_reducible refine (size_Fits.calls k3 (ji18) _ _ l0 true _ ?side1 ?side2 A15.out).mono ?_); (case side1 => repeat (first | exact (Kd.V_reads' HO_0.out).2.2 | (with_reducible refine Kd.C_alloc ?_ _) | (with_reducible refine Kd.C_drewN ?_ _) | (with_reducible refine Kd.C_drew ?_))); (case side2 => exact (Kd.V_reads' HO_0.out).2.1); rintro e w23 ⟨rfl, hb⟩; refine ⟨_, rfl, ?_⟩; have n0_ := Aside0.mk (Kd.V_below (by (with_reducible repeat (first | apply Kd.V_alloc | apply Kd.V_drewN | apply Kd.V_drew)); exact HO_0.out) hb); have n1_ := Aside0.mk (Kd.V_below (by (with_reducible repeat (first | apply Kd.V_alloc | apply Kd.V_drewN | apply Kd.V_drew)); exact HL176_0.out) hb); have n2_ := Aside0.mk (Kd.V_below (by (with_reducible repeat (first | apply Kd.V_alloc | apply Kd.V_drewN | apply Kd.V_drew)); exact HL177_0.out) hb); have n3_ := Aside0.mk (Kd.C_below (by repeat (first | (with_reducible exact HR176_0.out) | (with_reducible refine Kd.C_alloc ?_ _) | (with_reducible refine Kd.C_drewN ?_ _) | (with_reducible refine Kd.C_drew ?_) | exact HR176_0.out)) hb); have n4_ := Aside0.mk (Kd.C_below (by repeat (first | (with_reducible exact HR177_0.out) | (with_reducible refine Kd.C_alloc ?_ _) | (with_reducible refine Kd.C_drewN ?_ _) | (with_reducible refine Kd.C_drew ?_) | exact HR177_0.out)) hb); have n5_ := Aside0.mk (below_step (by repeat (first | (with_reducible first | exact HB.out | apply below_alloc | apply pw_below_drewN | apply below_drew1) | exact HB.out)) hb); clear HO_0; clear HL176_0; clear HL177_0; clear HR176_0; clear HR177_0; clear HB; have HO_0 := n0_; have HL176_0 := n1_; have HL177_0 := n2_; have HR176_0 := n3_; have HR177_0 := n4_; have HB := n5_; clear n0_ n1_ n2_ n3_ n4_ n5_; (try clear hb); (try clear hb2); (try clear hk); (try clear hi)) | (go_at_call 9; (with_reducible refine (size_Run.calls ((rdOf ByteArray.empty (rd_L2 l0 x9_2) x10_3).extract 0 ((ji18) : Int).toNat) t180 _ A21.out).mono ?_); rintro e w24 ⟨rfl, hb⟩; have n0_ := Aside0.mk (Kd.V_below (by (with_reducible repeat (first | apply Kd.V_alloc | apply Kd.V_drewN | apply Kd.V_drew)); exact HO_0.out) hb); have n1_ := Aside0.mk (Kd.V_below (by (with_reducible repeat (first | apply Kd.V_alloc | apply Kd.V_drewN | apply Kd.V_drew)); exact HL176_0.out) hb); have n2_ := Aside0.mk (Kd.V_below (by (with_reducible repeat (first | apply Kd.V_alloc | apply Kd.V_drewN | apply Kd.V_drew)); exact HL177_0.out) hb); have n3_ := Aside0.mk (Kd.C_below (by repeat (first | (with_reducible exact HR176_0.out) | (with_reducible refine Kd.C_alloc ?_ _) | (with_reducible refine Kd.C_drewN ?_ _) | (with_reducible refine Kd.C_drew ?_) | exact HR176_0.out)) hb); have n4_ := Aside0.mk (Kd.C_below (by repeat (first | (with_reducible exact HR177_0.out) | (with_reducible refine Kd.C_alloc ?_ _) | (with_reducible refine Kd.C_drewN ?_ _) | (with_reducible refine Kd.C_drew ?_) | exact HR177_0.out)) hb); have n5_ := Aside0.mk (below_step (by repeat (first | (with_reducible first | exact HB.out | apply below_alloc | apply pw_below_drewN | apply below_drew1) | exact HB.out)) hb); clear HO_0; clear HL176_0; clear HL177_0; clear HR176_0; clear HR177_0; clear HB; have HO_0 := n0_; have HL176_0 := n1_; have HL177_0 := n2_; have HR176_0 := n3_; have HR177_0 := n4_; have HB := n5_; clear n0_ n1_ n2_ n3_ n4_ n5_; (try clear hb); (try clear hb2); (try clear hk); (try clear hi)))
                                    go_ret
                                    exact ⟨by first | rfl | (simp [errW_none, errW_some] <;> rfl) | (simp only [← hji18]; first | rfl | (simp [errW_none, errW_some] <;> rfl)) | (simp [*, errW_none, errW_some] <;> rfl), by repeat (first | (with_reducible first | exact HB.out | apply below_alloc | apply pw_below_drewN | apply below_drew1) | exact HB.out)⟩
                                  · rw [if_neg c22] at H
                                    have c22b0 : (t180 == (ji18)) = false := beq_eq_false_iff_ne.mpr c22
                                    have c22b1 : (t180 != (ji18)) = true := bne_iff_ne.mpr c22
                                    have H' := Aside0.mk H
                                    clear H
                                    have p176 : 0 ≤ (x9_2 : Int) := of_decide_eq_true (by first | (with_reducible assumption) | assumption)
                                    have q176 : x9_2 < (l0.length : Int) := of_decide_eq_true (by first | (with_reducible assumption) | assumption)
                                    obtain ⟨ad176, A176_0, c176_0, e176, hx176_0, hl176_0, hi176_0⟩ := at_L2 (Kd.V_reads' HO_0.out).2.2 x9_2 p176 q176
                                    cases e176
                                    obtain ⟨ce176, hce176, hMe176, hcc176⟩ := Kd.V_get HO_0.out [] x9_2 p176 (by first | exact q176 | exact of_decide_eq_true (by first | (with_reducible assumption) | assumption) | (have e_ := (Kd.V_reads' HO_0.out).1; omega))
                                    obtain ⟨ua176_0, uc176_0, rfl, ul176_0, ge176_0⟩ := Kd.FK_slice_open hMe176
                                    have hv176_0 := hcc176 0 _ rfl
                                    rw [Nat.add_zero, show ((Kd.slice 9 Kd.string)).sz = 1 from rfl, Nat.mul_one] at hv176_0
                                    replace hv176_0 := Option.some.inj (hv176_0.symm.trans hx176_0)
                                    injection hv176_0 with hva_ hvn_ hvc_
                                    rw [hva_] at ge176_0
                                    rw [hvc_] at ul176_0
                                    have HL176_0 := Aside0.mk (show Kd.V Kd.string 9 _ w.heap.size _ _ (rd_L2 l0 x9_2) from Kd.V_mk ul176_0 ge176_0)
                                    clear hva_ hvn_ hvc_ ge176_0 ul176_0
                                    clear hcc176 hce176
                                    have HR176_0 := Aside0.mk hi176_0
                                    have HC176_0 := Aside0.mk hl176_0
                                    clear hi176_0 hl176_0
                                    replace p176 := eq_true p176
                                    replace q176 := eq_true q176
                                    have p177 : 0 ≤ (x9_2 : Int) := of_decide_eq_true (by first | (with_reducible assumption) | assumption)
                                    have q177 : x9_2 < (l0.length : Int) := of_decide_eq_true (by first | (with_reducible assumption) | assumption)
                                    obtain ⟨ad177, A177_0, c177_0, e177, hx177_0, hl177_0, hi177_0⟩ := at_L2 (Kd.V_reads' HO_0.out).2.2 x9_2 p177 q177
                                    obtain rfl : ad176 = ad177 := (by injection e177)
                                    obtain ⟨ce177, hce177, hMe177, hcc177⟩ := Kd.V_get HO_0.out [] x9_2 p177 (by first | exact q177 | exact of_decide_eq_true (by first | (with_reducible assumption) | assumption) | (have e_ := (Kd.V_reads' HO_0.out).1; omega))
                                    obtain ⟨ua177_0, uc177_0, rfl, ul177_0, ge177_0⟩ := Kd.FK_slice_open hMe177
                                    have hv177_0 := hcc177 0 _ rfl
                                    rw [Nat.add_zero, show ((Kd.slice 9 Kd.string)).sz = 1 from rfl, Nat.mul_one] at hv177_0
                                    replace hv177_0 := Option.some.inj (hv177_0.symm.trans hx177_0)
                                    injection hv177_0 with hva_ hvn_ hvc_
                                    rw [hva_] at ge177_0
                                    rw [hvc_] at ul177_0
                                    have HL177_0 := Aside0.mk (show Kd.V Kd.string 9 _ w.heap.size _ _ (rd_L2 l0 x9_2) from Kd.V_mk ul177_0 ge177_0)
                                    clear hva_ hvn_ hvc_ ge177_0 ul177_0
                                    clear hcc177 hce177
                                    have HR177_0 := Aside0.mk hi177_0
                                    have HC177_0 := Aside0.mk hl177_0
                                    clear hi177_0 hl177_0
                                    replace p177 := eq_true p177
                                    replace q177 := eq_true q177
                                    have ea_ := Option.some.inj (hx176_0.symm.trans hx177_0)
                                    injection ea_ with ea_ en_ ec_
                                    subst ea_
                                    subst ec_
                                    clear en_
                                    have p178 : 0 ≤ (x10_3 : Int) := of_decide_eq_true (by first | (with_reducible assumption) | assumption)
                                    have q178 : x10_3 < ((rd_L2 l0 x9_2).length : Int) := of_decide_eq_true (by first | (with_reducible assumption) | assumption)
                                    obtain ⟨ad178, e178, hx178_0⟩ := Kd.at_string (by repeat (first | (with_reducible exact HR177_0.out) | (with_reducible refine Kd.C_alloc ?_ _) | (with_reducible refine Kd.C_drewN ?_ _) | (with_reducible refine Kd.C_drew ?_) | exact HR177_0.out)) x10_3 p178 q178
                                    cases e178
                                    replace p178 := eq_true p178
                                    replace q178 := eq_true q178
                                    go_wp2_with (first | ((with_reducible refine gate_callee (f := 14) rfl ?_); refine goesL_ (some 51) rfl rfl Try.func14 (by kernel_rfl) rfl #[.int .i64 (ji18), .slice (some ad176) l0.length c0] rfl (by (try simp only [List.map_toArray, List.map_cons, List.map_nil]); first | done | (simp only [hji18]; rfl) | rfl | (simp only [List.length_drop, List.length_take]; rfl)) ?_; (with_reducible refine (size_Fits.calls k3 (ji18) _ _ l0 true _ ?side1 ?side2 A15.out).mono ?_); (case side1 => repeat (first | exact (Kd.V_reads' HO_0.out).2.2 | (with_reducible refine Kd.C_alloc ?_ _) | (with_reducible refine Kd.C_drewN ?_ _) | (with_reducible refine Kd.C_drew ?_))); (case side2 => exact (Kd.V_reads' HO_0.out).2.1); rintro e w25 ⟨rfl, hb⟩; refine ⟨_, rfl, ?_⟩; have n0_ := Aside0.mk (Kd.V_below (by (with_reducible repeat (first | apply Kd.V_alloc | apply Kd.V_drewN | apply Kd.V_drew)); exact HO_0.out) hb); have n1_ := Aside0.mk (Kd.V_below (by (with_reducible repeat (first | apply Kd.V_alloc | apply Kd.V_drewN | apply Kd.V_drew)); exact HL176_0.out) hb); have n2_ := Aside0.mk (Kd.V_below (by (with_reducible repeat (first | apply Kd.V_alloc | apply Kd.V_drewN | apply Kd.V_drew)); exact HL177_0.out) hb); have n3_ := Aside0.mk (Kd.C_below (by repeat (first | (with_reducible exact HR176_0.out) | (with_reducible refine Kd.C_alloc ?_ _) | (with_reducible refine Kd.C_drewN ?_ _) | (with_reducible refine Kd.C_drew ?_) | exact HR176_0.out)) hb); have n4_ := Aside0.mk (Kd.C_below (by repeat (first | (with_reducible exact HR177_0.out) | (with_reducible refine Kd.C_alloc ?_ _) | (with_reducible refine Kd.C_drewN ?_ _) | (with_reducible refine Kd.C_drew ?_) | exact HR177_0.out)) hb); have n5_ := Aside0.mk (below_step (by repeat (first | (with_reducible first | exact HB.out | apply below_alloc | apply pw_below_drewN | apply below_drew1) | exact HB.out)) hb); clear HO_0; clear HL176_0; clear HL177_0; clear HR176_0; clear HR177_0; clear HB; have HO_0 := n0_; have HL176_0 := n1_; have HL177_0 := n2_; have HR176_0 := n3_; have HR177_0 := n4_; have HB := n5_; clear n0_ n1_ n2_ n3_ n4_ n5_; (try clear hb); (try clear hb2); (try clear hk); (try clear hi)) | (go_at_call 9; (with_reducible refine (size_Run.calls ((rdOf ByteArray.empty (rd_L2 l0 x9_2) x10_3).extract 0 ((ji18) : Int).toNat) t180 _ A21.out).mono ?_); rintro e w26 ⟨rfl, hb⟩; have n0_ := Aside0.mk (Kd.V_below (by (with_reducible repeat (first | apply Kd.V_alloc | apply Kd.V_drewN | apply Kd.V_drew)); exact HO_0.out) hb); have n1_ := Aside0.mk (Kd.V_below (by (with_reducible repeat (first | apply Kd.V_alloc | apply Kd.V_drewN | apply Kd.V_drew)); exact HL176_0.out) hb); have n2_ := Aside0.mk (Kd.V_below (by (with_reducible repeat (first | apply Kd.V_alloc | apply Kd.V_drewN | apply Kd.V_drew)); exact HL177_0.out) hb); have n3_ := Aside0.mk (Kd.C_below (by repeat (first | (with_reducible exact HR176_0.out) | (with_reducible refine Kd.C_alloc ?_ _) | (with_reducible refine Kd.C_drewN ?_ _) | (with_reducible refine Kd.C_drew ?_) | exact HR176_0.out)) hb); have n4_ := Aside0.mk (Kd.C_below (by repeat (first | (with_reducible exact HR177_0.out) | (with_reducible refine Kd.C_alloc ?_ _) | (with_reducible refine Kd.C_drewN ?_ _) | (with_reducible refine Kd.C_drew ?_) | exact HR177_0.out)) hb); have n5_ := Aside0.mk (below_step (by repeat (first | (with_reducible first | exact HB.out | apply below_alloc | apply pw_below_drewN | apply below_drew1) | exact HB.out)) hb); clear HO_0; clear HL176_0; clear HL177_0; clear HR176_0; clear HR177_0; clear HB; have HO_0 := n0_; have HL176_0 := n1_; have HL177_0 := n2_; have HR176_0 := n3_; have HR177_0 := n4_; have HB := n5_; clear n0_ n1_ n2_ n3_ n4_ n5_; (try clear hb); (try clear hb2); (try clear hk); (try clear hi)))
                                    first | go_roundg k3 | ((simp only [← hji18] at H' ⊢); go_roundg k3)
                                    case measure => have := HJ4.out; have := HK2.out; have := HK3.out; omega
                                    case rel => exact ⟨(wrap64 (x10_3 + 1)), (by first | rfl | (simp; done) | (simp [*]; done)), H', ⟨by have := HJ4.out; have := HK2.out; have := HK3.out; omega⟩, ⟨by (with_reducible repeat (first | apply Kd.V_alloc | apply Kd.V_drewN | apply Kd.V_drew)); exact HO_0.out⟩, ⟨by repeat (first | (with_reducible first | exact HB.out | apply below_alloc | apply pw_below_drewN | apply below_drew1) | exact HB.out)⟩⟩
                                · rw [if_neg c20] at H
                                  exact absurd H (by simp)
                              · rw [if_neg c19] at H
                                exact absurd H (by simp)
                            · rw [if_neg c17] at H
                              have c17b0 : decide ((wrap64 (1 + (Int.tmod (wrap64 (a2)) 12))) ≤ ((rdOf ByteArray.empty (rd_L2 l0 x9_2) x10_3).size : Int)) = false := decide_eq_false c17
                              clear c17
                              have H' := Aside0.mk H
                              clear H
                              have p176 : 0 ≤ (x9_2 : Int) := of_decide_eq_true (by first | (with_reducible assumption) | assumption)
                              have q176 : x9_2 < (l0.length : Int) := of_decide_eq_true (by first | (with_reducible assumption) | assumption)
                              obtain ⟨ad176, A176_0, c176_0, e176, hx176_0, hl176_0, hi176_0⟩ := at_L2 (Kd.V_reads' HO_0.out).2.2 x9_2 p176 q176
                              cases e176
                              obtain ⟨ce176, hce176, hMe176, hcc176⟩ := Kd.V_get HO_0.out [] x9_2 p176 (by first | exact q176 | exact of_decide_eq_true (by first | (with_reducible assumption) | assumption) | (have e_ := (Kd.V_reads' HO_0.out).1; omega))
                              obtain ⟨ua176_0, uc176_0, rfl, ul176_0, ge176_0⟩ := Kd.FK_slice_open hMe176
                              have hv176_0 := hcc176 0 _ rfl
                              rw [Nat.add_zero, show ((Kd.slice 9 Kd.string)).sz = 1 from rfl, Nat.mul_one] at hv176_0
                              replace hv176_0 := Option.some.inj (hv176_0.symm.trans hx176_0)
                              injection hv176_0 with hva_ hvn_ hvc_
                              rw [hva_] at ge176_0
                              rw [hvc_] at ul176_0
                              have HL176_0 := Aside0.mk (show Kd.V Kd.string 9 _ w.heap.size _ _ (rd_L2 l0 x9_2) from Kd.V_mk ul176_0 ge176_0)
                              clear hva_ hvn_ hvc_ ge176_0 ul176_0
                              clear hcc176 hce176
                              have HR176_0 := Aside0.mk hi176_0
                              have HC176_0 := Aside0.mk hl176_0
                              clear hi176_0 hl176_0
                              replace p176 := eq_true p176
                              replace q176 := eq_true q176
                              have p177 : 0 ≤ (x9_2 : Int) := of_decide_eq_true (by first | (with_reducible assumption) | assumption)
                              have q177 : x9_2 < (l0.length : Int) := of_decide_eq_true (by first | (with_reducible assumption) | assumption)
                              obtain ⟨ad177, A177_0, c177_0, e177, hx177_0, hl177_0, hi177_0⟩ := at_L2 (Kd.V_reads' HO_0.out).2.2 x9_2 p177 q177
                              obtain rfl : ad176 = ad177 := (by injection e177)
                              obtain ⟨ce177, hce177, hMe177, hcc177⟩ := Kd.V_get HO_0.out [] x9_2 p177 (by first | exact q177 | exact of_decide_eq_true (by first | (with_reducible assumption) | assumption) | (have e_ := (Kd.V_reads' HO_0.out).1; omega))
                              obtain ⟨ua177_0, uc177_0, rfl, ul177_0, ge177_0⟩ := Kd.FK_slice_open hMe177
                              have hv177_0 := hcc177 0 _ rfl
                              rw [Nat.add_zero, show ((Kd.slice 9 Kd.string)).sz = 1 from rfl, Nat.mul_one] at hv177_0
                              replace hv177_0 := Option.some.inj (hv177_0.symm.trans hx177_0)
                              injection hv177_0 with hva_ hvn_ hvc_
                              rw [hva_] at ge177_0
                              rw [hvc_] at ul177_0
                              have HL177_0 := Aside0.mk (show Kd.V Kd.string 9 _ w.heap.size _ _ (rd_L2 l0 x9_2) from Kd.V_mk ul177_0 ge177_0)
                              clear hva_ hvn_ hvc_ ge177_0 ul177_0
                              clear hcc177 hce177
                              have HR177_0 := Aside0.mk hi177_0
                              have HC177_0 := Aside0.mk hl177_0
                              clear hi177_0 hl177_0
                              replace p177 := eq_true p177
                              replace q177 := eq_true q177
                              have ea_ := Option.some.inj (hx176_0.symm.trans hx177_0)
                              injection ea_ with ea_ en_ ec_
                              subst ea_
                              subst ec_
                              clear en_
                              have p178 : 0 ≤ (x10_3 : Int) := of_decide_eq_true (by first | (with_reducible assumption) | assumption)
                              have q178 : x10_3 < ((rd_L2 l0 x9_2).length : Int) := of_decide_eq_true (by first | (with_reducible assumption) | assumption)
                              obtain ⟨ad178, e178, hx178_0⟩ := Kd.at_string (by repeat (first | (with_reducible exact HR177_0.out) | (with_reducible refine Kd.C_alloc ?_ _) | (with_reducible refine Kd.C_drewN ?_ _) | (with_reducible refine Kd.C_drew ?_) | exact HR177_0.out)) x10_3 p178 q178
                              cases e178
                              replace p178 := eq_true p178
                              replace q178 := eq_true q178
                              go_wp2_with (first | ((with_reducible refine gate_callee (f := 14) rfl ?_); refine goesL_ (some 51) rfl rfl Try.func14 (by kernel_rfl) rfl #[.int .i64 (wrap64 (1 + (Int.tmod (wrap64 (a2)) 12))), .slice (some ad176) l0.length c0] rfl (by (try simp only [List.map_toArray, List.map_cons, List.map_nil]); first | done | rfl | (simp only [List.length_drop, List.length_take]; rfl)) ?_; (with_reducible refine (size_Fits.calls k3 (wrap64 (1 + (Int.tmod (wrap64 (a2)) 12))) _ _ l0 true _ ?side1 ?side2 A15.out).mono ?_); (case side1 => repeat (first | exact (Kd.V_reads' HO_0.out).2.2 | (with_reducible refine Kd.C_alloc ?_ _) | (with_reducible refine Kd.C_drewN ?_ _) | (with_reducible refine Kd.C_drew ?_))); (case side2 => exact (Kd.V_reads' HO_0.out).2.1); rintro e w27 ⟨rfl, hb⟩; refine ⟨_, rfl, ?_⟩; have n0_ := Aside0.mk (Kd.V_below (by (with_reducible repeat (first | apply Kd.V_alloc | apply Kd.V_drewN | apply Kd.V_drew)); exact HO_0.out) hb); have n1_ := Aside0.mk (Kd.V_below (by (with_reducible repeat (first | apply Kd.V_alloc | apply Kd.V_drewN | apply Kd.V_drew)); exact HL176_0.out) hb); have n2_ := Aside0.mk (Kd.V_below (by (with_reducible repeat (first | apply Kd.V_alloc | apply Kd.V_drewN | apply Kd.V_drew)); exact HL177_0.out) hb); have n3_ := Aside0.mk (Kd.C_below (by repeat (first | (with_reducible exact HR176_0.out) | (with_reducible refine Kd.C_alloc ?_ _) | (with_reducible refine Kd.C_drewN ?_ _) | (with_reducible refine Kd.C_drew ?_) | exact HR176_0.out)) hb); have n4_ := Aside0.mk (Kd.C_below (by repeat (first | (with_reducible exact HR177_0.out) | (with_reducible refine Kd.C_alloc ?_ _) | (with_reducible refine Kd.C_drewN ?_ _) | (with_reducible refine Kd.C_drew ?_) | exact HR177_0.out)) hb); have n5_ := Aside0.mk (below_step (by repeat (first | (with_reducible first | exact HB.out | apply below_alloc | apply pw_below_drewN | apply below_drew1) | exact HB.out)) hb); clear HO_0; clear HL176_0; clear HL177_0; clear HR176_0; clear HR177_0; clear HB; have HO_0 := n0_; have HL176_0 := n1_; have HL177_0 := n2_; have HR176_0 := n3_; have HR177_0 := n4_; have HB := n5_; clear n0_ n1_ n2_ n3_ n4_ n5_; (try clear hb); (try clear hb2); (try clear hk); (try clear hi)))
                              go_roundg k3
                              case measure => have := HJ4.out; have := HK2.out; have := HK3.out; omega
                              case rel => exact ⟨(wrap64 (x10_3 + 1)), (by first | rfl | (simp; done) | (simp [*]; done)), H', ⟨by have := HJ4.out; have := HK2.out; have := HK3.out; omega⟩, ⟨by (with_reducible repeat (first | apply Kd.V_alloc | apply Kd.V_drewN | apply Kd.V_drew)); exact HO_0.out⟩, ⟨by repeat (first | (with_reducible first | exact HB.out | apply below_alloc | apply pw_below_drewN | apply below_drew1) | exact HB.out)⟩⟩
                          · replace c16 := Bool.eq_false_iff.mpr c16
                            subst c16
                            have H1 : (sennitlaw11_SizeMarks.l1 k3 l0 a1 t160 (wrap64 (1 + (Int.tmod (wrap64 (a2)) 12))) x9_2 (wrap64 (x10_3 + 1))) = some r := by rw [if_neg (show ¬ (false = true) by decide)] at H; exact H
                            clear H
                            have H := H1
                            clear H1
                            have H' := Aside0.mk H
                            clear H
                            have p176 : 0 ≤ (x9_2 : Int) := of_decide_eq_true (by first | (with_reducible assumption) | assumption)
                            have q176 : x9_2 < (l0.length : Int) := of_decide_eq_true (by first | (with_reducible assumption) | assumption)
                            obtain ⟨ad176, A176_0, c176_0, e176, hx176_0, hl176_0, hi176_0⟩ := at_L2 (Kd.V_reads' HO_0.out).2.2 x9_2 p176 q176
                            cases e176
                            obtain ⟨ce176, hce176, hMe176, hcc176⟩ := Kd.V_get HO_0.out [] x9_2 p176 (by first | exact q176 | exact of_decide_eq_true (by first | (with_reducible assumption) | assumption) | (have e_ := (Kd.V_reads' HO_0.out).1; omega))
                            obtain ⟨ua176_0, uc176_0, rfl, ul176_0, ge176_0⟩ := Kd.FK_slice_open hMe176
                            have hv176_0 := hcc176 0 _ rfl
                            rw [Nat.add_zero, show ((Kd.slice 9 Kd.string)).sz = 1 from rfl, Nat.mul_one] at hv176_0
                            replace hv176_0 := Option.some.inj (hv176_0.symm.trans hx176_0)
                            injection hv176_0 with hva_ hvn_ hvc_
                            rw [hva_] at ge176_0
                            rw [hvc_] at ul176_0
                            have HL176_0 := Aside0.mk (show Kd.V Kd.string 9 _ w.heap.size _ _ (rd_L2 l0 x9_2) from Kd.V_mk ul176_0 ge176_0)
                            clear hva_ hvn_ hvc_ ge176_0 ul176_0
                            clear hcc176 hce176
                            have HR176_0 := Aside0.mk hi176_0
                            have HC176_0 := Aside0.mk hl176_0
                            clear hi176_0 hl176_0
                            replace p176 := eq_true p176
                            replace q176 := eq_true q176
                            have p177 : 0 ≤ (x9_2 : Int) := of_decide_eq_true (by first | (with_reducible assumption) | assumption)
                            have q177 : x9_2 < (l0.length : Int) := of_decide_eq_true (by first | (with_reducible assumption) | assumption)
                            obtain ⟨ad177, A177_0, c177_0, e177, hx177_0, hl177_0, hi177_0⟩ := at_L2 (Kd.V_reads' HO_0.out).2.2 x9_2 p177 q177
                            obtain rfl : ad176 = ad177 := (by injection e177)
                            obtain ⟨ce177, hce177, hMe177, hcc177⟩ := Kd.V_get HO_0.out [] x9_2 p177 (by first | exact q177 | exact of_decide_eq_true (by first | (with_reducible assumption) | assumption) | (have e_ := (Kd.V_reads' HO_0.out).1; omega))
                            obtain ⟨ua177_0, uc177_0, rfl, ul177_0, ge177_0⟩ := Kd.FK_slice_open hMe177
                            have hv177_0 := hcc177 0 _ rfl
                            rw [Nat.add_zero, show ((Kd.slice 9 Kd.string)).sz = 1 from rfl, Nat.mul_one] at hv177_0
                            replace hv177_0 := Option.some.inj (hv177_0.symm.trans hx177_0)
                            injection hv177_0 with hva_ hvn_ hvc_
                            rw [hva_] at ge177_0
                            rw [hvc_] at ul177_0
                            have HL177_0 := Aside0.mk (show Kd.V Kd.string 9 _ w.heap.size _ _ (rd_L2 l0 x9_2) from Kd.V_mk ul177_0 ge177_0)
                            clear hva_ hvn_ hvc_ ge177_0 ul177_0
                            clear hcc177 hce177
                            have HR177_0 := Aside0.mk hi177_0
                            have HC177_0 := Aside0.mk hl177_0
                            clear hi177_0 hl177_0
                            replace p177 := eq_true p177
                            replace q177 := eq_true q177
                            have ea_ := Option.some.inj (hx176_0.symm.trans hx177_0)
                            injection ea_ with ea_ en_ ec_
                            subst ea_
                            subst ec_
                            clear en_
                            have p178 : 0 ≤ (x10_3 : Int) := of_decide_eq_true (by first | (with_reducible assumption) | assumption)
                            have q178 : x10_3 < ((rd_L2 l0 x9_2).length : Int) := of_decide_eq_true (by first | (with_reducible assumption) | assumption)
                            obtain ⟨ad178, e178, hx178_0⟩ := Kd.at_string (by repeat (first | (with_reducible exact HR177_0.out) | (with_reducible refine Kd.C_alloc ?_ _) | (with_reducible refine Kd.C_drewN ?_ _) | (with_reducible refine Kd.C_drew ?_) | exact HR177_0.out)) x10_3 p178 q178
                            cases e178
                            replace p178 := eq_true p178
                            replace q178 := eq_true q178
                            go_wp2_with (first | ((with_reducible refine gate_callee (f := 14) rfl ?_); refine goesL_ (some 51) rfl rfl Try.func14 (by kernel_rfl) rfl #[.int .i64 (wrap64 (1 + (Int.tmod (wrap64 (a2)) 12))), .slice (some ad176) l0.length c0] rfl (by (try simp only [List.map_toArray, List.map_cons, List.map_nil]); first | done | rfl | (simp only [List.length_drop, List.length_take]; rfl)) ?_; (with_reducible refine (size_Fits.calls k3 (wrap64 (1 + (Int.tmod (wrap64 (a2)) 12))) _ _ l0 false _ ?side1 ?side2 A15.out).mono ?_); (case side1 => repeat (first | exact (Kd.V_reads' HO_0.out).2.2 | (with_reducible refine Kd.C_alloc ?_ _) | (with_reducible refine Kd.C_drewN ?_ _) | (with_reducible refine Kd.C_drew ?_))); (case side2 => exact (Kd.V_reads' HO_0.out).2.1); rintro e w28 ⟨rfl, hb⟩; refine ⟨_, rfl, ?_⟩; have n0_ := Aside0.mk (Kd.V_below (by (with_reducible repeat (first | apply Kd.V_alloc | apply Kd.V_drewN | apply Kd.V_drew)); exact HO_0.out) hb); have n1_ := Aside0.mk (Kd.V_below (by (with_reducible repeat (first | apply Kd.V_alloc | apply Kd.V_drewN | apply Kd.V_drew)); exact HL176_0.out) hb); have n2_ := Aside0.mk (Kd.V_below (by (with_reducible repeat (first | apply Kd.V_alloc | apply Kd.V_drewN | apply Kd.V_drew)); exact HL177_0.out) hb); have n3_ := Aside0.mk (Kd.C_below (by repeat (first | (with_reducible exact HR176_0.out) | (with_reducible refine Kd.C_alloc ?_ _) | (with_reducible refine Kd.C_drewN ?_ _) | (with_reducible refine Kd.C_drew ?_) | exact HR176_0.out)) hb); have n4_ := Aside0.mk (Kd.C_below (by repeat (first | (with_reducible exact HR177_0.out) | (with_reducible refine Kd.C_alloc ?_ _) | (with_reducible refine Kd.C_drewN ?_ _) | (with_reducible refine Kd.C_drew ?_) | exact HR177_0.out)) hb); have n5_ := Aside0.mk (below_step (by repeat (first | (with_reducible first | exact HB.out | apply below_alloc | apply pw_below_drewN | apply below_drew1) | exact HB.out)) hb); clear HO_0; clear HL176_0; clear HL177_0; clear HR176_0; clear HR177_0; clear HB; have HO_0 := n0_; have HL176_0 := n1_; have HL177_0 := n2_; have HR176_0 := n3_; have HR177_0 := n4_; have HB := n5_; clear n0_ n1_ n2_ n3_ n4_ n5_; (try clear hb); (try clear hb2); (try clear hk); (try clear hi)))
                            go_roundg k3
                            case measure => have := HJ4.out; have := HK2.out; have := HK3.out; omega
                            case rel => exact ⟨(wrap64 (x10_3 + 1)), (by first | rfl | (simp; done) | (simp [*]; done)), H', ⟨by have := HJ4.out; have := HK2.out; have := HK3.out; omega⟩, ⟨by (with_reducible repeat (first | apply Kd.V_alloc | apply Kd.V_drewN | apply Kd.V_drew)); exact HO_0.out⟩, ⟨by repeat (first | (with_reducible first | exact HB.out | apply below_alloc | apply pw_below_drewN | apply below_drew1) | exact HB.out)⟩⟩
                        · rw [if_neg c14] at H
                          exact absurd H (by simp)
                      · rw [if_neg c13] at H
                        have c13b0 : decide (x10_3 < ((rd_L2 l0 x9_2).length : Int)) = false := decide_eq_false c13
                        clear c13
                        have H' := Aside0.mk H
                        clear H
                        have p176 : 0 ≤ (x9_2 : Int) := of_decide_eq_true (by first | (with_reducible assumption) | assumption)
                        have q176 : x9_2 < (l0.length : Int) := of_decide_eq_true (by first | (with_reducible assumption) | assumption)
                        obtain ⟨ad176, A176_0, c176_0, e176, hx176_0, hl176_0, hi176_0⟩ := at_L2 (Kd.V_reads' HO_0.out).2.2 x9_2 p176 q176
                        cases e176
                        obtain ⟨ce176, hce176, hMe176, hcc176⟩ := Kd.V_get HO_0.out [] x9_2 p176 (by first | exact q176 | exact of_decide_eq_true (by first | (with_reducible assumption) | assumption) | (have e_ := (Kd.V_reads' HO_0.out).1; omega))
                        obtain ⟨ua176_0, uc176_0, rfl, ul176_0, ge176_0⟩ := Kd.FK_slice_open hMe176
                        have hv176_0 := hcc176 0 _ rfl
                        rw [Nat.add_zero, show ((Kd.slice 9 Kd.string)).sz = 1 from rfl, Nat.mul_one] at hv176_0
                        replace hv176_0 := Option.some.inj (hv176_0.symm.trans hx176_0)
                        injection hv176_0 with hva_ hvn_ hvc_
                        rw [hva_] at ge176_0
                        rw [hvc_] at ul176_0
                        have HL176_0 := Aside0.mk (show Kd.V Kd.string 9 _ w.heap.size _ _ (rd_L2 l0 x9_2) from Kd.V_mk ul176_0 ge176_0)
                        clear hva_ hvn_ hvc_ ge176_0 ul176_0
                        clear hcc176 hce176
                        have HR176_0 := Aside0.mk hi176_0
                        have HC176_0 := Aside0.mk hl176_0
                        clear hi176_0 hl176_0
                        replace p176 := eq_true p176
                        replace q176 := eq_true q176
                        go_wp2
                        go_roundg k3
                        case measure => have := HJ4.out; have := HK2.out; have := HK3.out; omega
                        case rel => exact ⟨(wrap64 (x9_2 + 1)), (by first | rfl | (simp; done) | (simp [*]; done)), H', ⟨by have := HJ4.out; have := HK2.out; have := HK3.out; omega⟩, ⟨by (with_reducible repeat (first | apply Kd.V_alloc | apply Kd.V_drewN | apply Kd.V_drew)); exact HO_0.out⟩, ⟨by repeat (first | (with_reducible first | exact HB.out | apply below_alloc | apply pw_below_drewN | apply below_drew1) | exact HB.out)⟩⟩
                    · rw [if_neg c12] at H
                      exact absurd H (by simp)
                  · rw [if_neg c11] at H
                    exact absurd H (by simp)
            · rw [if_neg c10] at H
              have c10b0 : decide (x9_2 < (l0.length : Int)) = false := decide_eq_false c10
              clear c10
              obtain ⟨ji29, hji29⟩ : ∃ j_ : Int, (wrap64 (1 + (Int.tmod (wrap64 (a2)) 12))) = j_ := ⟨_, rfl⟩
              replace H : (if 0 ≤ (ji29) then (if (ji29) ≤ 12 then (if t160 = true then (if ((⟨#[61, 61, 61, 61, 61, 61, 61, 61, 61, 61, 61, 61]⟩ : ByteArray).extract 0 ((ji29) : Int).toNat).size + a1.size ≤ 9223372036854775807 then ((size_Run.f (((⟨#[61, 61, 61, 61, 61, 61, 61, 61, 61, 61, 61, 61]⟩ : ByteArray).extract 0 ((ji29) : Int).toNat) ++ a1)).bind fun t162 => (if t162 ≥ (ji29) then ((some (([] : List (List ByteArray)) : List (List ByteArray))).bind fun y163 => (if y163.length + l0.length < 5864062014805 then ((some (y163 ++ l0 : List (List ByteArray))).bind fun y166 => (if y166.length < 5864062014805 then ((size_Fits.f k2 (ji29) (y166 ++ [(([((⟨#[61, 61, 61, 61, 61, 61, 61, 61, 61, 61, 61, 61]⟩ : ByteArray).extract 0 ((ji29) : Int).toNat) ++ a1] : List ByteArray))])).bind fun t175 => (some (!t175))) else (none))) else (none))) else (some false))) else (none)) else (some false)) else (none)) else (none)) = some r := by first | (rw [hji29] at H; exact H) | (simp only [hji29] at H ⊢; exact H)
              have hji29w : (IntKind.i64.wrap (1 + (Int.tmod (wrap64 (a2)) 12))) = ji29 := (i64_w _).trans hji29
              by_cases c30 : 0 ≤ (ji29)
              · rw [if_pos c30] at H
                have c30b0 := eq_true c30
                have c30b1 : decide (0 ≤ (ji29)) = true := decide_eq_true c30
                clear c30
                by_cases c31 : (ji29) ≤ 12
                · rw [if_pos c31] at H
                  have c31b0 := eq_true c31
                  have c31b1 : decide ((ji29) ≤ 12) = true := decide_eq_true c31
                  clear c31
                  by_cases c32 : t160 = true
                  · subst c32
                    have H1 : (if ((⟨#[61, 61, 61, 61, 61, 61, 61, 61, 61, 61, 61, 61]⟩ : ByteArray).extract 0 ((ji29) : Int).toNat).size + a1.size ≤ 9223372036854775807 then ((size_Run.f (((⟨#[61, 61, 61, 61, 61, 61, 61, 61, 61, 61, 61, 61]⟩ : ByteArray).extract 0 ((ji29) : Int).toNat) ++ a1)).bind fun t162 => (if t162 ≥ (ji29) then ((some (([] : List (List ByteArray)) : List (List ByteArray))).bind fun y163 => (if y163.length + l0.length < 5864062014805 then ((some (y163 ++ l0 : List (List ByteArray))).bind fun y166 => (if y166.length < 5864062014805 then ((size_Fits.f k2 (ji29) (y166 ++ [(([((⟨#[61, 61, 61, 61, 61, 61, 61, 61, 61, 61, 61, 61]⟩ : ByteArray).extract 0 ((ji29) : Int).toNat) ++ a1] : List ByteArray))])).bind fun t175 => (some (!t175))) else (none))) else (none))) else (some false))) else (none)) = some r := by rw [if_pos rfl] at H; exact H
                    clear H
                    have H := H1
                    clear H1
                    by_cases c33 : ((⟨#[61, 61, 61, 61, 61, 61, 61, 61, 61, 61, 61, 61]⟩ : ByteArray).extract 0 ((ji29) : Int).toNat).size + a1.size ≤ 9223372036854775807
                    · rw [if_pos c33] at H
                      have c33b0 := eq_true c33
                      have c33b1 : decide (((⟨#[61, 61, 61, 61, 61, 61, 61, 61, 61, 61, 61, 61]⟩ : ByteArray).extract 0 ((ji29) : Int).toNat).size + a1.size ≤ 9223372036854775807) = true := decide_eq_true c33
                      try have c33b2 : (9223372036854775807 < ((⟨#[61, 61, 61, 61, 61, 61, 61, 61, 61, 61, 61, 61]⟩ : ByteArray).extract 0 ((ji29) : Int).toNat).size + a1.size) = False := eq_false (Nat.not_lt.2 c33)
                      replace H := Option.bind_eq_some_iff.mp H
                      obtain ⟨t162, A340, H⟩ := H
                      replace H : (if t162 ≥ (ji29) then ((some (([] : List (List ByteArray)) : List (List ByteArray))).bind fun y163 => (if y163.length + l0.length < 5864062014805 then ((some (y163 ++ l0 : List (List ByteArray))).bind fun y166 => (if y166.length < 5864062014805 then ((size_Fits.f k2 (ji29) (y166 ++ [(([((⟨#[61, 61, 61, 61, 61, 61, 61, 61, 61, 61, 61, 61]⟩ : ByteArray).extract 0 ((ji29) : Int).toNat) ++ a1] : List ByteArray))])).bind fun t175 => (some (!t175))) else (none))) else (none))) else (some false)) = some r := H
                      have A34 := Aside0.mk A340
                      clear A340
                      by_cases c35 : t162 ≥ (ji29)
                      · rw [if_pos c35] at H
                        have c35b0 : decide ((ji29) ≤ t162) = true := decide_eq_true c35
                        clear c35
                        obtain ⟨y163, hy163⟩ : ∃ y_ : List (List ByteArray), y_ = (([] : List (List ByteArray))) := ⟨_, rfl⟩
                        replace H : (if y163.length + l0.length < 5864062014805 then ((some (y163 ++ l0 : List (List ByteArray))).bind fun y166 => (if y166.length < 5864062014805 then ((size_Fits.f k2 (ji29) (y166 ++ [(([((⟨#[61, 61, 61, 61, 61, 61, 61, 61, 61, 61, 61, 61]⟩ : ByteArray).extract 0 ((ji29) : Int).toNat) ++ a1] : List ByteArray))])).bind fun t175 => (some (!t175))) else (none))) else (none)) = some r := by first | (rw [hy163]; with_reducible exact H) | (have H2_ := (Option.bind_some _ _).symm.trans H; rw [hy163]; with_reducible exact H2_) | (have H2_ := (Option.bind_some _ _).symm.trans H; with_reducible exact H2_) | with_reducible exact H | (rw [hy163]; exact H) | exact H
                        have Ny163 := Aside0.mk hy163
                        clear hy163
                        by_cases c36 : y163.length + l0.length < 5864062014805
                        · rw [if_pos c36] at H
                          have LMc36 := Aside0.mk c36
                          clear c36
                          obtain ⟨y166, hy166⟩ : ∃ y_ : List (List ByteArray), y_ = (y163 ++ l0) := ⟨_, rfl⟩
                          replace H : (if y166.length < 5864062014805 then ((size_Fits.f k2 (ji29) (y166 ++ [(([((⟨#[61, 61, 61, 61, 61, 61, 61, 61, 61, 61, 61, 61]⟩ : ByteArray).extract 0 ((ji29) : Int).toNat) ++ a1] : List ByteArray))])).bind fun t175 => (some (!t175))) else (none)) = some r := by first | (rw [hy166]; with_reducible exact H) | (have H2_ := (Option.bind_some _ _).symm.trans H; rw [hy166]; with_reducible exact H2_) | (have H2_ := (Option.bind_some _ _).symm.trans H; with_reducible exact H2_) | with_reducible exact H | (rw [hy166]; exact H) | exact H
                          have Ny166 := Aside0.mk hy166
                          clear hy166
                          obtain ⟨y169, hy169⟩ : ∃ y_ : List ByteArray, y_ = (([((⟨#[61, 61, 61, 61, 61, 61, 61, 61, 61, 61, 61, 61]⟩ : ByteArray).extract 0 ((ji29) : Int).toNat) ++ a1] : List ByteArray)) := ⟨_, rfl⟩
                          replace H : (if y166.length < 5864062014805 then ((size_Fits.f k2 (ji29) (y166 ++ [y169])).bind fun t175 => (some (!t175))) else (none)) = some r := by first | (rw [hy169]; with_reducible exact H) | (have H2_ := (Option.bind_some _ _).symm.trans H; rw [hy169]; with_reducible exact H2_) | (have H2_ := (Option.bind_some _ _).symm.trans H; with_reducible exact H2_) | with_reducible exact H | (rw [hy169]; exact H) | exact H
                          have Ny169 := Aside0.mk hy169
                          clear hy169
                          by_cases c37 : y166.length < 5864062014805
                          · rw [if_pos c37] at H
                            have LMc37 := Aside0.mk c37
                            clear c37
                            obtain ⟨y172, hy172⟩ : ∃ y_ : List (List ByteArray), y_ = (y166 ++ [y169]) := ⟨_, rfl⟩
                            replace H : ((size_Fits.f k2 (ji29) y172).bind fun t175 => (some (!t175))) = some r := by first | (rw [hy172]; with_reducible exact H) | (have H2_ := (Option.bind_some _ _).symm.trans H; rw [hy172]; with_reducible exact H2_) | (have H2_ := (Option.bind_some _ _).symm.trans H; with_reducible exact H2_) | with_reducible exact H | (rw [hy172]; exact H) | exact H
                            have Ny172 := Aside0.mk hy172
                            clear hy172
                            replace H := Option.bind_eq_some_iff.mp H
                            obtain ⟨t175, A380, H⟩ := H
                            replace H : (some (!t175)) = some r := H
                            have A38 := Aside0.mk A380
                            clear A380
                            obtain rfl := Option.some.inj H
                            go_wp2_with (first | (go_at_call 9; (with_reducible refine (size_Run.calls (((⟨#[61, 61, 61, 61, 61, 61, 61, 61, 61, 61, 61, 61]⟩ : ByteArray).extract 0 ((ji29) : Int).toNat) ++ a1) t162 _ A34.out).mono ?_); rintro e w39 ⟨rfl, hb⟩; have n0_ := Aside0.mk (Kd.V_below (by (with_reducible repeat (first | apply Kd.V_alloc | apply Kd.V_drewN | apply Kd.V_drew)); exact HO_0.out) hb); have n1_ := Aside0.mk (below_step (by repeat (first | (with_reducible first | exact HB.out | apply below_alloc | apply pw_below_drewN | apply below_drew1) | exact HB.out)) hb); clear HO_0; clear HB; have HO_0 := n0_; have HB := n1_; clear n0_ n1_; (try clear hb); (try clear hb2); (try clear hk); (try clear hi)) | ((with_reducible refine gate_dst (N := 79) rfl ?_); (try (refine gate_guard (by rfl) ?_; dsimp only)); refine Kd.N_lit (Kd.slice 9 Kd.string) _ 34 ?hg (N' := 79) ?hd (xs := ([] : List (List ByteArray))) (inner := []) (ok := (fun k_ => (P0_ k_ ∨ w.heap.size ≤ k_))) (okp := (fun k_ => (P0_ k_ ∨ w.heap.size ≤ k_))) ?hr ?hp (fun _ hk => hk) ((show ∀ k_, w39.heap.size ≤ k_ → (fun k_ => (P0_ k_ ∨ w.heap.size ≤ k_)) k_ from fun k_ hk => (.inr (Nat.le_trans (below_size (by repeat (first | (with_reducible first | exact HB.out | apply below_alloc | apply pw_below_drewN | apply below_drew1) | exact HB.out))) hk))) _ (Nat.le_refl _)) (Below.refl _ _) (Nat.le_refl _) (by simp) ?_; (case hd => rfl); (case hg => rfl); (case hr => first | (go_simp; done) | (go_simp; rfl)); (case hp => exact (Reps.none _ _)); intro v164 w40 ho41 hb hg_ hnew_; clear hg_ hnew_; (first | rw [← Ny163.out] at ho41 | (simp only [Int.reduceToNat] at ho41; rw [← Ny163.out] at ho41)); have n0_ := Aside0.mk (Kd.V_elder' (by (with_reducible repeat (first | apply Kd.V_alloc | apply Kd.V_drewN | apply Kd.V_drew)); exact HO_0.out) (Kd.N_base ho41) hb); have n1_ := Aside0.mk (Kd.N_lower ho41 (below_size (by repeat (first | (with_reducible first | exact HB.out | apply below_alloc | apply pw_below_drewN | apply below_drew1) | exact HB.out)))); have n2_ := Aside0.mk (below_step (by repeat (first | (with_reducible first | exact HB.out | apply below_alloc | apply pw_below_drewN | apply below_drew1) | exact HB.out)) hb); clear HO_0; clear HB; have HO_0 := n0_; have HO165 := n1_; have HB := n2_; clear n0_ n1_ n2_; clear hb ho41) | ((with_reducible refine gate_builtin (b := .append) (xs := #[.tmp 79, .tmp 80]) rfl ?_); (try (refine gate_guard (by rfl) ?_; dsimp only)); at_builtin; refine Kd.N_append_rows (Kd.slice 9 Kd.string) (w0 := w) w.heap.size rfl (.tmp 79) (.tmp 80) 25 34 (.slice none 0 0) 24 rfl Try.underlying25 info34 rfl (by decide) (by omega) v164 y163 l0 _ _ _ (fun k_ => (P0_ k_ ∨ w.heap.size ≤ k_)) (fun k_ => ((fun k_ => (P0_ k_ ∨ w.heap.size ≤ k_))) k_ ∧ some k_ ≠ (v164 : Value).ownBlock) rfl rfl ?aO ?aR (fun _ hk => hk) ?aF ?aB ?aS ?aL ?_; (case aR => exact (by skip; exact Kd.V_F (Kd.V_mono (ok' := (fun k_ => ((fun k_ => (P0_ k_ ∨ w.heap.size ≤ k_))) k_ ∧ some k_ ≠ (v164 : Value).ownBlock)) (HO_0.out) (fun k_ hk => ⟨hk.1, hk.2⟩)))); (case aB => exact (by repeat (first | (with_reducible first | exact HB.out | apply below_alloc | apply pw_below_drewN | apply below_drew1) | exact HB.out))); (case aF => exact (fun k_ hk => (.inr (Nat.le_trans (below_size (by repeat (first | (with_reducible first | exact HB.out | apply below_alloc | apply pw_below_drewN | apply below_drew1) | exact HB.out))) hk)))); (case aO => exact (by (with_reducible repeat (first | apply Kd.N_alloc | apply Kd.N_drewN | apply Kd.N_drew)); exact HO165.out)); (case aS => exact (below_size (by repeat (first | (with_reducible first | exact HB.out | apply below_alloc | apply pw_below_drewN | apply below_drew1) | exact HB.out)))); (case aL => have := LMc36.out; omega); intro v167 w42 ho hb hg hat; rw [← Ny166.out] at ho; have n0_ := Aside0.mk (Kd.V_afterv (ok := (fun k_ => (P0_ k_ ∨ w.heap.size ≤ k_))) (by (with_reducible repeat (first | apply Kd.V_alloc | apply Kd.V_drewN | apply Kd.V_drew)); exact HO_0.out) hg hat); have n1_ := Aside0.mk (hb); have n2_ := Aside0.mk (ho); clear HO_0; clear HB; clear HO165; have HO_0 := n0_; have HB := n1_; have HO168 := n2_; clear n0_ n1_ n2_; clear ho hb hg hat) | ((with_reducible refine gate_dst (N := 85) rfl ?_); (try (refine gate_guard (by rfl) ?_; dsimp only)); refine Kd.R_lit Kd.string _ 9 ?hg (N := 85) ?hd (xs := ([((⟨#[61, 61, 61, 61, 61, 61, 61, 61, 61, 61, 61, 61]⟩ : ByteArray).extract 0 ((ji29) : Int).toNat) ++ a1] : List ByteArray)) (inner := [.string (((⟨#[61, 61, 61, 61, 61, 61, 61, 61, 61, 61, 61, 61]⟩ : ByteArray).extract 0 ((ji29) : Int).toNat) ++ a1)]) (ok := fun _ => True) (okp := fun _ => True) ?hr ?hp (fun _ hk => hk) trivial (Below.refl _ _) (Nat.le_refl _) (by simp) ?_; (case hd => rfl); (case hg => rfl); (case hr => first | (go_simp; done) | (go_simp; rfl)); (case hp => exact (Reps.one (show Kd.M Kd.string _ _ _ (((⟨#[61, 61, 61, 61, 61, 61, 61, 61, 61, 61, 61, 61]⟩ : ByteArray).extract 0 ((ji29) : Int).toNat) ++ a1) [.string (((⟨#[61, 61, 61, 61, 61, 61, 61, 61, 61, 61, 61, 61]⟩ : ByteArray).extract 0 ((ji29) : Int).toNat) ++ a1)] from rfl) (Reps.none _ _))); intro v170 w43 ho44 hb hg_ hnew_; clear hg_ hnew_; (first | rw [← Ny169.out] at ho44 | (simp only [Int.reduceToNat] at ho44; rw [← Ny169.out] at ho44)); have n0_ := Aside0.mk (Kd.V_elder' (by (with_reducible repeat (first | apply Kd.V_alloc | apply Kd.V_drewN | apply Kd.V_drew)); exact HO_0.out) (Kd.R_base ho44) hb); have n1_ := Aside0.mk (Kd.N_elder' (by (with_reducible repeat (first | apply Kd.N_alloc | apply Kd.N_drewN | apply Kd.N_drew)); exact HO168.out) (Kd.R_base ho44) hb); have n2_ := Aside0.mk (Kd.R_lower (Kd.R_newM (M := fun k_ => (w.heap.size ≤ k_)) ho44 (below_size (by repeat (first | (with_reducible first | exact HB.out | apply below_alloc | apply pw_below_drewN | apply below_drew1) | exact HB.out))) (fun k_ h_ => h_)) (below_size (by repeat (first | (with_reducible first | exact HB.out | apply below_alloc | apply pw_below_drewN | apply below_drew1) | exact HB.out)))); have n3_ := Aside0.mk (below_step (by repeat (first | (with_reducible first | exact HB.out | apply below_alloc | apply pw_below_drewN | apply below_drew1) | exact HB.out)) hb); clear HO_0; clear HO168; clear HB; have HO_0 := n0_; have HO168 := n1_; have HO171 := n2_; have HB := n3_; clear n0_ n1_ n2_ n3_; clear hb ho44; obtain ⟨Ao46, co46, eo46⟩ := Kd.R_slice HO171.out; subst eo46) | ((with_reducible refine gate_builtin (b := .append) (xs := #[.tmp 81, .tmp 86]) rfl ?_); (try (refine gate_guard (by rfl) ?_; dsimp only)); at_builtin; refine Kd.N_append (Kd.slice 9 Kd.string) (w0 := w) w.heap.size rfl (.tmp 81) (.tmp 86) 25 34 (.slice none 0 0) 24 rfl Try.underlying25 info34 rfl (by decide) (by omega) v167 y166 y169 [.slice Ao46 y169.length co46] (fun k_ => (P0_ k_ ∨ w.heap.size ≤ k_)) (fun k_ => ((fun k_ => (P0_ k_ ∨ w.heap.size ≤ k_))) k_ ∧ some k_ ≠ (v167 : Value).ownBlock) rfl rfl ?aP (fun _ hk => hk) ?aF ?aO ?aB ?aS ?aL ?_; (case aP => exact (Kd.FK_slice_mk (Kd.R_reads' (Kd.R_mono (ok' := (fun k_ => ((fun k_ => (P0_ k_ ∨ w.heap.size ≤ k_))) k_ ∧ some k_ ≠ (v167 : Value).ownBlock)) (Kd.R_apart' (HO171.out) (Kd.N_typed HO168.out) (by decide)) (fun k_ hk => ⟨(.inr (hk.1.1)), hk.2⟩))).2.1 (Kd.R_F (Kd.R_mono (ok' := (fun k_ => ((fun k_ => (P0_ k_ ∨ w.heap.size ≤ k_))) k_ ∧ some k_ ≠ (v167 : Value).ownBlock)) (Kd.R_apart' (HO171.out) (Kd.N_typed HO168.out) (by decide)) (fun k_ hk => ⟨(.inr (hk.1.1)), hk.2⟩))))); (case aB => exact (by repeat (first | (with_reducible first | exact HB.out | apply below_alloc | apply pw_below_drewN | apply below_drew1) | exact HB.out))); (case aF => exact (fun k_ hk => (.inr (Nat.le_trans (below_size (by repeat (first | (with_reducible first | exact HB.out | apply below_alloc | apply pw_below_drewN | apply below_drew1) | exact HB.out))) hk)))); (case aO => exact (by (with_reducible repeat (first | apply Kd.N_alloc | apply Kd.N_drewN | apply Kd.N_drew)); exact Kd.N_mono HO168.out (fun _ hk => hk.1))); (case aS => exact (below_size (by repeat (first | (with_reducible first | exact HB.out | apply below_alloc | apply pw_below_drewN | apply below_drew1) | exact HB.out)))); (case aL => have := LMc37.out; omega); intro v173 w45 ho hb hg hat; rw [← Ny172.out] at ho; have n0_ := Aside0.mk (Kd.V_afterv (ok := (fun k_ => (P0_ k_ ∨ w.heap.size ≤ k_) ∧ some k_ ≠ (.slice Ao46 y169.length co46 : Value).ownBlock)) (by (with_reducible repeat (first | apply Kd.V_alloc | apply Kd.V_drewN | apply Kd.V_drew)); exact Kd.V_mono HO_0.out (fun _ hk => ⟨⟨hk.1.1, hk.2⟩, hk.1.2⟩)) hg hat); have n1_ := Aside0.mk (hb); have n2_ := Aside0.mk (ho); clear HO_0; clear HB; clear HO168; clear HO171; have HO_0 := n0_; have HB := n1_; have HO174 := n2_; clear n0_ n1_ n2_; clear ho hb hg hat; obtain ⟨Ao47, co47, eo47⟩ := Kd.N_slice HO174.out; subst eo47) | (go_at_call 14; (with_reducible refine (size_Fits.calls k2 (ji29) _ _ y172 t175 _ ?side1 ?side2 A38.out).mono ?_); (case side1 => repeat (first | exact (Kd.N_reads' HO174.out).2.2 | (with_reducible refine Kd.C_alloc ?_ _) | (with_reducible refine Kd.C_drewN ?_ _) | (with_reducible refine Kd.C_drew ?_))); (case side2 => exact (Kd.N_reads' HO174.out).2.1); rintro e w48 ⟨rfl, hb⟩; have n0_ := Aside0.mk (Kd.V_below (by (with_reducible repeat (first | apply Kd.V_alloc | apply Kd.V_drewN | apply Kd.V_drew)); exact HO_0.out) hb); have n1_ := Aside0.mk (Kd.N_below (by (with_reducible repeat (first | apply Kd.N_alloc | apply Kd.N_drewN | apply Kd.N_drew)); exact HO174.out) hb); have n2_ := Aside0.mk (below_step (by repeat (first | (with_reducible first | exact HB.out | apply below_alloc | apply pw_below_drewN | apply below_drew1) | exact HB.out)) hb); clear HO_0; clear HO174; clear HB; have HO_0 := n0_; have HO174 := n1_; have HB := n2_; clear n0_ n1_ n2_; (try clear hb); (try clear hb2); (try clear hk); (try clear hi)))
                            go_ret
                            exact ⟨by first | rfl | (simp [errW_none, errW_some] <;> rfl) | (simp only [← hji29]; first | rfl | (simp [errW_none, errW_some] <;> rfl)) | (simp [*, errW_none, errW_some] <;> rfl), by repeat (first | (with_reducible first | exact HB.out | apply below_alloc | apply pw_below_drewN | apply below_drew1) | exact HB.out)⟩
                          · rw [if_neg c37] at H
                            exact absurd H (by simp)
                        · rw [if_neg c36] at H
                          exact absurd H (by simp)
                      · rw [if_neg c35] at H
                        have c35b0 : decide ((ji29) ≤ t162) = false := decide_eq_false c35
                        clear c35
                        obtain rfl := Option.some.inj H
                        go_wp2_with (first | (go_at_call 9; (with_reducible refine (size_Run.calls (((⟨#[61, 61, 61, 61, 61, 61, 61, 61, 61, 61, 61, 61]⟩ : ByteArray).extract 0 ((ji29) : Int).toNat) ++ a1) t162 _ A34.out).mono ?_); rintro e w49 ⟨rfl, hb⟩; have n0_ := Aside0.mk (Kd.V_below (by (with_reducible repeat (first | apply Kd.V_alloc | apply Kd.V_drewN | apply Kd.V_drew)); exact HO_0.out) hb); have n1_ := Aside0.mk (below_step (by repeat (first | (with_reducible first | exact HB.out | apply below_alloc | apply pw_below_drewN | apply below_drew1) | exact HB.out)) hb); clear HO_0; clear HB; have HO_0 := n0_; have HB := n1_; clear n0_ n1_; (try clear hb); (try clear hb2); (try clear hk); (try clear hi)))
                        go_ret
                        exact ⟨by first | rfl | (simp [errW_none, errW_some] <;> rfl) | (simp only [← hji29]; first | rfl | (simp [errW_none, errW_some] <;> rfl)) | (simp [*, errW_none, errW_some] <;> rfl), by repeat (first | (with_reducible first | exact HB.out | apply below_alloc | apply pw_below_drewN | apply below_drew1) | exact HB.out)⟩
                    · rw [if_neg c33] at H
                      exact absurd H (by simp)
                  · replace c32 := Bool.eq_false_iff.mpr c32
                    subst c32
                    have H1 : (some false) = some r := by rw [if_neg (show ¬ (false = true) by decide)] at H; exact H
                    clear H
                    have H := H1
                    clear H1
                    obtain rfl := Option.some.inj H
                    go_wp2
                    go_ret
                    exact ⟨by first | rfl | (simp [errW_none, errW_some] <;> rfl) | (simp only [← hji29]; first | rfl | (simp [errW_none, errW_some] <;> rfl)) | (simp [*, errW_none, errW_some] <;> rfl), by repeat (first | (with_reducible first | exact HB.out | apply below_alloc | apply pw_below_drewN | apply below_drew1) | exact HB.out)⟩
                · rw [if_neg c31] at H
                  exact absurd H (by simp)
              · rw [if_neg c30] at H
                exact absurd H (by simp)

/-! ### sennitlaw11_SizeMore: function 7 -/
def sennitlaw11_SizeMore.j0 : Nat → List (List ByteArray) → List (List ByteArray) → Bool → Bool → Option (Bool)
  | 0, _, _, _, _ => none
  | k + 1, x0, x1, x5, x15 => if x15 = true then (some x5) else ((some (([] : List (List ByteArray)) : List (List ByteArray))).bind fun y184 => (if y184.length + x0.length < 5864062014805 then ((some (y184 ++ x0 : List (List ByteArray))).bind fun y187 => (if y187.length + x1.length < 5864062014805 then (if x5 = true then ((size_Auto.f k (y187 ++ x1)).bind fun t193 => ((size_Auto.f k x0).bind fun t194 => ((size_Auto.f k x1).bind fun t195 => (some (t193 == (mx t194 t195)))))) else (some false)) else (none))) else (none)))
def sennitlaw11_SizeMore.f (k : Nat) (l0 : List (List ByteArray)) (l1 : List (List ByteArray)) : Option (Bool) := (sennitlaw11_awake.f k).bind fun t181 => ((sennitref06_Few.f k ([] : List ByteArray) l0).bind fun t182 => (if t182 = true then ((sennitref06_Few.f k ([] : List ByteArray) l1).bind fun t183 => (sennitlaw11_SizeMore.j0 k l0 l1 t181 (!t183))) else (sennitlaw11_SizeMore.j0 k l0 l1 t181 true)))
theorem sennitlaw11_SizeMore.mono_l : ∀ k, (∀ y0 y1 y2 y3, LeO (sennitlaw11_SizeMore.j0 k y0 y1 y2 y3) (sennitlaw11_SizeMore.j0 (k + 1) y0 y1 y2 y3))
  | 0 => fun _ _ _ _ r h => by simp [sennitlaw11_SizeMore.j0] at h
  | k + 1 => by
    have ih0 := sennitlaw11_SizeMore.mono_l k
    · intro y0 y1 y2 y3
      unfold sennitlaw11_SizeMore.j0
      repeat' first
      | (with_reducible exact ih0 _ _ _ _)
      | (with_reducible exact sennitlaw11_awake.mono _)
      | (with_reducible exact sennitref06_Few.mono _ _ _)
      | (with_reducible exact size_Auto.mono _ _)
      | (with_reducible exact LeO.refl _)
      | (with_reducible exact LeO.none _)
      | (with_reducible refine LeO.ite ?_ ?_)
      | (with_reducible refine LeO.bind ?_ (fun _ => ?_))
      | exact ih0 _ _ _ _
      | exact sennitlaw11_awake.mono _
      | exact sennitref06_Few.mono _ _ _
      | exact size_Auto.mono _ _
      | exact LeO.none _
      | refine LeO.ite ?_ ?_
      | refine LeO.bind ?_ (fun _ => ?_)
theorem sennitlaw11_SizeMore.mono : ∀ a0 a1 k, LeO (sennitlaw11_SizeMore.f k a0 a1) (sennitlaw11_SizeMore.f (k + 1) a0 a1) := by
  intro a0 a1 k
  have ih0 := sennitlaw11_SizeMore.mono_l k
  unfold sennitlaw11_SizeMore.f
  repeat' first
      | (with_reducible exact ih0 _ _ _ _)
      | (with_reducible exact sennitlaw11_awake.mono _)
      | (with_reducible exact sennitref06_Few.mono _ _ _)
      | (with_reducible exact size_Auto.mono _ _)
      | (with_reducible exact LeO.refl _)
      | (with_reducible exact LeO.none _)
      | (with_reducible refine LeO.ite ?_ ?_)
      | (with_reducible refine LeO.bind ?_ (fun _ => ?_))
      | exact ih0 _ _ _ _
      | exact sennitlaw11_awake.mono _
      | exact sennitref06_Few.mono _ _ _
      | exact size_Auto.mono _ _
      | exact LeO.none _
      | refine LeO.ite ?_ ?_
      | refine LeO.bind ?_ (fun _ => ?_)
set_option maxHeartbeats 8000000 in
set_option maxRecDepth 100000 in
theorem sennitlaw11_SizeMore.calls (k : Nat) (P0_ : Nat → Prop) (A0 : Option Addr) (c0 : Nat) (l0 : List (List ByteArray)) (P1_ : Nat → Prop) (A1 : Option Addr) (c1 : Nat) (l1 : List (List ByteArray)) (r : Bool) (w : World) (hs0 : Kd.V (Kd.slice 9 Kd.string) 34 w w.heap.size (fun k_ => P0_ k_) (.slice A0 l0.length c0) l0) (hs1 : Kd.V (Kd.slice 9 Kd.string) 34 w w.heap.size (fun k_ => P1_ k_) (.slice A1 l1.length c1) l1) (h : sennitlaw11_SizeMore.f k l0 l1 = some r) :
    Calls Try.prog 7 #[.slice A0 l0.length c0, .slice A1 l1.length c1] w fun e w' => e = .returned (.bool r) ∧ Below w.heap.size w w' := by
  have HO0 := Aside0.mk (show Kd.V (Kd.slice 9 Kd.string) 34 w w.heap.size (fun k_ => ((P0_ k_ ∨ P1_ k_) ∨ w.heap.size ≤ k_)) (.slice A0 l0.length c0) l0 from Kd.V_mono hs0 (fun k_ hk => .inl (.inl hk)))
  have HO1 := Aside0.mk (show Kd.V (Kd.slice 9 Kd.string) 34 w w.heap.size (fun k_ => ((P0_ k_ ∨ P1_ k_) ∨ w.heap.size ≤ k_)) (.slice A1 l1.length c1) l1 from Kd.V_mono hs1 (fun k_ hk => .inl (.inr hk)))
  have HB := Aside0.mk (Below.refl w.heap.size w)
  have H : ((sennitlaw11_awake.f k).bind fun t181 => ((sennitref06_Few.f k ([] : List ByteArray) l0).bind fun t182 => (if t182 = true then ((sennitref06_Few.f k ([] : List ByteArray) l1).bind fun t183 => (sennitlaw11_SizeMore.j0 k l0 l1 t181 (!t183))) else (sennitlaw11_SizeMore.j0 k l0 l1 t181 true)))) = some r := h
  clear h
  replace H := Option.bind_eq_some_iff.mp H
  obtain ⟨t181, A30, H⟩ := H
  replace H : ((sennitref06_Few.f k ([] : List ByteArray) l0).bind fun t182 => (if t182 = true then ((sennitref06_Few.f k ([] : List ByteArray) l1).bind fun t183 => (sennitlaw11_SizeMore.j0 k l0 l1 t181 (!t183))) else (sennitlaw11_SizeMore.j0 k l0 l1 t181 true))) = some r := H
  have A3 := Aside0.mk A30
  clear A30
  have HC4 := Aside0.mk H
  clear H
  go_enter Try.func7, Try.ntmps7
  go_upto_region 2 with (first | ((with_reducible refine gate_callee (f := 8) rfl ?_); refine goesL_ (some 7) rfl rfl Try.func8 (by kernel_rfl) rfl #[] rfl (by (try simp only [List.map_toArray, List.map_cons, List.map_nil]); first | done | rfl | (simp only [List.length_drop, List.length_take]; rfl)) ?_; (with_reducible refine (sennitlaw11_awake.calls k  t181 _ A3.out).mono ?_); rintro e w5 ⟨rfl, hb⟩; refine ⟨_, rfl, ?_⟩; have n0_ := Aside0.mk (Kd.V_below (by (with_reducible repeat (first | apply Kd.V_alloc | apply Kd.V_drewN | apply Kd.V_drew)); exact HO0.out) hb); have n1_ := Aside0.mk (Kd.V_below (by (with_reducible repeat (first | apply Kd.V_alloc | apply Kd.V_drewN | apply Kd.V_drew)); exact HO1.out) hb); have n2_ := Aside0.mk (below_step (by repeat (first | (with_reducible first | exact HB.out | apply below_alloc | apply pw_below_drewN | apply below_drew1) | exact HB.out)) hb); clear HO0; clear HO1; clear HB; have HO0 := n0_; have HO1 := n1_; have HB := n2_; clear n0_ n1_ n2_; (try clear hb); (try clear hb2); (try clear hk); (try clear hi)))
  (try simp only [Act.put, List.setIfInBounds_toArray, List.set_cons_zero, List.set_cons_succ])
  go_cut [15] (fun v15 wc => ∃ (kq : Nat) (x15_3 : Bool), v15 = .bool x15_3 ∧ Aside0 (sennitlaw11_SizeMore.j0 kq l0 l1 t181 x15_3 = some r) ∧ Aside0 (kq ≤ k) ∧ Aside0 (Kd.V (Kd.slice 9 Kd.string) 34 wc w.heap.size (fun k_ => ((P0_ k_ ∨ P1_ k_) ∨ w.heap.size ≤ k_)) (.slice A0 l0.length c0) l0) ∧ Aside0 (Kd.V (Kd.slice 9 Kd.string) 34 wc w.heap.size (fun k_ => ((P0_ k_ ∨ P1_ k_) ∨ w.heap.size ≤ k_)) (.slice A1 l1.length c1) l1) ∧ Aside0 (Below w.heap.size w wc))
  case first =>
    have H := HC4.out
    clear HC4
    replace H := Option.bind_eq_some_iff.mp H
    obtain ⟨t182, A60, H⟩ := H
    replace H : (if t182 = true then ((sennitref06_Few.f k ([] : List ByteArray) l1).bind fun t183 => (sennitlaw11_SizeMore.j0 k l0 l1 t181 (!t183))) else (sennitlaw11_SizeMore.j0 k l0 l1 t181 true)) = some r := H
    have A6 := Aside0.mk A60
    clear A60
    by_cases c7 : t182 = true
    · subst c7
      have H1 : ((sennitref06_Few.f k ([] : List ByteArray) l1).bind fun t183 => (sennitlaw11_SizeMore.j0 k l0 l1 t181 (!t183))) = some r := by rw [if_pos rfl] at H; exact H
      clear H
      have H := H1
      clear H1
      replace H := Option.bind_eq_some_iff.mp H
      obtain ⟨t183, A80, H⟩ := H
      replace H : (sennitlaw11_SizeMore.j0 k l0 l1 t181 (!t183)) = some r := H
      have A8 := Aside0.mk A80
      clear A80
      have H' := Aside0.mk H
      clear H
      go_wp2_with (first | ((with_reducible refine gate_callee (f := 11) rfl ?_); refine goesL_ (some 9) rfl rfl Try.func11 (by kernel_rfl) rfl #[.slice none 0 0, .slice A0 l0.length c0] rfl (by (try simp only [List.map_toArray, List.map_cons, List.map_nil]); first | done | rfl | (simp only [List.length_drop, List.length_take]; rfl)) ?_; (refine (sennitref06_Few.calls k _ _ ([] : List ByteArray) _ _ l0 true _ ?side1 ?side2 ?side3 ?side4 A6.out).mono ?_); (case side1 => exact Kd.C_nil _ _); (case side2 => exact Nat.le_refl _); (case side3 => repeat (first | exact (Kd.V_reads' HO0.out).2.2 | (with_reducible refine Kd.C_alloc ?_ _) | (with_reducible refine Kd.C_drewN ?_ _) | (with_reducible refine Kd.C_drew ?_))); (case side4 => exact (Kd.V_reads' HO0.out).2.1); rintro e w' ⟨rfl, ⟨nd, rfl⟩⟩; refine ⟨_, rfl, ?_⟩) | (go_at_call 11; (refine (sennitref06_Few.calls k _ _ ([] : List ByteArray) _ _ l1 t183 _ ?side1 ?side2 ?side3 ?side4 A8.out).mono ?_); (case side1 => exact Kd.C_nil _ _); (case side2 => exact Nat.le_refl _); (case side3 => repeat (first | exact (Kd.V_reads' HO1.out).2.2 | (with_reducible refine Kd.C_alloc ?_ _) | (with_reducible refine Kd.C_drewN ?_ _) | (with_reducible refine Kd.C_drew ?_))); (case side4 => exact (Kd.V_reads' HO1.out).2.1); rintro e w' ⟨rfl, ⟨nd, rfl⟩⟩))
      go_meet
      case rel => exact ⟨_, (!t183), (by first | rfl | (simp; done) | (simp [*]; done)), H', ⟨by first | omega | exact Nat.le_refl _⟩, ⟨by (with_reducible repeat (first | apply Kd.V_alloc | apply Kd.V_drewN | apply Kd.V_drew)); exact HO0.out⟩, ⟨by (with_reducible repeat (first | apply Kd.V_alloc | apply Kd.V_drewN | apply Kd.V_drew)); exact HO1.out⟩, ⟨by repeat (first | (with_reducible first | exact HB.out | apply below_alloc | apply pw_below_drewN | apply below_drew1) | exact HB.out)⟩⟩
    · replace c7 := Bool.eq_false_iff.mpr c7
      subst c7
      have H1 : (sennitlaw11_SizeMore.j0 k l0 l1 t181 true) = some r := by rw [if_neg (show ¬ (false = true) by decide)] at H; exact H
      clear H
      have H := H1
      clear H1
      have H' := Aside0.mk H
      clear H
      go_wp2_with (first | ((with_reducible refine gate_callee (f := 11) rfl ?_); refine goesL_ (some 9) rfl rfl Try.func11 (by kernel_rfl) rfl #[.slice none 0 0, .slice A0 l0.length c0] rfl (by (try simp only [List.map_toArray, List.map_cons, List.map_nil]); first | done | rfl | (simp only [List.length_drop, List.length_take]; rfl)) ?_; (refine (sennitref06_Few.calls k _ _ ([] : List ByteArray) _ _ l0 false _ ?side1 ?side2 ?side3 ?side4 A6.out).mono ?_); (case side1 => exact Kd.C_nil _ _); (case side2 => exact Nat.le_refl _); (case side3 => repeat (first | exact (Kd.V_reads' HO0.out).2.2 | (with_reducible refine Kd.C_alloc ?_ _) | (with_reducible refine Kd.C_drewN ?_ _) | (with_reducible refine Kd.C_drew ?_))); (case side4 => exact (Kd.V_reads' HO0.out).2.1); rintro e w' ⟨rfl, ⟨nd, rfl⟩⟩; refine ⟨_, rfl, ?_⟩))
      go_meet
      case rel => exact ⟨_, (true), (by first | rfl | (simp; done) | (simp [*]; done)), H', ⟨by first | omega | exact Nat.le_refl _⟩, ⟨by (with_reducible repeat (first | apply Kd.V_alloc | apply Kd.V_drewN | apply Kd.V_drew)); exact HO0.out⟩, ⟨by (with_reducible repeat (first | apply Kd.V_alloc | apply Kd.V_drewN | apply Kd.V_drew)); exact HO1.out⟩, ⟨by repeat (first | (with_reducible first | exact HB.out | apply below_alloc | apply pw_below_drewN | apply below_drew1) | exact HB.out)⟩⟩
  case rest =>
    clear HC4
    try clear c1
    try clear p2
    try clear c7
    try clear c8
    obtain ⟨kq, x15_3, rfl, HA, HJ3, HO_0, HO_1, HB⟩ := hcut
    cases kq with
    | zero => exact absurd HA.out (by simp [sennitlaw11_SizeMore.j0])
    | succ kj3 =>
      have H := HA.out
      clear HA
      simp only [sennitlaw11_SizeMore.j0] at H
      by_cases c9 : x15_3 = true
      · subst c9
        have H1 : (some t181) = some r := by rw [if_pos rfl] at H; exact H
        clear H
        have H := H1
        clear H1
        obtain rfl := Option.some.inj H
        go_wp2
        go_ret
        exact ⟨by first | rfl | (simp [errW_none, errW_some] <;> rfl) | (simp [*, errW_none, errW_some] <;> rfl), by repeat (first | (with_reducible first | exact HB.out | apply below_alloc | apply pw_below_drewN | apply below_drew1) | exact HB.out)⟩
      · replace c9 := Bool.eq_false_iff.mpr c9
        subst c9
        have H1 : ((some (([] : List (List ByteArray)) : List (List ByteArray))).bind fun y184 => (if y184.length + l0.length < 5864062014805 then ((some (y184 ++ l0 : List (List ByteArray))).bind fun y187 => (if y187.length + l1.length < 5864062014805 then (if t181 = true then ((size_Auto.f kj3 (y187 ++ l1)).bind fun t193 => ((size_Auto.f kj3 l0).bind fun t194 => ((size_Auto.f kj3 l1).bind fun t195 => (some (t193 == (mx t194 t195)))))) else (some false)) else (none))) else (none))) = some r := by rw [if_neg (show ¬ (false = true) by decide)] at H; exact H
        clear H
        have H := H1
        clear H1
        obtain ⟨y184, hy184⟩ : ∃ y_ : List (List ByteArray), y_ = (([] : List (List ByteArray))) := ⟨_, rfl⟩
        replace H : (if y184.length + l0.length < 5864062014805 then ((some (y184 ++ l0 : List (List ByteArray))).bind fun y187 => (if y187.length + l1.length < 5864062014805 then (if t181 = true then ((size_Auto.f kj3 (y187 ++ l1)).bind fun t193 => ((size_Auto.f kj3 l0).bind fun t194 => ((size_Auto.f kj3 l1).bind fun t195 => (some (t193 == (mx t194 t195)))))) else (some false)) else (none))) else (none)) = some r := by first | (rw [hy184]; with_reducible exact H) | (have H2_ := (Option.bind_some _ _).symm.trans H; rw [hy184]; with_reducible exact H2_) | (have H2_ := (Option.bind_some _ _).symm.trans H; with_reducible exact H2_) | with_reducible exact H | (rw [hy184]; exact H) | exact H
        have Ny184 := Aside0.mk hy184
        clear hy184
        by_cases c10 : y184.length + l0.length < 5864062014805
        · rw [if_pos c10] at H
          have LMc10 := Aside0.mk c10
          clear c10
          obtain ⟨y187, hy187⟩ : ∃ y_ : List (List ByteArray), y_ = (y184 ++ l0) := ⟨_, rfl⟩
          replace H : (if y187.length + l1.length < 5864062014805 then (if t181 = true then ((size_Auto.f kj3 (y187 ++ l1)).bind fun t193 => ((size_Auto.f kj3 l0).bind fun t194 => ((size_Auto.f kj3 l1).bind fun t195 => (some (t193 == (mx t194 t195)))))) else (some false)) else (none)) = some r := by first | (rw [hy187]; with_reducible exact H) | (have H2_ := (Option.bind_some _ _).symm.trans H; rw [hy187]; with_reducible exact H2_) | (have H2_ := (Option.bind_some _ _).symm.trans H; with_reducible exact H2_) | with_reducible exact H | (rw [hy187]; exact H) | exact H
          have Ny187 := Aside0.mk hy187
          clear hy187
          by_cases c11 : y187.length + l1.length < 5864062014805
          · rw [if_pos c11] at H
            have LMc11 := Aside0.mk c11
            clear c11
            obtain ⟨y190, hy190⟩ : ∃ y_ : List (List ByteArray), y_ = (y187 ++ l1) := ⟨_, rfl⟩
            replace H : (if t181 = true then ((size_Auto.f kj3 y190).bind fun t193 => ((size_Auto.f kj3 l0).bind fun t194 => ((size_Auto.f kj3 l1).bind fun t195 => (some (t193 == (mx t194 t195)))))) else (some false)) = some r := by first | (rw [hy190]; with_reducible exact H) | (have H2_ := (Option.bind_some _ _).symm.trans H; rw [hy190]; with_reducible exact H2_) | (have H2_ := (Option.bind_some _ _).symm.trans H; with_reducible exact H2_) | with_reducible exact H | (rw [hy190]; exact H) | exact H
            have Ny190 := Aside0.mk hy190
            clear hy190
            by_cases c12 : t181 = true
            · subst c12
              have H1 : ((size_Auto.f kj3 y190).bind fun t193 => ((size_Auto.f kj3 l0).bind fun t194 => ((size_Auto.f kj3 l1).bind fun t195 => (some (t193 == (mx t194 t195)))))) = some r := by rw [if_pos rfl] at H; exact H
              clear H
              have H := H1
              clear H1
              replace H := Option.bind_eq_some_iff.mp H
              obtain ⟨t193, A130, H⟩ := H
              replace H : ((size_Auto.f kj3 l0).bind fun t194 => ((size_Auto.f kj3 l1).bind fun t195 => (some (t193 == (mx t194 t195))))) = some r := H
              have A13 := Aside0.mk A130
              clear A130
              replace H := Option.bind_eq_some_iff.mp H
              obtain ⟨t194, A140, H⟩ := H
              replace H : ((size_Auto.f kj3 l1).bind fun t195 => (some (t193 == (mx t194 t195)))) = some r := H
              have A14 := Aside0.mk A140
              clear A140
              replace H := Option.bind_eq_some_iff.mp H
              obtain ⟨t195, A150, H⟩ := H
              replace H : (some (t193 == (mx t194 t195))) = some r := H
              have A15 := Aside0.mk A150
              clear A150
              obtain ⟨ji16, hji16⟩ : ∃ j_ : Int, (mx t194 t195) = j_ := ⟨_, rfl⟩
              replace H : (some (t193 == (ji16))) = some r := by first | (rw [hji16] at H; exact H) | (simp only [hji16] at H ⊢; exact H)
              (try rw [hji16] at A13)
              (try rw [hji16] at A14)
              (try rw [hji16] at A15)
              have hji16_ : (if t194 < t195 then t195 else t194) = ji16 := hji16
              obtain rfl := Option.some.inj H
              go_wp2_with (first | ((with_reducible refine gate_dst (N := 17) rfl ?_); (try (refine gate_guard (by rfl) ?_; dsimp only)); refine Kd.N_lit (Kd.slice 9 Kd.string) _ 34 ?hg (N' := 17) ?hd (xs := ([] : List (List ByteArray))) (inner := []) (ok := (fun k_ => ((P0_ k_ ∨ P1_ k_) ∨ w.heap.size ≤ k_))) (okp := (fun k_ => ((P0_ k_ ∨ P1_ k_) ∨ w.heap.size ≤ k_))) ?hr ?hp (fun _ hk => hk) ((show ∀ k_, wc.heap.size ≤ k_ → (fun k_ => ((P0_ k_ ∨ P1_ k_) ∨ w.heap.size ≤ k_)) k_ from fun k_ hk => (.inr (Nat.le_trans (below_size (by repeat (first | (with_reducible first | exact HB.out | apply below_alloc | apply pw_below_drewN | apply below_drew1) | exact HB.out))) hk))) _ (Nat.le_refl _)) (Below.refl _ _) (Nat.le_refl _) (by simp) ?_; (case hd => rfl); (case hg => rfl); (case hr => first | (go_simp; done) | (go_simp; rfl)); (case hp => exact (Reps.none _ _)); intro v185 w17 ho18 hb hg_ hnew_; clear hg_ hnew_; (first | rw [← Ny184.out] at ho18 | (simp only [Int.reduceToNat] at ho18; rw [← Ny184.out] at ho18)); have n0_ := Aside0.mk (Kd.V_elder' (by (with_reducible repeat (first | apply Kd.V_alloc | apply Kd.V_drewN | apply Kd.V_drew)); exact HO_0.out) (Kd.N_base ho18) hb); have n1_ := Aside0.mk (Kd.V_elder' (by (with_reducible repeat (first | apply Kd.V_alloc | apply Kd.V_drewN | apply Kd.V_drew)); exact HO_1.out) (Kd.N_base ho18) hb); have n2_ := Aside0.mk (Kd.N_lower ho18 (below_size (by repeat (first | (with_reducible first | exact HB.out | apply below_alloc | apply pw_below_drewN | apply below_drew1) | exact HB.out)))); have n3_ := Aside0.mk (below_step (by repeat (first | (with_reducible first | exact HB.out | apply below_alloc | apply pw_below_drewN | apply below_drew1) | exact HB.out)) hb); clear HO_0; clear HO_1; clear HB; have HO_0 := n0_; have HO_1 := n1_; have HO186 := n2_; have HB := n3_; clear n0_ n1_ n2_ n3_; clear hb ho18) | ((with_reducible refine gate_builtin (b := .append) (xs := #[.tmp 17, .tmp 18]) rfl ?_); (try (refine gate_guard (by rfl) ?_; dsimp only)); at_builtin; refine Kd.N_append_rows (Kd.slice 9 Kd.string) (w0 := w) w.heap.size rfl (.tmp 17) (.tmp 18) 25 34 (.slice none 0 0) 24 rfl Try.underlying25 info34 rfl (by decide) (by omega) v185 y184 l0 _ _ _ (fun k_ => ((P0_ k_ ∨ P1_ k_) ∨ w.heap.size ≤ k_)) (fun k_ => ((fun k_ => ((P0_ k_ ∨ P1_ k_) ∨ w.heap.size ≤ k_))) k_ ∧ some k_ ≠ (v185 : Value).ownBlock) rfl rfl ?aO ?aR (fun _ hk => hk) ?aF ?aB ?aS ?aL ?_; (case aR => exact (by skip; exact Kd.V_F (Kd.V_mono (ok' := (fun k_ => ((fun k_ => ((P0_ k_ ∨ P1_ k_) ∨ w.heap.size ≤ k_))) k_ ∧ some k_ ≠ (v185 : Value).ownBlock)) (HO_0.out) (fun k_ hk => ⟨hk.1, hk.2⟩)))); (case aB => exact (by repeat (first | (with_reducible first | exact HB.out | apply below_alloc | apply pw_below_drewN | apply below_drew1) | exact HB.out))); (case aF => exact (fun k_ hk => (.inr (Nat.le_trans (below_size (by repeat (first | (with_reducible first | exact HB.out | apply below_alloc | apply pw_below_drewN | apply below_drew1) | exact HB.out))) hk)))); (case aO => exact (by (with_reducible repeat (first | apply Kd.N_alloc | apply Kd.N_drewN | apply Kd.N_drew)); exact HO186.out)); (case aS => exact (below_size (by repeat (first | (with_reducible first | exact HB.out | apply below_alloc | apply pw_below_drewN | apply below_drew1) | exact HB.out)))); (case aL => have := LMc10.out; omega); intro v188 w19 ho hb hg hat; rw [← Ny187.out] at ho; have n0_ := Aside0.mk (Kd.V_afterv (ok := (fun k_ => ((P0_ k_ ∨ P1_ k_) ∨ w.heap.size ≤ k_))) (by (with_reducible repeat (first | apply Kd.V_alloc | apply Kd.V_drewN | apply Kd.V_drew)); exact HO_0.out) hg hat); have n1_ := Aside0.mk (Kd.V_afterv (ok := (fun k_ => ((P0_ k_ ∨ P1_ k_) ∨ w.heap.size ≤ k_))) (by (with_reducible repeat (first | apply Kd.V_alloc | apply Kd.V_drewN | apply Kd.V_drew)); exact HO_1.out) hg hat); have n2_ := Aside0.mk (hb); have n3_ := Aside0.mk (ho); clear HO_0; clear HO_1; clear HB; clear HO186; have HO_0 := n0_; have HO_1 := n1_; have HB := n2_; have HO189 := n3_; clear n0_ n1_ n2_ n3_; clear ho hb hg hat) | ((with_reducible refine gate_builtin (b := .append) (xs := #[.tmp 19, .tmp 20]) rfl ?_); (try (refine gate_guard (by rfl) ?_; dsimp only)); at_builtin; refine Kd.N_append_rows (Kd.slice 9 Kd.string) (w0 := w) w.heap.size rfl (.tmp 19) (.tmp 20) 25 34 (.slice none 0 0) 24 rfl Try.underlying25 info34 rfl (by decide) (by omega) v188 y187 l1 _ _ _ (fun k_ => ((P0_ k_ ∨ P1_ k_) ∨ w.heap.size ≤ k_)) (fun k_ => ((fun k_ => ((P0_ k_ ∨ P1_ k_) ∨ w.heap.size ≤ k_))) k_ ∧ some k_ ≠ (v188 : Value).ownBlock) rfl rfl ?aO ?aR (fun _ hk => hk) ?aF ?aB ?aS ?aL ?_; (case aR => exact (by skip; exact Kd.V_F (Kd.V_mono (ok' := (fun k_ => ((fun k_ => ((P0_ k_ ∨ P1_ k_) ∨ w.heap.size ≤ k_))) k_ ∧ some k_ ≠ (v188 : Value).ownBlock)) (HO_1.out) (fun k_ hk => ⟨hk.1, hk.2⟩)))); (case aB => exact (by repeat (first | (with_reducible first | exact HB.out | apply below_alloc | apply pw_below_drewN | apply below_drew1) | exact HB.out))); (case aF => exact (fun k_ hk => (.inr (Nat.le_trans (below_size (by repeat (first | (with_reducible first | exact HB.out | apply below_alloc | apply pw_below_drewN | apply below_drew1) | exact HB.out))) hk)))); (case aO => exact (by (with_reducible repeat (first | apply Kd.N_alloc | apply Kd.N_drewN | apply Kd.N_drew)); exact HO189.out)); (case aS => exact (below_size (by repeat (first | (with_reducible first | exact HB.out | apply below_alloc | apply pw_below_drewN | apply below_drew1) | exact HB.out)))); (case aL => have := LMc11.out; omega); intro v191 w20 ho hb hg hat; rw [← Ny190.out] at ho; have n0_ := Aside0.mk (Kd.V_afterv (ok := (fun k_ => ((P0_ k_ ∨ P1_ k_) ∨ w.heap.size ≤ k_))) (by (with_reducible repeat (first | apply Kd.V_alloc | apply Kd.V_drewN | apply Kd.V_drew)); exact HO_0.out) hg hat); have n1_ := Aside0.mk (Kd.V_afterv (ok := (fun k_ => ((P0_ k_ ∨ P1_ k_) ∨ w.heap.size ≤ k_))) (by (with_reducible repeat (first | apply Kd.V_alloc | apply Kd.V_drewN | apply Kd.V_drew)); exact HO_1.out) hg hat); have n2_ := Aside0.mk (hb); have n3_ := Aside0.mk (ho); clear HO_0; clear HO_1; clear HB; clear HO189; have HO_0 := n0_; have HO_1 := n1_; have HB := n2_; have HO192 := n3_; clear n0_ n1_ n2_ n3_; clear ho hb hg hat; obtain ⟨Ao21, co21, eo21⟩ := Kd.N_slice HO192.out; subst eo21) | (go_at_call 12; (with_reducible refine (size_Auto.calls kj3 _ _ y190 t193 _ ?side1 ?side2 A13.out).mono ?_); (case side1 => repeat (first | exact (Kd.N_reads' HO192.out).2.2 | (with_reducible refine Kd.C_alloc ?_ _) | (with_reducible refine Kd.C_drewN ?_ _) | (with_reducible refine Kd.C_drew ?_))); (case side2 => exact (Kd.N_reads' HO192.out).2.1); rintro e w22 ⟨rfl, hb⟩; have n0_ := Aside0.mk (Kd.V_below (by (with_reducible repeat (first | apply Kd.V_alloc | apply Kd.V_drewN | apply Kd.V_drew)); exact HO_0.out) hb); have n1_ := Aside0.mk (Kd.V_below (by (with_reducible repeat (first | apply Kd.V_alloc | apply Kd.V_drewN | apply Kd.V_drew)); exact HO_1.out) hb); have n2_ := Aside0.mk (Kd.N_below (by (with_reducible repeat (first | apply Kd.N_alloc | apply Kd.N_drewN | apply Kd.N_drew)); exact HO192.out) hb); have n3_ := Aside0.mk (below_step (by repeat (first | (with_reducible first | exact HB.out | apply below_alloc | apply pw_below_drewN | apply below_drew1) | exact HB.out)) hb); clear HO_0; clear HO_1; clear HO192; clear HB; have HO_0 := n0_; have HO_1 := n1_; have HO192 := n2_; have HB := n3_; clear n0_ n1_ n2_ n3_; (try clear hb); (try clear hb2); (try clear hk); (try clear hi)) | (go_at_call 12; (with_reducible refine (size_Auto.calls kj3 _ _ l0 t194 _ ?side1 ?side2 A14.out).mono ?_); (case side1 => repeat (first | exact (Kd.V_reads' HO_0.out).2.2 | (with_reducible refine Kd.C_alloc ?_ _) | (with_reducible refine Kd.C_drewN ?_ _) | (with_reducible refine Kd.C_drew ?_))); (case side2 => exact (Kd.V_reads' HO_0.out).2.1); rintro e w23 ⟨rfl, hb⟩; have n0_ := Aside0.mk (Kd.V_below (by (with_reducible repeat (first | apply Kd.V_alloc | apply Kd.V_drewN | apply Kd.V_drew)); exact HO_0.out) hb); have n1_ := Aside0.mk (Kd.V_below (by (with_reducible repeat (first | apply Kd.V_alloc | apply Kd.V_drewN | apply Kd.V_drew)); exact HO_1.out) hb); have n2_ := Aside0.mk (Kd.N_below (by (with_reducible repeat (first | apply Kd.N_alloc | apply Kd.N_drewN | apply Kd.N_drew)); exact HO192.out) hb); have n3_ := Aside0.mk (below_step (by repeat (first | (with_reducible first | exact HB.out | apply below_alloc | apply pw_below_drewN | apply below_drew1) | exact HB.out)) hb); clear HO_0; clear HO_1; clear HO192; clear HB; have HO_0 := n0_; have HO_1 := n1_; have HO192 := n2_; have HB := n3_; clear n0_ n1_ n2_ n3_; (try clear hb); (try clear hb2); (try clear hk); (try clear hi)) | (go_at_call 12; (with_reducible refine (size_Auto.calls kj3 _ _ l1 t195 _ ?side1 ?side2 A15.out).mono ?_); (case side1 => repeat (first | exact (Kd.V_reads' HO_1.out).2.2 | (with_reducible refine Kd.C_alloc ?_ _) | (with_reducible refine Kd.C_drewN ?_ _) | (with_reducible refine Kd.C_drew ?_))); (case side2 => exact (Kd.V_reads' HO_1.out).2.1); rintro e w24 ⟨rfl, hb⟩; have n0_ := Aside0.mk (Kd.V_below (by (with_reducible repeat (first | apply Kd.V_alloc | apply Kd.V_drewN | apply Kd.V_drew)); exact HO_0.out) hb); have n1_ := Aside0.mk (Kd.V_below (by (with_reducible repeat (first | apply Kd.V_alloc | apply Kd.V_drewN | apply Kd.V_drew)); exact HO_1.out) hb); have n2_ := Aside0.mk (Kd.N_below (by (with_reducible repeat (first | apply Kd.N_alloc | apply Kd.N_drewN | apply Kd.N_drew)); exact HO192.out) hb); have n3_ := Aside0.mk (below_step (by repeat (first | (with_reducible first | exact HB.out | apply below_alloc | apply pw_below_drewN | apply below_drew1) | exact HB.out)) hb); clear HO_0; clear HO_1; clear HO192; clear HB; have HO_0 := n0_; have HO_1 := n1_; have HO192 := n2_; have HB := n3_; clear n0_ n1_ n2_ n3_; (try clear hb); (try clear hb2); (try clear hk); (try clear hi)))
              go_ret
              exact ⟨by first | rfl | (simp [errW_none, errW_some] <;> rfl) | (simp only [← hji16]; first | rfl | (simp [errW_none, errW_some] <;> rfl)) | (simp [*, errW_none, errW_some] <;> rfl), by repeat (first | (with_reducible first | exact HB.out | apply below_alloc | apply pw_below_drewN | apply below_drew1) | exact HB.out)⟩
            · replace c12 := Bool.eq_false_iff.mpr c12
              subst c12
              have H1 : (some false) = some r := by rw [if_neg (show ¬ (false = true) by decide)] at H; exact H
              clear H
              have H := H1
              clear H1
              obtain rfl := Option.some.inj H
              go_wp2_with (first | ((with_reducible refine gate_dst (N := 17) rfl ?_); (try (refine gate_guard (by rfl) ?_; dsimp only)); refine Kd.N_lit (Kd.slice 9 Kd.string) _ 34 ?hg (N' := 17) ?hd (xs := ([] : List (List ByteArray))) (inner := []) (ok := (fun k_ => ((P0_ k_ ∨ P1_ k_) ∨ w.heap.size ≤ k_))) (okp := (fun k_ => ((P0_ k_ ∨ P1_ k_) ∨ w.heap.size ≤ k_))) ?hr ?hp (fun _ hk => hk) ((show ∀ k_, wc.heap.size ≤ k_ → (fun k_ => ((P0_ k_ ∨ P1_ k_) ∨ w.heap.size ≤ k_)) k_ from fun k_ hk => (.inr (Nat.le_trans (below_size (by repeat (first | (with_reducible first | exact HB.out | apply below_alloc | apply pw_below_drewN | apply below_drew1) | exact HB.out))) hk))) _ (Nat.le_refl _)) (Below.refl _ _) (Nat.le_refl _) (by simp) ?_; (case hd => rfl); (case hg => rfl); (case hr => first | (go_simp; done) | (go_simp; rfl)); (case hp => exact (Reps.none _ _)); intro v185 w25 ho26 hb hg_ hnew_; clear hg_ hnew_; (first | rw [← Ny184.out] at ho26 | (simp only [Int.reduceToNat] at ho26; rw [← Ny184.out] at ho26)); have n0_ := Aside0.mk (Kd.V_elder' (by (with_reducible repeat (first | apply Kd.V_alloc | apply Kd.V_drewN | apply Kd.V_drew)); exact HO_0.out) (Kd.N_base ho26) hb); have n1_ := Aside0.mk (Kd.V_elder' (by (with_reducible repeat (first | apply Kd.V_alloc | apply Kd.V_drewN | apply Kd.V_drew)); exact HO_1.out) (Kd.N_base ho26) hb); have n2_ := Aside0.mk (Kd.N_lower ho26 (below_size (by repeat (first | (with_reducible first | exact HB.out | apply below_alloc | apply pw_below_drewN | apply below_drew1) | exact HB.out)))); have n3_ := Aside0.mk (below_step (by repeat (first | (with_reducible first | exact HB.out | apply below_alloc | apply pw_below_drewN | apply below_drew1) | exact HB.out)) hb); clear HO_0; clear HO_1; clear HB; have HO_0 := n0_; have HO_1 := n1_; have HO186 := n2_; have HB := n3_; clear n0_ n1_ n2_ n3_; clear hb ho26) | ((with_reducible refine gate_builtin (b := .append) (xs := #[.tmp 17, .tmp 18]) rfl ?_); (try (refine gate_guard (by rfl) ?_; dsimp only)); at_builtin; refine Kd.N_append_rows (Kd.slice 9 Kd.string) (w0 := w) w.heap.size rfl (.tmp 17) (.tmp 18) 25 34 (.slice none 0 0) 24 rfl Try.underlying25 info34 rfl (by decide) (by omega) v185 y184 l0 _ _ _ (fun k_ => ((P0_ k_ ∨ P1_ k_) ∨ w.heap.size ≤ k_)) (fun k_ => ((fun k_ => ((P0_ k_ ∨ P1_ k_) ∨ w.heap.size ≤ k_))) k_ ∧ some k_ ≠ (v185 : Value).ownBlock) rfl rfl ?aO ?aR (fun _ hk => hk) ?aF ?aB ?aS ?aL ?_; (case aR => exact (by skip; exact Kd.V_F (Kd.V_mono (ok' := (fun k_ => ((fun k_ => ((P0_ k_ ∨ P1_ k_) ∨ w.heap.size ≤ k_))) k_ ∧ some k_ ≠ (v185 : Value).ownBlock)) (HO_0.out) (fun k_ hk => ⟨hk.1, hk.2⟩)))); (case aB => exact (by repeat (first | (with_reducible first | exact HB.out | apply below_alloc | apply pw_below_drewN | apply below_drew1) | exact HB.out))); (case aF => exact (fun k_ hk => (.inr (Nat.le_trans (below_size (by repeat (first | (with_reducible first | exact HB.out | apply below_alloc | apply pw_below_drewN | apply below_drew1) | exact HB.out))) hk)))); (case aO => exact (by (with_reducible repeat (first | apply Kd.N_alloc | apply Kd.N_drewN | apply Kd.N_drew)); exact HO186.out)); (case aS => exact (below_size (by repeat (first | (with_reducible first | exact HB.out | apply below_alloc | apply pw_below_drewN | apply below_drew1) | exact HB.out)))); (case aL => have := LMc10.out; omega); intro v188 w27 ho hb hg hat; rw [← Ny187.out] at ho; have n0_ := Aside0.mk (Kd.V_afterv (ok := (fun k_ => ((P0_ k_ ∨ P1_ k_) ∨ w.heap.size ≤ k_))) (by (with_reducible repeat (first | apply Kd.V_alloc | apply Kd.V_drewN | apply Kd.V_drew)); exact HO_0.out) hg hat); have n1_ := Aside0.mk (Kd.V_afterv (ok := (fun k_ => ((P0_ k_ ∨ P1_ k_) ∨ w.heap.size ≤ k_))) (by (with_reducible repeat (first | apply Kd.V_alloc | apply Kd.V_drewN | apply Kd.V_drew)); exact HO_1.out) hg hat); have n2_ := Aside0.mk (hb); have n3_ := Aside0.mk (ho); clear HO_0; clear HO_1; clear HB; clear HO186; have HO_0 := n0_; have HO_1 := n1_; have HB := n2_; have HO189 := n3_; clear n0_ n1_ n2_ n3_; clear ho hb hg hat) | ((with_reducible refine gate_builtin (b := .append) (xs := #[.tmp 19, .tmp 20]) rfl ?_); (try (refine gate_guard (by rfl) ?_; dsimp only)); at_builtin; refine Kd.N_append_rows (Kd.slice 9 Kd.string) (w0 := w) w.heap.size rfl (.tmp 19) (.tmp 20) 25 34 (.slice none 0 0) 24 rfl Try.underlying25 info34 rfl (by decide) (by omega) v188 y187 l1 _ _ _ (fun k_ => ((P0_ k_ ∨ P1_ k_) ∨ w.heap.size ≤ k_)) (fun k_ => ((fun k_ => ((P0_ k_ ∨ P1_ k_) ∨ w.heap.size ≤ k_))) k_ ∧ some k_ ≠ (v188 : Value).ownBlock) rfl rfl ?aO ?aR (fun _ hk => hk) ?aF ?aB ?aS ?aL ?_; (case aR => exact (by skip; exact Kd.V_F (Kd.V_mono (ok' := (fun k_ => ((fun k_ => ((P0_ k_ ∨ P1_ k_) ∨ w.heap.size ≤ k_))) k_ ∧ some k_ ≠ (v188 : Value).ownBlock)) (HO_1.out) (fun k_ hk => ⟨hk.1, hk.2⟩)))); (case aB => exact (by repeat (first | (with_reducible first | exact HB.out | apply below_alloc | apply pw_below_drewN | apply below_drew1) | exact HB.out))); (case aF => exact (fun k_ hk => (.inr (Nat.le_trans (below_size (by repeat (first | (with_reducible first | exact HB.out | apply below_alloc | apply pw_below_drewN | apply below_drew1) | exact HB.out))) hk)))); (case aO => exact (by (with_reducible repeat (first | apply Kd.N_alloc | apply Kd.N_drewN | apply Kd.N_drew)); exact HO189.out)); (case aS => exact (below_size (by repeat (first | (with_reducible first | exact HB.out | apply below_alloc | apply pw_below_drewN | apply below_drew1) | exact HB.out)))); (case aL => have := LMc11.out; omega); intro v191 w28 ho hb hg hat; rw [← Ny190.out] at ho; have n0_ := Aside0.mk (Kd.V_afterv (ok := (fun k_ => ((P0_ k_ ∨ P1_ k_) ∨ w.heap.size ≤ k_))) (by (with_reducible repeat (first | apply Kd.V_alloc | apply Kd.V_drewN | apply Kd.V_drew)); exact HO_0.out) hg hat); have n1_ := Aside0.mk (Kd.V_afterv (ok := (fun k_ => ((P0_ k_ ∨ P1_ k_) ∨ w.heap.size ≤ k_))) (by (with_reducible repeat (first | apply Kd.V_alloc | apply Kd.V_drewN | apply Kd.V_drew)); exact HO_1.out) hg hat); have n2_ := Aside0.mk (hb); have n3_ := Aside0.mk (ho); clear HO_0; clear HO_1; clear HB; clear HO189; have HO_0 := n0_; have HO_1 := n1_; have HB := n2_; have HO192 := n3_; clear n0_ n1_ n2_ n3_; clear ho hb hg hat))
              go_ret
              exact ⟨by first | rfl | (simp [errW_none, errW_some] <;> rfl) | (simp [*, errW_none, errW_some] <;> rfl), by repeat (first | (with_reducible first | exact HB.out | apply below_alloc | apply pw_below_drewN | apply below_drew1) | exact HB.out)⟩
          · rw [if_neg c11] at H
            exact absurd H (by simp)
        · rw [if_neg c10] at H
          exact absurd H (by simp)

end Go.Proofs.Ythdehnegfgkljaa.XSize
