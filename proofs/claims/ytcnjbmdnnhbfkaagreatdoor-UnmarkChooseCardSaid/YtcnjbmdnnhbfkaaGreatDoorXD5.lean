-- Printed by this session's xprint.sh (a patched copy of the kit's print program). Not trusted: Lean checks it.
import Derived.Test.YtcnjbmdnnhbfkaaGreatDoorXD0
import Derived.Test.YtcnjbmdnnhbfkaaGreatDoorXD2
import Derived.Test.YtcnjbmdnnhbfkaaGreatDoorXD3
import Derived.Test.YtcnjbmdnnhbfkaaGreatDoorXD4
import Derived.Test.YtcnjbmdnnhbfkaaGreatDoorRef2
namespace Go.Proofs.YtcnjbmdnnhbfkaaGreatDoor.XD
open Go.RowKit Go.Proofs.YtcnjbmdnnhbfkaaGreatDoor.Ref Go.Proofs.YtcnjbmdnnhbfkaaGreatDoorW.PrintWords Go.Proofs.YtcnjbmdnnhbfkaaGreatDoorW.PrintLast Go.Proofs.YtcnjbmdnnhbfkaaGreatDoorW.PrintMore
attribute [local go_sem] max2_int min2_int max_two min_two max_three min_three max_four min_four   -- for this text's walks alone
set_option linter.unusedVariables false
set_option linter.unusedSimpArgs false
/-! ### sennitref12_wrong: function 34 -/
mutual
def sennitref12_wrong.j0 : Nat → List (S36) → Int → Int → Bool → Option (Int)
 | 0, _, _, _, _ => none
 | k + 1, x0, x1, x2, x21 => if x21 = true then (some 1) else (sennitref12_wrong.l0 k x0 x1 x2 0)
def sennitref12_wrong.l0 : Nat → List (S36) → Int → Int → Int → Option (Int)
 | 0, _, _, _, _ => none
 | k + 1, x0, x1, x2, x7 => if x7 < (x0.length : Int) then (if 0 ≤ x7 then (if (rd_T36 x0 x7).f0 = true then (if (((rd_T36 x0 x7).f3).length : Int) = 0 then (sennitref12_wrong.j2 k x0 x1 x2 x7 true) else (sennitref12_wrong.j2 k x0 x1 x2 x7 (decide ((((rd_T36 x0 x7).f3).length : Int) > 16)))) else (sennitref12_wrong.j2 k x0 x1 x2 x7 false)) else (none)) else ((sennitref12_Form.f k x0).bind fun t183 => (if t183 = true then (if x1 = 3 then ((sennitref10_Zeal.f x0).bind fun t184 => ((sennitref12_Form.f k t184).bind fun t187 => (sennitref12_wrong.j3 k x0 x2 (!t187)))) else (sennitref12_wrong.j3 k x0 x2 false)) else (sennitref12_wrong.j3 k x0 x2 true)))
def sennitref12_wrong.j2 : Nat → List (S36) → Int → Int → Int → Bool → Option (Int)
 | 0, _, _, _, _, _ => none
 | k + 1, x0, x1, x2, x7, x50 => if x50 = true then (some 1) else (sennitref12_wrong.l0 k x0 x1 x2 (wrap64 (x7 + 1)))
def sennitref12_wrong.j3 : Nat → List (S36) → Int → Bool → Option (Int)
 | 0, _, _, _ => none
 | k + 1, x0, x2, x63 => if x63 = true then (some 2) else ((sennitref12_Lists.f k x0).bind fun t188 => ((sennitref11_Fits.f k x2 t188).bind fun t191 => (if t191 = true then (some 0) else (some 6))))
end
def sennitref12_wrong.f (k : Nat) (l0 : List (S36)) (a1 : Int) (a2 : Int) : Option (Int) := if a1 < 1 then (sennitref12_wrong.j0 k l0 a1 a2 true) else (if a1 > 3 then (sennitref12_wrong.j0 k l0 a1 a2 true) else (if a2 < 1 then (sennitref12_wrong.j0 k l0 a1 a2 true) else (sennitref12_wrong.j0 k l0 a1 a2 (decide (a2 > 4096)))))
set_option maxHeartbeats 8000000 in
set_option maxRecDepth 100000 in
theorem sennitref12_wrong.calls (k : Nat) (A0 : Option Addr) (c0 : Nat) (l0 : List (S36)) (a1 : Int) (a2 : Int) (r : Int) (w : World) (hr0 : Kd.C k36 w A0 l0.length l0) (hc0 : l0.length ≤ c0) (h : sennitref12_wrong.f k l0 a1 a2 = some r) :
  Calls Tryz.prog 34 #[.slice A0 l0.length c0, .int .i64 a1, .int .i64 a2] w fun e w' => e = .returned (.int .i64 r) ∧ Below w.heap.size w w' := by
 have HR0 := Aside0.mk hr0
 have HC0 := Aside0.mk hc0
 clear hr0 hc0
 have HB := Aside0.mk (Below.refl w.heap.size w)
 have H : (if a1 < 1 then (sennitref12_wrong.j0 k l0 a1 a2 true) else (if a1 > 3 then (sennitref12_wrong.j0 k l0 a1 a2 true) else (if a2 < 1 then (sennitref12_wrong.j0 k l0 a1 a2 true) else (sennitref12_wrong.j0 k l0 a1 a2 (decide (a2 > 4096)))))) = some r := h
 clear h
 have HC4 := Aside0.mk H
 clear H
 go_enter Tryz.func34, Tryz.ntmps34
 go_upto_region 1 with (fail)
 go_cut [21] (fun v21 wc => ∃ (kq : Nat) (x21_3 : Bool), v21 = .bool x21_3 ∧ Aside0 (sennitref12_wrong.j0 kq l0 a1 a2 x21_3 = some r) ∧ Aside0 (kq ≤ k) ∧ Aside0 (Below w.heap.size w wc))
 case first =>
  have H := HC4.out
  clear HC4
  by_cases c5 : a1 < 1
  ·rw [if_pos c5] at H
   have c5b0 : decide (a1 < 1) = true := decide_eq_true c5
   clear c5
   (first | rw [c5b0] | (simp only [i64_w, i32_w]; rw [c5b0]) | skip)
   have H' := Aside0.mk H
   clear H
   go_wp2
   go_meet
   case rel => exact ⟨_, (true), (by first | rfl | (simp; done) | (simp [*]; done)), H', ⟨by first | omega | exact Nat.le_refl _⟩, ⟨by repeat (first | (with_reducible first | exact HB.out | apply below_alloc | apply pw_below_drewN | apply below_drew1) | exact HB.out)⟩⟩
  ·rw [if_neg c5] at H
   have c5b0 : decide (a1 < 1) = false := decide_eq_false c5
   clear c5
   (first | rw [c5b0] | (simp only [i64_w, i32_w]; rw [c5b0]) | skip)
   by_cases c6 : a1 > 3
   ·rw [if_pos c6] at H
    have c6b0 : decide (3 < a1) = true := decide_eq_true c6
    clear c6
    have H' := Aside0.mk H
    clear H
    go_wp2
    go_meet
    case rel => exact ⟨_, (true), (by first | rfl | (simp; done) | (simp [*]; done)), H', ⟨by first | omega | exact Nat.le_refl _⟩, ⟨by repeat (first | (with_reducible first | exact HB.out | apply below_alloc | apply pw_below_drewN | apply below_drew1) | exact HB.out)⟩⟩
   ·rw [if_neg c6] at H
    have c6b0 : decide (3 < a1) = false := decide_eq_false c6
    clear c6
    by_cases c7 : a2 < 1
    ·rw [if_pos c7] at H
     have c7b0 : decide (a2 < 1) = true := decide_eq_true c7
     clear c7
     have H' := Aside0.mk H
     clear H
     go_wp2
     go_meet
     case rel => exact ⟨_, (true), (by first | rfl | (simp; done) | (simp [*]; done)), H', ⟨by first | omega | exact Nat.le_refl _⟩, ⟨by repeat (first | (with_reducible first | exact HB.out | apply below_alloc | apply pw_below_drewN | apply below_drew1) | exact HB.out)⟩⟩
    ·rw [if_neg c7] at H
     have c7b0 : decide (a2 < 1) = false := decide_eq_false c7
     clear c7
     have H' := Aside0.mk H
     clear H
     go_wp2
     go_meet
     case rel => exact ⟨_, (decide (a2 > 4096)), (by first | rfl | (simp; done) | (simp [*]; done)), H', ⟨by first | omega | exact Nat.le_refl _⟩, ⟨by repeat (first | (with_reducible first | exact HB.out | apply below_alloc | apply pw_below_drewN | apply below_drew1) | exact HB.out)⟩⟩
 case rest =>
  clear HC4
  try clear p2
  try clear c3
  try clear c5
  try clear c5b0
  try clear c6
  try clear c6b0
  try clear c7
  try clear c7b0
  obtain ⟨kq, x21_3, rfl, HA, HJ3, HB⟩ := hcut
  cases kq with
  | zero => exact absurd HA.out (by simp [sennitref12_wrong.j0])
  | succ kj3 =>
   have H := HA.out
   clear HA
   simp only [sennitref12_wrong.j0] at H
   by_cases c8 : x21_3 = true
   ·subst c8
    have H1 : (some 1) = some r := by rw [if_pos rfl] at H; exact H
    clear H
    have H := H1
    clear H1
    obtain rfl := Option.some.inj H
    go_wp2
    go_ret
    exact ⟨by first | rfl | (simp [errW_none, errW_some] <;> rfl) | (simp [*, errW_none, errW_some] <;> rfl), by repeat (first | (with_reducible first | exact HB.out | apply below_alloc | apply pw_below_drewN | apply below_drew1) | exact HB.out)⟩
   ·replace c8 := Bool.eq_false_iff.mpr c8
    subst c8
    have H1 : (sennitref12_wrong.l0 kj3 l0 a1 a2 0) = some r := by rw [if_neg (show ¬ (false = true) by decide)] at H; exact H
    clear H
    have H := H1
    clear H1
    have H' := Aside0.mk H
    clear H
    go_wp2
    go_loopg [7] kj3 (fun kq v7 w' => ∃ (x7_2 : Int), v7 = .int .i64 x7_2 ∧ Aside0 (sennitref12_wrong.l0 kq l0 a1 a2 x7_2 = some r) ∧ Aside0 (kq ≤ kj3) ∧ Aside0 (Below w.heap.size w w'))
    case atStart => exact ⟨(0), (by first | rfl | (simp; done) | (simp [*]; done)), H', ⟨Nat.le_refl _⟩, ⟨by repeat (first | (with_reducible first | exact HB.out | apply below_alloc | apply pw_below_drewN | apply below_drew1) | exact HB.out)⟩⟩
    case round =>
     clear H'
     try clear p2
     try clear c3
     try clear c5
     try clear c5b0
     try clear c6
     try clear c6b0
     try clear c7
     try clear c7b0
     try clear c8
     try clear p2
     obtain ⟨x7_2, rfl, HA, HK2, HB⟩ := hrel
     cases gk with
     | zero => exact absurd HA.out (by simp [sennitref12_wrong.l0])
     | succ k2 =>
      have H := HA.out
      clear HA
      simp only [sennitref12_wrong.l0] at H
      by_cases c9 : x7_2 < (l0.length : Int)
      ·rw [if_pos c9] at H
       have c9b0 : decide (x7_2 < (l0.length : Int)) = true := decide_eq_true c9
       clear c9
       have HC10 := Aside0.mk H
       clear H
       go_upto_region 6 with (fail)
       go_cut [50] (fun v50 wc => ∃ (kq : Nat) (x50_9 : Bool), v50 = .bool x50_9 ∧ Aside0 (sennitref12_wrong.j2 kq l0 a1 a2 x7_2 x50_9 = some r) ∧ Aside0 (kq ≤ k2) ∧ Aside0 (Below w.heap.size w wc))
       case first =>
        have H := HC10.out
        clear HC10
        by_cases c11 : 0 ≤ x7_2
        ·rw [if_pos c11] at H
         have c11b0 : decide (0 ≤ x7_2) = true := decide_eq_true c11
         clear c11
         (first | rw [c11b0] | (simp only [i64_w, i32_w]; rw [c11b0]) | skip)
         obtain ⟨bq12, hbq12⟩ : ∃ b_ : Bool, b_ = ((rd_T36 l0 x7_2).f0) := ⟨_, rfl⟩
         replace H : (if bq12 = true then (if (((rd_T36 l0 x7_2).f3).length : Int) = 0 then (sennitref12_wrong.j2 k2 l0 a1 a2 x7_2 true) else (sennitref12_wrong.j2 k2 l0 a1 a2 x7_2 (decide ((((rd_T36 l0 x7_2).f3).length : Int) > 16)))) else (sennitref12_wrong.j2 k2 l0 a1 a2 x7_2 false)) = some r := by rw [← hbq12] at H; exact H
         have Nbq12 := Aside0.mk hbq12
         clear hbq12
         by_cases c13 : bq12 = true
         ·subst c13
          have H1 : (if (((rd_T36 l0 x7_2).f3).length : Int) = 0 then (sennitref12_wrong.j2 k2 l0 a1 a2 x7_2 true) else (sennitref12_wrong.j2 k2 l0 a1 a2 x7_2 (decide ((((rd_T36 l0 x7_2).f3).length : Int) > 16)))) = some r := by rw [if_pos rfl] at H; exact H
          clear H
          have H := H1
          clear H1
          by_cases c14 : (((rd_T36 l0 x7_2).f3).length : Int) = 0
          ·rw [if_pos c14] at H
           have c14b0 : ((((rd_T36 l0 x7_2).f3).length : Int) == 0) = true := beq_iff_eq.mpr c14
           have c14b1 : ((((rd_T36 l0 x7_2).f3).length : Int) != 0) = false := bne_eq_false_iff_eq.mpr c14
           clear c14
           have H' := Aside0.mk H
           clear H
           have p180 : 0 ≤ (x7_2 : Int) := of_decide_eq_true (by first | (with_reducible assumption) | assumption)
           have q180 : x7_2 < (l0.length : Int) := of_decide_eq_true (by first | (with_reducible assumption) | assumption)
           obtain ⟨ad180, A180_1, c180_1, A180_2, c180_2, A180_3, c180_3, e180, hx180_0, hx180_1, hx180_2, hx180_3, hl180_1, hi180_1, hl180_2, hi180_2, hl180_3, hi180_3⟩ := at_T36 HR0.out x7_2 p180 q180
           (try rw [← Nbq12.out] at hx180_0)
           cases e180
           replace hx180_0 := (HB.out.cell (World.block_lt_of_cell? w _ hx180_0)).trans hx180_0
           replace hx180_1 := (HB.out.cell (World.block_lt_of_cell? w _ hx180_1)).trans hx180_1
           replace hx180_2 := (HB.out.cell (World.block_lt_of_cell? w _ hx180_2)).trans hx180_2
           replace hx180_3 := (HB.out.cell (World.block_lt_of_cell? w _ hx180_3)).trans hx180_3
           have HR180_1 := Aside0.mk hi180_1
           have HC180_1 := Aside0.mk hl180_1
           clear hi180_1 hl180_1
           have HR180_2 := Aside0.mk hi180_2
           have HC180_2 := Aside0.mk hl180_2
           clear hi180_2 hl180_2
           have HR180_3 := Aside0.mk hi180_3
           have HC180_3 := Aside0.mk hl180_3
           clear hi180_3 hl180_3
           replace p180 := eq_true p180
           replace q180 := eq_true q180
           have p181 : 0 ≤ (x7_2 : Int) := of_decide_eq_true (by first | (with_reducible assumption) | assumption)
           have q181 : x7_2 < (l0.length : Int) := of_decide_eq_true (by first | (with_reducible assumption) | assumption)
           obtain ⟨ad181, A181_1, c181_1, A181_2, c181_2, A181_3, c181_3, e181, hx181_0, hx181_1, hx181_2, hx181_3, hl181_1, hi181_1, hl181_2, hi181_2, hl181_3, hi181_3⟩ := at_T36 HR0.out x7_2 p181 q181
           (try rw [← Nbq12.out] at hx181_0)
           obtain rfl : ad180 = ad181 := (by injection e181)
           replace hx181_0 := (HB.out.cell (World.block_lt_of_cell? w _ hx181_0)).trans hx181_0
           replace hx181_1 := (HB.out.cell (World.block_lt_of_cell? w _ hx181_1)).trans hx181_1
           replace hx181_2 := (HB.out.cell (World.block_lt_of_cell? w _ hx181_2)).trans hx181_2
           replace hx181_3 := (HB.out.cell (World.block_lt_of_cell? w _ hx181_3)).trans hx181_3
           have HR181_1 := Aside0.mk hi181_1
           have HC181_1 := Aside0.mk hl181_1
           clear hi181_1 hl181_1
           have HR181_2 := Aside0.mk hi181_2
           have HC181_2 := Aside0.mk hl181_2
           clear hi181_2 hl181_2
           have HR181_3 := Aside0.mk hi181_3
           have HC181_3 := Aside0.mk hl181_3
           clear hi181_3 hl181_3
           replace p181 := eq_true p181
           replace q181 := eq_true q181
           have ea_ := Option.some.inj (hx180_1.symm.trans hx181_1)
           injection ea_ with ea_ en_ ec_
           subst ea_
           subst ec_
           clear en_
           have ea_ := Option.some.inj (hx180_2.symm.trans hx181_2)
           injection ea_ with ea_ en_ ec_
           subst ea_
           subst ec_
           clear en_
           have ea_ := Option.some.inj (hx180_3.symm.trans hx181_3)
           injection ea_ with ea_ en_ ec_
           subst ea_
           subst ec_
           clear en_
           go_wp2
           go_meet
           case rel => exact ⟨_, (true), (by first | rfl | (simp; done) | (simp [*]; done)), H', ⟨by have := HJ3.out; have := HK2.out; first | omega | exact Nat.le_refl _⟩, ⟨by repeat (first | (with_reducible first | exact HB.out | apply below_alloc | apply pw_below_drewN | apply below_drew1) | exact HB.out)⟩⟩
          ·rw [if_neg c14] at H
           have c14b0 : ((((rd_T36 l0 x7_2).f3).length : Int) == 0) = false := beq_eq_false_iff_ne.mpr c14
           have c14b1 : ((((rd_T36 l0 x7_2).f3).length : Int) != 0) = true := bne_iff_ne.mpr c14
           have c14b2 : ¬ (((rd_T36 l0 x7_2).f3) = []) := fun h_ => c14 (by rw [h_]; rfl)
           have H' := Aside0.mk H
           clear H
           have p180 : 0 ≤ (x7_2 : Int) := of_decide_eq_true (by first | (with_reducible assumption) | assumption)
           have q180 : x7_2 < (l0.length : Int) := of_decide_eq_true (by first | (with_reducible assumption) | assumption)
           obtain ⟨ad180, A180_1, c180_1, A180_2, c180_2, A180_3, c180_3, e180, hx180_0, hx180_1, hx180_2, hx180_3, hl180_1, hi180_1, hl180_2, hi180_2, hl180_3, hi180_3⟩ := at_T36 HR0.out x7_2 p180 q180
           (try rw [← Nbq12.out] at hx180_0)
           cases e180
           replace hx180_0 := (HB.out.cell (World.block_lt_of_cell? w _ hx180_0)).trans hx180_0
           replace hx180_1 := (HB.out.cell (World.block_lt_of_cell? w _ hx180_1)).trans hx180_1
           replace hx180_2 := (HB.out.cell (World.block_lt_of_cell? w _ hx180_2)).trans hx180_2
           replace hx180_3 := (HB.out.cell (World.block_lt_of_cell? w _ hx180_3)).trans hx180_3
           have HR180_1 := Aside0.mk hi180_1
           have HC180_1 := Aside0.mk hl180_1
           clear hi180_1 hl180_1
           have HR180_2 := Aside0.mk hi180_2
           have HC180_2 := Aside0.mk hl180_2
           clear hi180_2 hl180_2
           have HR180_3 := Aside0.mk hi180_3
           have HC180_3 := Aside0.mk hl180_3
           clear hi180_3 hl180_3
           replace p180 := eq_true p180
           replace q180 := eq_true q180
           have p181 : 0 ≤ (x7_2 : Int) := of_decide_eq_true (by first | (with_reducible assumption) | assumption)
           have q181 : x7_2 < (l0.length : Int) := of_decide_eq_true (by first | (with_reducible assumption) | assumption)
           obtain ⟨ad181, A181_1, c181_1, A181_2, c181_2, A181_3, c181_3, e181, hx181_0, hx181_1, hx181_2, hx181_3, hl181_1, hi181_1, hl181_2, hi181_2, hl181_3, hi181_3⟩ := at_T36 HR0.out x7_2 p181 q181
           (try rw [← Nbq12.out] at hx181_0)
           obtain rfl : ad180 = ad181 := (by injection e181)
           replace hx181_0 := (HB.out.cell (World.block_lt_of_cell? w _ hx181_0)).trans hx181_0
           replace hx181_1 := (HB.out.cell (World.block_lt_of_cell? w _ hx181_1)).trans hx181_1
           replace hx181_2 := (HB.out.cell (World.block_lt_of_cell? w _ hx181_2)).trans hx181_2
           replace hx181_3 := (HB.out.cell (World.block_lt_of_cell? w _ hx181_3)).trans hx181_3
           have HR181_1 := Aside0.mk hi181_1
           have HC181_1 := Aside0.mk hl181_1
           clear hi181_1 hl181_1
           have HR181_2 := Aside0.mk hi181_2
           have HC181_2 := Aside0.mk hl181_2
           clear hi181_2 hl181_2
           have HR181_3 := Aside0.mk hi181_3
           have HC181_3 := Aside0.mk hl181_3
           clear hi181_3 hl181_3
           replace p181 := eq_true p181
           replace q181 := eq_true q181
           have ea_ := Option.some.inj (hx180_1.symm.trans hx181_1)
           injection ea_ with ea_ en_ ec_
           subst ea_
           subst ec_
           clear en_
           have ea_ := Option.some.inj (hx180_2.symm.trans hx181_2)
           injection ea_ with ea_ en_ ec_
           subst ea_
           subst ec_
           clear en_
           have ea_ := Option.some.inj (hx180_3.symm.trans hx181_3)
           injection ea_ with ea_ en_ ec_
           subst ea_
           subst ec_
           clear en_
           have p182 : 0 ≤ (x7_2 : Int) := of_decide_eq_true (by first | (with_reducible assumption) | assumption)
           have q182 : x7_2 < (l0.length : Int) := of_decide_eq_true (by first | (with_reducible assumption) | assumption)
           obtain ⟨ad182, A182_1, c182_1, A182_2, c182_2, A182_3, c182_3, e182, hx182_0, hx182_1, hx182_2, hx182_3, hl182_1, hi182_1, hl182_2, hi182_2, hl182_3, hi182_3⟩ := at_T36 HR0.out x7_2 p182 q182
           (try rw [← Nbq12.out] at hx182_0)
           obtain rfl : ad180 = ad182 := (by injection e182)
           replace hx182_0 := (HB.out.cell (World.block_lt_of_cell? w _ hx182_0)).trans hx182_0
           replace hx182_1 := (HB.out.cell (World.block_lt_of_cell? w _ hx182_1)).trans hx182_1
           replace hx182_2 := (HB.out.cell (World.block_lt_of_cell? w _ hx182_2)).trans hx182_2
           replace hx182_3 := (HB.out.cell (World.block_lt_of_cell? w _ hx182_3)).trans hx182_3
           have HR182_1 := Aside0.mk hi182_1
           have HC182_1 := Aside0.mk hl182_1
           clear hi182_1 hl182_1
           have HR182_2 := Aside0.mk hi182_2
           have HC182_2 := Aside0.mk hl182_2
           clear hi182_2 hl182_2
           have HR182_3 := Aside0.mk hi182_3
           have HC182_3 := Aside0.mk hl182_3
           clear hi182_3 hl182_3
           replace p182 := eq_true p182
           replace q182 := eq_true q182
           have ea_ := Option.some.inj (hx180_1.symm.trans hx182_1)
           injection ea_ with ea_ en_ ec_
           subst ea_
           subst ec_
           clear en_
           have ea_ := Option.some.inj (hx180_2.symm.trans hx182_2)
           injection ea_ with ea_ en_ ec_
           subst ea_
           subst ec_
           clear en_
           have ea_ := Option.some.inj (hx180_3.symm.trans hx182_3)
           injection ea_ with ea_ en_ ec_
           subst ea_
           subst ec_
           clear en_
           go_wp2
           go_meet
           case rel => exact ⟨_, (decide ((((rd_T36 l0 x7_2).f3).length : Int) > 16)), (by first | rfl | (simp; done) | (simp [*]; done)), H', ⟨by have := HJ3.out; have := HK2.out; first | omega | exact Nat.le_refl _⟩, ⟨by repeat (first | (with_reducible first | exact HB.out | apply below_alloc | apply pw_below_drewN | apply below_drew1) | exact HB.out)⟩⟩
         ·replace c13 := Bool.eq_false_iff.mpr c13
          subst c13
          have H1 : (sennitref12_wrong.j2 k2 l0 a1 a2 x7_2 false) = some r := by rw [if_neg (show ¬ (false = true) by decide)] at H; exact H
          clear H
          have H := H1
          clear H1
          have H' := Aside0.mk H
          clear H
          have p180 : 0 ≤ (x7_2 : Int) := of_decide_eq_true (by first | (with_reducible assumption) | assumption)
          have q180 : x7_2 < (l0.length : Int) := of_decide_eq_true (by first | (with_reducible assumption) | assumption)
          obtain ⟨ad180, A180_1, c180_1, A180_2, c180_2, A180_3, c180_3, e180, hx180_0, hx180_1, hx180_2, hx180_3, hl180_1, hi180_1, hl180_2, hi180_2, hl180_3, hi180_3⟩ := at_T36 HR0.out x7_2 p180 q180
          (try rw [← Nbq12.out] at hx180_0)
          cases e180
          replace hx180_0 := (HB.out.cell (World.block_lt_of_cell? w _ hx180_0)).trans hx180_0
          replace hx180_1 := (HB.out.cell (World.block_lt_of_cell? w _ hx180_1)).trans hx180_1
          replace hx180_2 := (HB.out.cell (World.block_lt_of_cell? w _ hx180_2)).trans hx180_2
          replace hx180_3 := (HB.out.cell (World.block_lt_of_cell? w _ hx180_3)).trans hx180_3
          have HR180_1 := Aside0.mk hi180_1
          have HC180_1 := Aside0.mk hl180_1
          clear hi180_1 hl180_1
          have HR180_2 := Aside0.mk hi180_2
          have HC180_2 := Aside0.mk hl180_2
          clear hi180_2 hl180_2
          have HR180_3 := Aside0.mk hi180_3
          have HC180_3 := Aside0.mk hl180_3
          clear hi180_3 hl180_3
          replace p180 := eq_true p180
          replace q180 := eq_true q180
          go_wp2
          go_meet
          case rel => exact ⟨_, (false), (by first | rfl | (simp; done) | (simp [*]; done)), H', ⟨by have := HJ3.out; have := HK2.out; first | omega | exact Nat.le_refl _⟩, ⟨by repeat (first | (with_reducible first | exact HB.out | apply below_alloc | apply pw_below_drewN | apply below_drew1) | exact HB.out)⟩⟩
        ·rw [if_neg c11] at H
         exact absurd H (by simp)
       case rest =>
        clear HC10
        try clear c1
        try clear p1
        try clear q1
        try clear hx1
        try clear p2
        try clear c3
        try clear c5
        try clear c5b0
        try clear c6
        try clear c6b0
        try clear c7
        try clear c7b0
        try clear c8
        try clear c9
        try clear c9b0
        try clear c11
        try clear c11b0
        try clear q12
        try clear c13
        try clear c14
        try clear c14b0
        try clear c14b1
        try clear c14b2
        try clear hx180_0
        try clear hx180_1
        try clear hx180_2
        try clear hx180_3
        try clear hx181_0
        try clear hx181_1
        try clear hx181_2
        try clear hx181_3
        try clear hx182_0
        try clear hx182_1
        try clear hx182_2
        try clear hx182_3
        try clear p180
        try clear p181
        try clear p182
        try clear p2
        try clear q180
        try clear q181
        try clear q182
        obtain ⟨kq, x50_9, rfl, HA, HJ9, HB⟩ := hcut
        cases kq with
        | zero => exact absurd HA.out (by simp [sennitref12_wrong.j2])
        | succ kj9 =>
         have H := HA.out
         clear HA
         simp only [sennitref12_wrong.j2] at H
         by_cases c15 : x50_9 = true
         ·subst c15
          have H1 : (some 1) = some r := by rw [if_pos rfl] at H; exact H
          clear H
          have H := H1
          clear H1
          obtain rfl := Option.some.inj H
          go_wp2
          go_ret
          exact ⟨by first | rfl | (simp [errW_none, errW_some] <;> rfl) | (simp [*, errW_none, errW_some] <;> rfl), by repeat (first | (with_reducible first | exact HB.out | apply below_alloc | apply pw_below_drewN | apply below_drew1) | exact HB.out)⟩
         ·replace c15 := Bool.eq_false_iff.mpr c15
          subst c15
          have H1 : (sennitref12_wrong.l0 kj9 l0 a1 a2 (wrap64 (x7_2 + 1))) = some r := by rw [if_neg (show ¬ (false = true) by decide)] at H; exact H
          clear H
          have H := H1
          clear H1
          have H' := Aside0.mk H
          clear H
          go_wp2
          go_roundg kj9
          case measure => have := HJ3.out; have := HK2.out; have := HJ9.out; omega
          case rel => exact ⟨(wrap64 (x7_2 + 1)), (by first | rfl | (simp; done) | (simp [*]; done)), H', ⟨by have := HJ3.out; have := HK2.out; have := HJ9.out; omega⟩, ⟨by repeat (first | (with_reducible first | exact HB.out | apply below_alloc | apply pw_below_drewN | apply below_drew1) | exact HB.out)⟩⟩
      ·rw [if_neg c9] at H
       have c9b0 : decide (x7_2 < (l0.length : Int)) = false := decide_eq_false c9
       clear c9
       have HC16 := Aside0.mk H
       clear H
       go_upto_region 8 with (fail)
       go_cut [63] (fun v63 wc => ∃ (kq : Nat) (x63_15 : Bool), v63 = .bool x63_15 ∧ Aside0 (sennitref12_wrong.j3 kq l0 a2 x63_15 = some r) ∧ Aside0 (kq ≤ k2) ∧ Aside0 (Below w.heap.size w wc))
       case first =>
        have H := HC16.out
        clear HC16
        replace H := Option.bind_eq_some_iff.mp H
        obtain ⟨t183, A170, H⟩ := H
        replace H : (if t183 = true then (if a1 = 3 then ((sennitref10_Zeal.f l0).bind fun t184 => ((sennitref12_Form.f k2 t184).bind fun t187 => (sennitref12_wrong.j3 k2 l0 a2 (!t187)))) else (sennitref12_wrong.j3 k2 l0 a2 false)) else (sennitref12_wrong.j3 k2 l0 a2 true)) = some r := H
        have A17 := Aside0.mk A170
        clear A170
        by_cases c18 : t183 = true
        ·subst c18
         have H1 : (if a1 = 3 then ((sennitref10_Zeal.f l0).bind fun t184 => ((sennitref12_Form.f k2 t184).bind fun t187 => (sennitref12_wrong.j3 k2 l0 a2 (!t187)))) else (sennitref12_wrong.j3 k2 l0 a2 false)) = some r := by rw [if_pos rfl] at H; exact H
         clear H
         have H := H1
         clear H1
         by_cases c19 : a1 = 3
         ·rw [if_pos c19] at H
          have c19b0 : (a1 == 3) = true := beq_iff_eq.mpr c19
          have c19b1 : (a1 != 3) = false := bne_eq_false_iff_eq.mpr c19
          clear c19
          (first | rw [c19b0] | (simp only [i64_w, i32_w]; rw [c19b0]) | skip)
          replace H := Option.bind_eq_some_iff.mp H
          obtain ⟨t184, A200, H⟩ := H
          replace H : ((sennitref12_Form.f k2 t184).bind fun t187 => (sennitref12_wrong.j3 k2 l0 a2 (!t187))) = some r := H
          have A20 := Aside0.mk A200
          clear A200
          replace H := Option.bind_eq_some_iff.mp H
          obtain ⟨t187, A210, H⟩ := H
          replace H : (sennitref12_wrong.j3 k2 l0 a2 (!t187)) = some r := H
          have A21 := Aside0.mk A210
          clear A210
          have H' := Aside0.mk H
          clear H
          go_wp2_with (first | ((with_reducible refine gate_callee (f := 60) rfl ?_); refine goesL_ (some 52) rfl rfl Tryz.func60 (by kernel_rfl) rfl #[.slice A0 l0.length c0] rfl (by (try simp only [List.map_toArray, List.map_cons, List.map_nil]); first | done | rfl | (simp only [List.length_drop, List.length_take]; rfl)) ?_; (with_reducible refine (sennitref12_Form.calls k2 _ _ l0 true _ ?side1 ?side2 A17.out).mono ?_); (case side1 => repeat (first | exact (Kd.C_below HR0.out HB.out) | (with_reducible refine Kd.C_alloc ?_ _) | (with_reducible refine Kd.C_drewN ?_ _) | (with_reducible refine Kd.C_drew ?_))); (case side2 => exact HC0.out); rintro e w22 ⟨rfl, hb⟩; refine ⟨_, rfl, ?_⟩; have n0_ := Aside0.mk (below_step (by repeat (first | (with_reducible first | exact HB.out | apply below_alloc | apply pw_below_drewN | apply below_drew1) | exact HB.out)) hb); clear HB; have HB := n0_; clear n0_; (try clear hb); (try clear hb2); (try clear hk); (try clear hi)) | (go_at_call 16; (with_reducible refine (sennitref10_Zeal.calls (fun k_ => k_ < w.heap.size) _ _ l0 t184 _ ?side1 A20.out).mono ?_); (case side1 => exact Kd.V_mk HC0.out (Kd.F_below (Kd.C_F k36_heap HR0.out) (by repeat (first | (with_reducible first | exact HB.out | apply below_alloc | apply pw_below_drewN | apply below_drew1) | exact HB.out)))); rintro e w23 ⟨v185, rfl, ho0, hb⟩; have n0_ := Aside0.mk (Kd.N_lower (Kd.N_mono (ok' := fun k_ => True) ho0 (fun k_ hk_ => trivial)) (below_size (by repeat (first | (with_reducible first | exact HB.out | apply below_alloc | apply pw_below_drewN | apply below_drew1) | exact HB.out)))); have n1_ := Aside0.mk (below_step (by repeat (first | (with_reducible first | exact HB.out | apply below_alloc | apply pw_below_drewN | apply below_drew1) | exact HB.out)) hb); clear HB; have HO186 := n0_; have HB := n1_; clear n0_ n1_; (try clear hb); (try clear hb2); (try clear hk); (try clear hi); (try clear ho0); obtain ⟨Ao24, co24, eo24⟩ := Kd.N_slice HO186.out; subst eo24) | (go_at_call 60; (with_reducible refine (sennitref12_Form.calls k2 _ _ t184 t187 _ ?side1 ?side2 A21.out).mono ?_); (case side1 => repeat (first | exact (Kd.N_reads' HO186.out).2.2 | (with_reducible refine Kd.C_alloc ?_ _) | (with_reducible refine Kd.C_drewN ?_ _) | (with_reducible refine Kd.C_drew ?_))); (case side2 => exact (Kd.N_reads' HO186.out).2.1); rintro e w25 ⟨rfl, hb⟩; have n0_ := Aside0.mk (Kd.N_below (by (with_reducible repeat (first | apply Kd.N_alloc | apply Kd.N_drewN | apply Kd.N_drew)); exact HO186.out) hb); have n1_ := Aside0.mk (below_step (by repeat (first | (with_reducible first | exact HB.out | apply below_alloc | apply pw_below_drewN | apply below_drew1) | exact HB.out)) hb); clear HO186; clear HB; have HO186 := n0_; have HB := n1_; clear n0_ n1_; (try clear hb); (try clear hb2); (try clear hk); (try clear hi)))
          go_meet
          case rel => exact ⟨_, (!t187), (by first | rfl | (simp; done) | (simp [*]; done)), H', ⟨by have := HJ3.out; have := HK2.out; first | omega | exact Nat.le_refl _⟩, ⟨by repeat (first | (with_reducible first | exact HB.out | apply below_alloc | apply pw_below_drewN | apply below_drew1) | exact HB.out)⟩⟩
         ·rw [if_neg c19] at H
          have c19b0 : (a1 == 3) = false := beq_eq_false_iff_ne.mpr c19
          have c19b1 : (a1 != 3) = true := bne_iff_ne.mpr c19
          (first | rw [c19b0] | (simp only [i64_w, i32_w]; rw [c19b0]) | skip)
          have H' := Aside0.mk H
          clear H
          go_wp2_with (first | ((with_reducible refine gate_callee (f := 60) rfl ?_); refine goesL_ (some 52) rfl rfl Tryz.func60 (by kernel_rfl) rfl #[.slice A0 l0.length c0] rfl (by (try simp only [List.map_toArray, List.map_cons, List.map_nil]); first | done | rfl | (simp only [List.length_drop, List.length_take]; rfl)) ?_; (with_reducible refine (sennitref12_Form.calls k2 _ _ l0 true _ ?side1 ?side2 A17.out).mono ?_); (case side1 => repeat (first | exact (Kd.C_below HR0.out HB.out) | (with_reducible refine Kd.C_alloc ?_ _) | (with_reducible refine Kd.C_drewN ?_ _) | (with_reducible refine Kd.C_drew ?_))); (case side2 => exact HC0.out); rintro e w26 ⟨rfl, hb⟩; refine ⟨_, rfl, ?_⟩; have n0_ := Aside0.mk (below_step (by repeat (first | (with_reducible first | exact HB.out | apply below_alloc | apply pw_below_drewN | apply below_drew1) | exact HB.out)) hb); clear HB; have HB := n0_; clear n0_; (try clear hb); (try clear hb2); (try clear hk); (try clear hi)))
          go_meet
          case rel => exact ⟨_, (false), (by first | rfl | (simp; done) | (simp [*]; done)), H', ⟨by have := HJ3.out; have := HK2.out; first | omega | exact Nat.le_refl _⟩, ⟨by repeat (first | (with_reducible first | exact HB.out | apply below_alloc | apply pw_below_drewN | apply below_drew1) | exact HB.out)⟩⟩
        ·replace c18 := Bool.eq_false_iff.mpr c18
         subst c18
         have H1 : (sennitref12_wrong.j3 k2 l0 a2 true) = some r := by rw [if_neg (show ¬ (false = true) by decide)] at H; exact H
         clear H
         have H := H1
         clear H1
         have H' := Aside0.mk H
         clear H
         go_wp2_with (first | ((with_reducible refine gate_callee (f := 60) rfl ?_); refine goesL_ (some 52) rfl rfl Tryz.func60 (by kernel_rfl) rfl #[.slice A0 l0.length c0] rfl (by (try simp only [List.map_toArray, List.map_cons, List.map_nil]); first | done | rfl | (simp only [List.length_drop, List.length_take]; rfl)) ?_; (with_reducible refine (sennitref12_Form.calls k2 _ _ l0 false _ ?side1 ?side2 A17.out).mono ?_); (case side1 => repeat (first | exact (Kd.C_below HR0.out HB.out) | (with_reducible refine Kd.C_alloc ?_ _) | (with_reducible refine Kd.C_drewN ?_ _) | (with_reducible refine Kd.C_drew ?_))); (case side2 => exact HC0.out); rintro e w27 ⟨rfl, hb⟩; refine ⟨_, rfl, ?_⟩; have n0_ := Aside0.mk (below_step (by repeat (first | (with_reducible first | exact HB.out | apply below_alloc | apply pw_below_drewN | apply below_drew1) | exact HB.out)) hb); clear HB; have HB := n0_; clear n0_; (try clear hb); (try clear hb2); (try clear hk); (try clear hi)))
         go_meet
         case rel => exact ⟨_, (true), (by first | rfl | (simp; done) | (simp [*]; done)), H', ⟨by have := HJ3.out; have := HK2.out; first | omega | exact Nat.le_refl _⟩, ⟨by repeat (first | (with_reducible first | exact HB.out | apply below_alloc | apply pw_below_drewN | apply below_drew1) | exact HB.out)⟩⟩
       case rest =>
        clear HC16
        try clear c1
        try clear p1
        try clear q1
        try clear hx1
        try clear p2
        try clear c3
        try clear c5
        try clear c5b0
        try clear c6
        try clear c6b0
        try clear p6
        try clear c7
        try clear c7b0
        try clear c8
        try clear c9
        try clear c9b0
        try clear c11
        try clear c11b0
        try clear q12
        try clear c13
        try clear c14
        try clear c14b0
        try clear c14b1
        try clear c14b2
        try clear c15
        try clear c18
        try clear p18
        try clear q18
        try clear hx18
        try clear c19
        try clear c19b0
        try clear c19b1
        try clear hx180_0
        try clear hx180_1
        try clear hx180_2
        try clear hx180_3
        try clear hx181_0
        try clear hx181_1
        try clear hx181_2
        try clear hx181_3
        try clear hx182_0
        try clear hx182_1
        try clear hx182_2
        try clear hx182_3
        try clear p1
        try clear p180
        try clear p181
        try clear p182
        try clear p2
        try clear q1
        try clear q12
        try clear q180
        try clear q181
        try clear q182
        obtain ⟨kq, x63_15, rfl, HA, HJ15, HB⟩ := hcut
        cases kq with
        | zero => exact absurd HA.out (by simp [sennitref12_wrong.j3])
        | succ kj15 =>
         have H := HA.out
         clear HA
         simp only [sennitref12_wrong.j3] at H
         by_cases c28 : x63_15 = true
         ·subst c28
          have H1 : (some 2) = some r := by rw [if_pos rfl] at H; exact H
          clear H
          have H := H1
          clear H1
          obtain rfl := Option.some.inj H
          go_wp2
          go_ret
          exact ⟨by first | rfl | (simp [errW_none, errW_some] <;> rfl) | (simp [*, errW_none, errW_some] <;> rfl), by repeat (first | (with_reducible first | exact HB.out | apply below_alloc | apply pw_below_drewN | apply below_drew1) | exact HB.out)⟩
         ·replace c28 := Bool.eq_false_iff.mpr c28
          subst c28
          have H1 : ((sennitref12_Lists.f kj15 l0).bind fun t188 => ((sennitref11_Fits.f kj15 a2 t188).bind fun t191 => (if t191 = true then (some 0) else (some 6)))) = some r := by rw [if_neg (show ¬ (false = true) by decide)] at H; exact H
          clear H
          have H := H1
          clear H1
          replace H := Option.bind_eq_some_iff.mp H
          obtain ⟨t188, A290, H⟩ := H
          replace H : ((sennitref11_Fits.f kj15 a2 t188).bind fun t191 => (if t191 = true then (some 0) else (some 6))) = some r := H
          have A29 := Aside0.mk A290
          clear A290
          replace H := Option.bind_eq_some_iff.mp H
          obtain ⟨t191, A300, H⟩ := H
          replace H : (if t191 = true then (some 0) else (some 6)) = some r := H
          have A30 := Aside0.mk A300
          clear A300
          by_cases c31 : t191 = true
          ·subst c31
           have H1 : (some 0) = some r := by rw [if_pos rfl] at H; exact H
           clear H
           have H := H1
           clear H1
           obtain rfl := Option.some.inj H
           go_wp2_with (first | ((with_reducible refine gate_callee (f := 22) rfl ?_); refine goesL_ (some 66) rfl rfl Tryz.func22 (by kernel_rfl) rfl #[.slice A0 l0.length c0] rfl (by (try simp only [List.map_toArray, List.map_cons, List.map_nil]); first | done | rfl | (simp only [List.length_drop, List.length_take]; rfl)) ?_; (with_reducible refine (sennitref12_Lists.calls kj15 (fun k_ => k_ < w.heap.size) _ _ l0 t188 _ ?side1 A29.out).mono ?_); (case side1 => exact Kd.V_mk HC0.out (Kd.F_below (Kd.C_F k36_heap HR0.out) (by repeat (first | (with_reducible first | exact HB.out | apply below_alloc | apply pw_below_drewN | apply below_drew1) | exact HB.out)))); rintro e w32 ⟨v189, rfl, ho0, hb⟩; refine ⟨_, rfl, ?_⟩; have n0_ := Aside0.mk (Kd.N_lower (Kd.N_mono (ok' := fun k_ => True) ho0 (fun k_ hk_ => trivial)) (below_size (by repeat (first | (with_reducible first | exact HB.out | apply below_alloc | apply pw_below_drewN | apply below_drew1) | exact HB.out)))); have n1_ := Aside0.mk (below_step (by repeat (first | (with_reducible first | exact HB.out | apply below_alloc | apply pw_below_drewN | apply below_drew1) | exact HB.out)) hb); clear HB; have HO190 := n0_; have HB := n1_; clear n0_ n1_; (try clear hb); (try clear hb2); (try clear hk); (try clear hi); (try clear ho0); obtain ⟨Ao33, co33, eo33⟩ := Kd.N_slice HO190.out; subst eo33) | ((with_reducible refine gate_callee (f := 61) rfl ?_); refine goesL_ (some 67) rfl rfl Tryz.func61 (by kernel_rfl) rfl #[.int .i64 a2, .slice Ao33 t188.length co33] rfl (by (try simp only [List.map_toArray, List.map_cons, List.map_nil]); first | done | rfl | (simp only [List.length_drop, List.length_take]; rfl)) ?_; (with_reducible refine (sennitref11_Fits.calls kj15 a2 _ _ t188 true _ ?side1 ?side2 A30.out).mono ?_); (case side1 => repeat (first | exact (Kd.N_reads' HO190.out).2.2 | (with_reducible refine Kd.C_alloc ?_ _) | (with_reducible refine Kd.C_drewN ?_ _) | (with_reducible refine Kd.C_drew ?_))); (case side2 => exact (Kd.N_reads' HO190.out).2.1); rintro e w' ⟨rfl, ⟨nd, rfl⟩⟩; refine ⟨_, rfl, ?_⟩))
           go_ret
           exact ⟨by first | rfl | (simp [errW_none, errW_some] <;> rfl) | (simp [*, errW_none, errW_some] <;> rfl), by repeat (first | (with_reducible first | exact HB.out | apply below_alloc | apply pw_below_drewN | apply below_drew1) | exact HB.out)⟩
          ·replace c31 := Bool.eq_false_iff.mpr c31
           subst c31
           have H1 : (some 6) = some r := by rw [if_neg (show ¬ (false = true) by decide)] at H; exact H
           clear H
           have H := H1
           clear H1
           obtain rfl := Option.some.inj H
           go_wp2_with (first | ((with_reducible refine gate_callee (f := 22) rfl ?_); refine goesL_ (some 66) rfl rfl Tryz.func22 (by kernel_rfl) rfl #[.slice A0 l0.length c0] rfl (by (try simp only [List.map_toArray, List.map_cons, List.map_nil]); first | done | rfl | (simp only [List.length_drop, List.length_take]; rfl)) ?_; (with_reducible refine (sennitref12_Lists.calls kj15 (fun k_ => k_ < w.heap.size) _ _ l0 t188 _ ?side1 A29.out).mono ?_); (case side1 => exact Kd.V_mk HC0.out (Kd.F_below (Kd.C_F k36_heap HR0.out) (by repeat (first | (with_reducible first | exact HB.out | apply below_alloc | apply pw_below_drewN | apply below_drew1) | exact HB.out)))); rintro e w34 ⟨v189, rfl, ho0, hb⟩; refine ⟨_, rfl, ?_⟩; have n0_ := Aside0.mk (Kd.N_lower (Kd.N_mono (ok' := fun k_ => True) ho0 (fun k_ hk_ => trivial)) (below_size (by repeat (first | (with_reducible first | exact HB.out | apply below_alloc | apply pw_below_drewN | apply below_drew1) | exact HB.out)))); have n1_ := Aside0.mk (below_step (by repeat (first | (with_reducible first | exact HB.out | apply below_alloc | apply pw_below_drewN | apply below_drew1) | exact HB.out)) hb); clear HB; have HO190 := n0_; have HB := n1_; clear n0_ n1_; (try clear hb); (try clear hb2); (try clear hk); (try clear hi); (try clear ho0); obtain ⟨Ao35, co35, eo35⟩ := Kd.N_slice HO190.out; subst eo35) | ((with_reducible refine gate_callee (f := 61) rfl ?_); refine goesL_ (some 67) rfl rfl Tryz.func61 (by kernel_rfl) rfl #[.int .i64 a2, .slice Ao35 t188.length co35] rfl (by (try simp only [List.map_toArray, List.map_cons, List.map_nil]); first | done | rfl | (simp only [List.length_drop, List.length_take]; rfl)) ?_; (with_reducible refine (sennitref11_Fits.calls kj15 a2 _ _ t188 false _ ?side1 ?side2 A30.out).mono ?_); (case side1 => repeat (first | exact (Kd.N_reads' HO190.out).2.2 | (with_reducible refine Kd.C_alloc ?_ _) | (with_reducible refine Kd.C_drewN ?_ _) | (with_reducible refine Kd.C_drew ?_))); (case side2 => exact (Kd.N_reads' HO190.out).2.1); rintro e w' ⟨rfl, ⟨nd, rfl⟩⟩; refine ⟨_, rfl, ?_⟩))
           go_ret
           exact ⟨by first | rfl | (simp [errW_none, errW_some] <;> rfl) | (simp [*, errW_none, errW_some] <;> rfl), by repeat (first | (with_reducible first | exact HB.out | apply below_alloc | apply pw_below_drewN | apply below_drew1) | exact HB.out)⟩
/-! ### sennitref12_May: function 15 -/
def sennitref12_May.f (k : Nat) (l0 : List (S36)) (a1 : Int) (a2 : Int) : Option (Bool) := (sennitref07_Few.f k l0).bind fun t192 => (if t192 = true then (if a2 ≤ 40 then ((sennitref12_wrong.f k l0 a1 a2).bind fun t193 => (some (t193 == 0))) else (some false)) else (some false))
set_option maxHeartbeats 8000000 in
set_option maxRecDepth 100000 in
theorem sennitref12_May.calls (k : Nat) (A0 : Option Addr) (c0 : Nat) (l0 : List (S36)) (a1 : Int) (a2 : Int) (r : Bool) (w : World) (hr0 : Kd.C k36 w A0 l0.length l0) (hc0 : l0.length ≤ c0) (h : sennitref12_May.f k l0 a1 a2 = some r) :
  Calls Tryz.prog 15 #[.slice A0 l0.length c0, .int .i64 a1, .int .i64 a2] w fun e w' => e = .returned (.bool r) ∧ Below w.heap.size w w' := by
 have HR0 := Aside0.mk hr0
 have HC0 := Aside0.mk hc0
 clear hr0 hc0
 have HB := Aside0.mk (Below.refl w.heap.size w)
 have H : ((sennitref07_Few.f k l0).bind fun t192 => (if t192 = true then (if a2 ≤ 40 then ((sennitref12_wrong.f k l0 a1 a2).bind fun t193 => (some (t193 == 0))) else (some false)) else (some false))) = some r := h
 clear h
 replace H := Option.bind_eq_some_iff.mp H
 obtain ⟨t192, A40, H⟩ := H
 replace H : (if t192 = true then (if a2 ≤ 40 then ((sennitref12_wrong.f k l0 a1 a2).bind fun t193 => (some (t193 == 0))) else (some false)) else (some false)) = some r := H
 have A4 := Aside0.mk A40
 clear A40
 by_cases c5 : t192 = true
 ·subst c5
  have H1 : (if a2 ≤ 40 then ((sennitref12_wrong.f k l0 a1 a2).bind fun t193 => (some (t193 == 0))) else (some false)) = some r := by rw [if_pos rfl] at H; exact H
  clear H
  have H := H1
  clear H1
  by_cases c6 : a2 ≤ 40
  ·rw [if_pos c6] at H
   have c6b0 : decide (a2 ≤ 40) = true := decide_eq_true c6
   clear c6
   replace H := Option.bind_eq_some_iff.mp H
   obtain ⟨t193, A70, H⟩ := H
   replace H : (some (t193 == 0)) = some r := H
   have A7 := Aside0.mk A70
   clear A70
   obtain rfl := Option.some.inj H
   go_enter Tryz.func15, Tryz.ntmps15
   go_wp2_with (first | ((with_reducible refine gate_callee (f := 11) rfl ?_); refine goesL_ (some 8) rfl rfl Tryz.func11 (by kernel_rfl) rfl #[.slice A0 l0.length c0] rfl (by (try simp only [List.map_toArray, List.map_cons, List.map_nil]); first | done | rfl | (simp only [List.length_drop, List.length_take]; rfl)) ?_; (with_reducible refine (sennitref07_Few.calls k _ _ l0 true _ ?side1 ?side2 A4.out).mono ?_); (case side1 => repeat (first | exact HR0.out | (with_reducible refine Kd.C_alloc ?_ _) | (with_reducible refine Kd.C_drewN ?_ _) | (with_reducible refine Kd.C_drew ?_))); (case side2 => exact HC0.out); rintro e w' ⟨rfl, ⟨nd, rfl⟩⟩; refine ⟨_, rfl, ?_⟩) | (go_at_call 34; (with_reducible refine (sennitref12_wrong.calls k _ _ l0 a1 a2 t193 _ ?side1 ?side2 A7.out).mono ?_); (case side1 => repeat (first | exact HR0.out | (with_reducible refine Kd.C_alloc ?_ _) | (with_reducible refine Kd.C_drewN ?_ _) | (with_reducible refine Kd.C_drew ?_))); (case side2 => exact HC0.out); rintro e w8 ⟨rfl, hb⟩; have n0_ := Aside0.mk (below_step (by repeat (first | (with_reducible first | exact HB.out | apply below_alloc | apply pw_below_drewN | apply below_drew1) | exact HB.out)) hb); clear HB; have HB := n0_; clear n0_; (try clear hb); (try clear hb2); (try clear hk); (try clear hi)))
   go_ret
   exact ⟨by first | rfl | (simp [errW_none, errW_some] <;> rfl) | (simp [*, errW_none, errW_some] <;> rfl), by repeat (first | (with_reducible first | exact HB.out | apply below_alloc | apply pw_below_drewN | apply below_drew1) | exact HB.out)⟩
  ·rw [if_neg c6] at H
   have c6b0 : decide (a2 ≤ 40) = false := decide_eq_false c6
   clear c6
   obtain rfl := Option.some.inj H
   go_enter Tryz.func15, Tryz.ntmps15
   go_wp2_with (first | ((with_reducible refine gate_callee (f := 11) rfl ?_); refine goesL_ (some 8) rfl rfl Tryz.func11 (by kernel_rfl) rfl #[.slice A0 l0.length c0] rfl (by (try simp only [List.map_toArray, List.map_cons, List.map_nil]); first | done | rfl | (simp only [List.length_drop, List.length_take]; rfl)) ?_; (with_reducible refine (sennitref07_Few.calls k _ _ l0 true _ ?side1 ?side2 A4.out).mono ?_); (case side1 => repeat (first | exact HR0.out | (with_reducible refine Kd.C_alloc ?_ _) | (with_reducible refine Kd.C_drewN ?_ _) | (with_reducible refine Kd.C_drew ?_))); (case side2 => exact HC0.out); rintro e w' ⟨rfl, ⟨nd, rfl⟩⟩; refine ⟨_, rfl, ?_⟩))
   go_ret
   exact ⟨by first | rfl | (simp [errW_none, errW_some] <;> rfl) | (simp [*, errW_none, errW_some] <;> rfl), by repeat (first | (with_reducible first | exact HB.out | apply below_alloc | apply pw_below_drewN | apply below_drew1) | exact HB.out)⟩
 ·replace c5 := Bool.eq_false_iff.mpr c5
  subst c5
  have H1 : (some false) = some r := by rw [if_neg (show ¬ (false = true) by decide)] at H; exact H
  clear H
  have H := H1
  clear H1
  obtain rfl := Option.some.inj H
  go_enter Tryz.func15, Tryz.ntmps15
  go_wp2_with (first | ((with_reducible refine gate_callee (f := 11) rfl ?_); refine goesL_ (some 8) rfl rfl Tryz.func11 (by kernel_rfl) rfl #[.slice A0 l0.length c0] rfl (by (try simp only [List.map_toArray, List.map_cons, List.map_nil]); first | done | rfl | (simp only [List.length_drop, List.length_take]; rfl)) ?_; (with_reducible refine (sennitref07_Few.calls k _ _ l0 false _ ?side1 ?side2 A4.out).mono ?_); (case side1 => repeat (first | exact HR0.out | (with_reducible refine Kd.C_alloc ?_ _) | (with_reducible refine Kd.C_drewN ?_ _) | (with_reducible refine Kd.C_drew ?_))); (case side2 => exact HC0.out); rintro e w' ⟨rfl, ⟨nd, rfl⟩⟩; refine ⟨_, rfl, ?_⟩))
  go_ret
  exact ⟨by first | rfl | (simp [errW_none, errW_some] <;> rfl) | (simp [*, errW_none, errW_some] <;> rfl), by repeat (first | (with_reducible first | exact HB.out | apply below_alloc | apply pw_below_drewN | apply below_drew1) | exact HB.out)⟩
end Go.Proofs.YtcnjbmdnnhbfkaaGreatDoor.XD
