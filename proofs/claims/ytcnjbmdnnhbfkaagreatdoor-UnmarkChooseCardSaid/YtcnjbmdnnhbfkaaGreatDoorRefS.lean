/- sennitref07.Same: what it computes. (Written by tools/mkrs.py.) -/
import Derived.Test.YtcnjbmdnnhbfkaaGreatDoorRef1
namespace Go.Proofs.YtcnjbmdnnhbfkaaGreatDoor.Ref
open Go.RowKit Go.Proofs.YtcnjbmdnnhbfkaaGreatDoor.XD Go.Proofs.YtcnjbmdnnhbfkaaGreatDoor.XR Go.Proofs.YtcnjbmdnnhbfkaaGreatDoor.Mark Go.Proofs.YtcnjbmdnnhbfkaaGreatDoorW.PrintWords Go.Proofs.YtcnjbmdnnhbfkaaGreatDoorW.PrintLast Go.Proofs.YtcnjbmdnnhbfkaaGreatDoorW.PrintMore
set_option linter.unusedSimpArgs false
def upto (n k : Nat) : Array Bool := ((List.range n).map fun j => decide (j < k)).toArray
section
variable {P : Program} {ops : Array Oper} {Q : Exit → Act → World → Prop} {md : Region.Mode} {S : World → Prop} {ds : List Nat}
theorem onB {b n k : Nat} {m : Tmp} {oi : Oper} {v : Value} {fuel : Nat} {a : Act} {w : World} (_ : k < b) (hi : ops[k]? = some oi) (hN : oi.dst = some m) (hc : anyB md ops (upto n k) (upto n (k + 1)) k = true)
  (hQ : ∀ c a w, Q (.panic c) (a.put oi.dst v) w → Q (.panic c) a w) (hg : Region.wanted oi (yielded ops a.tmps) = true) (hy : ∀ w, (execOp a.eval oi).run P w = .ok (.value v) w) {a' : Act} (ha : a.put (some m) v = a')
  (h : wpAnyLast P md ops Q S ds fuel (upto n (k + 1)) a' w) : wpAnyLast P md ops Q S ds (fuel + 1) (upto n k) a w := pure_ _ hi hN hc hQ (.inl ⟨hg, hy⟩) ha h
theorem offB {b n k : Nat} {m : Tmp} {oi : Oper} {fuel : Nat} {a : Act} {w : World} (_ : k < b) (hi : ops[k]? = some oi) (hN : oi.dst = some m) (hc : anyB md ops (upto n k) (upto n (k + 1)) k = true)
  (hQ : ∀ c a w, Q (.panic c) (a.put oi.dst undef) w → Q (.panic c) a w) (hg : Region.wanted oi (yielded ops a.tmps) = false) {a' : Act} (ha : a.put (some m) undef = a')
  (h : wpAnyLast P md ops Q S ds fuel (upto n (k + 1)) a' w) : wpAnyLast P md ops Q S ds (fuel + 1) (upto n k) a w := pure_ _ hi hN hc hQ (.inr ⟨hg, rfl⟩) ha h
theorem loadB {b n k : Nat} {m : Tmp} {oi : Oper} {v : Value} {fuel : Nat} {a : Act} {w : World} (_ : k < b) (hi : ops[k]? = some oi) (hN : oi.dst = some m) (hc : takeB md ops ds (upto n k) (upto n (k + 1)) k = true)
  (hQ : ∀ c a w, Q (.panic c) (a.put oi.dst v) w → Q (.panic c) a w) (hg : Region.wanted oi (yielded ops a.tmps) = true) (hy : ∀ w, S w → (execOp a.eval oi).run P w = .ok (.value v) w) (hS : S w) {a' : Act} (ha : a.put (some m) v = a')
  (h : wpAnyLast P md ops Q S ds fuel (upto n (k + 1)) a' w) : wpAnyLast P md ops Q S ds (fuel + 1) (upto n k) a w := take_ _ hi hN hc hQ (.inl ⟨hg, hy⟩) hS ha h
end
def samesT : Bool × List (List Nat × List Nat) := (true, [([], []), ([], []), ([0, 1], [0, 1]), ([2], [2]), ([3], [3]), ([], []), ([], []), ([5, 6], [5, 6]), ([7], [7]), ([8], [8]), ([4, 9], [4, 9]), ([10], [10]), ([11], [11]), ([11], [11]), ([12, 13, 11], [11, 12, 13]), ([14, 11], [11, 14]), ([15, 11], [11, 15]), ([11], [11]), ([11], [11]), ([17, 18, 11], [11, 17, 18]), ([19, 11], [11, 19]), ([20, 11], [11, 20]), ([16, 21, 11, 11], [11, 16, 21]), ([22, 11], [11, 22]), ([11, 23], [11, 23]), ([24, 22], [24]), ([25], [25]), ([25], [25]), ([26, 27, 25], [25, 26, 27]), ([28, 25], [25, 28]), ([29, 25], [25, 29]), ([25], [25]), ([25], [25]), ([31, 32, 25], [25, 31, 32]), ([33, 25], [25, 33]), ([34, 25], [25, 34]), ([30, 35, 25, 25], [25, 30, 35]), ([36, 25], [25, 36]), ([25, 37], [25, 37]), ([38, 36], [38]), ([39], [39]), ([39], [39]), ([40, 41, 39], [39, 40, 41]), ([42, 39], [39, 42]), ([43, 39], [39, 43]), ([39], [39]), ([39], [39]), ([45, 46, 39], [39, 45, 46]), ([47, 39], [39, 47]), ([48, 39], [39, 48]), ([44, 49, 39, 39], [39, 44, 49]), ([50, 39], [39, 50]), ([39, 51], [39, 51])])
def samesB : List Nat := [0, 0, 3, 7, 15, 0, 0, 96, 224, 480, 1023, 2047, 4095, 4095, 16383, 32767, 65535, 4095, 4095, 397311, 921599, 1970175, 4194303, 8388607, 16777215, 33554431, 67108863, 67108863, 268435455, 536870911, 1073741823, 67108863, 67108863, 6509559807, 15099494399, 32279363583, 68719476735, 137438953471, 274877906943, 549755813887, 1099511627775, 1099511627775, 4398046511103, 8796093022207, 17592186044415, 1099511627775, 1099511627775, 106652627894271, 247390116249599, 528865092960255, 1125899906842623, 2251799813685247, 4503599627370495]
theorem samesTab : rtab .any (opsOf Tryz.f26 6) = samesT := by kernel_rfl
theorem samesBits : waitsOk samesT.2 samesB = true := by kernel_rfl
theorem eqL_dec (a b : List ByteArray) : eqL a b = decide (a = b) := by
 rw [Bool.eq_iff_iff, decide_eq_true_eq]
 constructor
 ·intro h
  rw [eqL, eqBy, Bool.and_eq_true, decide_eq_true_eq, List.all_eq_true] at h
  refine List.ext_getElem h.1 (fun i h1 h2 => ?_)
  have := h.2 (a[i], b[i]) (List.mem_iff_getElem.2 ⟨i, by rw [List.length_zip]; omega, by simp⟩)
  rw [beq_iff_eq] at this
  exact toList_inj.1 this
 ·rintro rfl
  exact eqBy_all _ rfl (fun j x y hx hy => by rw [hx] at hy; injection hy with hy; subst hy; exact beq_self_eq_true _)
theorem eqLL_dec (a b : List (List ByteArray)) : eqBy eqL a b = decide (a = b) := by
 rw [Bool.eq_iff_iff, decide_eq_true_eq]
 constructor
 ·intro h
  rw [eqBy, Bool.and_eq_true, decide_eq_true_eq, List.all_eq_true] at h
  refine List.ext_getElem h.1 (fun i h1 h2 => ?_)
  have := h.2 (a[i], b[i]) (List.mem_iff_getElem.2 ⟨i, by rw [List.length_zip]; omega, by simp⟩)
  simp only [eqL_dec, decide_eq_true_eq] at this
  exact this
 ·rintro rfl
  exact eqBy_all _ rfl (fun j x y hx hy => by rw [hx] at hy; injection hy with hy; subst hy; rw [eqL_dec]; exact decide_eq_true rfl)
theorem same_calls (w : World) (A1 A2 : Option Addr) (c1 c2 : Nat) (a b : List ByteArray) (h1 : Kd.C Kd.string w A1 a.length a) (l1 : a.length ≤ c1) (h2 : Kd.C Kd.string w A2 b.length b) (l2 : b.length ≤ c2) :
  Calls Tryz.prog 14 #[.slice A1 a.length c1, .slice A2 b.length c2] w fun e w' => e = .returned (.bool (eqL a b)) ∧ Drawn0 w w' := by
 obtain ⟨k, hk⟩ := same_ev a b (by have := Kd.C_max h1; unfold M; omega)
 rw [eqL_dec]
 exact sennitref01_Same.calls k A1 c1 a A2 c2 b _ w h1 l1 h2 l2 (hk k (Nat.le_refl _))
theorem lens_maxS {w : World} {A : Option Addr} {n : Nat} {l : List (List ByteArray)} (h : Kd.C (Kd.slice 9 Kd.string) w A n l) : ∀ x ∈ l, x.length ≤ M := by
 intro x hx
 obtain ⟨j, hj, e⟩ := List.mem_iff_getElem.1 hx
 obtain ⟨ad, A0, c0, -, -, -, hC⟩ := elemL h (show l[j]? = some x by rw [List.getElem?_eq_getElem hj, e])
 exact Kd.C_max hC
theorem all_calls (w : World) (A1 A2 : Option Addr) (c1 c2 : Nat) (a b : List (List ByteArray)) (h1 : Kd.C (Kd.slice 9 Kd.string) w A1 a.length a) (l1 : a.length ≤ c1) (h2 : Kd.C (Kd.slice 9 Kd.string) w A2 b.length b) (l2 : b.length ≤ c2) :
  Calls Tryz.prog 47 #[.slice A1 a.length c1, .slice A2 b.length c2] w fun e w' => e = .returned (.bool (eqBy eqL a b)) ∧ Drawn0 w w' := by
 obtain ⟨k, hk⟩ := all_ev a b (by have := Kd.C_max h1; unfold M; omega) (lens_maxS h1)
 rw [eqLL_dec]
 exact sennitref06_All.calls k A1 c1 a A2 c2 b _ w h1 l1 h2 l2 (hk k (Nat.le_refl _))
theorem C4.below {w w1 : World} {a : Addr} {v0 v1 v2 v3 : Value} (h : C4 w a v0 v1 v2 v3) (hb : Below w.heap.size w w1) : C4 w1 a v0 v1 v2 v3 :=
 ⟨(hb.cell (World.block_lt_of_cell? w _ h.h0)).trans h.h0, (hb.cell (World.block_lt_of_cell? w _ h.h1)).trans h.h1, (hb.cell (World.block_lt_of_cell? w _ h.h2)).trans h.h2, (hb.cell (World.block_lt_of_cell? w _ h.h3)).trans h.h3⟩
set_option maxHeartbeats 8000000 in
set_option maxRecDepth 100000 in
theorem sames_calls (w : World) (A1 A2 : Option Addr) (c1 c2 : Nat) (xs ys : List Piece) (hx : Kd.C k36 w A1 xs.length xs) (hy : Kd.C k36 w A2 ys.length ys) :
  Calls Tryz.prog 26 #[.slice A1 xs.length c1, .slice A2 ys.length c2] w fun e w' => e = .returned (.bool (eqBy sameB xs ys)) ∧ Below w.heap.size w w' := by
 have hu := Tryz.underlying36
 have hmx := Kd.C_max hx
 have hmy := Kd.C_max hy
 have HX := Aside0.mk hx
 have HY := Aside0.mk hy
 clear hx hy
 by_cases hl : xs.length = ys.length
 ·have hlb : ((xs.length : Int) == (ys.length : Int)) = true := by rw [hl]; exact beq_self_eq_true _
  have hlb2 : ((xs.length : Int) != (ys.length : Int)) = false := by rw [bne, hlb]; rfl
  have HL := Aside0.mk hl
  clear hl
  go_enter Tryz.func26, Tryz.ntmps26
  go_wp2
  go_loopg [5] xs.length (fun gg s5 wr => ∃ kk : Nat, kk ≤ xs.length ∧ xs.length - kk ≤ gg ∧ s5 = .int .i64 kk ∧ Aside0 (Below w.heap.size w wr) ∧ Aside0 (∀ (j : Nat) x y, j < kk → xs[j]? = some x → ys[j]? = some y → sameB x y = true))
  case atStart => exact ⟨0, Nat.zero_le _, by omega, rfl, ⟨Below.refl _ _⟩, ⟨fun j _ _ hj => absurd hj (Nat.not_lt_zero _)⟩⟩
  case round =>
   obtain ⟨kk, hkk, hg, rfl, HB, HJ⟩ := hrel
   by_cases hlt : kk < xs.length
   ·have hlt2 : kk < ys.length := by have := HL.out; omega
    have hltz : (kk : Int) < (xs.length : Int) := by omega
    have hltz2 : (kk : Int) < (ys.length : Int) := by omega
    obtain ⟨x, hxk⟩ : ∃ x, xs[kk]? = some x := ⟨_, List.getElem?_eq_getElem hlt⟩
    obtain ⟨y, hyk⟩ : ∃ y, ys[kk]? = some y := ⟨_, List.getElem?_eq_getElem hlt2⟩
    obtain ⟨ad, B1, d1, B2, d2, B3, d3, rfl, hcx, hpx⟩ := elemP (Kd.C_below HX.out HB.out) hxk
    obtain ⟨ad', E1, e1, E2, e2, E3, e3, rfl, hcy, hpy⟩ := elemP (Kd.C_below HY.out HB.out) hyk
    have HXK := Aside0.mk hxk
    have HYK := Aside0.mk hyk
    obtain ⟨b1, hb1⟩ : ∃ b1, eqL x.f1 y.f1 = b1 := ⟨_, rfl⟩
    obtain ⟨b2, hb2⟩ : ∃ b2, eqL x.f2 y.f2 = b2 := ⟨_, rfl⟩
    obtain ⟨b3, hb3⟩ : ∃ b3, eqBy eqL x.f3 y.f3 = b3 := ⟨_, rfl⟩
    have HS1 := Aside0.mk (fun W (hW : Below wr.heap.size wr W) => same_calls W B1 E1 d1 e1 x.f1 y.f1 (hpx.below hW).g1 hpx.l1 (hpy.below hW).g1 hpy.l1)
    have HS2 := Aside0.mk (fun W (hW : Below wr.heap.size wr W) => same_calls W B2 E2 d2 e2 x.f2 y.f2 (hpx.below hW).g2 hpx.l2 (hpy.below hW).g2 hpy.l2)
    have HS3 := Aside0.mk (fun W (hW : Below wr.heap.size wr W) => all_calls W B3 E3 d3 e3 x.f3 y.f3 (hpx.below hW).g3 hpx.l3 (hpy.below hW).g3 hpy.l3)
    rw [hb1] at HS1
    rw [hb2] at HS2
    rw [hb3] at HS3
    have HQ := Aside0.mk (show sameB x y = (x.f0 == y.f0 && b1 && b2 && b3) by rw [sameB, hb1, hb2, hb3])
    clear hpx hpy hxk hyk hb1 hb2 hb3
    go_wp2_with (fail)
    cases hne : (x.f0 == y.f0) with
    | false =>
     refine start_ (n := 53) (S := fun w' => C4 w' (ad.add (kk * 4)) (.bool x.f0) (.slice B1 x.f1.length d1) (.slice B2 x.f2.length d2) (.slice B3 x.f3.length d3) ∧ C4 w' (ad'.add (kk * 4)) (.bool y.f0) (.slice E1 y.f1.length e1) (.slice E2 y.f2.length e2) (.slice E3 y.f3.length e3)) (ds := []) (upto 53 0) (by kernel_rfl) rfl rfl ⟨⟨hcx.h0, hcx.h1, hcx.h2, hcx.h3⟩, ⟨hcy.h0, hcy.h1, hcy.h2, hcy.h3⟩⟩ (fun hHeld => ?_)
     refine with_tabW samesTab samesBits (fun HT_ HW_ => ?_)
     have HD := Aside0.mk (below_drew (Below.refl wr.heap.size wr))
     clear hcx hcy
     repeat (first
      | (refine onB (b := 12) (v := ?_) (a' := ?_) (by decide) rfl rfl (any_of HT_.out (by kernel_rfl)) (fun _ _ _ h => h) (by kernel_rfl) ?_ ?_ ?_; rotate_left; (intro w'; go_simp; first | done | with_reducible rfl); rotate_left; ((try simp only [Act.put, List.setIfInBounds_toArray, List.set_cons_zero, List.set_cons_succ, i64_w, i32_w]); first | done | rfl))
      | (refine loadB (b := 12) (v := ?_) (a' := ?_) (by decide) rfl rfl (take_ofW HT_.out HW_.out (by kernel_rfl)) (fun _ _ _ h => h) (by kernel_rfl) ?_ hHeld ?_ ?_; rotate_left; (rintro w' ⟨⟨s0, s1, s2, s3⟩, ⟨z0, z1, z2, z3⟩⟩; go_simp; first | done | with_reducible rfl); rotate_left; ((try simp only [Act.put, List.setIfInBounds_toArray, List.set_cons_zero, List.set_cons_succ, i64_w, i32_w]); first | done | rfl)))
     repeat (refine offB (b := 24) (a' := ?_) (by decide) rfl rfl (any_of HT_.out (by kernel_rfl)) (fun _ _ _ h => h) (by kernel_rfl) ?_ ?_; rotate_left; ((try simp only [Act.put, List.setIfInBounds_toArray, List.set_cons_zero, List.set_cons_succ, i64_w, i32_w]); first | done | rfl))
     repeat (first
      | (refine onB (b := 26) (v := ?_) (a' := ?_) (by decide) rfl rfl (any_of HT_.out (by kernel_rfl)) (fun _ _ _ h => h) (by kernel_rfl) ?_ ?_ ?_; rotate_left; (intro w'; go_simp; first | done | with_reducible rfl); rotate_left; ((try simp only [Act.put, List.setIfInBounds_toArray, List.set_cons_zero, List.set_cons_succ, i64_w, i32_w]); first | done | rfl))
      | (refine loadB (b := 26) (v := ?_) (a' := ?_) (by decide) rfl rfl (take_ofW HT_.out HW_.out (by kernel_rfl)) (fun _ _ _ h => h) (by kernel_rfl) ?_ hHeld ?_ ?_; rotate_left; (rintro w' ⟨⟨s0, s1, s2, s3⟩, ⟨z0, z1, z2, z3⟩⟩; go_simp; first | done | with_reducible rfl); rotate_left; ((try simp only [Act.put, List.setIfInBounds_toArray, List.set_cons_zero, List.set_cons_succ, i64_w, i32_w]); first | done | rfl)))
     repeat (refine offB (b := 38) (a' := ?_) (by decide) rfl rfl (any_of HT_.out (by kernel_rfl)) (fun _ _ _ h => h) (by kernel_rfl) ?_ ?_; rotate_left; ((try simp only [Act.put, List.setIfInBounds_toArray, List.set_cons_zero, List.set_cons_succ, i64_w, i32_w]); first | done | rfl))
     repeat (first
      | (refine onB (b := 40) (v := ?_) (a' := ?_) (by decide) rfl rfl (any_of HT_.out (by kernel_rfl)) (fun _ _ _ h => h) (by kernel_rfl) ?_ ?_ ?_; rotate_left; (intro w'; go_simp; first | done | with_reducible rfl); rotate_left; ((try simp only [Act.put, List.setIfInBounds_toArray, List.set_cons_zero, List.set_cons_succ, i64_w, i32_w]); first | done | rfl))
      | (refine loadB (b := 40) (v := ?_) (a' := ?_) (by decide) rfl rfl (take_ofW HT_.out HW_.out (by kernel_rfl)) (fun _ _ _ h => h) (by kernel_rfl) ?_ hHeld ?_ ?_; rotate_left; (rintro w' ⟨⟨s0, s1, s2, s3⟩, ⟨z0, z1, z2, z3⟩⟩; go_simp; first | done | with_reducible rfl); rotate_left; ((try simp only [Act.put, List.setIfInBounds_toArray, List.set_cons_zero, List.set_cons_succ, i64_w, i32_w]); first | done | rfl)))
     repeat (refine offB (b := 52) (a' := ?_) (by decide) rfl rfl (any_of HT_.out (by kernel_rfl)) (fun _ _ _ h => h) (by kernel_rfl) ?_ ?_; rotate_left; ((try simp only [Act.put, List.setIfInBounds_toArray, List.set_cons_zero, List.set_cons_succ, i64_w, i32_w]); first | done | rfl))
     repeat (first
      | (refine onB (b := 53) (v := ?_) (a' := ?_) (by decide) rfl rfl (any_of HT_.out (by kernel_rfl)) (fun _ _ _ h => h) (by kernel_rfl) ?_ ?_ ?_; rotate_left; (intro w'; go_simp; first | done | with_reducible rfl); rotate_left; ((try simp only [Act.put, List.setIfInBounds_toArray, List.set_cons_zero, List.set_cons_succ, i64_w, i32_w]); first | done | rfl))
      | (refine loadB (b := 53) (v := ?_) (a' := ?_) (by decide) rfl rfl (take_ofW HT_.out HW_.out (by kernel_rfl)) (fun _ _ _ h => h) (by kernel_rfl) ?_ hHeld ?_ ?_; rotate_left; (rintro w' ⟨⟨s0, s1, s2, s3⟩, ⟨z0, z1, z2, z3⟩⟩; go_simp; first | done | with_reducible rfl); rotate_left; ((try simp only [Act.put, List.setIfInBounds_toArray, List.set_cons_zero, List.set_cons_succ, i64_w, i32_w]); first | done | rfl)))
     refine done_ (done_of HT_.out (by kernel_rfl)) ?_
     have HR := Aside0.mk (show eqBy sameB xs ys = false from eqBy_hit _ HXK.out HYK.out (by rw [HQ.out, hne]; rfl))
     go_wp2_with (fail)
     go_ret
     exact ⟨by rw [HR.out]; rfl, HB.out.trans (HD.out.mono HB.out.size)⟩
    | true =>
     have HNE := Aside0.mk hne
     refine start_ (n := 53) (S := fun w' => C4 w' (ad.add (kk * 4)) (.bool x.f0) (.slice B1 x.f1.length d1) (.slice B2 x.f2.length d2) (.slice B3 x.f3.length d3) ∧ C4 w' (ad'.add (kk * 4)) (.bool y.f0) (.slice E1 y.f1.length e1) (.slice E2 y.f2.length e2) (.slice E3 y.f3.length e3)) (ds := []) (upto 53 0) (by kernel_rfl) rfl rfl ⟨⟨hcx.h0, hcx.h1, hcx.h2, hcx.h3⟩, ⟨hcy.h0, hcy.h1, hcy.h2, hcy.h3⟩⟩ (fun hHeld => ?_)
     refine with_tabW samesTab samesBits (fun HT_ HW_ => ?_)
     have HD := Aside0.mk (below_drew (Below.refl wr.heap.size wr))
     clear hcx hcy
     repeat (first
      | (refine onB (b := 22) (v := ?_) (a' := ?_) (by decide) rfl rfl (any_of HT_.out (by kernel_rfl)) (fun _ _ _ h => h) (by kernel_rfl) ?_ ?_ ?_; rotate_left; (intro w'; go_simp; first | done | with_reducible rfl); rotate_left; ((try simp only [Act.put, List.setIfInBounds_toArray, List.set_cons_zero, List.set_cons_succ, i64_w, i32_w]); first | done | rfl))
      | (refine loadB (b := 22) (v := ?_) (a' := ?_) (by decide) rfl rfl (take_ofW HT_.out HW_.out (by kernel_rfl)) (fun _ _ _ h => h) (by kernel_rfl) ?_ hHeld ?_ ?_; rotate_left; (rintro w' ⟨⟨s0, s1, s2, s3⟩, ⟨z0, z1, z2, z3⟩⟩; go_simp; first | done | with_reducible rfl); rotate_left; ((try simp only [Act.put, List.setIfInBounds_toArray, List.set_cons_zero, List.set_cons_succ, i64_w, i32_w]); first | done | rfl)))
     refine one_ (i := 22) (N := some 39) (upto 53 23) rfl rfl (one_of HT_.out (by kernel_rfl)) (by decide) (fun K hK => ?_)
     go_simp
     go_at_call 14
     refine (HS1.out _ HD.out).mono ?_
     rintro e w6 ⟨rfl, hd6⟩
     have hb6 := hd6.below
     have s6 := C4.below hHeld.1 hb6
     have z6 := C4.below hHeld.2 hb6
     have HD6 := Aside0.mk (HD.out.trans (hb6.mono HD.out.size))
     clear hb6 hd6 HD hHeld
     rename Aside0 (Below wr.heap.size wr w6) => HD
     go_simp
     refine hK.out _ _ ⟨s6, z6⟩ (fun hHeld => ?_)
     clear hK K s6 z6
     refine norm_ (a' := ?_) ?_ ?_
     rotate_left
     ·((try simp only [Act.put, List.setIfInBounds_toArray, List.set_cons_zero, List.set_cons_succ, i64_w, i32_w]); first | done | rfl)
     cases b1
     ·
      repeat (first
       | (refine onB (b := 26) (v := ?_) (a' := ?_) (by decide) rfl rfl (any_of HT_.out (by kernel_rfl)) (fun _ _ _ h => h) (by kernel_rfl) ?_ ?_ ?_; rotate_left; (intro w'; go_simp; first | done | with_reducible rfl); rotate_left; ((try simp only [Act.put, List.setIfInBounds_toArray, List.set_cons_zero, List.set_cons_succ, i64_w, i32_w]); first | done | rfl))
       | (refine loadB (b := 26) (v := ?_) (a' := ?_) (by decide) rfl rfl (take_ofW HT_.out HW_.out (by kernel_rfl)) (fun _ _ _ h => h) (by kernel_rfl) ?_ hHeld ?_ ?_; rotate_left; (rintro w' ⟨⟨s0, s1, s2, s3⟩, ⟨z0, z1, z2, z3⟩⟩; go_simp; first | done | with_reducible rfl); rotate_left; ((try simp only [Act.put, List.setIfInBounds_toArray, List.set_cons_zero, List.set_cons_succ, i64_w, i32_w]); first | done | rfl)))
      repeat (refine offB (b := 38) (a' := ?_) (by decide) rfl rfl (any_of HT_.out (by kernel_rfl)) (fun _ _ _ h => h) (by kernel_rfl) ?_ ?_; rotate_left; ((try simp only [Act.put, List.setIfInBounds_toArray, List.set_cons_zero, List.set_cons_succ, i64_w, i32_w]); first | done | rfl))
      repeat (first
       | (refine onB (b := 40) (v := ?_) (a' := ?_) (by decide) rfl rfl (any_of HT_.out (by kernel_rfl)) (fun _ _ _ h => h) (by kernel_rfl) ?_ ?_ ?_; rotate_left; (intro w'; go_simp; first | done | with_reducible rfl); rotate_left; ((try simp only [Act.put, List.setIfInBounds_toArray, List.set_cons_zero, List.set_cons_succ, i64_w, i32_w]); first | done | rfl))
       | (refine loadB (b := 40) (v := ?_) (a' := ?_) (by decide) rfl rfl (take_ofW HT_.out HW_.out (by kernel_rfl)) (fun _ _ _ h => h) (by kernel_rfl) ?_ hHeld ?_ ?_; rotate_left; (rintro w' ⟨⟨s0, s1, s2, s3⟩, ⟨z0, z1, z2, z3⟩⟩; go_simp; first | done | with_reducible rfl); rotate_left; ((try simp only [Act.put, List.setIfInBounds_toArray, List.set_cons_zero, List.set_cons_succ, i64_w, i32_w]); first | done | rfl)))
      repeat (refine offB (b := 52) (a' := ?_) (by decide) rfl rfl (any_of HT_.out (by kernel_rfl)) (fun _ _ _ h => h) (by kernel_rfl) ?_ ?_; rotate_left; ((try simp only [Act.put, List.setIfInBounds_toArray, List.set_cons_zero, List.set_cons_succ, i64_w, i32_w]); first | done | rfl))
      repeat (first
       | (refine onB (b := 53) (v := ?_) (a' := ?_) (by decide) rfl rfl (any_of HT_.out (by kernel_rfl)) (fun _ _ _ h => h) (by kernel_rfl) ?_ ?_ ?_; rotate_left; (intro w'; go_simp; first | done | with_reducible rfl); rotate_left; ((try simp only [Act.put, List.setIfInBounds_toArray, List.set_cons_zero, List.set_cons_succ, i64_w, i32_w]); first | done | rfl))
       | (refine loadB (b := 53) (v := ?_) (a' := ?_) (by decide) rfl rfl (take_ofW HT_.out HW_.out (by kernel_rfl)) (fun _ _ _ h => h) (by kernel_rfl) ?_ hHeld ?_ ?_; rotate_left; (rintro w' ⟨⟨s0, s1, s2, s3⟩, ⟨z0, z1, z2, z3⟩⟩; go_simp; first | done | with_reducible rfl); rotate_left; ((try simp only [Act.put, List.setIfInBounds_toArray, List.set_cons_zero, List.set_cons_succ, i64_w, i32_w]); first | done | rfl)))
      refine done_ (done_of HT_.out (by kernel_rfl)) ?_
      have HR := Aside0.mk (show eqBy sameB xs ys = false from eqBy_hit _ HXK.out HYK.out (by rw [HQ.out, Bool.and_false, Bool.false_and, Bool.false_and]))
      go_wp2_with (fail)
      go_ret
      exact ⟨by rw [HR.out]; rfl, HB.out.trans (HD.out.mono HB.out.size)⟩
     ·
      repeat (first
       | (refine onB (b := 36) (v := ?_) (a' := ?_) (by decide) rfl rfl (any_of HT_.out (by kernel_rfl)) (fun _ _ _ h => h) (by kernel_rfl) ?_ ?_ ?_; rotate_left; (intro w'; go_simp; first | done | with_reducible rfl); rotate_left; ((try simp only [Act.put, List.setIfInBounds_toArray, List.set_cons_zero, List.set_cons_succ, i64_w, i32_w]); first | done | rfl))
       | (refine loadB (b := 36) (v := ?_) (a' := ?_) (by decide) rfl rfl (take_ofW HT_.out HW_.out (by kernel_rfl)) (fun _ _ _ h => h) (by kernel_rfl) ?_ hHeld ?_ ?_; rotate_left; (rintro w' ⟨⟨s0, s1, s2, s3⟩, ⟨z0, z1, z2, z3⟩⟩; go_simp; first | done | with_reducible rfl); rotate_left; ((try simp only [Act.put, List.setIfInBounds_toArray, List.set_cons_zero, List.set_cons_succ, i64_w, i32_w]); first | done | rfl)))
      refine one_ (i := 36) (N := some 53) (upto 53 37) rfl rfl (one_of HT_.out (by kernel_rfl)) (by decide) (fun K hK => ?_)
      go_simp
      go_at_call 14
      refine (HS2.out _ HD.out).mono ?_
      rintro e w6 ⟨rfl, hd6⟩
      have hb6 := hd6.below
      have s6 := C4.below hHeld.1 hb6
      have z6 := C4.below hHeld.2 hb6
      have HD6 := Aside0.mk (HD.out.trans (hb6.mono HD.out.size))
      clear hb6 hd6 HD hHeld
      rename Aside0 (Below wr.heap.size wr w6) => HD
      go_simp
      refine hK.out _ _ ⟨s6, z6⟩ (fun hHeld => ?_)
      clear hK K s6 z6
      refine norm_ (a' := ?_) ?_ ?_
      rotate_left
      ·((try simp only [Act.put, List.setIfInBounds_toArray, List.set_cons_zero, List.set_cons_succ, i64_w, i32_w]); first | done | rfl)
      cases b2
      ·
       repeat (first
        | (refine onB (b := 40) (v := ?_) (a' := ?_) (by decide) rfl rfl (any_of HT_.out (by kernel_rfl)) (fun _ _ _ h => h) (by kernel_rfl) ?_ ?_ ?_; rotate_left; (intro w'; go_simp; first | done | with_reducible rfl); rotate_left; ((try simp only [Act.put, List.setIfInBounds_toArray, List.set_cons_zero, List.set_cons_succ, i64_w, i32_w]); first | done | rfl))
        | (refine loadB (b := 40) (v := ?_) (a' := ?_) (by decide) rfl rfl (take_ofW HT_.out HW_.out (by kernel_rfl)) (fun _ _ _ h => h) (by kernel_rfl) ?_ hHeld ?_ ?_; rotate_left; (rintro w' ⟨⟨s0, s1, s2, s3⟩, ⟨z0, z1, z2, z3⟩⟩; go_simp; first | done | with_reducible rfl); rotate_left; ((try simp only [Act.put, List.setIfInBounds_toArray, List.set_cons_zero, List.set_cons_succ, i64_w, i32_w]); first | done | rfl)))
       repeat (refine offB (b := 52) (a' := ?_) (by decide) rfl rfl (any_of HT_.out (by kernel_rfl)) (fun _ _ _ h => h) (by kernel_rfl) ?_ ?_; rotate_left; ((try simp only [Act.put, List.setIfInBounds_toArray, List.set_cons_zero, List.set_cons_succ, i64_w, i32_w]); first | done | rfl))
       repeat (first
        | (refine onB (b := 53) (v := ?_) (a' := ?_) (by decide) rfl rfl (any_of HT_.out (by kernel_rfl)) (fun _ _ _ h => h) (by kernel_rfl) ?_ ?_ ?_; rotate_left; (intro w'; go_simp; first | done | with_reducible rfl); rotate_left; ((try simp only [Act.put, List.setIfInBounds_toArray, List.set_cons_zero, List.set_cons_succ, i64_w, i32_w]); first | done | rfl))
        | (refine loadB (b := 53) (v := ?_) (a' := ?_) (by decide) rfl rfl (take_ofW HT_.out HW_.out (by kernel_rfl)) (fun _ _ _ h => h) (by kernel_rfl) ?_ hHeld ?_ ?_; rotate_left; (rintro w' ⟨⟨s0, s1, s2, s3⟩, ⟨z0, z1, z2, z3⟩⟩; go_simp; first | done | with_reducible rfl); rotate_left; ((try simp only [Act.put, List.setIfInBounds_toArray, List.set_cons_zero, List.set_cons_succ, i64_w, i32_w]); first | done | rfl)))
       refine done_ (done_of HT_.out (by kernel_rfl)) ?_
       have HR := Aside0.mk (show eqBy sameB xs ys = false from eqBy_hit _ HXK.out HYK.out (by rw [HQ.out, Bool.and_false, Bool.false_and]))
       go_wp2_with (fail)
       go_ret
       exact ⟨by rw [HR.out]; rfl, HB.out.trans (HD.out.mono HB.out.size)⟩
      ·
       repeat (first
        | (refine onB (b := 50) (v := ?_) (a' := ?_) (by decide) rfl rfl (any_of HT_.out (by kernel_rfl)) (fun _ _ _ h => h) (by kernel_rfl) ?_ ?_ ?_; rotate_left; (intro w'; go_simp; first | done | with_reducible rfl); rotate_left; ((try simp only [Act.put, List.setIfInBounds_toArray, List.set_cons_zero, List.set_cons_succ, i64_w, i32_w]); first | done | rfl))
        | (refine loadB (b := 50) (v := ?_) (a' := ?_) (by decide) rfl rfl (take_ofW HT_.out HW_.out (by kernel_rfl)) (fun _ _ _ h => h) (by kernel_rfl) ?_ hHeld ?_ ?_; rotate_left; (rintro w' ⟨⟨s0, s1, s2, s3⟩, ⟨z0, z1, z2, z3⟩⟩; go_simp; first | done | with_reducible rfl); rotate_left; ((try simp only [Act.put, List.setIfInBounds_toArray, List.set_cons_zero, List.set_cons_succ, i64_w, i32_w]); first | done | rfl)))
       refine one_ (i := 50) (N := some 67) (upto 53 51) rfl rfl (one_of HT_.out (by kernel_rfl)) (by decide) (fun K hK => ?_)
       go_simp
       go_at_call 47
       refine (HS3.out _ HD.out).mono ?_
       rintro e w6 ⟨rfl, hd6⟩
       have hb6 := hd6.below
       have s6 := C4.below hHeld.1 hb6
       have z6 := C4.below hHeld.2 hb6
       have HD6 := Aside0.mk (HD.out.trans (hb6.mono HD.out.size))
       clear hb6 hd6 HD hHeld
       rename Aside0 (Below wr.heap.size wr w6) => HD
       go_simp
       refine hK.out _ _ ⟨s6, z6⟩ (fun hHeld => ?_)
       clear hK K s6 z6
       refine norm_ (a' := ?_) ?_ ?_
       rotate_left
       ·((try simp only [Act.put, List.setIfInBounds_toArray, List.set_cons_zero, List.set_cons_succ, i64_w, i32_w]); first | done | rfl)
       cases b3
       ·
        repeat (first
         | (refine onB (b := 53) (v := ?_) (a' := ?_) (by decide) rfl rfl (any_of HT_.out (by kernel_rfl)) (fun _ _ _ h => h) (by kernel_rfl) ?_ ?_ ?_; rotate_left; (intro w'; go_simp; first | done | with_reducible rfl); rotate_left; ((try simp only [Act.put, List.setIfInBounds_toArray, List.set_cons_zero, List.set_cons_succ, i64_w, i32_w]); first | done | rfl))
         | (refine loadB (b := 53) (v := ?_) (a' := ?_) (by decide) rfl rfl (take_ofW HT_.out HW_.out (by kernel_rfl)) (fun _ _ _ h => h) (by kernel_rfl) ?_ hHeld ?_ ?_; rotate_left; (rintro w' ⟨⟨s0, s1, s2, s3⟩, ⟨z0, z1, z2, z3⟩⟩; go_simp; first | done | with_reducible rfl); rotate_left; ((try simp only [Act.put, List.setIfInBounds_toArray, List.set_cons_zero, List.set_cons_succ, i64_w, i32_w]); first | done | rfl)))
        refine done_ (done_of HT_.out (by kernel_rfl)) ?_
        have HR := Aside0.mk (show eqBy sameB xs ys = false from eqBy_hit _ HXK.out HYK.out (by rw [HQ.out, Bool.and_false]))
        go_wp2_with (fail)
        go_ret
        exact ⟨by rw [HR.out]; rfl, HB.out.trans (HD.out.mono HB.out.size)⟩
       ·
        repeat (first
         | (refine onB (b := 53) (v := ?_) (a' := ?_) (by decide) rfl rfl (any_of HT_.out (by kernel_rfl)) (fun _ _ _ h => h) (by kernel_rfl) ?_ ?_ ?_; rotate_left; (intro w'; go_simp; first | done | with_reducible rfl); rotate_left; ((try simp only [Act.put, List.setIfInBounds_toArray, List.set_cons_zero, List.set_cons_succ, i64_w, i32_w]); first | done | rfl))
         | (refine loadB (b := 53) (v := ?_) (a' := ?_) (by decide) rfl rfl (take_ofW HT_.out HW_.out (by kernel_rfl)) (fun _ _ _ h => h) (by kernel_rfl) ?_ hHeld ?_ ?_; rotate_left; (rintro w' ⟨⟨s0, s1, s2, s3⟩, ⟨z0, z1, z2, z3⟩⟩; go_simp; first | done | with_reducible rfl); rotate_left; ((try simp only [Act.put, List.setIfInBounds_toArray, List.set_cons_zero, List.set_cons_succ, i64_w, i32_w]); first | done | rfl)))
        refine done_ (done_of HT_.out (by kernel_rfl)) ?_
        go_wp2_with (fail)
        go_roundg (xs.length - (kk + 1))
        case measure => omega
        case rel => exact ⟨kk + 1, by omega, by omega, by go_num, ⟨HB.out.trans (HD.out.mono HB.out.size)⟩, ⟨fun j a b hj ha hb => by
         rcases Nat.lt_succ_iff_lt_or_eq.1 hj with hj | rfl
         ·exact HJ.out j a b hj ha hb
         ·rw [HXK.out] at ha
          rw [HYK.out] at hb
          injection ha with ha
          injection hb with hb
          subst ha
          subst hb
          rw [HQ.out, HNE.out]; rfl⟩⟩
   ·have hltz : ¬ (kk : Int) < (xs.length : Int) := by omega
    have hkl : kk = xs.length := by omega
    subst hkl
    have HR := Aside0.mk (show eqBy sameB xs ys = true from eqBy_all _ HL.out (fun j x y hx hy => HJ.out j x y (List.getElem?_eq_some_iff.1 hx).1 hx hy))
    go_wp2
    go_ret
    exact ⟨by rw [HR.out]; rfl, HB.out⟩
 ·have hlb : ((xs.length : Int) == (ys.length : Int)) = false := beq_eq_false_iff_ne.2 (by omega)
  have hlb2 : ((xs.length : Int) != (ys.length : Int)) = true := by rw [bne, hlb]; rfl
  have HR := Aside0.mk (show eqBy sameB xs ys = false from eqBy_len _ hl)
  clear hl
  go_enter Tryz.func26, Tryz.ntmps26
  go_wp2_with (fail)
  go_ret
  exact ⟨by rw [HR.out]; rfl, Below.refl _ _⟩
def sennitref07_Same.f (a b : List Piece) : Option Bool := some (eqBy sameB a b)
theorem sennitref07_Same.calls (A0 : Option Addr) (c0 : Nat) (l0 : List Piece) (A1 : Option Addr) (c1 : Nat) (l1 : List Piece) (r : Bool) (w : World) (hr0 : Kd.C k36 w A0 l0.length l0) (_ : l0.length ≤ c0) (hr1 : Kd.C k36 w A1 l1.length l1) (_ : l1.length ≤ c1) (h : sennitref07_Same.f l0 l1 = some r) :
  Calls Tryz.prog 26 #[.slice A0 l0.length c0, .slice A1 l1.length c1] w fun e w' => e = .returned (.bool r) ∧ Below w.heap.size w w' := by
 unfold sennitref07_Same.f at h
 injection h with h
 subst h
 exact sames_calls w A0 A1 c0 c1 l0 l1 hr0 hr1
#print axioms sennitref07_Same.calls
end Go.Proofs.YtcnjbmdnnhbfkaaGreatDoor.Ref
