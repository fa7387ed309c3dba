import Derived.Test.YtcnjbmdnnhbfkaaGreatDoorMk1
import Derived.Test.YtcnjbmdnnhbfkaaGreatDoorSize
import Derived.Test.YtcnjbmdnnhbfkaaGreatDoorShelf
import Derived.Deep.RegionWith
import Derived.Laws.EntriesVeiled
/- lines.May, lines.Open, size.longest, size.Fits at whole lists: what they compute. -/
namespace Go.Proofs.YtcnjbmdnnhbfkaaGreatDoor.Mark
open Go.RowKit Go.Proofs.YtcnjbmdnnhbfkaaGreatDoorW.PrintWords Go.Proofs.YtcnjbmdnnhbfkaaGreatDoorW.PrintLast Go.Proofs.YtcnjbmdnnhbfkaaGreatDoorW.PrintMore Go.Proofs.YtcnjbmdnnhbfkaaGreatDoor.XD Go.Proofs.YtcnjbmdnnhbfkaaGreatDoor.Size
attribute [local go_sem] max2_int min2_int max_two min_two max_three min_three max_four min_four
def ix (s : ByteArray) : Int := Lib.indexByte s.data.toList 10
def mayAt (s : ByteArray) (last : Bool) : Bool := if ix s < 0 then decide (0 < s.size) && last else decide (ix s = (s.size : Int) - 1)
def mayL (l : List ByteArray) : Bool := (List.range l.length).all fun j => mayAt (l.getD j ByteArray.empty) (decide (j + 1 = l.length))
def lastS (l : List ByteArray) : ByteArray := l.getD (l.length - 1) ByteArray.empty
def openS (s : ByteArray) : Bool := !Lib.hasSuffix s.data.toList [10]
def openL (l : List ByteArray) : Bool := decide (0 < l.length) && openS (lastS l)
theorem mayL_no {l : List ByteArray} {k : Nat} {s : ByteArray} (h : l[k]? = some s) (hn : mayAt s (decide (k + 1 = l.length)) = false) : mayL l = false := by
 have hk : k < l.length := (List.getElem?_eq_some_iff.1 h).1
 rw [mayL, List.all_eq_false]
 refine ⟨k, List.mem_range.2 hk, ?_⟩
 rw [List.getD_eq_getElem?_getD, h]
 simpa using hn
theorem mayL_yes {l : List ByteArray} (h : ∀ (j : Nat) s, l[j]? = some s → mayAt s (decide (j + 1 = l.length)) = true) : mayL l = true := by
 rw [mayL, List.all_eq_true]
 intro j hj
 have hk := List.mem_range.1 hj
 have := h j _ (List.getElem?_eq_getElem hk)
 rw [List.getD_eq_getElem?_getD, List.getElem?_eq_getElem hk]
 exact this
set_option maxHeartbeats 1000000 in
set_option maxRecDepth 100000 in
theorem may_calls (w : World) (A : Option Addr) (c : Nat) (l : List ByteArray) (hl : Kd.string.C w A l.length l) (hsz : ∀ s ∈ l, s.size ≤ 1000000) :
  Calls Tryz.prog 43 #[.slice A l.length c] w fun e w' => e = .returned (.bool (mayL l)) ∧ Below w.heap.size w w' := by
 have hmax := Kd.C_max hl
 have HC := Aside0.mk hl
 have HZ := Aside0.mk hsz
 clear hl hsz
 go_enter Tryz.func43, Tryz.ntmps43
 go_wp2
 go_loopg [9] l.length (fun gg s9 wr => ∃ kk : Nat, kk ≤ l.length ∧ l.length - kk ≤ gg ∧ s9 = .int .i64 kk ∧ w = wr ∧ Aside0 (∀ (j : Nat) s, j < kk → l[j]? = some s → mayAt s (decide (j + 1 = l.length)) = true))
 case atStart => exact ⟨0, Nat.zero_le _, by omega, rfl, rfl, ⟨fun j _ hj => absurd hj (Nat.not_lt_zero _)⟩⟩
 case round =>
  obtain ⟨kk, hkk, hg, rfl, rfl, HA⟩ := hrel
  by_cases hlt : kk < l.length
  ·have hltz : (kk : Int) < (l.length : Int) := by omega
   obtain ⟨s, hs⟩ : ∃ s, l[kk]? = some s := ⟨_, List.getElem?_eq_getElem hlt⟩
   obtain ⟨ad, rfl, hcell⟩ := elemS HC.out hs
   have HS := Aside0.mk hs
   clear hs
   have HI := Aside0.mk (Tryz.strings_Index_one s 10 w)
   obtain ⟨i, hi⟩ : ∃ i, ix s = i := ⟨_, rfl⟩
   rw [show Lib.indexByte s.data.toList 10 = i from hi] at HI
   have HM := Aside0.mk (show ∀ b, mayAt s b = if i < 0 then decide (0 < s.size) && b else decide (i = (s.size : Int) - 1) from fun b => by rw [mayAt, hi])
   clear hi
   have hl1 : (1 : Int) ≤ (l.length : Int) := by omega
   have hsz := HZ.out s (List.mem_of_getElem? HS.out)
   have no : Aside0 (mayAt s (decide (kk + 1 = l.length)) = false → mayL l = false) := ⟨fun h => mayL_no HS.out h⟩
   have yes : Aside0 (mayAt s (decide (kk + 1 = l.length)) = true → ∀ (j : Nat) t, j < kk + 1 → l[j]? = some t → mayAt t (decide (j + 1 = l.length)) = true) := ⟨fun h j t hj ht => by
    by_cases e : j = kk
    ·subst e
     have := HS.out.symm.trans ht
     injection this with this
     rw [← this]; exact h
    ·exact HA.out j t (by omega) ht⟩
   by_cases hi : i < 0
   ·have hM := HM.out (decide (kk + 1 = l.length))
    rw [if_pos hi] at hM
    by_cases hp : 0 < s.size
    ·have hpz : (0 : Int) < (s.size : Int) := by omega
     by_cases hk : kk + 1 = l.length
     ·have hkz : ((kk : Int) == (l.length : Int) - 1) = true := beq_iff_eq.2 (by omega)
      have HY := Aside0.mk (yes.out (by rw [hM]; simp [hp, hk]))
      clear hM no yes
      go_wp2_with (go_at_call 69; refine HI.out.mono ?_; rintro e w' ⟨rfl, rfl⟩)
      go_roundg (l.length - (kk + 1))
      case measure => omega
      case rel => exact ⟨kk + 1, by omega, by omega, by go_num, rfl, HY⟩
     ·have hkz : ((kk : Int) == (l.length : Int) - 1) = false := beq_eq_false_iff_ne.2 (by omega)
      have HN := Aside0.mk (no.out (by rw [hM]; simp [hk]))
      clear hM no yes
      go_wp2_with (go_at_call 69; refine HI.out.mono ?_; rintro e w' ⟨rfl, rfl⟩)
      go_ret
      exact ⟨by rw [HN.out]; rfl, Below.refl _ _⟩
    ·have hpz : ¬ (0 : Int) < (s.size : Int) := by omega
     have HN := Aside0.mk (no.out (by rw [hM]; simp [hp]))
     clear hM no yes
     go_wp2_with (go_at_call 69; refine HI.out.mono ?_; rintro e w' ⟨rfl, rfl⟩)
     go_ret
     exact ⟨by rw [HN.out]; rfl, Below.refl _ _⟩
   ·have hM := HM.out (decide (kk + 1 = l.length))
    rw [if_neg hi] at hM
    by_cases he : i = (s.size : Int) - 1
    ·have hez : (i != (s.size : Int) - 1) = false := by rw [he]; simp
     have HY := Aside0.mk (yes.out (by rw [hM]; simp [he]))
     clear hM no yes he
     go_wp2_with (go_at_call 69; refine HI.out.mono ?_; rintro e w' ⟨rfl, rfl⟩)
     go_roundg (l.length - (kk + 1))
     case measure => omega
     case rel => exact ⟨kk + 1, by omega, by omega, by go_num, rfl, HY⟩
    ·have hez : (i != (s.size : Int) - 1) = true := by rw [bne_iff_ne]; exact he
     have HN := Aside0.mk (no.out (by rw [hM]; simp [he]))
     clear hM no yes he
     go_wp2_with (go_at_call 69; refine HI.out.mono ?_; rintro e w' ⟨rfl, rfl⟩)
     go_ret
     exact ⟨by rw [HN.out]; rfl, Below.refl _ _⟩
  ·have hltz : ¬ (kk : Int) < (l.length : Int) := by omega
   have hkl : kk = l.length := by omega
   subst hkl
   go_wp2
   go_ret
   exact ⟨by rw [mayL_yes (fun j s hs => HA.out j s (by have := (List.getElem?_eq_some_iff.1 hs).1; omega) hs)]; rfl, Below.refl _ _⟩
set_option maxHeartbeats 400000 in
theorem open_calls (w : World) (A : Option Addr) (c : Nat) (l : List ByteArray) (hl : Kd.string.C w A l.length l) (hsz : ∀ s ∈ l, s.size ≤ 1000000) :
  Calls Tryz.prog 44 #[.slice A l.length c] w fun e w' => e = .returned (.bool (openL l)) ∧ w = w' := by
 have hmax := Kd.C_max hl
 by_cases h0 : 0 < l.length
 ·have h0z : (0 : Int) < (l.length : Int) := by omega
  obtain ⟨s, hs⟩ : ∃ s, l[l.length - 1]? = some s := ⟨_, List.getElem?_eq_getElem (by omega)⟩
  obtain ⟨ad, rfl, hcell⟩ := elemS hl hs
  have hss := hsz s (List.mem_of_getElem? hs)
  have HO := Aside0.mk (show openL l = openS s by rw [openL, lastS, List.getD_eq_getElem?_getD, hs]; simp [h0])
  have HH := Aside0.mk (Tryz.strings_HasSuffix s ⟨#[10]⟩ w (by omega))
  obtain ⟨b, hb⟩ : ∃ b, Lib.hasSuffix s.data.toList [10] = b := ⟨_, rfl⟩
  have HB := Aside0.mk (show openS s = !b by rw [openS, hb])
  rw [show Lib.hasSuffix s.data.toList (⟨#[10]⟩ : ByteArray).data.toList = b from hb] at HH
  clear hb hs hl hsz
  have h1 : (0 : Int) ≤ (l.length : Int) - 1 := by omega
  have h2 : (l.length : Int) - 1 < (l.length : Int) := by omega
  have h3 : ((l.length : Int) - 1).toNat = l.length - 1 := by omega
  have h4 : (1 : Int) ≤ (l.length : Int) := by omega
  go_enter Tryz.func44, Tryz.ntmps44
  go_wp2_with (go_at_call 70; refine HH.out.mono ?_; rintro e w' ⟨rfl, rfl⟩)
  go_ret
  exact ⟨by rw [HO.out, HB.out]; rfl, rfl⟩
 ·have h0z : ¬ (0 : Int) < (l.length : Int) := by omega
  have HO := Aside0.mk (show openL l = false by rw [openL]; simp [h0])
  clear hl hsz
  go_enter Tryz.func44, Tryz.ntmps44
  go_wp2
  go_ret
  exact ⟨by rw [HO.out]; rfl, rfl⟩
#print axioms may_calls
#print axioms open_calls
end Go.Proofs.YtcnjbmdnnhbfkaaGreatDoor.Mark
/- size.longest, size.Fits; mark.texts and its like: what they compute. -/
namespace Go.Proofs.YtcnjbmdnnhbfkaaGreatDoor.Mark
open Go.RowKit Go.Proofs.YtcnjbmdnnhbfkaaGreatDoorW.PrintWords Go.Proofs.YtcnjbmdnnhbfkaaGreatDoorW.PrintLast Go.Proofs.YtcnjbmdnnhbfkaaGreatDoorW.PrintMore Go.Proofs.YtcnjbmdnnhbfkaaGreatDoor.XD Go.Proofs.YtcnjbmdnnhbfkaaGreatDoor.Size
attribute [local go_sem] max2_int min2_int max_two min_two max_three min_three max_four min_four
def lng (l : List ByteArray) : Nat := l.foldl (fun m s => max m (Size.runN s)) 0
theorem lng_snoc (l : List ByteArray) (s : ByteArray) : lng (l ++ [s]) = max (lng l) (Size.runN s) := by rw [lng, List.foldl_append]; rfl
theorem take_snoc {α : Type} {l : List α} {k : Nat} {x : α} (h : l[k]? = some x) : l.take (k + 1) = l.take k ++ [x] := by
 obtain ⟨hk, rfl⟩ := List.getElem?_eq_some_iff.1 h
 exact List.take_succ_eq_append_getElem hk
set_option maxHeartbeats 1000000 in
set_option maxRecDepth 100000 in
theorem longest_calls (w : World) (A : Option Addr) (c : Nat) (ls : List (List ByteArray)) (hl : Kd.C (Kd.slice 9 Kd.string) w A ls.length ls) (hsz : ∀ l ∈ ls, ∀ s ∈ l, s.size ≤ 1000000) :
  Calls Tryz.prog 41 #[.slice A ls.length c] w fun e w' => e = .returned (.int .i64 ((lng ls.flatten : Nat) : Int)) ∧ Below w.heap.size w w' := by
 have hmax := Kd.C_max hl
 have HC := Aside0.mk hl
 have HZ := Aside0.mk hsz
 clear hl hsz
 go_enter Tryz.func41, Tryz.ntmps41
 go_wp2
 go_loopg [3, 10] ls.length (fun gg s3 s10 wr => ∃ kk : Nat, kk ≤ ls.length ∧ ls.length - kk ≤ gg ∧ s10 = .int .i64 kk ∧ s3 = .int .i64 (lng (ls.take kk).flatten : Nat) ∧ Aside0 (Below w.heap.size w wr))
 case atStart => exact ⟨0, Nat.zero_le _, by omega, rfl, rfl, ⟨Below.refl _ _⟩⟩
 case round =>
  obtain ⟨kk, hkk, hg, rfl, rfl, HB⟩ := hrel
  by_cases hlt : kk < ls.length
  ·have hltz : (kk : Int) < (ls.length : Int) := by omega
   obtain ⟨x, hx⟩ : ∃ x, ls[kk]? = some x := ⟨_, List.getElem?_eq_getElem hlt⟩
   obtain ⟨ad, A0, c0, rfl, hcell, hl0, hC0⟩ := elemL (Kd.C_below HC.out HB.out) hx
   have HZX := Aside0.mk (HZ.out x (List.mem_of_getElem? hx))
   have hxm := Kd.C_max hC0
   have HK := Aside0.mk (show (ls.take (kk + 1)).flatten = (ls.take kk).flatten ++ x by rw [take_snoc hx, List.flatten_append]; simp)
   have HCX := Aside0.mk hC0
   clear hx hC0
   generalize (ls.take kk).flatten = pre at HK ⊢
   go_wp2
   obtain ⟨wo, rfl⟩ : ∃ wo : World, wo = wr := ⟨_, rfl⟩
   go_loopg [3, 16] x.length (fun gg s3 s16 wr => ∃ j : Nat, j ≤ x.length ∧ x.length - j ≤ gg ∧ s16 = .int .i64 j ∧ s3 = .int .i64 (lng (pre ++ x.take j) : Nat) ∧ Aside0 (Below wo.heap.size wo wr))
   case atStart => exact ⟨0, Nat.zero_le _, by omega, rfl, by simp, ⟨Below.refl _ _⟩⟩
   case round =>
    obtain ⟨j, hj, hg2, rfl, rfl, HB2⟩ := hrel
    by_cases hlt2 : j < x.length
    ·have hltz2 : (j : Int) < (x.length : Int) := by omega
     obtain ⟨s, hs⟩ : ∃ s, x[j]? = some s := ⟨_, List.getElem?_eq_getElem hlt2⟩
     obtain ⟨ad2, rfl, hcell2⟩ := elemS (Kd.C_below HCX.out HB2.out) hs
     have hss := HZX.out s (List.mem_of_getElem? hs)
     have HK2 := Aside0.mk (show lng (pre ++ x.take (j + 1)) = max (lng (pre ++ x.take j)) (Size.runN s) by rw [take_snoc hs, ← List.append_assoc, lng_snoc])
     have HR := Aside0.mk (size_Run.calls s (Size.runN s : Nat) wr (by rw [size_Run.f, if_pos (by omega)]))
     clear hs
     generalize lng (pre ++ x.take j) = m at HK2 ⊢
     generalize Size.runN s = r at HK2 HR
     by_cases hm : (m : Int) < (r : Int)
     ·go_wp2_with (go_at_call 45; refine HR.out.mono ?_; rintro e w1 ⟨rfl, hb1⟩; have HB3 := Aside0.mk (HB2.out.trans (hb1.mono HB2.out.size)); clear hb1)
      go_roundg (x.length - (j + 1))
      case measure => omega
      case rel => exact ⟨j + 1, by omega, by omega, by go_num, by rw [HK2.out, Nat.max_eq_right (by omega)], HB3⟩
     ·go_wp2_with (go_at_call 45; refine HR.out.mono ?_; rintro e w1 ⟨rfl, hb1⟩; have HB3 := Aside0.mk (HB2.out.trans (hb1.mono HB2.out.size)); clear hb1)
      go_roundg (x.length - (j + 1))
      case measure => omega
      case rel => exact ⟨j + 1, by omega, by omega, by go_num, by rw [HK2.out, Nat.max_eq_left (by omega)], HB3⟩
    ·have hltz2 : ¬ (j : Int) < (x.length : Int) := by omega
     have hjl : j = x.length := by omega
     subst hjl
     have HE := Aside0.mk (show lng (pre ++ x.take x.length) = lng (ls.take (kk + 1)).flatten by rw [HK.out, List.take_length])
     rw [HE.out]
     go_wp2
     go_roundg (ls.length - (kk + 1))
     case measure => omega
     case rel => exact ⟨kk + 1, by omega, by omega, by go_num, rfl, ⟨HB.out.trans (HB2.out.mono HB.out.size)⟩⟩
  ·have hltz : ¬ (kk : Int) < (ls.length : Int) := by omega
   have hkl : kk = ls.length := by omega
   subst hkl
   have HE := Aside0.mk (show lng (ls.take ls.length).flatten = lng ls.flatten by rw [List.take_length])
   rw [HE.out]
   go_wp2
   go_ret
   exact ⟨rfl, HB.out⟩
def fitsB (n : Int) (ls : List (List ByteArray)) : Bool := decide (1 ≤ n) && decide ((lng ls.flatten : Int) < n)
set_option maxHeartbeats 400000 in
theorem fits_calls (w : World) (n : Int) (A : Option Addr) (c : Nat) (ls : List (List ByteArray)) (hl : Kd.C (Kd.slice 9 Kd.string) w A ls.length ls) (hsz : ∀ l ∈ ls, ∀ s ∈ l, s.size ≤ 1000000) :
  Calls Tryz.prog 56 #[.int .i64 n, .slice A ls.length c] w fun e w' => e = .returned (.bool (fitsB n ls)) ∧ Below w.heap.size w w' := by
 have HL := Aside0.mk (longest_calls w A c ls hl hsz)
 clear hl hsz
 by_cases h1 : 1 ≤ n
 ·obtain ⟨b, hb⟩ : ∃ b, decide ((lng ls.flatten : Int) < n) = b := ⟨_, rfl⟩
  have HF := Aside0.mk (show fitsB n ls = b by rw [fitsB, hb]; simp [h1])
  generalize lng ls.flatten = m at hb HL
  go_enter Tryz.func56, Tryz.ntmps56
  go_wp2_with (go_at_call 41; refine HL.out.mono ?_; rintro e w1 ⟨rfl, hb1⟩)
  go_ret
  exact ⟨by rw [HF.out, ← hb]; rfl, hb1⟩
 ·have HF := Aside0.mk (show fitsB n ls = false by rw [fitsB]; simp [h1])
  go_enter Tryz.func56, Tryz.ntmps56
  go_wp2
  go_ret
  exact ⟨by rw [HF.out]; rfl, Below.refl _ _⟩
#print axioms fits_calls
end Go.Proofs.YtcnjbmdnnhbfkaaGreatDoor.Mark
/- mark.texts, mark.odd: what they compute. -/
namespace Go.Proofs.YtcnjbmdnnhbfkaaGreatDoor.Mark
open Go.RowKit Go.Proofs.YtcnjbmdnnhbfkaaGreatDoorW.PrintWords Go.Proofs.YtcnjbmdnnhbfkaaGreatDoor.XD
def textsL (p : Piece) : List (List ByteArray) := [p.f1, p.f2] ++ p.f3
set_option maxHeartbeats 1000000 in
set_option maxRecDepth 100000 in
theorem texts_calls (w : World) (P : Nat → Prop) (p : Piece) (A1 : Option Addr) (c1 : Nat) (A2 : Option Addr) (c2 : Nat) (A3 : Option Addr) (c3 : Nat) (hp : PV w P p A1 c1 A2 c2 A3 c3) (hm : p.f3.length ≤ 100000) :
  Calls Tryz.prog 54 #[pv p A1 c1 A2 c2 A3 c3] w fun e w' => ∃ v, e = .returned v ∧ Kd.N (Kd.slice 9 Kd.string) 25 w' w.heap.size (fun k => P k ∨ w.heap.size ≤ k) v (textsL p) ∧ Below w.heap.size w w' := by
 have hu := Tryz.underlying36
 have HP := Aside0.mk (hp.below (below_alloc (Below.refl _ _) (.cells #[.bool p.f0, .slice A1 p.f1.length c1, .slice A2 p.f2.length c2, .slice A3 p.f3.length c3] 36)))
 have HX := Aside0.mk (boxed w (.bool p.f0) (.slice A1 p.f1.length c1) (.slice A2 p.f2.length c2) (.slice A3 p.f3.length c3) 36)
 have HW := Aside0.mk (show Below w.heap.size w (w.alloc (.cells #[.bool p.f0, .slice A1 p.f1.length c1, .slice A2 p.f2.length c2, .slice A3 p.f3.length c3] 36)) from below_alloc (Below.refl _ _) _)
 clear hp
 have hsw : (w.alloc (.cells #[.bool p.f0, .slice A1 p.f1.length c1, .slice A2 p.f2.length c2, .slice A3 p.f3.length c3] 36)).heap.size = w.heap.size + 1 := by simp
 have HSW := Aside0.mk hsw
 clear hsw
 have hcon : ∀ wa, PV wa P p A1 c1 A2 c2 A3 c3 → Calls Tryz.prog 80 #[.slice (some ⟨wa.heap.size + 1, 0, none⟩) 2 2] ((wa.alloc (.cells #[.slice A1 p.f1.length c1, .slice A2 p.f2.length c2] 25)).alloc (.cells #[.slice (some ⟨wa.heap.size, 0, none⟩) 2 2, .slice A3 p.f3.length c3] 34)) fun e w' => ∃ v, e = .returned v ∧ Kd.N (Kd.slice 9 Kd.string) 25 w' wa.heap.size (fun k => P k ∨ wa.heap.size ≤ k) v (textsL p) ∧ Below wa.heap.size wa w' := fun wa hp => by
  have b1 : Below wa.heap.size wa (wa.alloc (.cells #[.slice A1 p.f1.length c1, .slice A2 p.f2.length c2] 25)) := below_alloc (Below.refl _ _) _
  have p1 := hp.below b1
  have f2 : Kd.F (Kd.slice 9 Kd.string) (wa.alloc (.cells #[.slice A1 p.f1.length c1, .slice A2 p.f2.length c2] 25)) (fun k => P k ∨ wa.heap.size ≤ k) (some ⟨wa.heap.size, 0, none⟩) 2 [p.f1, p.f2] :=
   F_two (.inr (Nat.le_refl _)) (by simp) (by simp) p1.l1 (Kd.F_mono p1.g1 (fun _ h => .inl h)) p1.l2 (Kd.F_mono p1.g2 (fun _ h => .inl h))
  have hs : (wa.alloc (.cells #[.slice A1 p.f1.length c1, .slice A2 p.f2.length c2] 25)).heap.size = wa.heap.size + 1 := by simp
  generalize wa.alloc (.cells #[.slice A1 p.f1.length c1, .slice A2 p.f2.length c2] 25) = wb at b1 p1 f2 hs ⊢
  have b2 : Below wb.heap.size wb (wb.alloc (.cells #[.slice (some ⟨wa.heap.size, 0, none⟩) 2 2, .slice A3 p.f3.length c3] 34)) := below_alloc (Below.refl _ _) _
  have p2 := p1.below b2
  have f3 : Kd.F (Kd.slice 25 (Kd.slice 9 Kd.string)) (wb.alloc (.cells #[.slice (some ⟨wa.heap.size, 0, none⟩) 2 2, .slice A3 p.f3.length c3] 34)) (fun k => P k ∨ wa.heap.size ≤ k) (some ⟨wb.heap.size, 0, none⟩) 2 [[p.f1, p.f2], p.f3] :=
   F_two (.inr (by omega)) (by simp) (by simp) (Nat.le_refl _) (Kd.F_below f2 b2) p2.l3 (Kd.F_mono p2.g3 (fun _ h => .inl h))
  rw [hs] at f3
  have hb : Below wa.heap.size wa (wb.alloc (.cells #[.slice (some ⟨wa.heap.size, 0, none⟩) 2 2, .slice A3 p.f3.length c3] 34)) := b1.trans (b2.mono (by omega))
  have hcc := concatL_calls _ _ (some ⟨wa.heap.size + 1, 0, none⟩) 2 2 _ (Kd.V_mk (e := 34) (Nat.le_refl _) f3) (by simp; omega)
  refine hcc.mono ?_
  rintro e w' ⟨v, rfl, hN, hB⟩
  refine ⟨v, rfl, ?_, hb.trans (hB.mono hb.size)⟩
  have h2 := Kd.N_mono (Kd.N_lower hN hb.size) (ok' := fun k => P k ∨ wa.heap.size ≤ k) (fun k hk => hk.elim (fun h => h) (fun h => .inr (Nat.le_trans hb.size h)))
  rw [textsL]
  simpa using h2
 have HC := Aside0.mk (hcon _ HP.out)
 rw [HSW.out] at HC
 clear hcon
 go_enter Tryz.func54, Tryz.ntmps54
 go_wp2_with (fail)
 refine HC.out.mono ?_
 rintro e w' ⟨v, rfl, hN, hB⟩
 have HN := Aside0.mk hN
 have HB := Aside0.mk hB
 clear hN hB
 go_wp2
 go_ret
 exact ⟨_, rfl, Kd.N_mono (Kd.N_lower HN.out (Nat.le_succ _)) (fun k hk => hk.imp_right (Nat.le_trans (Nat.le_succ _))), HW.out.trans (HB.out.mono (Nat.le_succ _))⟩
set_option maxHeartbeats 400000 in
theorem notMay_calls (w : World) (A : Option Addr) (c : Nat) (l : List ByteArray) (hl : Kd.string.C w A l.length l) (hsz : ∀ s ∈ l, s.size ≤ 1000000) :
  Calls Tryz.prog 82 #[.slice A l.length c] w fun e w' => e = .returned (.bool (!mayL l)) ∧ Below w.heap.size w w' := by
 have HM := Aside0.mk (may_calls w A c l hl hsz)
 clear hl hsz
 generalize mayL l = b at HM
 go_enter Tryz.func82, Tryz.ntmps82
 go_wp2_with (go_at_call 43; refine HM.out.mono ?_; rintro e w' ⟨rfl, hb⟩)
 go_ret
 exact ⟨rfl, hb⟩
def crowd (p : Piece) : Bool := p.f0 && (decide (p.f3.length < 1) || decide (16 < p.f3.length))
set_option maxHeartbeats 400000 in
theorem crowd_calls (w : World) (p : Piece) (A1 : Option Addr) (c1 : Nat) (A2 : Option Addr) (c2 : Nat) (A3 : Option Addr) (c3 : Nat) :
  Calls Tryz.prog 52 #[pv p A1 c1 A2 c2 A3 c3] w fun e w' => e = .returned (.bool (crowd p)) ∧ Below w.heap.size w w' := by
 have hu := Tryz.underlying36
 cases hf : p.f0 with
 | false =>
  have HC := Aside0.mk (show crowd p = false by rw [crowd, hf]; rfl)
  go_enter Tryz.func52, Tryz.ntmps52
  go_wp2
  go_ret
  exact ⟨by rw [HC.out]; rfl, below_alloc (Below.refl _ _) _⟩
 | true =>
  by_cases h1 : p.f3.length < 1
  ·have h1z : (p.f3.length : Int) < 1 := by omega
   have HC := Aside0.mk (show crowd p = true by rw [crowd, hf]; simp [h1])
   clear h1
   go_enter Tryz.func52, Tryz.ntmps52
   go_wp2
   go_ret
   exact ⟨by rw [HC.out]; rfl, below_alloc (Below.refl _ _) _⟩
  ·have h1z : ¬ (p.f3.length : Int) < 1 := by omega
   by_cases h2 : 16 < p.f3.length
   ·have h2z : (16 : Int) < (p.f3.length : Int) := by omega
    have HC := Aside0.mk (show crowd p = true by rw [crowd, hf]; simp [h2])
    clear h1 h2
    go_enter Tryz.func52, Tryz.ntmps52
    go_wp2
    go_ret
    exact ⟨by rw [HC.out]; rfl, below_alloc (Below.refl _ _) _⟩
   ·have h2z : ¬ (16 : Int) < (p.f3.length : Int) := by omega
    have HC := Aside0.mk (show crowd p = false by rw [crowd, hf, decide_eq_false h1, decide_eq_false h2]; rfl)
    clear h1 h2
    go_enter Tryz.func52, Tryz.ntmps52
    go_wp2
    go_ret
    exact ⟨by rw [HC.out]; rfl, below_alloc (Below.refl _ _) _⟩
#print axioms texts_calls
end Go.Proofs.YtcnjbmdnnhbfkaaGreatDoor.Mark
/- mark.odd, form.wrong: what they compute. -/
namespace Go.Proofs.YtcnjbmdnnhbfkaaGreatDoor.Mark
open Go.RowKit Go.Proofs.YtcnjbmdnnhbfkaaGreatDoorW.PrintWords Go.Proofs.YtcnjbmdnnhbfkaaGreatDoor.XD
def badAt (n i : Nat) (p : Piece) : Bool := ((textsL p).any fun t => !mayL t) || (decide (i + 1 < n) && openL p.f1)
def badTo (l : List Piece) (k : Nat) : Bool := (List.range k).any fun i => badAt l.length i (l.getD i z36)
def oddB (l : List Piece) : Bool := !(eqBy sameB l (norm l)) || badTo l l.length
theorem badTo_succ {l : List Piece} {k : Nat} {x : Piece} (h : l[k]? = some x) : badTo l (k + 1) = (badTo l k || badAt l.length k x) := by
 rw [badTo, badTo, List.range_succ, List.any_append, List.any_cons, List.any_nil, Bool.or_false, List.getD_eq_getElem?_getD, h]; rfl
def FineP (l : List Piece) : Prop := ∀ p ∈ l, ∀ t ∈ textsL p, ∀ s ∈ t, s.size ≤ 1000000
set_option maxHeartbeats 2000000 in
set_option maxRecDepth 100000 in
theorem odd_calls (w : World) (P : Nat → Prop) (A : Option Addr) (n c : Nat) (l : List Piece) (hx : Kd.V k36 36 w w.heap.size P (.slice A n c) l) (hl : l.length ≤ 1000000) (ht : tot l ≤ 1000000) (hs3 : ∀ p ∈ l, p.f3.length ≤ 100000) (hf : FineP l) :
  Calls Tryz.prog 55 #[.slice A n c] w fun e w' => e = .returned (.bool (oddB l)) ∧ Below w.heap.size w w' := by
 have hu := Tryz.underlying36
 have eg : ∀ args w, (callFunc 82 args).run Tryz.prog w = .ok (.enter 82 args) w := enters_of Tryz.func82 (by kernel_rfl) rfl
 have EG := Aside0.mk eg
 clear eg
 have hx := Kd.V_bound hx
 obtain ⟨rfl, hcc, _⟩ := Kd.V_reads' hx
 have hmax := Kd.F_max (Kd.V_F hx)
 have HNo := Aside0.mk (normal_calls w _ A l.length c l hx hl (Nat.le_trans (wt_le_tot l) ht))
 have HX := Aside0.mk hx
 have HF := Aside0.mk hf
 have H3 := Aside0.mk hs3
 clear hx hf hs3
 obtain ⟨b0, hb0⟩ : ∃ b0, eqBy sameB l (norm l) = b0 := ⟨_, rfl⟩
 have HB0 := Aside0.mk hb0
 have HOd := Aside0.mk (show oddB l = (!b0 || badTo l l.length) by rw [oddB, hb0])
 clear hb0
 go_enter Tryz.func55, Tryz.ntmps55
 go_wp2_with (fail)
 refine HNo.out.mono ?_
 rintro e w1 ⟨v1, rfl, hN1, hb1⟩
 obtain ⟨A5, c5, e5⟩ := Kd.N_slice hN1
 subst e5
 have HS := Aside0.mk (same_calls w1 A A5 c c5 l (norm l) (Kd.C_below (Kd.F_now (Kd.V_F HX.out)) hb1) (Kd.N_reads' hN1).2.2)
 rw [HB0.out] at HS
 have HB1 := Aside0.mk hb1
 clear hN1 hb1
 generalize (norm l).length = nl at HS ⊢
 go_wp2_with (fail)
 refine HS.out.mono ?_
 rintro e w2 ⟨rfl, hb2⟩
 have HB2 := Aside0.mk (HB1.out.trans (hb2.mono HB1.out.size))
 clear hb2 HS HNo
 go_wp2
 go_loopg [3, 14] l.length (fun gg s3 s14 wr => ∃ kk : Nat, kk ≤ l.length ∧ l.length - kk ≤ gg ∧ s14 = .int .i64 kk ∧ s3 = .bool (!b0 || badTo l kk) ∧ Aside0 (Below w.heap.size w wr))
 case atStart => exact ⟨0, Nat.zero_le _, by omega, rfl, by simp [badTo], HB2⟩
 case round =>
  obtain ⟨kk, hkk, hg, rfl, rfl, HB⟩ := hrel
  by_cases hlt : kk < l.length
  ·have hltz : (kk : Int) < (l.length : Int) := by omega
   obtain ⟨x, hxk⟩ : ∃ x, l[kk]? = some x := ⟨_, List.getElem?_eq_getElem hlt⟩
   obtain ⟨ad, A1, c1, A2, c2, A3, c3, rfl, ⟨h0, h1, h2, h3⟩, hpv⟩ := elemVP (Kd.V_below HX.out HB.out) hxk
   have hmem := List.mem_of_getElem? hxk
   have HK := Aside0.mk (badTo_succ hxk)
   have HT := Aside0.mk (texts_calls (wr.alloc (.cells #[.bool x.f0, .slice A1 x.f1.length c1, .slice A2 x.f2.length c2, .slice A3 x.f3.length c3] 36)) _ x A1 c1 A2 c2 A3 c3 (hpv.below (below_alloc (Below.refl _ _) _)) (H3.out x hmem))
   have HFx := Aside0.mk (HF.out x hmem)
   have HPV := Aside0.mk (hpv.below (below_alloc (Below.refl _ _) (.cells #[.bool x.f0, .slice A1 x.f1.length c1, .slice A2 x.f2.length c2, .slice A3 x.f3.length c3] 36)))
   have HBX := Aside0.mk (boxed wr (.bool x.f0) (.slice A1 x.f1.length c1) (.slice A2 x.f2.length c2) (.slice A3 x.f3.length c3) 36)
   clear hpv hxk hmem
   obtain ⟨bt, hbt⟩ : ∃ bt, badTo l kk = bt := ⟨_, rfl⟩
   obtain ⟨bm, hbm⟩ : ∃ bm, ((textsL x).any fun t => !mayL t) = bm := ⟨_, rfl⟩
   obtain ⟨bo, hbo⟩ : ∃ bo, openL x.f1 = bo := ⟨_, rfl⟩
   rw [hbt] at HK ⊢
   have HBA := Aside0.mk (show badAt l.length kk x = (bm || (decide (kk + 1 < l.length) && bo)) by rw [badAt, hbm, hbo])
   have HBM := Aside0.mk hbm
   have HBO := Aside0.mk hbo
   clear hbt hbm hbo
   have HBW := Aside0.mk (show Below w.heap.size w (wr.alloc (.cells #[.bool x.f0, .slice A1 x.f1.length c1, .slice A2 x.f2.length c2, .slice A3 x.f3.length c3] 36)) from HB.out.alloc HB.out.size _)
   have hi1 : (1 : Int) ≤ (l.length : Int) := by omega
   have HBB := Aside0.mk (show (!b0 || badTo l (kk + 1)) = ((!b0 || bt) || (bm || (decide (kk + 1 < l.length) && bo))) by rw [HK.out, HBA.out, Bool.or_assoc])
   generalize (!b0 || bt) = bb at HBB ⊢
   go_wp2_with (fail)
   generalize wr.alloc (.cells #[.bool x.f0, .slice A1 x.f1.length c1, .slice A2 x.f2.length c2, .slice A3 x.f3.length c3] 36) = wa at HT HPV HBX HBW ⊢
   generalize wr.heap.size = bx at HBX ⊢
   refine HT.out.mono ?_
   rintro e w3 ⟨v3, rfl, hN3, hb3⟩
   obtain ⟨A6, c6, e6⟩ := Kd.N_slice hN3
   subst e6
   have HCo := Aside0.mk (containsS_calls w3 A6 c6 (textsL x) 82 #[] (fun t => !mayL t) EG.out (Kd.N_reads' hN3).2.2 (fun W t A c hW hm _ hC => (notMay_calls W A c t hC (fun s hs => HFx.out t hm s hs)).mono fun _ _ h => ⟨h.1, hW.trans (h.2.mono hW.size)⟩))
   rw [HBM.out] at HCo
   have C3 := Aside0.mk hb3
   clear hN3 hb3 HT
   generalize (textsL x).length = tl at HCo ⊢
   go_wp2_with (fail)
   refine HCo.out.mono ?_
   rintro e w4 ⟨rfl, hb4⟩
   have C4 := Aside0.mk (C3.out.trans (hb4.mono C3.out.size))
   have HB4 := Aside0.mk (HBW.out.trans (C4.out.mono HBW.out.size))
   obtain ⟨-, k1, -, -⟩ := HBX.out.below C4.out
   have HOp := Aside0.mk (open_calls w4 A1 c1 x.f1 (Kd.C_below (Kd.F_now HPV.out.g1) C4.out) (fun s hs => HFx.out x.f1 (by simp [textsL]) s hs))
   rw [HBO.out] at HOp
   clear hb4 HCo HPV HFx HK HBA HBM HBO
   cases bb
   ·cases bm
    ·by_cases hk : kk + 1 < l.length
     ·have hkz : (kk : Int) < (l.length : Int) - 1 := by omega
      have HR := Aside0.mk (show (!b0 || badTo l (kk + 1)) = bo by rw [HBB.out]; simp [hk])
      clear HBB hk
      go_wp2_with (go_at_call 44; refine HOp.out.mono ?_; rintro e w5 ⟨rfl, rfl⟩)
      go_roundg (l.length - (kk + 1))
      case measure => omega
      case rel => exact ⟨kk + 1, by omega, by omega, by go_num, by rw [HR.out], HB4⟩
     ·have hkz : ¬ (kk : Int) < (l.length : Int) - 1 := by omega
      have HR := Aside0.mk (show (!b0 || badTo l (kk + 1)) = false by rw [HBB.out]; simp [hk])
      clear HBB hk
      go_wp2
      go_roundg (l.length - (kk + 1))
      case measure => omega
      case rel => exact ⟨kk + 1, by omega, by omega, by go_num, by rw [HR.out], HB4⟩
    ·have HR := Aside0.mk (show (!b0 || badTo l (kk + 1)) = true by rw [HBB.out]; simp)
     clear HBB
     go_wp2
     go_roundg (l.length - (kk + 1))
     case measure => omega
     case rel => exact ⟨kk + 1, by omega, by omega, by go_num, by rw [HR.out], HB4⟩
   ·have HR := Aside0.mk (show (!b0 || badTo l (kk + 1)) = true by rw [HBB.out]; simp)
    clear HBB
    go_wp2
    go_roundg (l.length - (kk + 1))
    case measure => omega
    case rel => exact ⟨kk + 1, by omega, by omega, by go_num, by rw [HR.out], HB4⟩
  ·have hltz : ¬ (kk : Int) < (l.length : Int) := by omega
   have hkl : kk = l.length := by omega
   subst hkl
   rw [← HOd.out]
   go_wp2
   go_ret
   exact ⟨rfl, HB.out⟩
end Go.Proofs.YtcnjbmdnnhbfkaaGreatDoor.Mark
/- form.wrong: what it computes. -/
namespace Go.Proofs.YtcnjbmdnnhbfkaaGreatDoor.Mark
open Go.RowKit Go.Proofs.YtcnjbmdnnhbfkaaGreatDoorW.PrintWords Go.Proofs.YtcnjbmdnnhbfkaaGreatDoor.XD
def lists (l : List Piece) : List (List ByteArray) := l.flatMap textsL
theorem lists_snoc {l : List Piece} {k : Nat} {x : Piece} (h : l[k]? = some x) : lists (l.take (k + 1)) = lists (l.take k) ++ textsL x := by
 obtain ⟨hk, rfl⟩ := List.getElem?_eq_some_iff.1 h
 rw [lists, List.take_succ_eq_append_getElem hk, List.flatMap_append]; simp [lists]
theorem lists_len (l : List Piece) : (lists l).length ≤ 2 * l.length + tot l := by
 induction l with
 | nil => simp [lists]
 | cons p l ih =>
  have h1 : lists (p :: l) = textsL p ++ lists l := by simp [lists]
  have h2 : tot (p :: l) = szP p + tot l := by simp [tot]
  rw [h1, h2, List.length_append, List.length_cons]
  have : (textsL p).length = 2 + p.f3.length := by simp [textsL]; omega
  simp only [szP]
  omega
theorem tot_take (l : List Piece) (k : Nat) : tot (l.take k) ≤ tot l := by
 conv => rhs; rw [← List.take_append_drop k l, tot_append]
 omega
def wrongN (l small : List Piece) (style long : Int) : Int :=
 if style < 1 ∨ 3 < style ∨ long < 1 ∨ 4096 < long ∨ l.any crowd = true then 1
 else if (oddB l || oddB small) = true then 2
 else if fitsB long (lists l) = true then 0 else 6
theorem wrong_arg (w : World) (style long : Int) (A : Option Addr) (n c : Nat) (A' : Option Addr) (n' c' : Nat) (h : style < 1 ∨ 3 < style ∨ long < 1 ∨ 4096 < long) :
  Calls Tryz.prog 32 #[.agg #[.int .i64 style, .int .i64 long], .slice A n c, .slice A' n' c'] w fun e w' => e = .returned (.int .i64 1) ∧ Below w.heap.size w w' := by
 have hu := Tryz.underlying53
 by_cases h1 : style < 1
 ·clear h
  go_enter Tryz.func32, Tryz.ntmps32
  go_wp2
  go_ret
  exact ⟨rfl, below_alloc (Below.refl _ _) _⟩
 ·by_cases h2 : 3 < style
  ·clear h
   go_enter Tryz.func32, Tryz.ntmps32
   go_wp2
   go_ret
   exact ⟨rfl, below_alloc (Below.refl _ _) _⟩
  ·by_cases h3 : long < 1
   ·clear h
    go_enter Tryz.func32, Tryz.ntmps32
    go_wp2
    go_ret
    exact ⟨rfl, below_alloc (Below.refl _ _) _⟩
   ·have h4 : 4096 < long := by omega
    clear h
    go_enter Tryz.func32, Tryz.ntmps32
    go_wp2
    go_ret
    exact ⟨rfl, below_alloc (Below.refl _ _) _⟩
set_option maxHeartbeats 2000000 in
set_option maxRecDepth 100000 in
theorem wrong_calls (w : World) (P : Nat → Prop) (style long : Int) (A : Option Addr) (n c : Nat) (A' : Option Addr) (n' c' : Nat) (l small : List Piece) (hx : Kd.V k36 36 w w.heap.size P (.slice A n c) l) (hy : Kd.V k36 36 w w.heap.size P (.slice A' n' c') small)
  (hl : l.length ≤ 100000) (ht : tot l ≤ 100000) (hl2 : small.length ≤ 1000000) (ht2 : tot small ≤ 1000000) (h33 : ∀ p ∈ small, p.f3.length ≤ 100000) (hf : FineP l) (hf2 : FineP small) :
  Calls Tryz.prog 32 #[.agg #[.int .i64 style, .int .i64 long], .slice A n c, .slice A' n' c'] w fun e w' => e = .returned (.int .i64 (wrongN l small style long)) ∧ Below w.heap.size w w' := by
 by_cases h0 : style < 1 ∨ 3 < style ∨ long < 1 ∨ 4096 < long
 ·rw [show wrongN l small style long = 1 by rw [wrongN, if_pos (by rcases h0 with h | h | h | h <;> simp [h])]]
  exact wrong_arg w style long A n c A' n' c' h0
 have hu := Tryz.underlying53
 have hu3 := Tryz.underlying36
 have h1 : ¬ style < 1 := fun h => h0 (.inl h)
 have h2 : ¬ 3 < style := fun h => h0 (.inr (.inl h))
 have h3 : ¬ long < 1 := fun h => h0 (.inr (.inr (.inl h)))
 have h4 : ¬ 4096 < long := fun h => h0 (.inr (.inr (.inr h)))
 have HW := Aside0.mk (show wrongN l small style long = if l.any crowd = true then 1 else if (oddB l || oddB small) = true then 2 else if fitsB long (lists l) = true then 0 else 6 by
  rw [wrongN]
  by_cases hc : l.any crowd = true
  ·simp [hc]
  ·rw [if_neg (by simp only [not_or]; exact ⟨h1, h2, h3, h4, hc⟩), if_neg hc])
 clear h0
 have eg : ∀ args w, (callFunc 52 args).run Tryz.prog w = .ok (.enter 52 args) w := enters_of Tryz.func52 (by kernel_rfl) rfl
 have hs3 : ∀ p ∈ l, p.f3.length ≤ 100000 := fun p hp => by have := tot_mem hp; simp only [szP] at this; omega
 have hx0 := Kd.V_bound hx
 have hy0 := Kd.V_bound hy
 clear hx hy
 obtain ⟨rfl, hcc, _⟩ := Kd.V_reads' hx0
 obtain ⟨rfl, hcc', _⟩ := Kd.V_reads' hy0
 have hmax := Kd.F_max (Kd.V_F hx0)
 have bw := fun o => below_alloc (Below.refl w.heap.size w) o
 have HCr := Aside0.mk (fun o => containsP_calls (w.alloc o) A c l 52 #[] crowd eg (Kd.C_below (Kd.F_now (Kd.V_F hx0)) (bw o)) (fun W x A1 c1 A2 c2 A3 c3 hW _ _ => (crowd_calls W x A1 c1 A2 c2 A3 c3).mono fun _ _ h => ⟨h.1, hW.trans (h.2.mono hW.size)⟩))
 have HX := Aside0.mk hx0
 have HY := Aside0.mk hy0
 have HF := Aside0.mk hf
 have HF2 := Aside0.mk hf2
 have H3 := Aside0.mk hs3
 have H33 := Aside0.mk h33
 have HBX := Aside0.mk (show ∀ W, Below (w.alloc (.cells #[.int .i64 style, .int .i64 long] 53)).heap.size (w.alloc (.cells #[.int .i64 style, .int .i64 long] 53)) W → W.cell? ⟨w.heap.size, 1, none⟩ = some (.int .i64 long) from fun W hW => (hW.cell (p := ⟨w.heap.size, 1, none⟩) (by simp)).trans (by simp))
 have HSZ := Aside0.mk (show w.heap.size ≤ (w.alloc (.cells #[.int .i64 style, .int .i64 long] 53)).heap.size by simp)
 have HWA := Aside0.mk (bw (.cells #[.int .i64 style, .int .i64 long] 53))
 clear eg hx0 hy0 hf hf2 hs3 h33 bw
 obtain ⟨bc, hbc⟩ : ∃ bc, l.any crowd = bc := ⟨_, rfl⟩
 rw [hbc] at HCr HW
 clear hbc
 go_enter Tryz.func32, Tryz.ntmps32
 go_wp2_with (fail)
 have HCr := Aside0.mk (HCr.out (.cells #[.int .i64 style, .int .i64 long] 53))
 generalize w.alloc (.cells #[.int .i64 style, .int .i64 long] 53) = wa at HCr HBX HSZ HWA ⊢
 generalize w.heap.size = bx at HBX ⊢
 refine HCr.out.mono ?_
 rintro e w1 ⟨rfl, hb1⟩
 have C1 := Aside0.mk hb1
 clear hb1 HCr
 cases bc
 rotate_left
 ·go_wp2
  go_ret
  exact ⟨by rw [HW.out]; rfl, HWA.out.trans (C1.out.mono HSZ.out)⟩
 go_wp2
 have HB1 := Aside0.mk (HWA.out.trans (C1.out.mono HSZ.out))
 go_loopg [8, 36] l.length (fun gg s8 s36 wr => ∃ kk : Nat, kk ≤ l.length ∧ l.length - kk ≤ gg ∧ s36 = .int .i64 kk ∧ Aside0 (Kd.N (Kd.slice 9 Kd.string) 25 wr w1.heap.size (fun k => (P k ∧ k < w.heap.size) ∨ w1.heap.size ≤ k) s8 (lists (l.take kk))) ∧ Aside0 (Below w1.heap.size w1 wr))
 case atStart => exact ⟨0, Nat.zero_le _, by omega, rfl, ⟨Kd.N_nil _ _ _ _ _⟩, ⟨Below.refl _ _⟩⟩
 case round =>
  obtain ⟨kk, hkk, hg, rfl, HN, HB⟩ := hrel
  by_cases hlt : kk < l.length
  ·have hltz : (kk : Int) < (l.length : Int) := by omega
   obtain ⟨x, hxk⟩ : ∃ x, l[kk]? = some x := ⟨_, List.getElem?_eq_getElem hlt⟩
   obtain ⟨ad, A1, c1, A2, c2, A3, c3, rfl, ⟨e0, e1, e2, e3⟩, hpv⟩ := elemVP (Kd.V_below (Kd.V_below HX.out HB1.out) HB.out) hxk
   have hmem := List.mem_of_getElem? hxk
   have HK := Aside0.mk (lists_snoc hxk)
   have HT := Aside0.mk (fun o => texts_calls (wr.alloc o) _ x A1 c1 A2 c2 A3 c3 (hpv.below (below_alloc (Below.refl _ _) o)) (H3.out x hmem))
   have HLn := Aside0.mk (show (lists (l.take kk)).length + (textsL x).length ≤ 1000000 by
    have h5 := lists_len (l.take (kk + 1))
    rw [HK.out, List.length_append, List.length_take] at h5
    have := tot_take l (kk + 1)
    omega)
   have hwb := HB1.out.size
   clear hpv hxk hmem
   have hbs := HB.out.size
   obtain ⟨tx, htx⟩ : ∃ tx, textsL x = tx := ⟨_, rfl⟩
   rw [htx] at HK HT HLn
   clear htx
   go_wp2_with (first | (go_at_call 54; refine (HT.out _).mono ?_; rintro e w2 ⟨v2, rfl, hN2, hb2⟩; obtain ⟨A5, c5, e5⟩ := Kd.N_slice hN2; subst e5; have N2 := Aside0.mk hN2; have HO := Aside0.mk (Kd.N_below (Kd.N_bound HN.out) ((below_alloc (Below.refl _ _) _).trans (hb2.mono (by simp)))); have HB2 := Aside0.mk ((HB.out.alloc hbs _).trans (hb2.mono (by simp; omega))); clear hN2 hb2) | (at_builtin; refine Kd.N_append_rows (Kd.slice 9 Kd.string) (w0 := w1) w1.heap.size rfl (.tmp 40) (.tmp 42) 34 25 (.slice none 0 0) 24 rfl Tryz.underlying34 info25' rfl (by decide) (by decide) u8 (lists (l.take kk)) tx A5 tx.length c5 (fun k => (P k ∧ k < w.heap.size) ∨ w1.heap.size ≤ k) (fun k => (P k ∧ k < w.heap.size) ∨ wr.heap.size ≤ k) rfl rfl (Kd.N_mono HO.out (fun _ h => h.1)) (Kd.F_mono (Kd.N_F N2.out) (fun k hk => hk.imp_right (fun h => by simp at h; omega))) (fun k hk => ⟨hk.imp_right (Nat.le_trans hbs), fun e => by have h1 := Kd.N_base HO.out k e.symm; have h2 := (HO.out.1 k e.symm).2; rcases hk with hk | hk <;> omega⟩) (fun k hk => .inr (Nat.le_trans HB2.out.size hk)) HB2.out HB2.out.size (by have := HLn.out; omega) ?_; intro v1 w3 hT2 hB2 _ _; have HT2 := Aside0.mk hT2; have HB3 := Aside0.mk hB2; clear hT2 hB2))
   go_roundg (l.length - (kk + 1))
   case measure => omega
   case rel => exact ⟨kk + 1, by omega, by omega, by go_num, ⟨by rw [HK.out]; exact HT2.out⟩, HB3⟩
  ·have hltz : ¬ (kk : Int) < (l.length : Int) := by omega
   have hkl : kk = l.length := by omega
   subst hkl
   have hN := HN.out
   rw [List.take_length] at hN
   obtain ⟨A5, c5, e5⟩ := Kd.N_slice hN
   subst e5
   have HN2 := Aside0.mk hN
   have HBw := Aside0.mk (HB1.out.trans (HB.out.mono HB1.out.size))
   have HO1 := Aside0.mk (odd_calls wr _ A l.length c l (Kd.V_below (Kd.V_below HX.out HB1.out) HB.out) (by omega) (by omega) H3.out HF.out)
   have HO2 := Aside0.mk (fun W (hW : Below wr.heap.size wr W) => odd_calls W _ A' small.length c' small (Kd.V_below (Kd.V_below (Kd.V_below HY.out HB1.out) HB.out) hW) hl2 ht2 H33.out HF2.out)
   have HFi := Aside0.mk (fun W (hW : Below wr.heap.size wr W) => fits_calls W long A5 c5 (lists l) (Kd.C_below (Kd.N_reads' HN2.out).2.2 hW) (fun t ht s hs => by
    simp only [lists, List.mem_flatMap] at ht
    obtain ⟨p, hp, htp⟩ := ht
    exact HF.out p hp t htp s hs))
   obtain ⟨bo, hbo⟩ : ∃ b, oddB l = b := ⟨_, rfl⟩
   obtain ⟨bs, hbs⟩ : ∃ b, oddB small = b := ⟨_, rfl⟩
   obtain ⟨bf, hbf⟩ : ∃ b, fitsB long (lists l) = b := ⟨_, rfl⟩
   rw [hbo, hbs, hbf] at HW
   rw [hbo] at HO1
   rw [hbs] at HO2
   rw [hbf] at HFi
   clear hbo hbs hbf hN HN
   generalize (lists l).length = ll at HFi ⊢
   go_wp2_with (fail)
   refine HO1.out.mono ?_
   rintro e w3 ⟨rfl, hb3⟩
   have D3 := Aside0.mk hb3
   clear hb3 HO1
   cases bo
   ·go_wp2_with (fail)
    refine (HO2.out _ D3.out).mono ?_
    rintro e w4 ⟨rfl, hb4⟩
    have D4 := Aside0.mk (D3.out.trans (hb4.mono D3.out.size))
    clear hb4 HO2
    cases bs
    ·have kx := HBX.out w4 (C1.out.trans ((HB.out.trans (D4.out.mono HB.out.size)).mono C1.out.size))
     have HFi := Aside0.mk (HFi.out w4 D4.out)
     cases bf
     ·go_wp2_with (go_at_call 56; refine HFi.out.mono ?_; rintro e w5 ⟨rfl, hb5⟩; have D5 := Aside0.mk (D4.out.trans (hb5.mono D4.out.size)); clear hb5)
      go_ret
      exact ⟨by rw [HW.out]; rfl, HBw.out.trans (D5.out.mono HBw.out.size)⟩
     ·go_wp2_with (go_at_call 56; refine HFi.out.mono ?_; rintro e w5 ⟨rfl, hb5⟩; have D5 := Aside0.mk (D4.out.trans (hb5.mono D4.out.size)); clear hb5)
      go_ret
      exact ⟨by rw [HW.out]; rfl, HBw.out.trans (D5.out.mono HBw.out.size)⟩
    ·go_wp2
     go_ret
     exact ⟨by rw [HW.out]; rfl, HBw.out.trans (D4.out.mono HBw.out.size)⟩
   ·go_wp2
    go_ret
    exact ⟨by rw [HW.out]; rfl, HBw.out.trans (D3.out.mono HBw.out.size)⟩
#print axioms wrong_calls
end Go.Proofs.YtcnjbmdnnhbfkaaGreatDoor.Mark
/- form.mark and the page's put (conflict$1): what they compute. -/
namespace Go.Proofs.YtcnjbmdnnhbfkaaGreatDoor.Mark
open Go.RowKit Go.Proofs.YtcnjbmdnnhbfkaaGreatDoorW.PrintWords Go.Proofs.YtcnjbmdnnhbfkaaGreatDoor.XD
def nl : ByteArray := ⟨#[10]⟩
def repS (c : UInt8) (n : Nat) : ByteArray := ⟨(Lib.repeatL (⟨#[c]⟩ : ByteArray).data.toList n).toArray⟩
def markS (c : UInt8) (n : Nat) (op : Bool) (label : ByteArray) : ByteArray := (if op = true then repS c n ++ ⟨#[33]⟩ else repS c n) ++ label ++ nl
theorem repS_size (c : UInt8) (n : Nat) : (repS c n).size = n := by
 have : (Lib.repeatL [c] n).length = n := by
  induction n with
  | zero => rfl
  | succ n ih => simpa [Lib.repeatL] using ih
 simpa [repS, ByteArray.size] using this
theorem markS_size (c : UInt8) (n : Nat) (op : Bool) (label : ByteArray) : (markS c n op label).size ≤ n + label.size + 2 := by
 rw [markS, ByteArray.size_append, ByteArray.size_append]
 have h1 : nl.size = 1 := rfl
 have h2 : (⟨#[33]⟩ : ByteArray).size = 1 := rfl
 split
 ·rw [ByteArray.size_append, repS_size]; omega
 ·rw [repS_size]; omega
set_option maxHeartbeats 400000 in
theorem mark_calls (w : World) (style : Int) (n : Nat) (c : UInt8) (op : Bool) (label : ByteArray) (hn : n ≤ 4096) (hl : label.size ≤ 1000) :
  Calls Tryz.prog 58 #[.agg #[.int .i64 style, .int .i64 (n : Int)], .string ⟨#[c]⟩, .bool op, .string label] w fun e w' => e = .returned (.string (markS c n op label)) ∧ Below w.heap.size w w' := by
 have hu := Tryz.underlying53
 have hrs := repS_size c n
 have HR := Aside0.mk (Tryz.strings_Repeat ⟨#[c]⟩ n (w.alloc (.cells #[.int .i64 style, .int .i64 (n : Int)] 53)) (by omega) (by rw [show (⟨#[c]⟩ : ByteArray).size = 1 from rfl]; omega))
 rw [show (⟨(Lib.repeatL (⟨#[c]⟩ : ByteArray).data.toList n).toArray⟩ : ByteArray) = repS c n from rfl] at HR
 obtain ⟨S, hS⟩ : ∃ S, repS c n = S := ⟨_, rfl⟩
 rw [hS] at hrs HR
 have HM := Aside0.mk (show markS c n op label = (if op = true then S ++ ⟨#[33]⟩ else S) ++ label ++ nl by rw [markS, hS])
 clear hS
 have hS1 : S.size ≤ 1000000 := by omega
 clear hrs
 cases op
 ·go_enter Tryz.func58, Tryz.ntmps58
  go_wp2_with (go_at_call 67; refine HR.out.mono ?_; rintro e w1 ⟨rfl, hb1⟩; have HB := Aside0.mk ((below_alloc (Below.refl _ _) _).trans (hb1.mono (by simp))); clear hb1)
  go_ret
  exact ⟨by rw [HM.out]; rfl, HB.out⟩
 ·go_enter Tryz.func58, Tryz.ntmps58
  go_wp2_with (go_at_call 67; refine HR.out.mono ?_; rintro e w1 ⟨rfl, hb1⟩; have HB := Aside0.mk ((below_alloc (Below.refl _ _) _).trans (hb1.mono (by simp))); clear hb1)
  go_ret
  exact ⟨by rw [HM.out]; rfl, HB.out⟩
/-! ### the page -/
structure PG (B : Nat) (w : World) (gp bp bo : Nat) (style : Int) (n : Nat) (op : Bool) (vo : Value) (out : List ByteArray) : Prop where
 hgp : B ≤ gp
 hbp : B ≤ bp
 hbo : B ≤ bo
 page : w.heap[gp]? = some (.cells #[.int .i64 style, .int .i64 (n : Int), vo] 55 (0, 0))
 ptr : w.heap[bp]? = some (.cells #[.pointer (some ⟨gp, 0, none⟩)] 51 (0, 0))
 opn : w.heap[bo]? = some (.cells #[.bool op] 4 (0, 0))
 out : Kd.string.R 9 w B (fun _ => True) vo out
section
variable {B : Nat} {w w1 : World} {gp bp bo : Nat} {style : Int} {n : Nat} {op : Bool} {vo v1 : Value} {out out1 : List ByteArray}
theorem PG.ne (h : PG B w gp bp bo style n op vo out) : some gp ≠ vo.ownBlock ∧ some bp ≠ vo.ownBlock ∧ some bo ≠ vo.ownBlock ∧ gp ≠ bp ∧ gp ≠ bo ∧ bp ≠ bo := by
 have blk : ∀ {a b : Nat} {c c' : Array Value} {t t' : TypeId}, w.heap[a]? = some (.cells c t (0, 0)) → w.heap[b]? = some (.cells c' t' (0, 0)) → t ≠ t' → a ≠ b := by
  rintro a b c c' t t' h1 h2 hne rfl
  rw [h1] at h2
  injection h2 with h2
  injection h2 with _ h2
  exact hne h2
 have own : ∀ {a : Nat} {c : Array Value} {t : TypeId}, w.heap[a]? = some (.cells c t (0, 0)) → t ≠ 9 → some a ≠ vo.ownBlock := by
  intro a c t h1 hne e
  obtain ⟨c', hc⟩ := Kd.R_typed h.out a e.symm
  exact blk h1 hc hne rfl
 exact ⟨own h.page (by decide), own h.ptr (by decide), own h.opn (by decide), blk h.page h.ptr (by decide), blk h.page h.opn (by decide), blk h.ptr h.opn (by decide)⟩
theorem PG.below (h : PG B w gp bp bo style n op vo out) (hb : Below w.heap.size w w1) : PG B w1 gp bp bo style n op vo out :=
 ⟨h.hgp, h.hbp, h.hbo, blk_below h.page hb, blk_below h.ptr hb, blk_below h.opn hb, Kd.R_below h.out hb⟩
theorem PG.more (h : PG B w gp bp bo style n op vo out) (hg : w.grownBy w1 vo.ownBlock) (hat : v1.ownBlock = vo.ownBlock ∨ ∃ b, v1.ownBlock = some b ∧ w.heap.size ≤ b) (hO : Kd.string.R 9 w1 B (fun _ => True) v1 out1) :
  PG B (w1.setCell ⟨gp, 2, none⟩ v1) gp bp bo style n op v1 out1 := by
 obtain ⟨n1, n2, n3, n4, n5, n6⟩ := h.ne
 have hlt := blk_lt h.page
 have hne : some gp ≠ v1.ownBlock := by
  rcases hat with hat | ⟨b, hb, hle⟩
  ·rw [hat]; exact n1
  ·rw [hb]; intro e; injection e with e; omega
 refine ⟨h.hgp, h.hbp, h.hbo, blk_put (blk_grown h.page hg n1) 2 v1 rfl, (Below.heap_setCell _ _ _ _ (Ne.symm n4)).trans (blk_grown h.ptr hg n2), (Below.heap_setCell _ _ _ _ (Ne.symm n5)).trans (blk_grown h.opn hg n3), ?_⟩
 exact Kd.R_mono (Kd.R_far (Kd.R_tight rfl hO) (fun k hk e => hne (by rw [← hk, e])) _) (fun _ _ => trivial)
theorem PG.opened (h : PG B w gp bp bo style n op vo out) (b : Bool) : PG B (w.setCell ⟨bo, 0, none⟩ (.bool b)) gp bp bo style n b vo out := by
 obtain ⟨n1, n2, n3, n4, n5, n6⟩ := h.ne
 refine ⟨h.hgp, h.hbp, h.hbo, (Below.heap_setCell _ _ _ _ n5).trans h.page, (Below.heap_setCell _ _ _ _ n6).trans h.ptr, blk_put h.opn 0 _ rfl, ?_⟩
 exact Kd.R_mono (Kd.R_far (Kd.R_tight rfl h.out) (fun k hk e => n3 (by rw [← hk, e])) _) (fun _ _ => trivial)
theorem PG.set {b c : Nat} (h : PG B w gp bp bo style n op (.slice (some ⟨b, 0, none⟩) out.length c) out) (i : Nat) (x : ByteArray) : PG B (w.setCell ⟨b, i, none⟩ (.string x)) gp bp bo style n op (.slice (some ⟨b, 0, none⟩) out.length c) (out.set i x) := by
 obtain ⟨n1, n2, n3, n4, n5, n6⟩ := h.ne
 have ob : ∀ a : Nat, some a ≠ (Value.slice (some ⟨b, 0, none⟩) out.length c).ownBlock → a ≠ b := fun a ha e => ha (by simp [Value.ownBlock, e])
 refine ⟨h.hgp, h.hbp, h.hbo, (Below.heap_setCell _ _ _ _ (ob _ n1)).trans h.page, (Below.heap_setCell _ _ _ _ (ob _ n2)).trans h.ptr, (Below.heap_setCell _ _ _ _ (ob _ n3)).trans h.opn, ?_⟩
 have := (Kd.R_put h.out (i : Int) x).1
 rwa [Int.toNat_natCast] at this
theorem PG.cells (h : PG B w gp bp bo style n op vo out) : w.cell? ⟨gp, 0, none⟩ = some (.int .i64 style) ∧ w.cell? ⟨gp, 1, none⟩ = some (.int .i64 (n : Int)) ∧ w.cell? ⟨gp, 2, none⟩ = some vo ∧ w.cell? ⟨bp, 0, none⟩ = some (.pointer (some ⟨gp, 0, none⟩)) ∧ w.cell? ⟨bo, 0, none⟩ = some (.bool op) ∧ (∀ j, w.frozen? ⟨gp, j, none⟩ = false) ∧ (∀ j, w.frozen? ⟨bo, j, none⟩ = false) :=
 ⟨(blk_cell h.page 0).trans rfl, (blk_cell h.page 1).trans rfl, (blk_cell h.page 2).trans rfl, (blk_cell h.ptr 0).trans rfl, (blk_cell h.opn 0).trans rfl, blk_frozen h.page, blk_frozen h.opn⟩
end
def ended (l : List ByteArray) : List ByteArray := if openL l = true then l.set (l.length - 1) (lastS l ++ nl) else l
theorem openL_pos {l : List ByteArray} (h : openL l = true) : 0 < l.length := by
 simp only [openL, Bool.and_eq_true, decide_eq_true_eq] at h
 exact h.1
theorem ended_app (a l : List ByteArray) (h : openL l = true) : (a ++ l).set ((a ++ l).length - 1) (lastS l ++ nl) = a ++ ended l := by
 have hp := openL_pos h
 rw [ended, if_pos h, List.length_append, List.set_append_right _ _ (by omega), show a.length + l.length - 1 - a.length = l.length - 1 by omega]
#print axioms mark_calls
end Go.Proofs.YtcnjbmdnnhbfkaaGreatDoor.Mark
/- the page's put (conflict$1): what it computes. (Written by tools/mkq.py.) -/
namespace Go.Proofs.YtcnjbmdnnhbfkaaGreatDoor.Mark
open Go.RowKit Go.Proofs.YtcnjbmdnnhbfkaaGreatDoorW.PrintWords Go.Proofs.YtcnjbmdnnhbfkaaGreatDoorW.PrintLast Go.Proofs.YtcnjbmdnnhbfkaaGreatDoorW.PrintMore Go.Proofs.YtcnjbmdnnhbfkaaGreatDoor.XD
set_option linter.unusedSimpArgs false
def PutLine (F : Nat → Prop) (B : Nat) (w0 w : World) (gp bp bo : Nat) (style : Int) (n : Nat) (op : Bool) (out : List ByteArray) (e : Ending) (w' : World) : Prop := e = .returned (.tuple #[]) ∧ Below B w0 w' ∧ ∃ vo, PG B w' gp bp bo style n op vo out ∧ (∀ k, k < w.heap.size → F k → w'.heap[k]? = w.heap[k]? ∧ some k ≠ vo.ownBlock) ∧ w.heap.size ≤ w'.heap.size
set_option maxHeartbeats 4000000 in
set_option maxRecDepth 100000 in
theorem put_line (B : Nat) (w0 w : World) (gp bp bo : Nat) (style : Int) (n : Nat) (op : Bool) (vo : Value) (out : List ByteArray) (cg : UInt8) (label : ByteArray) (P : Nat → Prop) (A : Option Addr) (c0 : Nat) (l : List ByteArray)
  (hP : ∀ k, P k → k < w.heap.size ∧ (k ≠ gp ∧ k ≠ bo ∧ some k ≠ vo.ownBlock)) (h : PG B w gp bp bo style n op vo out) (hB : Below B w0 w) (hBw : B ≤ w.heap.size) (hl : Kd.F Kd.string w P A l.length l) (hn : n ≤ 4096) (hla : label.size ≤ 1000) (hlen : out.length + l.length ≤ 1000000) (hsz : ∀ s ∈ l, s.size ≤ 1000000) :
  Calls Tryz.prog 57 #[.string ⟨#[cg]⟩, .string label, .slice A l.length c0, .pointer (some ⟨bp, 0, none⟩), .pointer (some ⟨bo, 0, none⟩)] w (PutLine (fun k => k ≠ gp ∧ k ≠ bo ∧ some k ≠ vo.ownBlock) B w0 w gp bp bo style n (openL l) (out ++ [markS cg n op label] ++ ended l)) := by
 have hu := Tryz.underlying53
 have hu2 := Tryz.underlying55
 obtain ⟨p0, p1, p2, pp, po, pz, oz⟩ := h.cells
 obtain ⟨Av, cv, ev⟩ := Kd.R_slice h.out
 subst ev
 have hgs := blk_lt h.page
 have HM := Aside0.mk (mark_calls w.drew style n cg op label hn hla)
 have H := Aside0.mk h
 have HB := Aside0.mk hB
 have HP := Aside0.mk hP
 have HL := Aside0.mk hl
 have HZ := Aside0.mk hsz
 have hms := markS_size cg n op label
 clear h hB hP hl hsz
 have hm0 : (markS cg n op label).size ≤ 10000 := by omega
 clear hms
 obtain ⟨m, hm⟩ : ∃ m, markS cg n op label = m := ⟨_, rfl⟩
 rw [hm] at HM hm0 ⊢
 clear hm
 obtain ⟨res, hres⟩ : ∃ res, out ++ [m] ++ ended l = res := ⟨_, rfl⟩
 have HOut := Aside0.mk hres
 rw [hres]
 clear hres
 go_enter Tryz.func57, Tryz.ntmps57
 go_wp2
 refine start_ (n := 18) (S := fun w' => w'.cell? ⟨gp, 0, none⟩ = some (.int .i64 style) ∧ w'.cell? ⟨gp, 1, none⟩ = some (.int .i64 (n : Int)) ∧ w'.cell? ⟨gp, 2, none⟩ = some (.slice Av out.length cv) ∧ w'.cell? ⟨bp, 0, none⟩ = some (.pointer (some ⟨gp, 0, none⟩)) ∧ w'.cell? ⟨bo, 0, none⟩ = some (.bool op)) (ds := [17]) #[false, false, false, false, false, false, false, false, false, false, false, false, false, false, false, false, false, false] (by kernel_rfl) rfl rfl ?hS0 (fun hHeld => ?_)
 case hS0 => (first | exact ⟨by assumption, by assumption, by assumption, by assumption, by assumption⟩ | (go_simp; done) | (refine ⟨?_, ?_, ?_, ?_, ?_⟩ <;> assumption))
 refine pure_ (i := 9) (N := some 17) (v := ?_) (a' := ?_) #[false, false, false, false, false, false, false, false, false, true, false, false, false, false, false, false, false, false] rfl rfl (by kernel_rfl) (fun _ _ _ h => h) (Or.inl ⟨by rfl, ?_⟩) ?_ ?_
 rotate_left
 ·intro w'
  go_simp
  first | done | with_reducible rfl
 rotate_left
 ·try simp only [Act.put, List.setIfInBounds_toArray, List.set_cons_zero, List.set_cons_succ, i64_w, i32_w]
  first | done | rfl
 refine pure_ (i := 11) (N := some 19) (v := ?_) (a' := ?_) #[false, false, false, false, false, false, false, false, false, true, false, true, false, false, false, false, false, false] rfl rfl (by kernel_rfl) (fun _ _ _ h => h) (Or.inl ⟨by rfl, ?_⟩) ?_ ?_
 rotate_left
 ·intro w'
  go_simp
  first | done | with_reducible rfl
 rotate_left
 ·try simp only [Act.put, List.setIfInBounds_toArray, List.set_cons_zero, List.set_cons_succ, i64_w, i32_w]
  first | done | rfl
 refine take_ (i := 0) (N := some 8) (v := ?_) (a' := ?_) #[true, false, false, false, false, false, false, false, false, true, false, true, false, false, false, false, false, false] rfl rfl (by kernel_rfl) (fun _ _ _ h => h) (Or.inl ⟨by rfl, ?_⟩) hHeld ?_ ?_
 rotate_left
 ·rintro w' ⟨s0_, s1_, s2_, s3_, s4_⟩
  go_simp
  first | done | with_reducible rfl
 rotate_left
 ·try simp only [Act.put, List.setIfInBounds_toArray, List.set_cons_zero, List.set_cons_succ, i64_w, i32_w]
  first | done | rfl
 refine take_ (i := 1) (N := some 9) (v := ?_) (a' := ?_) #[true, true, false, false, false, false, false, false, false, true, false, true, false, false, false, false, false, false] rfl rfl (by kernel_rfl) (fun _ _ _ h => h) (Or.inl ⟨by rfl, ?_⟩) hHeld ?_ ?_
 rotate_left
 ·rintro w' ⟨s0_, s1_, s2_, s3_, s4_⟩
  go_simp
  first | done | with_reducible rfl
 rotate_left
 ·try simp only [Act.put, List.setIfInBounds_toArray, List.set_cons_zero, List.set_cons_succ, i64_w, i32_w]
  first | done | rfl
 refine pure_ (i := 2) (N := some 10) (v := ?_) (a' := ?_) #[true, true, true, false, false, false, false, false, false, true, false, true, false, false, false, false, false, false] rfl rfl (by kernel_rfl) (fun _ _ _ h => h) (Or.inl ⟨by rfl, ?_⟩) ?_ ?_
 rotate_left
 ·intro w'
  go_simp
  first | done | with_reducible rfl
 rotate_left
 ·try simp only [Act.put, List.setIfInBounds_toArray, List.set_cons_zero, List.set_cons_succ, i64_w, i32_w]
  first | done | rfl
 refine pure_ (i := 3) (N := some 11) (v := ?_) (a' := ?_) #[true, true, true, true, false, false, false, false, false, true, false, true, false, false, false, false, false, false] rfl rfl (by kernel_rfl) (fun _ _ _ h => h) (Or.inl ⟨by rfl, ?_⟩) ?_ ?_
 rotate_left
 ·intro w'
  go_simp
  first | done | with_reducible rfl
 rotate_left
 ·try simp only [Act.put, List.setIfInBounds_toArray, List.set_cons_zero, List.set_cons_succ, i64_w, i32_w]
  first | done | rfl
 refine take_ (i := 4) (N := some 12) (v := ?_) (a' := ?_) #[true, true, true, true, true, false, false, false, false, true, false, true, false, false, false, false, false, false] rfl rfl (by kernel_rfl) (fun _ _ _ h => h) (Or.inl ⟨by rfl, ?_⟩) hHeld ?_ ?_
 rotate_left
 ·rintro w' ⟨s0_, s1_, s2_, s3_, s4_⟩
  go_simp
  first | done | with_reducible rfl
 rotate_left
 ·try simp only [Act.put, List.setIfInBounds_toArray, List.set_cons_zero, List.set_cons_succ, i64_w, i32_w]
  first | done | rfl
 refine take_ (i := 5) (N := some 13) (v := ?_) (a' := ?_) #[true, true, true, true, true, true, false, false, false, true, false, true, false, false, false, false, false, false] rfl rfl (by kernel_rfl) (fun _ _ _ h => h) (Or.inl ⟨by rfl, ?_⟩) hHeld ?_ ?_
 rotate_left
 ·rintro w' ⟨s0_, s1_, s2_, s3_, s4_⟩
  go_simp
  first | done | with_reducible rfl
 rotate_left
 ·try simp only [Act.put, List.setIfInBounds_toArray, List.set_cons_zero, List.set_cons_succ, i64_w, i32_w]
  first | done | rfl
 refine pure_ (i := 6) (N := some 14) (v := ?_) (a' := ?_) #[true, true, true, true, true, true, true, false, false, true, false, true, false, false, false, false, false, false] rfl rfl (by kernel_rfl) (fun _ _ _ h => h) (Or.inl ⟨by rfl, ?_⟩) ?_ ?_
 rotate_left
 ·intro w'
  go_simp
  first | done | with_reducible rfl
 rotate_left
 ·try simp only [Act.put, List.setIfInBounds_toArray, List.set_cons_zero, List.set_cons_succ, i64_w, i32_w]
  first | done | rfl
 refine pure_ (i := 7) (N := some 15) (v := ?_) (a' := ?_) #[true, true, true, true, true, true, true, true, false, true, false, true, false, false, false, false, false, false] rfl rfl (by kernel_rfl) (fun _ _ _ h => h) (Or.inl ⟨by rfl, ?_⟩) ?_ ?_
 rotate_left
 ·intro w'
  go_simp
  first | done | with_reducible rfl
 rotate_left
 ·try simp only [Act.put, List.setIfInBounds_toArray, List.set_cons_zero, List.set_cons_succ, i64_w, i32_w]
  first | done | rfl
 refine take_ (i := 8) (N := some 16) (v := ?_) (a' := ?_) #[true, true, true, true, true, true, true, true, true, true, false, true, false, false, false, false, false, false] rfl rfl (by kernel_rfl) (fun _ _ _ h => h) (Or.inl ⟨by rfl, ?_⟩) hHeld ?_ ?_
 rotate_left
 ·rintro w' ⟨s0_, s1_, s2_, s3_, s4_⟩
  go_simp
  first | done | with_reducible rfl
 rotate_left
 ·try simp only [Act.put, List.setIfInBounds_toArray, List.set_cons_zero, List.set_cons_succ, i64_w, i32_w]
  first | done | rfl
 refine take_ (i := 10) (N := some 18) (v := ?_) (a' := ?_) #[true, true, true, true, true, true, true, true, true, true, true, true, false, false, false, false, false, false] rfl rfl (by kernel_rfl) (fun _ _ _ h => h) (Or.inl ⟨by rfl, ?_⟩) hHeld ?_ ?_
 rotate_left
 ·rintro w' ⟨s0_, s1_, s2_, s3_, s4_⟩
  go_simp
  first | done | with_reducible rfl
 rotate_left
 ·try simp only [Act.put, List.setIfInBounds_toArray, List.set_cons_zero, List.set_cons_succ, i64_w, i32_w]
  first | done | rfl
 refine one_ (i := 12) (N := some 20) #[true, true, true, true, true, true, true, true, true, true, true, true, true, false, false, false, false, false] rfl rfl (by kernel_rfl) (by decide) (fun K hK => ?_)
 go_simp
 go_at_call 58
 refine HM.out.mono ?_
 rintro e w6 ⟨rfl, hb6⟩
 have hb6 : Below w.heap.size w w6 := (below_drew (Below.refl _ w)).trans hb6
 have H6 := Aside0.mk (H.out.below hb6)
 obtain ⟨q0, q1, q2, qp, qo, qz, rz⟩ := H6.out.cells
 have B6 := Aside0.mk (HB.out.trans (hb6.mono hBw))
 have D6 := Aside0.mk hb6
 have hBw6 : B ≤ w6.heap.size := Nat.le_trans hBw hb6.size
 clear hb6
 clear p0 p1 p2 pp po pz oz
 go_simp
 refine hK.out _ _ (⟨q0, q1, q2, qp, qo⟩) (fun hHeld => ?_)
 clear hK K
 refine norm_ (a' := ?_) ?_ ?_
 rotate_left
 ·try simp only [Act.put, List.setIfInBounds_toArray, List.set_cons_zero, List.set_cons_succ, i64_w, i32_w]
  first | done | rfl
 refine one_ (i := 13) (N := some 21) #[true, true, true, true, true, true, true, true, true, true, true, true, true, true, false, false, false, false] rfl rfl (by kernel_rfl) (by decide) (fun K hK => ?_)
 go_simp
 refine hK.out _ _ (⟨cell_alloc q0 _, cell_alloc q1 _, cell_alloc q2 _, cell_alloc qp _, cell_alloc qo _⟩) (fun hHeld => ?_)
 clear hK K
 refine norm_ (a' := ?_) ?_ ?_
 rotate_left
 ·try simp only [Act.put, List.setIfInBounds_toArray, List.set_cons_zero, List.set_cons_succ, i64_w, i32_w]
  first | done | rfl
 refine one_ (i := 14) (N := some 22) #[true, true, true, true, true, true, true, true, true, true, true, true, true, true, true, false, false, false] rfl rfl (by kernel_rfl) (by decide) (fun K hK => ?_)
 refine Kd.R_append_step Kd.string (w0 := w0) (W := w6) B ?hw (.tmp 12) (.tmp 21) 25 9 (.string ⟨#[]⟩) 16 ?ho Tryz.underlying25 info9 rfl (by decide) (by omega) (.slice Av out.length cv) out m [.string m] (fun _ => True) (fun _ => False) ?hs ?hx rfl (fun _ h => h.elim) (fun _ _ => trivial) H6.out.out B6.out hBw6 (by omega) ?_
 case hw => rfl
 case ho => rfl
 case hs => rfl
 case hx => rfl
 intro v7 w7 hT7 hB7 hg7 hat7
 obtain ⟨A7, c7, e7⟩ := Kd.R_slice hT7
 subst e7
 have hne7 := H6.out.ne
 have hb7a := blk_grown H6.out.page hg7 hne7.1
 have hb7b := blk_grown H6.out.ptr hg7 hne7.2.1
 have hb7c := blk_grown H6.out.opn hg7 hne7.2.2.1
 clear q0 q1 q2 qp qo qz rz
 have s0 := (blk_cell hb7a 0).trans rfl
 have s1 := (blk_cell hb7a 1).trans rfl
 have s2 := (blk_cell hb7a 2).trans rfl
 have sp := (blk_cell hb7b 0).trans rfl
 have so := (blk_cell hb7c 0).trans rfl
 have sz := blk_frozen hb7a
 have h7 := H6.out.more hg7 hat7 hT7
 simp only [List.length_append, List.length_cons, List.length_nil, Nat.zero_add] at h7
 have H7 := Aside0.mk h7
 have B7 := Aside0.mk (below_cell hB7 H.out.hgp 2 (.slice A7 (out.length + 1) c7))
 have K8 := Aside0.mk (show ∀ k, k < w.heap.size → (k ≠ gp ∧ k ≠ bo ∧ some k ≠ (Value.slice Av out.length cv).ownBlock) → (w7.setCell ⟨gp, 2, none⟩ (.slice A7 (out.length + 1) c7)).heap[k]? = w.heap[k]? ∧ some k ≠ (Value.slice A7 (out.length + 1) c7).ownBlock from fun k hk hf => ⟨(Below.heap_setCell w7 ⟨gp, 2, none⟩ _ k hf.1).trans ((hg7.block k (Nat.lt_of_lt_of_le hk D6.out.size) hf.2.2).trans (D6.out.block k hk)), fun e => by
  have e : (Value.slice A7 (out ++ [m]).length c7).ownBlock = some k := by rw [e]; cases A7 <;> rfl
  rcases hat7 with h | ⟨b, h, hle⟩
  ·exact hf.2.2 (by rw [← h, e])
  ·rw [h] at e
   injection e with e
   have := D6.out.size
   omega⟩)
 have Z8 := Aside0.mk (show w.heap.size ≤ (w7.setCell ⟨gp, 2, none⟩ (.slice A7 (out.length + 1) c7)).heap.size from Nat.le_trans D6.out.size (Nat.le_trans hg7.size (by simp [World.setCell])))
 clear h7 hT7 hB7 hg7 hat7 hne7 hb7a hb7b hb7c
 simp only [List.length_append, List.length_cons, List.length_nil, Nat.zero_add]
 refine hK.out _ _ (⟨s0, s1, s2, sp, so⟩) (fun hHeld => ?_)
 clear hK K
 refine norm_ (a' := ?_) ?_ ?_
 rotate_left
 ·try simp only [Act.put, List.setIfInBounds_toArray, List.set_cons_zero, List.set_cons_succ, i64_w, i32_w]
  first | done | rfl
 refine pure_ (i := 15) (N := some 23) (v := ?_) (a' := ?_) #[true, true, true, true, true, true, true, true, true, true, true, true, true, true, true, true, false, false] rfl rfl (by kernel_rfl) (fun _ _ _ h => h) (Or.inl ⟨by rfl, ?_⟩) ?_ ?_
 rotate_left
 ·intro w'
  go_simp
  first | done | with_reducible rfl
 rotate_left
 ·try simp only [Act.put, List.setIfInBounds_toArray, List.set_cons_zero, List.set_cons_succ, i64_w, i32_w]
  first | done | rfl
 refine pure_ (i := 16) (N := some 24) (v := ?_) (a' := ?_) #[true, true, true, true, true, true, true, true, true, true, true, true, true, true, true, true, true, false] rfl rfl (by kernel_rfl) (fun _ _ _ h => h) (Or.inl ⟨by rfl, ?_⟩) ?_ ?_
 rotate_left
 ·intro w'
  go_simp
  first | done | with_reducible rfl
 rotate_left
 ·try simp only [Act.put, List.setIfInBounds_toArray, List.set_cons_zero, List.set_cons_succ, i64_w, i32_w]
  first | done | rfl
 refine last_ (i := 17) (N := none) #[true, true, true, true, true, true, true, true, true, true, true, true, true, true, true, true, true, true] rfl rfl (by kernel_rfl) (by decide) (fun K hK => ?_)
 go_simp
 refine hK.out _ _ ?_
 clear hK K
 refine norm_ (a' := ?_) ?_ ?_
 rotate_left
 ·try simp only [Act.put, List.setIfInBounds_toArray, List.set_cons_zero, List.set_cons_succ, i64_w, i32_w]
  first | done | rfl
 refine done_ (by kernel_rfl) ?_
 have hC8 := B7.out
 have HC8 := Aside0.mk (Kd.F_step HL.out (fun k hk _ => (K8.out k (HP.out k hk).1 (HP.out k hk).2).1))
 clear hC8 s0 s1 s2 sp so sz
 generalize w7.setCell ⟨gp, 2, none⟩ (.slice A7 (out.length + 1) c7) = w8 at H7 B7 HC8 K8 Z8 ⊢
 have HOp := Aside0.mk (open_calls w8 A c0 l (Kd.F_now HC8.out) HZ.out)
 obtain ⟨ob, hob⟩ : ∃ ob, openL l = ob := ⟨_, rfl⟩
 rw [hob] at HOp
 have HOB := Aside0.mk hob
 obtain ⟨p0, p1, p2, pp, po, pz, oz⟩ := H7.out.cells
 go_wp2_with (go_at_call 44; refine HOp.out.mono ?_; rintro e w' ⟨rfl, rfl⟩)
 have H9 := Aside0.mk (H7.out.opened ob)
 have B9 := Aside0.mk (below_cell B7.out H7.out.hbo 0 (.bool ob))
 have HC9 := Aside0.mk (Kd.F_now (Kd.F_step HC8.out (W1 := w8.setCell ⟨bo, 0, none⟩ (.bool ob)) (fun k hk _ => Below.heap_setCell w8 ⟨bo, 0, none⟩ _ k (HP.out k hk).2.2.1)))
 clear p0 p1 p2 pp po pz oz HOp
 have K9 := Aside0.mk (show ∀ k, k < w.heap.size → (k ≠ gp ∧ k ≠ bo ∧ some k ≠ (Value.slice Av out.length cv).ownBlock) → (w8.setCell ⟨bo, 0, none⟩ (.bool ob)).heap[k]? = w.heap[k]? ∧ some k ≠ (Value.slice A7 (out.length + 1) c7).ownBlock from fun k hk hf => ⟨(Below.heap_setCell w8 ⟨bo, 0, none⟩ _ k hf.2.1).trans (K8.out k hk hf).1, (K8.out k hk hf).2⟩)
 have Z9 := Aside0.mk (show w.heap.size ≤ (w8.setCell ⟨bo, 0, none⟩ (.bool ob)).heap.size from Nat.le_trans Z8.out (by simp [World.setCell]))
 clear K8 Z8
 generalize w8.setCell ⟨bo, 0, none⟩ (.bool ob) = w9 at H9 B9 HC9 K9 Z9 ⊢
 have hBw9 : B ≤ w9.heap.size := Nat.le_trans H9.out.hgp (Nat.le_of_lt (blk_lt H9.out.page))
 obtain ⟨p0, p1, p2, pp, po, pz, oz⟩ := H9.out.cells
 refine start_ (n := 10) (S := fun w' => w'.cell? ⟨gp, 2, none⟩ = some (.slice A7 (out.length + 1) c7) ∧ w'.cell? ⟨bp, 0, none⟩ = some (.pointer (some ⟨gp, 0, none⟩))) (ds := [9]) #[false, false, false, false, false, false, false, false, false, false] (by kernel_rfl) rfl rfl ?hS0 (fun hHeld => ?_)
 case hS0 => (first | exact ⟨by assumption, by assumption⟩ | (go_simp; done) | (refine ⟨?_, ?_⟩ <;> assumption))
 refine pure_ (i := 5) (N := some 32) (v := ?_) (a' := ?_) #[false, false, false, false, false, true, false, false, false, false] rfl rfl (by kernel_rfl) (fun _ _ _ h => h) (Or.inl ⟨by rfl, ?_⟩) ?_ ?_
 rotate_left
 ·intro w'
  go_simp
  first | done | with_reducible rfl
 rotate_left
 ·try simp only [Act.put, List.setIfInBounds_toArray, List.set_cons_zero, List.set_cons_succ, i64_w, i32_w]
  first | done | rfl
 refine take_ (i := 0) (N := some 27) (v := ?_) (a' := ?_) #[true, false, false, false, false, true, false, false, false, false] rfl rfl (by kernel_rfl) (fun _ _ _ h => h) (Or.inl ⟨by rfl, ?_⟩) hHeld ?_ ?_
 rotate_left
 ·rintro w' ⟨s0_, s1_⟩
  go_simp
  first | done | with_reducible rfl
 rotate_left
 ·try simp only [Act.put, List.setIfInBounds_toArray, List.set_cons_zero, List.set_cons_succ, i64_w, i32_w]
  first | done | rfl
 refine take_ (i := 1) (N := some 28) (v := ?_) (a' := ?_) #[true, true, false, false, false, true, false, false, false, false] rfl rfl (by kernel_rfl) (fun _ _ _ h => h) (Or.inl ⟨by rfl, ?_⟩) hHeld ?_ ?_
 rotate_left
 ·rintro w' ⟨s0_, s1_⟩
  go_simp
  first | done | with_reducible rfl
 rotate_left
 ·try simp only [Act.put, List.setIfInBounds_toArray, List.set_cons_zero, List.set_cons_succ, i64_w, i32_w]
  first | done | rfl
 refine pure_ (i := 2) (N := some 29) (v := ?_) (a' := ?_) #[true, true, true, false, false, true, false, false, false, false] rfl rfl (by kernel_rfl) (fun _ _ _ h => h) (Or.inl ⟨by rfl, ?_⟩) ?_ ?_
 rotate_left
 ·intro w'
  go_simp
  first | done | with_reducible rfl
 rotate_left
 ·try simp only [Act.put, List.setIfInBounds_toArray, List.set_cons_zero, List.set_cons_succ, i64_w, i32_w]
  first | done | rfl
 refine pure_ (i := 3) (N := some 30) (v := ?_) (a' := ?_) #[true, true, true, true, false, true, false, false, false, false] rfl rfl (by kernel_rfl) (fun _ _ _ h => h) (Or.inl ⟨by rfl, ?_⟩) ?_ ?_
 rotate_left
 ·intro w'
  go_simp
  first | done | with_reducible rfl
 rotate_left
 ·try simp only [Act.put, List.setIfInBounds_toArray, List.set_cons_zero, List.set_cons_succ, i64_w, i32_w]
  first | done | rfl
 refine take_ (i := 4) (N := some 31) (v := ?_) (a' := ?_) #[true, true, true, true, true, true, false, false, false, false] rfl rfl (by kernel_rfl) (fun _ _ _ h => h) (Or.inl ⟨by rfl, ?_⟩) hHeld ?_ ?_
 rotate_left
 ·rintro w' ⟨s0_, s1_⟩
  go_simp
  first | done | with_reducible rfl
 rotate_left
 ·try simp only [Act.put, List.setIfInBounds_toArray, List.set_cons_zero, List.set_cons_succ, i64_w, i32_w]
  first | done | rfl
 refine one_ (i := 6) (N := some 33) #[true, true, true, true, true, true, true, false, false, false] rfl rfl (by kernel_rfl) (by decide) (fun K hK => ?_)
 refine Kd.R_append_rows_step Kd.string (w0 := w0) (W := w9.drew) (Rr := Kd.string.K w9.drew) B ?hw (.tmp 31) (.tmp 32) 25 9 (.string ⟨#[]⟩) 16 ?ho Tryz.underlying25 info9 rfl (by decide) (by omega) (.slice A7 (out.length + 1) c7) (out ++ [m]) l A l.length c0 (fun _ => True) (fun _ => False) ?hs ?hx (Kd.R_drew H9.out.out) (Kd.C_drew HC9.out) (fun _ _ h => h) (fun _ h => h.elim) (fun _ _ => trivial) B9.out.drew hBw9 (by simp; omega) ?_
 case hw => rfl
 case ho => rfl
 case hs => rfl
 case hx => rfl
 intro v10 w10 hT10 hB10 hg10 hat10
 obtain ⟨A10, c10, e10⟩ := Kd.R_slice hT10
 subst e10
 have h9d : PG B w9.drew gp bp bo style n ob (.slice A7 (out.length + 1) c7) (out ++ [m]) := H9.out.below (below_drew (Below.refl _ _))
 have hne10 := h9d.ne
 have hb10a := blk_grown h9d.page hg10 hne10.1
 have hb10b := blk_grown h9d.ptr hg10 hne10.2.1
 have hb10c := blk_grown h9d.opn hg10 hne10.2.2.1
 clear p0 p1 p2 pp po pz oz
 have s0 := (blk_cell hb10a 0).trans rfl
 have s1 := (blk_cell hb10a 1).trans rfl
 have s2 := (blk_cell hb10a 2).trans rfl
 have sp := (blk_cell hb10b 0).trans rfl
 have sz := blk_frozen hb10a
 have H10 := Aside0.mk (h9d.more hg10 hat10 hT10)
 have B10 := Aside0.mk (below_cell hB10 h9d.hgp 2 (.slice A10 (out ++ [m] ++ l).length c10))
 have K10 := Aside0.mk (show ∀ k, k < w.heap.size → (k ≠ gp ∧ k ≠ bo ∧ some k ≠ (Value.slice Av out.length cv).ownBlock) → (w10.setCell ⟨gp, 2, none⟩ (.slice A10 (out ++ [m] ++ l).length c10)).heap[k]? = w.heap[k]? ∧ some k ≠ (Value.slice A10 (out ++ [m] ++ l).length c10).ownBlock from fun k hk hf => ⟨(Below.heap_setCell w10 ⟨gp, 2, none⟩ _ k hf.1).trans ((hg10.block k (Nat.lt_of_lt_of_le hk Z9.out) (by have := (K9.out k hk hf).2; simpa using this)).trans (K9.out k hk hf).1), fun e => by
  rcases hat10 with h | ⟨b, h, hle⟩
  ·have h2 := (K9.out k hk hf).2
   rw [← e] at h
   exact h2 (by rw [h])
  ·rw [h] at e
   injection e with e
   have h3 : w9.heap.size ≤ b := hle
   have := Z9.out
   omega⟩)
 have Z10 := Aside0.mk (show w.heap.size ≤ (w10.setCell ⟨gp, 2, none⟩ (.slice A10 (out ++ [m] ++ l).length c10)).heap.size from Nat.le_trans Z9.out (Nat.le_trans (show w9.heap.size ≤ w10.heap.size from hg10.size) (by simp [World.setCell])))
 clear h9d hT10 hB10 hg10 hat10 hne10 hb10a hb10b hb10c K9 Z9
 obtain ⟨n2, hn2⟩ : ∃ n2, (out ++ [m] ++ l).length = n2 := ⟨_, rfl⟩
 rw [hn2] at H10 B10 K10 Z10 ⊢
 have HN2 := Aside0.mk hn2
 clear hn2
 refine hK.out _ _ (⟨s2, sp⟩) (fun hHeld => ?_)
 clear hK K
 refine norm_ (a' := ?_) ?_ ?_
 rotate_left
 ·try simp only [Act.put, List.setIfInBounds_toArray, List.set_cons_zero, List.set_cons_succ, i64_w, i32_w]
  first | done | rfl
 refine pure_ (i := 7) (N := some 34) (v := ?_) (a' := ?_) #[true, true, true, true, true, true, true, true, false, false] rfl rfl (by kernel_rfl) (fun _ _ _ h => h) (Or.inl ⟨by rfl, ?_⟩) ?_ ?_
 rotate_left
 ·intro w'
  go_simp
  first | done | with_reducible rfl
 rotate_left
 ·try simp only [Act.put, List.setIfInBounds_toArray, List.set_cons_zero, List.set_cons_succ, i64_w, i32_w]
  first | done | rfl
 refine pure_ (i := 8) (N := some 35) (v := ?_) (a' := ?_) #[true, true, true, true, true, true, true, true, true, false] rfl rfl (by kernel_rfl) (fun _ _ _ h => h) (Or.inl ⟨by rfl, ?_⟩) ?_ ?_
 rotate_left
 ·intro w'
  go_simp
  first | done | with_reducible rfl
 rotate_left
 ·try simp only [Act.put, List.setIfInBounds_toArray, List.set_cons_zero, List.set_cons_succ, i64_w, i32_w]
  first | done | rfl
 refine last_ (i := 9) (N := none) #[true, true, true, true, true, true, true, true, true, true] rfl rfl (by kernel_rfl) (by decide) (fun K hK => ?_)
 go_simp
 refine hK.out _ _ ?_
 clear hK K
 refine norm_ (a' := ?_) ?_ ?_
 rotate_left
 ·try simp only [Act.put, List.setIfInBounds_toArray, List.set_cons_zero, List.set_cons_succ, i64_w, i32_w]
  first | done | rfl
 refine done_ (by kernel_rfl) ?_
 clear s0 s1 s2 sp sz
 generalize w10.setCell ⟨gp, 2, none⟩ (.slice A10 n2 c10) = w11 at H10 B10 K10 Z10 ⊢
 have hn2 := HN2.out
 simp only [List.length_append, List.length_cons, List.length_nil, Nat.zero_add] at hn2
 obtain ⟨p0, p1, p2, pp, po, pz, oz⟩ := H10.out.cells
 cases ob
 ·have HR := Aside0.mk (show res = out ++ [m] ++ l by rw [← HOut.out, ended, HOB.out, if_neg (by simp)])
  go_wp2
  go_end0
  rw [HR.out, HOB.out]
  exact ⟨rfl, B10.out, _, H10.out, K10.out, Z10.out⟩
 ·have hlp := openL_pos HOB.out
  obtain ⟨b, cb, eb, hbB, hbl, -⟩ := Kd.R_form H10.out.out (by rw [HN2.out]; omega)
  rw [HN2.out] at eb
  injection eb with ebA _ ebc
  subst ebA ebc
  obtain ⟨ls, hls⟩ : ∃ ls, lastS l = ls := ⟨_, rfl⟩
  have hlm : l[l.length - 1]? = some ls := by rw [← hls, lastS, List.getD_eq_getElem?_getD, List.getElem?_eq_getElem (by omega)]; rfl
  have hlz := HZ.out ls (List.mem_of_getElem? hlm)
  have hel : (out ++ [m] ++ l)[n2 - 1]? = some ls := by rw [List.getElem?_append_right (by simp; omega), show n2 - 1 - (out ++ [m]).length = l.length - 1 by simp; omega]; exact hlm
  obtain ⟨ad, ead, hcell⟩ := elemS (Kd.R_reads' H10.out.out).2.2 hel
  injection ead with ead
  subst ead
  rw [add_at, Nat.zero_add] at hcell
  have hfr : w11.frozen? ⟨b, n2 - 1, none⟩ = false := by
   obtain ⟨_, _, _, _, hz⟩ := Kd.R_elem H10.out.out ByteArray.empty ((n2 - 1 : Nat) : Int) (by omega) (by omega)
   have := hz 0
   rwa [Int.toNat_natCast, show Kd.string.sz = 1 from rfl, Nat.mul_one, Nat.add_zero] at this
  have HR := Aside0.mk (show res = (out ++ [m] ++ l).set (n2 - 1) (ls ++ nl) by rw [← HOut.out, ← ended_app _ _ HOB.out, HN2.out, hls])
  have hPG := H10.out
  rw [← HN2.out] at hPG
  have HPS := Aside0.mk ((hPG.set (n2 - 1) (ls ++ nl)).below (below_drew (Below.refl _ _)))
  have HBS := Aside0.mk (below_cell B10.out hbB (n2 - 1) (.string (ls ++ nl))).drew
  clear hlm hel hls hPG
  have hwr : IntKind.i64.wrap ((n2 : Int) - 1) = (n2 : Int) - 1 := IntWalk.i64_in _ (by omega)
  have hx0 : (0 : Int) ≤ (n2 : Int) - 1 := by omega
  have hx1 : (n2 : Int) - 1 < (n2 : Int) := by omega
  have hx2 : ((n2 : Int) - 1).toNat = n2 - 1 := by omega
  have hx3 : (1 : Int) ≤ (n2 : Int) := by omega
  have hcc : (9223372036854775807 < ls.size + 1) = False := eq_false (by omega)
  go_wp2
  refine start_ (n := 15) (S := fun w' => w'.cell? ⟨gp, 2, none⟩ = some (.slice (some ⟨b, 0, none⟩) n2 c10) ∧ w'.cell? ⟨bp, 0, none⟩ = some (.pointer (some ⟨gp, 0, none⟩)) ∧ w'.cell? ⟨b, n2 - 1, none⟩ = some (.string ls)) (ds := [14]) #[false, false, false, false, false, false, false, false, false, false, false, false, false, false, false] (by kernel_rfl) rfl rfl ?hS0 (fun hHeld => ?_)
  case hS0 => (first | exact ⟨by assumption, by assumption, by assumption⟩ | (go_simp; done) | (refine ⟨?_, ?_, ?_⟩ <;> assumption))
  refine take_ (i := 0) (N := some 37) (v := ?_) (a' := ?_) #[true, false, false, false, false, false, false, false, false, false, false, false, false, false, false] rfl rfl (by kernel_rfl) (fun _ _ _ h => h) (Or.inl ⟨by rfl, ?_⟩) hHeld ?_ ?_
  rotate_left
  ·rintro w' ⟨s0_, s1_, s2_⟩
   go_simp
   first | done | with_reducible rfl
  rotate_left
  ·try simp only [Act.put, List.setIfInBounds_toArray, List.set_cons_zero, List.set_cons_succ, i64_w, i32_w]
   first | done | rfl
  refine pure_ (i := 1) (N := some 38) (v := ?_) (a' := ?_) #[true, true, false, false, false, false, false, false, false, false, false, false, false, false, false] rfl rfl (by kernel_rfl) (fun _ _ _ h => h) (Or.inl ⟨by rfl, ?_⟩) ?_ ?_
  rotate_left
  ·intro w'
   go_simp
   first | done | with_reducible rfl
  rotate_left
  ·try simp only [Act.put, List.setIfInBounds_toArray, List.set_cons_zero, List.set_cons_succ, i64_w, i32_w]
   first | done | rfl
  refine pure_ (i := 2) (N := some 39) (v := ?_) (a' := ?_) #[true, true, true, false, false, false, false, false, false, false, false, false, false, false, false] rfl rfl (by kernel_rfl) (fun _ _ _ h => h) (Or.inl ⟨by rfl, ?_⟩) ?_ ?_
  rotate_left
  ·intro w'
   go_simp
   first | done | with_reducible rfl
  rotate_left
  ·try simp only [Act.put, List.setIfInBounds_toArray, List.set_cons_zero, List.set_cons_succ, i64_w, i32_w]
   first | done | rfl
  refine take_ (i := 3) (N := some 40) (v := ?_) (a' := ?_) #[true, true, true, true, false, false, false, false, false, false, false, false, false, false, false] rfl rfl (by kernel_rfl) (fun _ _ _ h => h) (Or.inl ⟨by rfl, ?_⟩) hHeld ?_ ?_
  rotate_left
  ·rintro w' ⟨s0_, s1_, s2_⟩
   go_simp
   first | done | with_reducible rfl
  rotate_left
  ·try simp only [Act.put, List.setIfInBounds_toArray, List.set_cons_zero, List.set_cons_succ, i64_w, i32_w]
   first | done | rfl
  refine take_ (i := 4) (N := some 41) (v := ?_) (a' := ?_) #[true, true, true, true, true, false, false, false, false, false, false, false, false, false, false] rfl rfl (by kernel_rfl) (fun _ _ _ h => h) (Or.inl ⟨by rfl, ?_⟩) hHeld ?_ ?_
  rotate_left
  ·rintro w' ⟨s0_, s1_, s2_⟩
   go_simp
   first | done | with_reducible rfl
  rotate_left
  ·try simp only [Act.put, List.setIfInBounds_toArray, List.set_cons_zero, List.set_cons_succ, i64_w, i32_w]
   first | done | rfl
  refine pure_ (i := 5) (N := some 42) (v := ?_) (a' := ?_) #[true, true, true, true, true, true, false, false, false, false, false, false, false, false, false] rfl rfl (by kernel_rfl) (fun _ _ _ h => h) (Or.inl ⟨by rfl, ?_⟩) ?_ ?_
  rotate_left
  ·intro w'
   go_simp
   first | done | with_reducible rfl
  rotate_left
  ·try simp only [Act.put, List.setIfInBounds_toArray, List.set_cons_zero, List.set_cons_succ, i64_w, i32_w]
   first | done | rfl
  refine pure_ (i := 6) (N := some 43) (v := ?_) (a' := ?_) #[true, true, true, true, true, true, true, false, false, false, false, false, false, false, false] rfl rfl (by kernel_rfl) (fun _ _ _ h => h) (Or.inl ⟨by rfl, ?_⟩) ?_ ?_
  rotate_left
  ·intro w'
   go_simp
   first | done | with_reducible rfl
  rotate_left
  ·try simp only [Act.put, List.setIfInBounds_toArray, List.set_cons_zero, List.set_cons_succ, i64_w, i32_w]
   first | done | rfl
  refine take_ (i := 7) (N := some 44) (v := ?_) (a' := ?_) #[true, true, true, true, true, true, true, true, false, false, false, false, false, false, false] rfl rfl (by kernel_rfl) (fun _ _ _ h => h) (Or.inl ⟨by rfl, ?_⟩) hHeld ?_ ?_
  rotate_left
  ·rintro w' ⟨s0_, s1_, s2_⟩
   go_simp
   first | done | with_reducible rfl
  rotate_left
  ·try simp only [Act.put, List.setIfInBounds_toArray, List.set_cons_zero, List.set_cons_succ, i64_w, i32_w]
   first | done | rfl
  refine pure_ (i := 8) (N := some 45) (v := ?_) (a' := ?_) #[true, true, true, true, true, true, true, true, true, false, false, false, false, false, false] rfl rfl (by kernel_rfl) (fun _ _ _ h => h) (Or.inl ⟨by rfl, ?_⟩) ?_ ?_
  rotate_left
  ·intro w'
   go_simp
   first | done | with_reducible rfl
  rotate_left
  ·try simp only [Act.put, List.setIfInBounds_toArray, List.set_cons_zero, List.set_cons_succ, i64_w, i32_w]
   first | done | rfl
  refine pure_ (i := 9) (N := some 46) (v := ?_) (a' := ?_) #[true, true, true, true, true, true, true, true, true, true, false, false, false, false, false] rfl rfl (by kernel_rfl) (fun _ _ _ h => h) (Or.inl ⟨by rfl, ?_⟩) ?_ ?_
  rotate_left
  ·intro w'
   go_simp
   first | done | with_reducible rfl
  rotate_left
  ·try simp only [Act.put, List.setIfInBounds_toArray, List.set_cons_zero, List.set_cons_succ, i64_w, i32_w]
   first | done | rfl
  refine pure_ (i := 10) (N := some 47) (v := ?_) (a' := ?_) #[true, true, true, true, true, true, true, true, true, true, true, false, false, false, false] rfl rfl (by kernel_rfl) (fun _ _ _ h => h) (Or.inl ⟨by rfl, ?_⟩) ?_ ?_
  rotate_left
  ·intro w'
   go_simp
   first | done | with_reducible rfl
  rotate_left
  ·try simp only [Act.put, List.setIfInBounds_toArray, List.set_cons_zero, List.set_cons_succ, i64_w, i32_w]
   first | done | rfl
  refine take_ (i := 11) (N := some 48) (v := ?_) (a' := ?_) #[true, true, true, true, true, true, true, true, true, true, true, true, false, false, false] rfl rfl (by kernel_rfl) (fun _ _ _ h => h) (Or.inl ⟨by rfl, ?_⟩) hHeld ?_ ?_
  rotate_left
  ·rintro w' ⟨s0_, s1_, s2_⟩
   go_simp
   first | done | with_reducible rfl
  rotate_left
  ·try simp only [Act.put, List.setIfInBounds_toArray, List.set_cons_zero, List.set_cons_succ, i64_w, i32_w]
   first | done | rfl
  refine pure_ (i := 12) (N := some 49) (v := ?_) (a' := ?_) #[true, true, true, true, true, true, true, true, true, true, true, true, true, false, false] rfl rfl (by kernel_rfl) (fun _ _ _ h => h) (Or.inl ⟨by rfl, ?_⟩) ?_ ?_
  rotate_left
  ·intro w'
   go_simp
   first | done | with_reducible rfl
  rotate_left
  ·try simp only [Act.put, List.setIfInBounds_toArray, List.set_cons_zero, List.set_cons_succ, i64_w, i32_w]
   first | done | rfl
  refine pure_ (i := 13) (N := some 50) (v := ?_) (a' := ?_) #[true, true, true, true, true, true, true, true, true, true, true, true, true, true, false] rfl rfl (by kernel_rfl) (fun _ _ _ h => h) (Or.inl ⟨by rfl, ?_⟩) ?_ ?_
  rotate_left
  ·intro w'
   go_simp
   first | done | with_reducible rfl
  rotate_left
  ·try simp only [Act.put, List.setIfInBounds_toArray, List.set_cons_zero, List.set_cons_succ, i64_w, i32_w]
   first | done | rfl
  refine last_ (i := 14) (N := none) #[true, true, true, true, true, true, true, true, true, true, true, true, true, true, true] rfl rfl (by kernel_rfl) (by decide) (fun K hK => ?_)
  go_simp
  refine hK.out _ _ ?_
  clear hK K
  refine norm_ (a' := ?_) ?_ ?_
  rotate_left
  ·try simp only [Act.put, List.setIfInBounds_toArray, List.set_cons_zero, List.set_cons_succ, i64_w, i32_w]
   first | done | rfl
  refine done_ (by kernel_rfl) ?_
  go_wp2
  go_end0
  rw [HR.out, HOB.out]
  refine ⟨rfl, HBS.out, _, HPS.out, fun k hk hf => ?_, Nat.le_trans Z10.out (by simp [World.setCell])⟩
  have h1 := K10.out k hk hf
  exact ⟨(Below.heap_setCell w11 ⟨b, n2 - 1, none⟩ _ k (fun e => h1.2 (by have e : k = b := e; simp [Value.ownBlock, e]))).trans h1.1, fun e => h1.2 (e.trans (by simp [Value.ownBlock]))⟩
#print axioms put_line
end Go.Proofs.YtcnjbmdnnhbfkaaGreatDoor.Mark
/- page.conflict: what it computes. -/
namespace Go.Proofs.YtcnjbmdnnhbfkaaGreatDoor.Mark
open Go.RowKit Go.Proofs.YtcnjbmdnnhbfkaaGreatDoorW.PrintWords Go.Proofs.YtcnjbmdnnhbfkaaGreatDoor.XD
def digits (i : Nat) : ByteArray := ⟨(Lib.decDigits i).toArray⟩
def label (i : Nat) : ByteArray := ⟨#[32]⟩ ++ digits i
def baseB : ByteArray := ⟨#[32, 98, 97, 115, 101]⟩
def sideA (n : Nat) (st : Bool × List ByteArray) (i : Nat) (s : List ByteArray) : Bool × List ByteArray := (openL s, st.2 ++ [markS (if i = 0 then 60 else 61) n st.1 (label (i + 1))] ++ ended s)
def baseA (n : Nat) (st : Bool × List ByteArray) (b : List ByteArray) : Bool × List ByteArray := (openL b, st.2 ++ [markS 124 n st.1 baseB] ++ ended b)
def oneSide (p : Piece) (style : Int) (n : Nat) (st : Bool × List ByteArray) (i : Nat) : Bool × List ByteArray :=
 if i = 0 ∧ style ≠ 1 then baseA n (sideA n st i (p.f3.getD i [])) p.f2 else sideA n st i (p.f3.getD i [])
def sidesTo (p : Piece) (style : Int) (n : Nat) (out : List ByteArray) (k : Nat) : Bool × List ByteArray := (List.range k).foldl (oneSide p style n) (false, out)
def conflictL (p : Piece) (style : Int) (n : Nat) (out : List ByteArray) : List ByteArray := (sidesTo p style n out p.f3.length).2 ++ [markS 62 n (sidesTo p style n out p.f3.length).1 ⟨#[]⟩]
theorem sidesTo_succ (p : Piece) (style : Int) (n : Nat) (out : List ByteArray) (k : Nat) : sidesTo p style n out (k + 1) = oneSide p style n (sidesTo p style n out k) k := by
 rw [sidesTo, sidesTo, List.range_succ, List.foldl_append]; rfl
theorem ended_len (l : List ByteArray) : (ended l).length = l.length := by unfold ended; split <;> simp
theorem sideA_len (n : Nat) (st : Bool × List ByteArray) (i : Nat) (s : List ByteArray) : (sideA n st i s).2.length = st.2.length + 1 + s.length := by simp [sideA, ended_len]; omega
theorem baseA_len (n : Nat) (st : Bool × List ByteArray) (b : List ByteArray) : (baseA n st b).2.length = st.2.length + 1 + b.length := by simp [baseA, ended_len]; omega
theorem sidesTo_len (p : Piece) (style : Int) (n : Nat) (out : List ByteArray) (k : Nat) (hk : k ≤ p.f3.length) : (sidesTo p style n out k).2.length ≤ out.length + k + (p.f3.take k).flatten.length + (if k = 0 then 0 else 1 + p.f2.length) := by
 induction k with
 | zero => simp [sidesTo]
 | succ k ih =>
  have ih := ih (by omega)
  have hx : p.f3[k]? = some (p.f3.getD k []) := by rw [List.getD_eq_getElem?_getD, List.getElem?_eq_getElem (by omega)]; rfl
  rw [sidesTo_succ, flat_snoc hx, List.length_append, oneSide, if_neg (show ¬ k + 1 = 0 by omega)]
  generalize p.f3.getD k [] = s
  split
  ·rename_i h
   rw [baseA_len, sideA_len]
   rw [if_pos h.1] at ih
   omega
  ·rw [sideA_len]
   split at ih <;> omega
theorem digits_size : ∀ i, i < 100 → (digits i).size ≤ 10 := by decide +kernel
structure Page (B : Nat) (w : World) (gp : Nat) (style : Int) (n : Nat) (vo : Value) (out : List ByteArray) : Prop where
 hgp : B ≤ gp
 page : w.heap[gp]? = some (.cells #[.int .i64 style, .int .i64 (n : Int), vo] 55 (0, 0))
 out : Kd.string.R 9 w B (fun _ => True) vo out
def Drawn (B : Nat) (w w' : World) (gp : Nat) (style : Int) (n : Nat) (vo : Value) (out : List ByteArray) : Prop :=
 ∃ vo', Page B w' gp style n vo' out ∧ (∀ k, k < w.heap.size → (k ≠ gp ∧ some k ≠ vo.ownBlock) → w'.heap[k]? = w.heap[k]? ∧ some k ≠ vo'.ownBlock) ∧ w.heap.size ≤ w'.heap.size
set_option maxHeartbeats 4000000 in
set_option maxRecDepth 100000 in
theorem conflict_calls (B : Nat) (w0 w : World) (gp : Nat) (style : Int) (n : Nat) (vo : Value) (out : List ByteArray) (P : Nat → Prop) (p : Piece) (A1 : Option Addr) (c1 : Nat) (A2 : Option Addr) (c2 : Nat) (A3 : Option Addr) (c3 : Nat)
  (hP : ∀ k, P k → k < w.heap.size ∧ (k ≠ gp ∧ some k ≠ vo.ownBlock)) (h : Page B w gp style n vo out) (hB : Below B w0 w) (hp : PV w P p A1 c1 A2 c2 A3 c3) (hn : n ≤ 4096) (h16 : p.f3.length ≤ 16) (hlen : out.length + szP p + p.f2.length + 40 ≤ 1000000) (hf : ∀ t ∈ textsL p, ∀ s ∈ t, s.size ≤ 1000000) :
  Calls Tryz.prog 33 #[.pointer (some ⟨gp, 0, none⟩), pv p A1 c1 A2 c2 A3 c3] w fun e w' => e = .returned (.tuple #[]) ∧ Below B w0 w' ∧ Drawn B w w' gp style n vo (conflictL p style n out) := by
 have hu := Tryz.underlying36
 have hu1 := Tryz.underlying55
 have hu2 := Tryz.underlying53
 have hBw : B ≤ w.heap.size := Nat.le_trans h.hgp (Nat.le_of_lt (blk_lt h.page))
 have eg : ∀ args w, (callFunc 57 args).run Tryz.prog w = .ok (.enter 57 args) w := enters_of Tryz.func57 (by kernel_rfl) rfl
 have EG := Aside0.mk eg
 clear eg
 have HX := Aside0.mk (show ∀ (W : World) (a b c : Obj), W = ((w.alloc a).alloc b).alloc c → Below w.heap.size w W ∧ W.heap[w.heap.size]? = some a ∧ W.heap[w.heap.size + 1]? = some b ∧ W.heap[w.heap.size + 2]? = some c from fun W a b c e => by
  subst e
  have s1 : (w.alloc a).heap.size = w.heap.size + 1 := by simp
  have s2 : ((w.alloc a).alloc b).heap.size = w.heap.size + 2 := by simp
  have h1 := blk_new w a
  have h2 := blk_new (w.alloc a) b
  have h3 := blk_new ((w.alloc a).alloc b) c
  rw [s1] at h2
  rw [s2] at h3
  have b1 : Below (w.alloc a).heap.size (w.alloc a) ((w.alloc a).alloc b) := below_alloc (Below.refl _ _) _
  have b2 : Below ((w.alloc a).alloc b).heap.size ((w.alloc a).alloc b) (((w.alloc a).alloc b).alloc c) := below_alloc (Below.refl _ _) _
  exact ⟨below_alloc (below_alloc (below_alloc (Below.refl _ _) _) _) _, blk_below (blk_below h1 b1) b2, blk_below h2 b2, h3⟩)
 have H := Aside0.mk h
 have HB := Aside0.mk hB
 have HP := Aside0.mk hP
 have HV := Aside0.mk hp
 have HF := Aside0.mk hf
 clear h hB hP hp hf
 go_enter Tryz.func33, Tryz.ntmps33
 go_wp2
 have hx := HX.out _ (.cells #[.pointer (some ⟨gp, 0, none⟩)] 51) (.cells #[.bool p.f0, .slice A1 p.f1.length c1, .slice A2 p.f2.length c2, .slice A3 p.f3.length c3] 36) (.cells #[.bool false] 4) rfl
 clear HX
 generalize ((w.alloc (.cells #[.pointer (some ⟨gp, 0, none⟩)] 51)).alloc (.cells #[.bool p.f0, .slice A1 p.f1.length c1, .slice A2 p.f2.length c2, .slice A3 p.f3.length c3] 36)).alloc (.cells #[.bool false] 4) = w3 at hx ⊢
 obtain ⟨bw3, b0, b1, b2⟩ := hx
 have hbp : B ≤ w.heap.size := hBw
 have HFR3 := Aside0.mk (show (∀ k, k < w.heap.size → (k ≠ gp ∧ some k ≠ vo.ownBlock) → w3.heap[k]? = w.heap[k]? ∧ some k ≠ vo.ownBlock) ∧ w.heap.size + 2 < w3.heap.size from ⟨fun k hk hf => ⟨bw3.block k hk, hf.2⟩, blk_lt b2⟩)
 obtain ⟨bp, hbpe⟩ : ∃ bp, w.heap.size = bp := ⟨_, rfl⟩
 rw [hbpe] at b0 b1 b2 hbp ⊢
 have HBPE := Aside0.mk hbpe
 clear hbpe
 have HPG := Aside0.mk (⟨H.out.hgp, hbp, by omega, blk_below H.out.page bw3, b0, b2, Kd.R_below H.out.out bw3⟩ : PG B w3 gp bp (bp + 2) style n false vo out)
 have HB3 := Aside0.mk (HB.out.trans (bw3.mono hBw))
 have HBC := Aside0.mk b1
 clear b0 b1 b2 bw3
 go_loopg [13] p.f3.length (fun gg s13 wr => ∃ kk : Nat, kk ≤ p.f3.length ∧ p.f3.length - kk ≤ gg ∧ s13 = .int .i64 kk ∧ Aside0 (∃ vk, PG B wr gp bp (bp + 2) style n (sidesTo p style n out kk).1 vk (sidesTo p style n out kk).2 ∧ (∀ k, k < w.heap.size → (k ≠ gp ∧ some k ≠ vo.ownBlock) → wr.heap[k]? = w.heap[k]? ∧ some k ≠ vk.ownBlock) ∧ w.heap.size + 2 < wr.heap.size) ∧ Aside0 (Below B w0 wr) ∧ Aside0 (wr.heap[bp + 1]? = some (.cells #[.bool p.f0, .slice A1 p.f1.length c1, .slice A2 p.f2.length c2, .slice A3 p.f3.length c3] 36 (0, 0))))
 case atStart => exact ⟨0, Nat.zero_le _, by omega, rfl, ⟨_, HPG.out, HFR3.out⟩, HB3, HBC⟩
 case round =>
  clear HPG HB3 HBC HFR3
  obtain ⟨kk, hkk, hg, rfl, HS, HW, HC⟩ := hrel
  obtain ⟨vk, hpg, hfr, hzr⟩ := HS.out
  have HFR := Aside0.mk hfr
  have HZR := Aside0.mk hzr
  have stepF : ∀ k, P k → k < w.heap.size → wr.heap[k]? = w.heap[k]? := fun k hk _ => (hfr k (HP.out k hk).1 (HP.out k hk).2).1
  have HPk := Aside0.mk (show ∀ k, P k → k < wr.heap.size ∧ (k ≠ gp ∧ k ≠ bp + 2 ∧ some k ≠ vk.ownBlock) from fun k hk => ⟨Nat.lt_of_lt_of_le (HP.out k hk).1 (by omega), (HP.out k hk).2.1, by have h1 := (HP.out k hk).1; rw [HBPE.out] at h1; omega, (hfr k (HP.out k hk).1 (HP.out k hk).2).2⟩)
  have HFX := Aside0.mk (show ∀ (w' : World) (v' : Value), (∀ k, k < wr.heap.size → (k ≠ gp ∧ k ≠ bp + 2 ∧ some k ≠ vk.ownBlock) → w'.heap[k]? = wr.heap[k]? ∧ some k ≠ v'.ownBlock) → wr.heap.size ≤ w'.heap.size → (∀ k, k < w.heap.size → (k ≠ gp ∧ some k ≠ vo.ownBlock) → w'.heap[k]? = w.heap[k]? ∧ some k ≠ v'.ownBlock) ∧ w.heap.size + 2 < w'.heap.size from fun w' v' h1 h2 => ⟨fun k hk hf => by
   have h3 := hfr k hk hf
   have h4 := h1 k (by omega) ⟨hf.1, by have := HBPE.out; omega, h3.2⟩
   exact ⟨h4.1.trans h3.1, h4.2⟩, by omega⟩)
  clear hfr hzr
  have hwr : B ≤ wr.heap.size := Nat.le_trans hpg.hgp (Nat.le_of_lt (blk_lt hpg.page))
  have hsl := sidesTo_len p style n out kk hkk
  by_cases hlt : kk < p.f3.length
  ·have hltz : (kk : Int) < (p.f3.length : Int) := by omega
   obtain ⟨s, hs⟩ : ∃ s, p.f3[kk]? = some s := ⟨_, List.getElem?_eq_getElem hlt⟩
   obtain ⟨ad, A0, c0, rfl, hcell, hl0, hF⟩ := elemV (Kd.V_mk (e := 25) (base := 0) HV.out.l3 (Kd.F_step HV.out.g3 stepF)) hs
   have hmem := List.mem_of_getElem? hs
   have hfl : (p.f3.take kk).flatten.length + s.length ≤ p.f3.flatten.length := by rw [← List.length_append, ← flat_snoc hs]; exact flat_le _
   have hszp : szP p = p.f1.length + p.f2.length + p.f3.length + p.f3.flatten.length := rfl
   have hgd : p.f3.getD kk [] = s := by rw [List.getD_eq_getElem?_getD, hs]; rfl
   have HI := Aside0.mk (Tryz.strconv_Itoa_small (kk + 1) (by omega) wr)
   rw [show (((kk + 1 : Nat)) : Int) = (kk : Int) + 1 from by omega, show (⟨(Lib.decDigits (kk + 1)).toArray⟩ : ByteArray) = digits (kk + 1) from rfl] at HI
   have hdz := digits_size (kk + 1) (by omega)
   have HSS := Aside0.mk (show sidesTo p style n out (kk + 1) = oneSide p style n (sidesTo p style n out kk) kk from sidesTo_succ ..)
   have HFs := Aside0.mk (HF.out s (by simp only [textsL, List.mem_append]; exact .inr hmem))
   have HFb := Aside0.mk (HF.out p.f2 (by simp [textsL]))
   obtain ⟨st, hst⟩ : ∃ st, sidesTo p style n out kk = st := ⟨_, rfl⟩
   rw [hst] at hpg HSS hsl
   obtain ⟨dg, hdg⟩ : ∃ dg, digits (kk + 1) = dg := ⟨_, rfl⟩
   rw [hdg] at HI hdz
   have hls : (⟨#[32]⟩ ++ dg : ByteArray).size ≤ 1000 := by rw [ByteArray.size_append, show (⟨#[32]⟩ : ByteArray).size = 1 from rfl]; omega
   have hcc : (9223372036854775807 < 1 + dg.size) = False := eq_false (by omega)
   have HPL := Aside0.mk (fun cg => put_line B w0 wr gp bp (bp + 2) style n st.1 vk st.2 cg (⟨#[32]⟩ ++ dg) P A0 c0 s HPk.out hpg HW.out hwr hF hn hls (by split at hsl <;> omega) HFs.out)
   have HGD := Aside0.mk (show ∀ c, (if kk = 0 then (60 : UInt8) else 61) = c → sideA n st kk (p.f3.getD kk []) = (openL s, st.2 ++ [markS c n st.1 (⟨#[32]⟩ ++ dg)] ++ ended s) from fun c hc => by rw [sideA, hgd, hc, label, hdg])
   have HCb := Aside0.mk (show bp + 1 < wr.heap.size ∧ (bp + 1 ≠ gp ∧ bp + 1 ≠ bp + 2 ∧ some (bp + 1) ≠ vk.ownBlock) from ⟨blk_lt HC.out, fun e => by
    have h1 := HC.out
    rw [e, hpg.page] at h1
    injection h1 with h1
    injection h1 with _ h2
    exact absurd h2 (by decide), by omega, fun e => by
    obtain ⟨c', hc'⟩ := Kd.R_typed hpg.out (bp + 1) e.symm
    rw [hc'] at HC
    have h1 := HC.out
    injection h1 with h1
    injection h1 with _ h2
    exact absurd h2 (by decide)⟩)
   clear hF hs hdg hst hmem hgd
   by_cases h0 : kk = 0
   ·have t0 : ((kk : Int) == 0) = true := by simp [h0]
    have HQ := Aside0.mk (HPL.out 60)
    have HG := Aside0.mk (HGD.out 60 (if_pos h0))
    clear HPL HGD
    by_cases h1 : style = 1
    ·have t1 : (style != 1) = false := by simp [h1]
     have HO := Aside0.mk (show sidesTo p style n out (kk + 1) = (openL s, st.2 ++ [markS 60 n st.1 (⟨#[32]⟩ ++ dg)] ++ ended s) by rw [HSS.out, oneSide, if_neg (fun h => h.2 h1), HG.out])
     clear h0 h1
     go_wp2_with (first | (go_at_call 59; refine HI.out.mono ?_; rintro e w' ⟨rfl, rfl⟩) | (go_at_call 57; refine HQ.out.mono ?_; rintro e w5 ⟨rfl, hb5, vo5, hpg5, hk5, hz5⟩; obtain ⟨d0, d1, d2, dp, dd, -, -⟩ := hpg5.cells; have H5 := Aside0.mk (⟨hpg5, HFX.out _ _ hk5 hz5⟩ : _ ∧ _); have HB5 := Aside0.mk hb5; have HC5 := Aside0.mk (((hk5 _ HCb.out.1 HCb.out.2).1).trans HC.out); have x2 := (blk_cell HC5.out 2).trans rfl; clear hpg5 hb5 hk5 hz5))
     go_roundg (p.f3.length - (kk + 1))
     case measure => omega
     case rel => exact ⟨kk + 1, by omega, by omega, by go_num, ⟨_, by rw [HO.out]; exact H5.out⟩, HB5, HC5⟩
    ·have t1 : (style != 1) = true := by rw [bne_iff_ne]; exact h1
     have HO := Aside0.mk (show sidesTo p style n out (kk + 1) = baseA n (openL s, st.2 ++ [markS 60 n st.1 (⟨#[32]⟩ ++ dg)] ++ ended s) p.f2 by rw [HSS.out, oneSide, if_pos ⟨h0, h1⟩, HG.out])
     have hl5 : (st.2 ++ [markS 60 n st.1 (⟨#[32]⟩ ++ dg)] ++ ended s).length + p.f2.length ≤ 1000000 := by
      rw [List.length_append, List.length_append, ended_len, List.length_singleton]
      rw [if_pos h0] at hsl
      omega
     clear h0 h1
     generalize st.2 ++ [markS 60 n st.1 (⟨#[32]⟩ ++ dg)] ++ ended s = l5 at HQ HO hl5
     go_wp2_with (first | (go_at_call 59; refine HI.out.mono ?_; rintro e w' ⟨rfl, rfl⟩) | (go_at_call_of 57 (Value.slice A0 s.length c0); refine HQ.out.mono ?_; rintro e w5 ⟨rfl, hb5, vo5, hpg5, hk5, hz5⟩; obtain ⟨d0, d1, d2, dp, dd, -, -⟩ := hpg5.cells; have HC5 := Aside0.mk (((hk5 _ HCb.out.1 HCb.out.2).1).trans HC.out); have x2 := (blk_cell HC5.out 2).trans rfl; have HQ2 := Aside0.mk (put_line B w0 w5 gp bp (bp + 2) style n (openL s) vo5 l5 124 baseB P A2 c2 p.f2 (fun k hk => ⟨Nat.lt_of_lt_of_le (HPk.out k hk).1 hz5, (HPk.out k hk).2.1, (HPk.out k hk).2.2.1, (hk5 k (HPk.out k hk).1 (HPk.out k hk).2).2⟩) hpg5 hb5 (Nat.le_trans hpg5.hgp (Nat.le_of_lt (blk_lt hpg5.page))) (Kd.F_step HV.out.g2 (fun k hk _ => ((hk5 k (HPk.out k hk).1 (HPk.out k hk).2).1).trans ((HFR.out k (HP.out k hk).1 (HP.out k hk).2).1))) hn (by decide) hl5 HFb.out); have HK5 := Aside0.mk hk5; have HZ5 := Aside0.mk hz5; have HCb5 := Aside0.mk (show bp + 1 < w5.heap.size ∧ (bp + 1 ≠ gp ∧ bp + 1 ≠ bp + 2 ∧ some (bp + 1) ≠ vo5.ownBlock) from ⟨blk_lt HC5.out, HCb.out.2.1, HCb.out.2.2.1, (hk5 _ HCb.out.1 HCb.out.2).2⟩); clear hpg5 hb5 hk5 hz5))
     refine HQ2.out.mono ?_
     rintro e w6 ⟨rfl, hb6, vo6, hpg6, hk6, hz6⟩
     have H6 := Aside0.mk (⟨hpg6, HFX.out _ _ (fun k hk hf => by have h1 := HK5.out k hk hf; have h2 := hk6 k (Nat.lt_of_lt_of_le hk HZ5.out) ⟨hf.1, hf.2.1, h1.2⟩; exact ⟨h2.1.trans h1.1, h2.2⟩) (Nat.le_trans HZ5.out hz6)⟩ : _ ∧ _)
     have HB6 := Aside0.mk hb6
     have HC6 := Aside0.mk (((hk6 _ HCb5.out.1 HCb5.out.2).1).trans HC5.out)
     clear hpg6 hb6 hk6 hz6 HQ2
     go_wp2
     go_roundg (p.f3.length - (kk + 1))
     case measure => omega
     case rel => exact ⟨kk + 1, by omega, by omega, by go_num, ⟨_, by rw [HO.out]; exact H6.out⟩, HB6, HC6⟩
   ·have t0 : ((kk : Int) == 0) = false := beq_eq_false_iff_ne.2 (by omega)
    have HQ := Aside0.mk (HPL.out 61)
    have HO := Aside0.mk (show sidesTo p style n out (kk + 1) = (openL s, st.2 ++ [markS 61 n st.1 (⟨#[32]⟩ ++ dg)] ++ ended s) by rw [HSS.out, oneSide, if_neg (fun h => h0 h.1), HGD.out 61 (if_neg h0)])
    clear h0 HPL HGD
    go_wp2_with (first | (go_at_call 59; refine HI.out.mono ?_; rintro e w' ⟨rfl, rfl⟩) | (go_at_call 57; refine HQ.out.mono ?_; rintro e w5 ⟨rfl, hb5, vo5, hpg5, hk5, hz5⟩; obtain ⟨d0, d1, d2, dp, dd, -, -⟩ := hpg5.cells; have H5 := Aside0.mk (⟨hpg5, HFX.out _ _ hk5 hz5⟩ : _ ∧ _); have HB5 := Aside0.mk hb5; have HC5 := Aside0.mk (((hk5 _ HCb.out.1 HCb.out.2).1).trans HC.out); have x2 := (blk_cell HC5.out 2).trans rfl; clear hpg5 hb5 hk5 hz5))
    go_roundg (p.f3.length - (kk + 1))
    case measure => omega
    case rel => exact ⟨kk + 1, by omega, by omega, by go_num, ⟨_, by rw [HO.out]; exact H5.out⟩, HB5, HC5⟩
  ·have hltz : ¬ (kk : Int) < (p.f3.length : Int) := by omega
   have hkl : kk = p.f3.length := by omega
   subst hkl
   have HR := Aside0.mk (show conflictL p style n out = (sidesTo p style n out p.f3.length).2 ++ [markS 62 n (sidesTo p style n out p.f3.length).1 ⟨#[]⟩] from rfl)
   have hszp : szP p = p.f1.length + p.f2.length + p.f3.length + p.f3.flatten.length := rfl
   have hfl : (p.f3.take p.f3.length).flatten.length ≤ p.f3.flatten.length := flat_le _
   generalize sidesTo p style n out p.f3.length = st at hpg hsl HR
   have HPL := Aside0.mk (put_line B w0 wr gp bp (bp + 2) style n st.1 vk st.2 62 ⟨#[]⟩ P none 0 [] HPk.out hpg HW.out hwr (Kd.F_nil _ _ _) hn (by decide) (by split at hsl <;> simp <;> omega) (by simp))
   go_wp2_with (fail)
   refine HPL.out.mono ?_
   rintro e w5 ⟨rfl, hb5, vo5, hpg5, hk5, hz5⟩
   have H5 := Aside0.mk hpg5
   have HX5 := Aside0.mk (HFX.out _ _ hk5 hz5)
   have HB5 := Aside0.mk hb5
   clear hpg5 hb5 hk5 hz5
   go_wp2
   go_end0
   rw [HR.out]
   refine ⟨rfl, HB5.out, _, ⟨H5.out.hgp, H5.out.page, ?_⟩, HX5.out.1, by have := HX5.out.2; omega⟩
   have := H5.out.out
   simpa [ended, openL] using this
#print axioms conflict_calls
end Go.Proofs.YtcnjbmdnnhbfkaaGreatDoor.Mark
/- mark.Print: what it computes; the page as it grows. -/
namespace Go.Proofs.YtcnjbmdnnhbfkaaGreatDoor.Mark
open Go.RowKit Go.Proofs.YtcnjbmdnnhbfkaaGreatDoorW.PrintWords Go.Proofs.YtcnjbmdnnhbfkaaGreatDoor.XD
def okP (Q : ByteArray → Prop) (m : Nat) (p : Piece) : Prop := (p.f0 = true → p.f3.length ≤ m) ∧ (∀ s ∈ p.f1, Q s) ∧ (∀ s ∈ p.f2, Q s) ∧ ∀ t ∈ p.f3, ∀ s ∈ t, Q s
theorem okP.text {Q : ByteArray → Prop} {m : Nat} {f : List ByteArray} (h : ∀ s ∈ f, Q s) : okP Q m ⟨false, f, [], []⟩ := ⟨fun e => (by cases e), h, fun s hs => by simp at hs, fun t ht => by simp at ht⟩
theorem putR_ok {Q : ByteArray → Prop} {m : Nat} {out : List Piece} {x : Piece} (h : ∀ p ∈ out, okP Q m p) (hx : okP Q m x) : ∀ p ∈ putR out x, okP Q m p := by
 unfold putR
 split
 ·intro p hp
  rcases List.mem_append.1 hp with hp | hp
  ·exact h p hp
  ·rw [List.mem_singleton] at hp
   subst hp
   exact ⟨fun _ => hx.1 (by assumption), fun s hs => by simp at hs, hx.2.2.1, hx.2.2.2⟩
 ·split
  ·exact h
  ·split
   ·intro p hp
    rcases List.mem_append.1 hp with hp | hp
    ·exact h p hp
    ·rw [List.mem_singleton] at hp
     subst hp
     exact okP.text hx.2.1
   ·rename_i y hy
    have hyo := h y (List.mem_of_getLast? hy)
    split
    ·intro p hp
     rcases List.mem_append.1 hp with hp | hp
     ·exact h p hp
     ·rw [List.mem_singleton] at hp
      subst hp
      exact okP.text hx.2.1
    ·intro p hp
     rcases List.mem_or_eq_of_mem_set hp with hp | rfl
     ·exact h p hp
     ·refine ⟨hyo.1, fun s hs => ?_, hyo.2.2.1, hyo.2.2.2⟩
      rcases List.mem_append.1 hs with hs | hs
      ·exact hyo.2.1 s hs
      ·exact hx.2.1 s hs
theorem fold_ok {Q : ByteArray → Prop} {m : Nat} (xs : List Piece) : ∀ out, (∀ p ∈ out, okP Q m p) → (∀ p ∈ xs, okP Q m p) → ∀ p ∈ xs.foldl putR out, okP Q m p := by
 induction xs with
 | nil => intro out h _; exact h
 | cons x xs ih => intro out h hx; exact ih _ (putR_ok h (hx x (by simp))) (fun p hp => hx p (by simp [hp]))
theorem norm_ok {Q : ByteArray → Prop} {m : Nat} {xs : List Piece} (h : ∀ p ∈ xs, okP Q m p) : ∀ p ∈ norm xs, okP Q m p := fold_ok xs [] (fun p hp => by simp at hp) h
theorem mem_midL {x : List ByteArray} {a b : Nat} {s : ByteArray} (h : s ∈ midL x a b) : s ∈ x := List.mem_of_mem_take (List.mem_of_mem_drop h)
theorem mem_cutL {l : List (List ByteArray)} {a b : Nat} {t : List ByteArray} (h : t ∈ cutL l a b) : ∃ t' ∈ l, t = midL t' a b := by
 rw [cutL, List.mem_map] at h
 obtain ⟨t', ht, e⟩ := h
 exact ⟨t', ht, e.symm⟩
theorem trim_ok {Q : ByteArray → Prop} {m : Nat} {p : Piece} (h : okP Q m p) : ∀ q ∈ trim p, okP Q m q := by
 unfold trim
 split
 ·exact norm_ok (fun q hq => by rw [List.mem_singleton] at hq; subst hq; exact h)
 ·rename_i hn
  have hf : p.f0 = true := by
   cases hq : p.f0 with
   | true => rfl
   | false => exact absurd (.inl hq) hn
  have hfirst : ∀ s ∈ first p, Q s := by
   intro s hs
   rw [first] at hs
   cases hl : p.f3 with
   | nil => rw [hl] at hs; simp at hs
   | cons x l => rw [hl] at hs; exact h.2.2.2 x (by rw [hl]; simp) s hs
  have hA : okP Q m (textA p) := okP.text (fun s hs => hfirst s (List.mem_of_mem_take hs))
  have hB : okP Q m (textB p) := okP.text (fun s hs => hfirst s (List.mem_of_mem_drop hs))
  have hM : okP Q m (midP p) := ⟨fun _ => by
   have : (midP p).f3.length = p.f3.length := by rw [midP]; simp only [cutL_length, rest]
   rw [this]; exact h.1 hf, fun s hs => by simp [midP] at hs, h.2.2.1, fun t ht s hs => by
   obtain ⟨t', ht', rfl⟩ := mem_cutL ht
   obtain ⟨t2, ht2, rfl⟩ := mem_cutL ht'
   exact h.2.2.2 t2 ht2 s (mem_midL (mem_midL hs))⟩
  unfold trimC
  split
  ·refine norm_ok (fun q hq => ?_)
   simp only [List.mem_cons, List.not_mem_nil, or_false] at hq
   rcases hq with rfl | rfl | rfl
   ·exact hA
   ·exact hM
   ·exact hB
  ·refine norm_ok (fun q hq => ?_)
   simp only [List.mem_cons, List.not_mem_nil, or_false] at hq
   subst hq
   exact hA
theorem zeal_ok {Q : ByteArray → Prop} {m : Nat} {l : List Piece} (h : ∀ p ∈ l, okP Q m p) : ∀ p ∈ zeal l, okP Q m p := by
 refine norm_ok (fun q hq => ?_)
 rw [List.mem_flatMap] at hq
 obtain ⟨p, hp, hq⟩ := hq
 exact trim_ok (h p hp) q hq
theorem fine_ok {l : List Piece} (h : FineP l) : ∀ p ∈ l, okP (fun s => s.size ≤ 1000000) p.f3.length p := fun p hp => ⟨fun _ => Nat.le_refl _, fun s hs => h p hp p.f1 (by simp [textsL]) s hs, fun s hs => h p hp p.f2 (by simp [textsL]) s hs, fun t ht s hs => h p hp t (by simp [textsL, ht]) s hs⟩
theorem okP.more {Q : ByteArray → Prop} {m m' : Nat} {p : Piece} (h : okP Q m p) (hm : p.f0 = true → p.f3.length ≤ m') : okP Q m' p := ⟨hm, h.2⟩
theorem ok_fine {l : List Piece} {m : Nat} (h : ∀ p ∈ l, okP (fun s => s.size ≤ 1000000) m p) : FineP l := by
 intro p hp t ht s hs
 have := h p hp
 simp only [textsL, List.mem_append, List.mem_cons, List.not_mem_nil, or_false] at ht
 rcases ht with (rfl | rfl) | ht
 ·exact this.2.1 s hs
 ·exact this.2.2.1 s hs
 ·exact this.2.2.2 t ht s hs
theorem fine_zeal {l : List Piece} (h : FineP l) (ht : tot l ≤ 1000000) : FineP (zeal l) := ok_fine (m := 1000000) (zeal_ok (fun p hp => (fine_ok h p hp).more (fun _ => by have := tot_mem hp; simp only [szP] at this; omega)))
theorem sides_of {l : List Piece} (h : l.any crowd = false) : ∀ p ∈ l, okP (fun _ => True) 16 p := by
 intro p hp
 refine ⟨fun hf => ?_, fun _ _ => trivial, fun _ _ => trivial, fun _ _ _ _ => trivial⟩
 have := List.any_eq_false.1 h p hp
 simp only [crowd, hf, Bool.true_and, Bool.or_eq_true, decide_eq_true_eq, not_or] at this
 omega
/-! ### what is printed -/
def pageOne (style : Int) (n : Nat) (out : List ByteArray) (p : Piece) : List ByteArray := if p.f0 = true then conflictL p style n out else out ++ p.f1
def pageTo (style : Int) (n : Nat) (l : List Piece) : List ByteArray := l.foldl (pageOne style n) []
def smallOf (l : List Piece) (style : Int) : List Piece := if style = 3 then zeal l else l
def printL (l : List Piece) (style long : Int) : List ByteArray × Int :=
 if wrongN l (smallOf l style) style long = 0 then (pageTo style long.toNat (smallOf l style), 0) else ([], wrongN l (smallOf l style) style long)
theorem pageOne_len (style : Int) (n : Nat) (out : List ByteArray) (p : Piece) : (pageOne style n out p).length ≤ out.length + szP p + 2 := by
 have hs : szP p = p.f1.length + p.f2.length + p.f3.length + p.f3.flatten.length := rfl
 unfold pageOne
 split
 ·have h := sidesTo_len p style n out p.f3.length (Nat.le_refl _)
  rw [List.take_length] at h
  rw [conflictL, List.length_append, List.length_singleton]
  split at h <;> omega
 ·rw [List.length_append]; omega
theorem page_fold_len (style : Int) (n : Nat) (l : List Piece) : ∀ out, (l.foldl (pageOne style n) out).length ≤ out.length + tot l + 2 * l.length := by
 induction l with
 | nil => intro out; simp
 | cons x l ih =>
  intro out
  have h1 := ih (pageOne style n out x)
  have h2 := pageOne_len style n out x
  have : tot (x :: l) = szP x + tot l := by simp [tot]
  simp only [List.foldl_cons, List.length_cons]
  omega
theorem pageTo_len (style : Int) (n : Nat) (l : List Piece) (k : Nat) : (pageTo style n (l.take k)).length ≤ tot l + 2 * l.length := by
 have h := page_fold_len style n (l.take k) []
 have h2 := tot_take l k
 rw [pageTo]
 rw [List.length_nil, List.length_take] at h
 omega
theorem pageTo_succ (style : Int) (n : Nat) {l : List Piece} {k : Nat} {x : Piece} (h : l[k]? = some x) : pageTo style n (l.take (k + 1)) = pageOne style n (pageTo style n (l.take k)) x := by
 obtain ⟨hk, rfl⟩ := List.getElem?_eq_some_iff.1 h
 rw [pageTo, pageTo, List.take_succ_eq_append_getElem hk, List.foldl_append]; rfl
theorem wrongN_zero {l small : List Piece} {style long : Int} (h : wrongN l small style long = 0) : 1 ≤ long ∧ long ≤ 4096 ∧ l.any crowd = false := by
 unfold wrongN at h
 split at h
 ·cases h
 ·rename_i hn
  simp only [not_or] at hn
  exact ⟨by omega, by omega, by simpa using hn.2.2.2.2⟩
section
variable {B : Nat} {w w1 : World} {gp : Nat} {style : Int} {n : Nat} {vo v1 : Value} {out out1 : List ByteArray}
theorem Page.ne (h : Page B w gp style n vo out) : some gp ≠ vo.ownBlock := fun e => by
 obtain ⟨c', hc⟩ := Kd.R_typed h.out gp e.symm
 have h1 := h.page
 rw [hc] at h1
 injection h1 with h1
 injection h1 with _ h2
 exact absurd h2 (by decide)
theorem Page.below (h : Page B w gp style n vo out) (hb : Below w.heap.size w w1) : Page B w1 gp style n vo out := ⟨h.hgp, blk_below h.page hb, Kd.R_below h.out hb⟩
theorem Page.cell (h : Page B w gp style n vo out) : w.cell? ⟨gp, 2, none⟩ = some vo ∧ (∀ j, w.frozen? ⟨gp, j, none⟩ = false) := ⟨(blk_cell h.page 2).trans rfl, blk_frozen h.page⟩
theorem Page.more (h : Page B w gp style n vo out) (hg : w.grownBy w1 vo.ownBlock) (hat : v1.ownBlock = vo.ownBlock ∨ ∃ b, v1.ownBlock = some b ∧ w.heap.size ≤ b) (hO : Kd.string.R 9 w1 B (fun _ => True) v1 out1) :
  Page B (w1.setCell ⟨gp, 2, none⟩ v1) gp style n v1 out1 := by
 have n1 := h.ne
 have hlt := blk_lt h.page
 have hne : some gp ≠ v1.ownBlock := by
  rcases hat with hat | ⟨b, hb, hle⟩
  ·rw [hat]; exact n1
  ·rw [hb]; intro e; injection e with e; omega
 refine ⟨h.hgp, blk_put (blk_grown h.page hg n1) 2 v1 rfl, ?_⟩
 exact Kd.R_mono (Kd.R_far (Kd.R_tight rfl hO) (fun k hk e => hne (by rw [← hk, e])) _) (fun _ _ => trivial)
end
#print axioms pageTo_len
end Go.Proofs.YtcnjbmdnnhbfkaaGreatDoor.Mark
/- mark.Print: the walk. (Written by tools/mkt.py.) -/
namespace Go.Proofs.YtcnjbmdnnhbfkaaGreatDoor.Mark
open Go.RowKit Go.Proofs.YtcnjbmdnnhbfkaaGreatDoorW.PrintWords Go.Proofs.YtcnjbmdnnhbfkaaGreatDoorW.PrintLast Go.Proofs.YtcnjbmdnnhbfkaaGreatDoorW.PrintMore Go.Proofs.YtcnjbmdnnhbfkaaGreatDoor.XD
set_option linter.unusedSimpArgs false
theorem k36_heap : Kd.Heap k36 := Kd.heap_iso _ (Kd.heap_pair Kd.heap_bool (Kd.heap_pair (Kd.heap_slice _ Kd.heap_string) (Kd.heap_pair (Kd.heap_slice _ Kd.heap_string) (Kd.heap_slice _ (Kd.heap_slice _ Kd.heap_string)))))
def Printed (w : World) (r : List ByteArray × Int) (e : Ending) (w' : World) : Prop := ∃ v, e = .returned (.tuple #[v, .int .i64 r.2]) ∧ Kd.V Kd.string 9 w' w.heap.size (fun k_ => w.heap.size ≤ k_) v r.1 ∧ Below w.heap.size w w'
def pageObj (style long : Int) : Obj := .cells #[.int .i64 style, .int .i64 long, .slice none 0 0] 55
theorem page_over (w : World) (style long : Int) (W : World) (h : Below (w.alloc (pageObj style long)).heap.size (w.alloc (pageObj style long)) W) :
  W.heap[w.heap.size]? = some (.cells #[.int .i64 style, .int .i64 long, .slice none 0 0] 55 (0, 0)) ∧ W.cell? ⟨w.heap.size, 0, none⟩ = some (.int .i64 style) ∧ W.cell? ⟨w.heap.size, 1, none⟩ = some (.int .i64 long) ∧ Below w.heap.size w W ∧ w.heap.size + 1 ≤ W.heap.size := by
 have h1 : W.heap[w.heap.size]? = some (.cells #[.int .i64 style, .int .i64 long, .slice none 0 0] 55 (0, 0)) := blk_below (blk_new w _) h
 exact ⟨h1, (blk_cell h1 0).trans rfl, (blk_cell h1 1).trans rfl, (below_alloc (Below.refl _ _) _).trans (h.mono (by simp)), blk_lt h1⟩
set_option maxHeartbeats 4000000 in
set_option maxRecDepth 100000 in
theorem print_bad (A0 : Option Addr) (c0 : Nat) (l : List Piece) (style long : Int) (w : World) (hr0 : Kd.C k36 w A0 l.length l) (hc0 : l.length ≤ c0) (hl : l.length ≤ 20000) (ht : tot l ≤ 20000) (hf : FineP l) (hst : style ≠ 3) (hbad : wrongN l l style long ≠ 0) :
  Calls Tryz.prog 12 #[.slice A0 l.length c0, .int .i64 style, .int .i64 long] w (Printed w (printL l style long)) := by
 have hu := Tryz.underlying36
 have hu1 := Tryz.underlying55
 have hu2 := Tryz.underlying53
 have HV0 := Aside0.mk (fun W (hW : Below w.heap.size w W) => (show Kd.V k36 36 W W.heap.size (fun k => k < w.heap.size) (.slice A0 l.length c0) l from Kd.V_below (Kd.V_mk hc0 (Kd.C_F k36_heap hr0)) hW))
 have HSM := Aside0.mk (show smallOf l style = l by rw [smallOf, if_neg hst])
 have HPR := Aside0.mk (show printL l style long = ([], wrongN l l style long) by rw [printL, HSM.out, if_neg hbad])
 obtain ⟨b, hb⟩ : ∃ b, wrongN l l style long = b := ⟨_, rfl⟩
 rw [hb] at HPR hbad
 have HBD := Aside0.mk hb
 clear hb
 have tb : (b != 0) = true := by rw [bne_iff_ne]; exact hbad
 have t0 : (style == 3) = false := beq_eq_false_iff_ne.2 hst
 have HFS := Aside0.mk hf
 have HTOT := Aside0.mk (show tot l ≤ 60000 ∧ l.length ≤ 60000 from ⟨by omega, by omega⟩)
 have H33 := Aside0.mk (show ∀ p ∈ l, p.f3.length ≤ 100000 from fun p hp => by have h1 := tot_mem hp; have h2 := HTOT.out.1; simp only [szP] at h1; omega)
 have HWR := Aside0.mk (wrong_calls (w.alloc (pageObj style long)) (fun _ => True) style long A0 l.length c0 A0 l.length c0 l l (Kd.V_mono (HV0.out _ (below_alloc (Below.refl _ _) _)) (fun _ _ => trivial)) (Kd.V_mono (HV0.out _ (below_alloc (Below.refl _ _) _)) (fun _ _ => trivial)) (by omega) (by omega) (by omega) (by omega) H33.out hf hf)
 rw [HBD.out] at HWR
 clear hbad hf hr0 HSM H33 hst
 go_enter Tryz.func12, Tryz.ntmps12
 obtain ⟨-, y0, y1, -, -⟩ := page_over w style long _ (Below.refl _ _)
 go_wp2_with (fail)
 refine HWR.out.mono ?_
 rintro e w3 ⟨rfl, hb3⟩
 have HB23 := Aside0.mk hb3
 obtain ⟨hp3, -, -, hb0, hz3⟩ := page_over w style long w3 HB23.out
 have HB3 := Aside0.mk hb0
 have HZ3 := Aside0.mk hz3
 clear hb3 y0 y1 hb0 HWR HB23
 clear hz3 hp3
 go_wp2
 go_ret2
 rw [HPR.out]
 exact ⟨_, rfl, Kd.V_nil _ _ _ _ _, HB3.out⟩
set_option maxHeartbeats 4000000 in
set_option maxRecDepth 100000 in
theorem print_zbad (A0 : Option Addr) (c0 : Nat) (l : List Piece) (style long : Int) (w : World) (hr0 : Kd.C k36 w A0 l.length l) (hc0 : l.length ≤ c0) (hl : l.length ≤ 20000) (ht : tot l ≤ 20000) (hf : FineP l) (hst : style = 3) (hbad : wrongN l (zeal l) style long ≠ 0) :
  Calls Tryz.prog 12 #[.slice A0 l.length c0, .int .i64 style, .int .i64 long] w (Printed w (printL l style long)) := by
 have hu := Tryz.underlying36
 have hu1 := Tryz.underlying55
 have hu2 := Tryz.underlying53
 have HV0 := Aside0.mk (fun W (hW : Below w.heap.size w W) => (show Kd.V k36 36 W W.heap.size (fun k => k < w.heap.size) (.slice A0 l.length c0) l from Kd.V_below (Kd.V_mk hc0 (Kd.C_F k36_heap hr0)) hW))
 have HSM := Aside0.mk (show smallOf l style = (zeal l) by rw [smallOf, if_pos hst])
 have HPR := Aside0.mk (show printL l style long = ([], wrongN l (zeal l) style long) by rw [printL, HSM.out, if_neg hbad])
 obtain ⟨b, hb⟩ : ∃ b, wrongN l (zeal l) style long = b := ⟨_, rfl⟩
 rw [hb] at HPR hbad
 have HBD := Aside0.mk hb
 clear hb
 have tb : (b != 0) = true := by rw [bne_iff_ne]; exact hbad
 have t0 : (style == 3) = true := by simp [hst]
 have hzt := zeal_tot l
 have hzl := zeal_len l
 have HFS := Aside0.mk (fine_zeal hf (by omega))
 have HTOT := Aside0.mk (show tot (zeal l) ≤ 60000 ∧ (zeal l).length ≤ 60000 from ⟨by omega, by omega⟩)
 have H33 := Aside0.mk (show ∀ p ∈ (zeal l), p.f3.length ≤ 100000 from fun p hp => by have h1 := tot_mem hp; have h2 := HTOT.out.1; simp only [szP] at h1; omega)
 have HZ := Aside0.mk (zeal_calls (w.alloc (pageObj style long)) (fun k => k < w.heap.size) A0 l.length c0 l (HV0.out _ (below_alloc (Below.refl _ _) _)) (by omega) (by omega))
 have HWR := Aside0.mk (fun (w2 : World) (A5 : Option Addr) (c5 : Nat) (hb2 : Below (w.alloc (pageObj style long)).heap.size (w.alloc (pageObj style long)) w2) (hN2 : Kd.N k36 36 w2 (w.alloc (pageObj style long)).heap.size (fun k => k < w.heap.size ∨ (w.alloc (pageObj style long)).heap.size ≤ k) (.slice A5 (zeal l).length c5) (zeal l)) => wrong_calls w2 (fun _ => True) style long A0 l.length c0 A5 (zeal l).length c5 l (zeal l) (Kd.V_mono (HV0.out _ (page_over w style long w2 hb2).2.2.2.1) (fun _ _ => trivial)) (Kd.V_mono (Kd.N_V hN2) (fun _ _ => trivial)) (by omega) (by omega) (by have := HTOT.out; omega) (by have := HTOT.out; omega) H33.out hf HFS.out)
 simp only [HBD.out] at HWR
 clear hbad hf hr0 HSM H33 hst
 go_enter Tryz.func12, Tryz.ntmps12
 go_wp2_with (fail)
 refine HZ.out.mono ?_
 rintro e w2 ⟨v2, rfl, hN2, hb2⟩
 obtain ⟨A5, c5, e5⟩ := Kd.N_slice hN2
 subst e5
 obtain ⟨-, y0, y1, -, -⟩ := page_over w style long w2 hb2
 have HWR := Aside0.mk (HWR.out w2 A5 c5 hb2 hN2)
 have HB2 := Aside0.mk hb2
 have N2 := Aside0.mk hN2
 clear hb2 hN2
 go_wp2_with (fail)
 refine HWR.out.mono ?_
 rintro e w3 ⟨rfl, hb3⟩
 have HB23 := Aside0.mk (HB2.out.trans (hb3.mono HB2.out.size))
 obtain ⟨hp3, -, -, hb0, hz3⟩ := page_over w style long w3 HB23.out
 have HB3 := Aside0.mk hb0
 have HZ3 := Aside0.mk hz3
 clear hb3 y0 y1 hb0 HWR HB23
 clear hz3 hp3
 go_wp2
 go_ret2
 rw [HPR.out]
 exact ⟨_, rfl, Kd.V_nil _ _ _ _ _, HB3.out⟩
set_option maxHeartbeats 4000000 in
set_option maxRecDepth 100000 in
theorem print_ok (A0 : Option Addr) (c0 : Nat) (l : List Piece) (style long : Int) (w : World) (hr0 : Kd.C k36 w A0 l.length l) (hc0 : l.length ≤ c0) (hl : l.length ≤ 20000) (ht : tot l ≤ 20000) (hf : FineP l) (hst : style ≠ 3) (hbad : wrongN l l style long = 0) :
  Calls Tryz.prog 12 #[.slice A0 l.length c0, .int .i64 style, .int .i64 long] w (Printed w (printL l style long)) := by
 have hu := Tryz.underlying36
 have hu1 := Tryz.underlying55
 have hu2 := Tryz.underlying53
 have HV0 := Aside0.mk (fun W (hW : Below w.heap.size w W) => (show Kd.V k36 36 W W.heap.size (fun k => k < w.heap.size) (.slice A0 l.length c0) l from Kd.V_below (Kd.V_mk hc0 (Kd.C_F k36_heap hr0)) hW))
 have HSM := Aside0.mk (show smallOf l style = l by rw [smallOf, if_neg hst])
 have HPR := Aside0.mk (show printL l style long = (pageTo style long.toNat l, 0) by rw [printL, HSM.out, if_pos hbad])
 obtain ⟨hl1, hl2, hcr⟩ := wrongN_zero hbad
 have HBD := Aside0.mk hbad
 have t0 : (style == 3) = false := beq_eq_false_iff_ne.2 hst
 have HFS := Aside0.mk hf
 have HSD := Aside0.mk (sides_of hcr)
 have HTOT := Aside0.mk (show tot l ≤ 60000 ∧ l.length ≤ 60000 from ⟨by omega, by omega⟩)
 have H33 := Aside0.mk (show ∀ p ∈ l, p.f3.length ≤ 100000 from fun p hp => by have h1 := tot_mem hp; have h2 := HTOT.out.1; simp only [szP] at h1; omega)
 have HWR := Aside0.mk (wrong_calls (w.alloc (pageObj style long)) (fun _ => True) style long A0 l.length c0 A0 l.length c0 l l (Kd.V_mono (HV0.out _ (below_alloc (Below.refl _ _) _)) (fun _ _ => trivial)) (Kd.V_mono (HV0.out _ (below_alloc (Below.refl _ _) _)) (fun _ _ => trivial)) (by omega) (by omega) (by omega) (by omega) H33.out hf hf)
 rw [HBD.out] at HWR
 clear hbad hf hr0 HSM H33 hst
 go_enter Tryz.func12, Tryz.ntmps12
 obtain ⟨-, y0, y1, -, -⟩ := page_over w style long _ (Below.refl _ _)
 go_wp2_with (fail)
 refine HWR.out.mono ?_
 rintro e w3 ⟨rfl, hb3⟩
 have HB23 := Aside0.mk hb3
 have HLE := Aside0.mk hc0
 have HF3 := Aside0.mk (Kd.F_mono (Kd.F_bound (Kd.V_at (HV0.out _ (page_over w style long w3 hb3).2.2.2.1)).2.2) (fun k hk => (⟨hk.2, by have := hk.1; omega⟩ : k < w3.heap.size ∧ k ≠ w.heap.size)))
 obtain ⟨hp3, -, -, hb0, hz3⟩ := page_over w style long w3 HB23.out
 have HB3 := Aside0.mk hb0
 have HZ3 := Aside0.mk hz3
 clear hb3 y0 y1 hb0 HWR HB23
 have HP3 := Aside0.mk (⟨Nat.le_refl _, by rw [Int.toNat_of_nonneg (by omega)]; exact hp3, Kd.R_nil _ _ _ _ _⟩ : Page w.heap.size w3 w.heap.size style long.toNat (.slice none 0 0) [])
 clear hz3 hp3
 go_wp2
 obtain ⟨n, rfl⟩ : ∃ n : Nat, long = (n : Int) := ⟨long.toNat, by omega⟩
 rw [Int.toNat_natCast] at HPR
 go_loopg [35] l.length (fun gg s35 wr => ∃ kk : Nat, kk ≤ l.length ∧ l.length - kk ≤ gg ∧ s35 = .int .i64 kk ∧ Aside0 (∃ vk, Page w.heap.size wr w.heap.size style n vk (pageTo style n (l.take kk)) ∧ (∀ k, k < w3.heap.size → k ≠ w.heap.size → wr.heap[k]? = w3.heap[k]? ∧ some k ≠ vk.ownBlock) ∧ w3.heap.size ≤ wr.heap.size) ∧ Aside0 (Below w.heap.size w wr))
 case atStart => exact ⟨0, Nat.zero_le _, by omega, rfl, ⟨_, HP3.out, fun k _ _ => ⟨rfl, by simp [Value.ownBlock]⟩, Nat.le_refl _⟩, HB3⟩
 case round =>
  clear HP3 HB3
  obtain ⟨kk, hkk, hg, rfl, HS, HW⟩ := hrel
  obtain ⟨vk, hpg, hfr, hzr⟩ := HS.out
  clear HS
  have HFR := Aside0.mk hfr
  have hZ3 := HZ3.out
  have HLN := Aside0.mk (pageTo_len style n l kk)
  have hBr : w.heap.size ≤ wr.heap.size := by omega
  by_cases hlt : kk < l.length
  ·have hltz : (kk : Int) < (l.length : Int) := by omega
   obtain ⟨x, hxk⟩ : ∃ x, l[kk]? = some x := ⟨_, List.getElem?_eq_getElem hlt⟩
   obtain ⟨ad, A1, c1, A2, c2, A3, c3, rfl, ⟨h0, h1, h2, h3⟩, hpv⟩ := elemVP (Kd.V_mk (e := 36) (base := 0) HLE.out (Kd.F_step HF3.out (fun k hk hlt => (hfr k hk.1 hk.2).1))) hxk
   have hmem := List.mem_of_getElem? hxk
   have hsx := tot_mem hmem
   have hs16 := (HSD.out x hmem).1
   have HFx := Aside0.mk (HFS.out x hmem)
   have HK := Aside0.mk (pageTo_succ style n hxk)
   have hszp : szP x = x.f1.length + x.f2.length + x.f3.length + x.f3.flatten.length := rfl
   have HFX := Aside0.mk (show ∀ (w' : World) (v' : Value), (∀ k, k < wr.heap.size → (k ≠ w.heap.size ∧ some k ≠ vk.ownBlock) → w'.heap[k]? = wr.heap[k]? ∧ some k ≠ v'.ownBlock) → wr.heap.size ≤ w'.heap.size → (∀ k, k < w3.heap.size → k ≠ w.heap.size → w'.heap[k]? = w3.heap[k]? ∧ some k ≠ v'.ownBlock) ∧ w3.heap.size ≤ w'.heap.size from fun w' v' g1 g2 => ⟨fun k hk hne => by
    have g3 := HFR.out k hk hne
    have g4 := g1 k (by omega) ⟨hne, g3.2⟩
    exact ⟨g4.1.trans g3.1, g4.2⟩, by omega⟩)
   obtain ⟨out, hout⟩ : ∃ out, pageTo style n (l.take kk) = out := ⟨_, rfl⟩
   rw [hout] at hpg HK HLN
   have HLn := Aside0.mk (show out.length + szP x + x.f2.length + 40 ≤ 1000000 by have := HLN.out; have := HTOT.out; omega)
   have HLX := Aside0.mk (show out.length + x.f1.length ≤ 1000000 by have := HLn.out; omega)
   have HOB := Aside0.mk (show ∀ o : Obj, Below wr.heap.size wr (wr.alloc o) from fun o => below_alloc (Below.refl _ _) o)
   have HPG := Aside0.mk hpg
   have HPV := Aside0.mk hpv
   clear hxk hmem hsx hpg hpv hfr hout HLN hszp
   cases hq : x.f0 with
   | true =>
    rw [hq] at h0
    have hs16 := hs16 hq
    have HO := Aside0.mk (show pageOne style n out x = conflictL x style n out by rw [pageOne, if_pos hq])
    have HC := Aside0.mk (fun o => conflict_calls w.heap.size w (wr.alloc o) w.heap.size style n vk out (fun k => k < w3.heap.size ∧ k ≠ w.heap.size) x A1 c1 A2 c2 A3 c3 (fun k hk => ⟨Nat.lt_of_lt_of_le hk.1 (Nat.le_trans hzr (HOB.out o).size), hk.2, (HFR.out k hk.1 hk.2).2⟩) (HPG.out.below (HOB.out o)) (HW.out.alloc hBr o) (HPV.out.below (HOB.out o)) (by omega) hs16 HLn.out HFx.out)
    rw [pv, hq] at HC
    go_wp2_with (go_at_call 33; refine (HC.out _).mono ?_; rintro e w5 ⟨rfl, hb5, vo5, hpg5, hk5, hz5⟩; have H5 := Aside0.mk (⟨hpg5, HFX.out _ _ (fun k hk hf => by have g1 := hk5 k (Nat.lt_of_lt_of_le hk (HOB.out _).size) hf; exact ⟨g1.1.trans ((HOB.out _).block k hk), g1.2⟩) (Nat.le_trans (HOB.out _).size hz5)⟩ : _ ∧ _); have HB5 := Aside0.mk hb5; clear hpg5 hb5 hk5 hz5)
    go_roundg (l.length - (kk + 1))
    case measure => omega
    case rel => exact ⟨kk + 1, by omega, by omega, by go_num, ⟨_, by rw [HK.out, HO.out]; exact H5.out⟩, HB5⟩
   | false =>
    rw [hq] at h0
    have HO := Aside0.mk (show pageOne style n out x = out ++ x.f1 by rw [pageOne, if_neg (by simp [hq])])
    go_wp2
    have HQ := Aside0.mk (blk_below (blk_new wr (.cells #[.bool false, .slice A1 x.f1.length c1, .slice A2 x.f2.length c2, .slice A3 x.f3.length c3] 36)) (below_drew (Below.refl _ _)))
    have H9 := Aside0.mk (HPG.out.below (HOB.out (.cells #[.bool false, .slice A1 x.f1.length c1, .slice A2 x.f2.length c2, .slice A3 x.f3.length c3] 36)))
    have B9 := Aside0.mk (HW.out.alloc hBr (.cells #[.bool false, .slice A1 x.f1.length c1, .slice A2 x.f2.length c2, .slice A3 x.f3.length c3] 36))
    have HC9 := Aside0.mk (Kd.F_now (HPV.out.below (HOB.out (.cells #[.bool false, .slice A1 x.f1.length c1, .slice A2 x.f2.length c2, .slice A3 x.f3.length c3] 36))).g1)
    have HOB := Aside0.mk (HOB.out (.cells #[.bool false, .slice A1 x.f1.length c1, .slice A2 x.f2.length c2, .slice A3 x.f3.length c3] 36))
    have hBw9 := Nat.le_trans hBr HOB.out.size
    have q1 := (blk_cell (blk_new wr (.cells #[.bool false, .slice A1 x.f1.length c1, .slice A2 x.f2.length c2, .slice A3 x.f3.length c3] 36)) 1).trans rfl
    generalize wr.alloc (.cells #[.bool false, .slice A1 x.f1.length c1, .slice A2 x.f2.length c2, .slice A3 x.f3.length c3] 36) = w9 at HQ H9 B9 HC9 HOB hBw9 q1 ⊢
    have hbxe : ∃ bx, wr.heap.size = bx := ⟨_, rfl⟩
    obtain ⟨Av, cv, ev⟩ := Kd.R_slice H9.out.out
    subst ev
    have HQN := Aside0.mk (show some wr.heap.size ≠ (Value.slice Av out.length cv).ownBlock from fun e => by
     obtain ⟨c', hc'⟩ := Kd.R_typed (Kd.R_drew H9.out.out) _ e.symm
     have g1 := HQ.out
     rw [hc'] at g1
     injection g1 with g1
     injection g1 with _ g2
     exact absurd g2 (by decide))
    have hwrz := HOB.out.size
    obtain ⟨bx, hbx⟩ := hbxe
    rw [hbx] at HQ HQN q1 ⊢
    obtain ⟨p2, pz⟩ := H9.out.cell
    refine start_ (n := 11) (S := fun w' => w'.cell? ⟨w.heap.size, 2, none⟩ = some (.slice Av out.length cv) ∧ w'.cell? ⟨bx, 1, none⟩ = some (.slice A1 x.f1.length c1)) (ds := [10]) #[false, false, false, false, false, false, false, false, false, false, false] (by kernel_rfl) rfl rfl ?hS0 (fun hHeld => ?_)
    case hS0 => (first | exact ⟨by assumption, by assumption⟩ | (go_simp; done) | (refine ⟨?_, ?_⟩ <;> assumption))
    refine pure_ (i := 0) (N := some 44) (v := ?_) (a' := ?_) #[true, false, false, false, false, false, false, false, false, false, false] rfl rfl (by kernel_rfl) (fun _ _ _ h => h) (Or.inl ⟨by rfl, ?_⟩) ?_ ?_
    rotate_left
    ·intro w'
     go_simp
     first | done | with_reducible rfl
    rotate_left
    ·try simp only [Act.put, List.setIfInBounds_toArray, List.set_cons_zero, List.set_cons_succ, i64_w, i32_w]
     first | done | rfl
    refine pure_ (i := 1) (N := some 45) (v := ?_) (a' := ?_) #[true, true, false, false, false, false, false, false, false, false, false] rfl rfl (by kernel_rfl) (fun _ _ _ h => h) (Or.inl ⟨by rfl, ?_⟩) ?_ ?_
    rotate_left
    ·intro w'
     go_simp
     first | done | with_reducible rfl
    rotate_left
    ·try simp only [Act.put, List.setIfInBounds_toArray, List.set_cons_zero, List.set_cons_succ, i64_w, i32_w]
     first | done | rfl
    refine pure_ (i := 2) (N := some 46) (v := ?_) (a' := ?_) #[true, true, true, false, false, false, false, false, false, false, false] rfl rfl (by kernel_rfl) (fun _ _ _ h => h) (Or.inl ⟨by rfl, ?_⟩) ?_ ?_
    rotate_left
    ·intro w'
     go_simp
     first | done | with_reducible rfl
    rotate_left
    ·try simp only [Act.put, List.setIfInBounds_toArray, List.set_cons_zero, List.set_cons_succ, i64_w, i32_w]
     first | done | rfl
    refine pure_ (i := 3) (N := some 47) (v := ?_) (a' := ?_) #[true, true, true, true, false, false, false, false, false, false, false] rfl rfl (by kernel_rfl) (fun _ _ _ h => h) (Or.inl ⟨by rfl, ?_⟩) ?_ ?_
    rotate_left
    ·intro w'
     go_simp
     first | done | with_reducible rfl
    rotate_left
    ·try simp only [Act.put, List.setIfInBounds_toArray, List.set_cons_zero, List.set_cons_succ, i64_w, i32_w]
     first | done | rfl
    refine pure_ (i := 5) (N := some 49) (v := ?_) (a' := ?_) #[true, true, true, true, false, true, false, false, false, false, false] rfl rfl (by kernel_rfl) (fun _ _ _ h => h) (Or.inl ⟨by rfl, ?_⟩) ?_ ?_
    rotate_left
    ·intro w'
     go_simp
     first | done | with_reducible rfl
    rotate_left
    ·try simp only [Act.put, List.setIfInBounds_toArray, List.set_cons_zero, List.set_cons_succ, i64_w, i32_w]
     first | done | rfl
    refine take_ (i := 4) (N := some 48) (v := ?_) (a' := ?_) #[true, true, true, true, true, true, false, false, false, false, false] rfl rfl (by kernel_rfl) (fun _ _ _ h => h) (Or.inl ⟨by rfl, ?_⟩) hHeld ?_ ?_
    rotate_left
    ·rintro w' ⟨s0_, s1_⟩
     go_simp
     first | done | with_reducible rfl
    rotate_left
    ·try simp only [Act.put, List.setIfInBounds_toArray, List.set_cons_zero, List.set_cons_succ, i64_w, i32_w]
     first | done | rfl
    refine take_ (i := 6) (N := some 50) (v := ?_) (a' := ?_) #[true, true, true, true, true, true, true, false, false, false, false] rfl rfl (by kernel_rfl) (fun _ _ _ h => h) (Or.inl ⟨by rfl, ?_⟩) hHeld ?_ ?_
    rotate_left
    ·rintro w' ⟨s0_, s1_⟩
     go_simp
     first | done | with_reducible rfl
    rotate_left
    ·try simp only [Act.put, List.setIfInBounds_toArray, List.set_cons_zero, List.set_cons_succ, i64_w, i32_w]
     first | done | rfl
    refine one_ (i := 7) (N := some 51) #[true, true, true, true, true, true, true, true, false, false, false] rfl rfl (by kernel_rfl) (by decide) (fun K hK => ?_)
    refine Kd.R_append_rows_step Kd.string (w0 := w) (W := w9.drew) (Rr := Kd.string.K w9.drew) w.heap.size ?hw (.tmp 48) (.tmp 50) 25 9 (.string ⟨#[]⟩) 16 ?ho Tryz.underlying25 info9 rfl (by decide) (by omega) (.slice Av out.length cv) out x.f1 A1 x.f1.length c1 (fun _ => True) (fun _ => False) ?hs ?hx (Kd.R_drew H9.out.out) (Kd.C_drew HC9.out) (fun _ _ h => h) (fun _ h => h.elim) (fun _ _ => trivial) B9.out.drew hBw9 (by have := HLX.out; omega) ?_
    case hw => rfl
    case ho => rfl
    case hs => rfl
    case hx => rfl
    intro v10 w10 hT10 hB10 hg10 hat10
    obtain ⟨A10, c10, e10⟩ := Kd.R_slice hT10
    subst e10
    have h9d : Page w.heap.size w9.drew w.heap.size style n (.slice Av out.length cv) out := H9.out.below (below_drew (Below.refl _ _))
    have hb10a := blk_grown h9d.page hg10 h9d.ne
    clear p2 pz
    have s2 := (blk_cell hb10a 2).trans rfl
    have sz := blk_frozen hb10a
    have H10 := Aside0.mk (h9d.more hg10 hat10 hT10)
    have B10 := Aside0.mk (below_cell hB10 (Nat.le_refl _) 2 (.slice A10 (out ++ x.f1).length c10))
    have K10 := Aside0.mk (show ∀ k, k < w9.heap.size → (k ≠ w.heap.size ∧ some k ≠ (Value.slice Av out.length cv).ownBlock) → (w10.setCell ⟨w.heap.size, 2, none⟩ (.slice A10 (out ++ x.f1).length c10)).heap[k]? = w9.heap[k]? ∧ some k ≠ (Value.slice A10 (out ++ x.f1).length c10).ownBlock from fun k hk hf => ⟨(Below.heap_setCell w10 ⟨w.heap.size, 2, none⟩ _ k hf.1).trans (hg10.block k hk hf.2), fun e => by
     rcases hat10 with h | ⟨b, h, hle⟩
     ·rw [← e] at h
      exact hf.2 h
     ·rw [h] at e
      injection e with e
      have h3 : w9.heap.size ≤ b := hle
      omega⟩)
    have Z10 := Aside0.mk (show w9.heap.size ≤ (w10.setCell ⟨w.heap.size, 2, none⟩ (.slice A10 (out ++ x.f1).length c10)).heap.size from Nat.le_trans (show w9.heap.size ≤ w10.heap.size from hg10.size) (by simp [World.setCell]))
    have s1 : w10.cell? ⟨bx, 1, none⟩ = some (.slice A1 x.f1.length c1) := (blk_cell (blk_grown (HQ.out) hg10 HQN.out) 1).trans rfl
    clear h9d hT10 hB10 hg10 hat10 hb10a q1
    obtain ⟨n2, hn2⟩ : ∃ n2, (out ++ x.f1).length = n2 := ⟨_, rfl⟩
    rw [hn2] at H10 B10 K10 Z10 ⊢
    clear hn2
    refine hK.out _ _ (⟨s2, s1⟩) (fun hHeld => ?_)
    clear hK K
    refine norm_ (a' := ?_) ?_ ?_
    rotate_left
    ·try simp only [Act.put, List.setIfInBounds_toArray, List.set_cons_zero, List.set_cons_succ, i64_w, i32_w]
     first | done | rfl
    refine pure_ (i := 8) (N := some 52) (v := ?_) (a' := ?_) #[true, true, true, true, true, true, true, true, true, false, false] rfl rfl (by kernel_rfl) (fun _ _ _ h => h) (Or.inl ⟨by rfl, ?_⟩) ?_ ?_
    rotate_left
    ·intro w'
     go_simp
     first | done | with_reducible rfl
    rotate_left
    ·try simp only [Act.put, List.setIfInBounds_toArray, List.set_cons_zero, List.set_cons_succ, i64_w, i32_w]
     first | done | rfl
    refine pure_ (i := 9) (N := some 53) (v := ?_) (a' := ?_) #[true, true, true, true, true, true, true, true, true, true, false] rfl rfl (by kernel_rfl) (fun _ _ _ h => h) (Or.inl ⟨by rfl, ?_⟩) ?_ ?_
    rotate_left
    ·intro w'
     go_simp
     first | done | with_reducible rfl
    rotate_left
    ·try simp only [Act.put, List.setIfInBounds_toArray, List.set_cons_zero, List.set_cons_succ, i64_w, i32_w]
     first | done | rfl
    refine last_ (i := 10) (N := none) #[true, true, true, true, true, true, true, true, true, true, true] rfl rfl (by kernel_rfl) (by decide) (fun K hK => ?_)
    go_simp
    refine hK.out _ _ ?_
    clear hK K
    refine norm_ (a' := ?_) ?_ ?_
    rotate_left
    ·try simp only [Act.put, List.setIfInBounds_toArray, List.set_cons_zero, List.set_cons_succ, i64_w, i32_w]
     first | done | rfl
    refine done_ (by kernel_rfl) ?_
    clear s2 sz s1
    have H11 := Aside0.mk (⟨H10.out, HFX.out _ _ (fun k hk hf => by have g1 := K10.out k (Nat.lt_of_lt_of_le hk HOB.out.size) hf; exact ⟨g1.1.trans (HOB.out.block k hk), g1.2⟩) (Nat.le_trans HOB.out.size Z10.out)⟩ : _ ∧ _)
    generalize w10.setCell ⟨w.heap.size, 2, none⟩ (.slice A10 n2 c10) = w11 at H11 B10 ⊢
    go_wp2
    go_roundg (l.length - (kk + 1))
    case measure => omega
    case rel => exact ⟨kk + 1, by omega, by omega, by go_num, ⟨_, by rw [HK.out, HO.out]; exact H11.out⟩, B10⟩
  ·have hltz : ¬ (kk : Int) < (l.length : Int) := by omega
   have hkl : kk = l.length := by omega
   subst hkl
   rw [List.take_length] at hpg
   obtain ⟨p2, pz⟩ := hpg.cell
   have HPG := Aside0.mk hpg
   clear hpg hfr
   go_wp2
   go_ret2
   rw [HPR.out]
   exact ⟨_, rfl, Kd.R_V (Kd.R_reok rfl HPG.out.out (Kd.R_base HPG.out.out)), HW.out⟩
set_option maxHeartbeats 4000000 in
set_option maxRecDepth 100000 in
theorem print_zok (A0 : Option Addr) (c0 : Nat) (l : List Piece) (style long : Int) (w : World) (hr0 : Kd.C k36 w A0 l.length l) (hc0 : l.length ≤ c0) (hl : l.length ≤ 20000) (ht : tot l ≤ 20000) (hf : FineP l) (hst : style = 3) (hbad : wrongN l (zeal l) style long = 0) :
  Calls Tryz.prog 12 #[.slice A0 l.length c0, .int .i64 style, .int .i64 long] w (Printed w (printL l style long)) := by
 have hu := Tryz.underlying36
 have hu1 := Tryz.underlying55
 have hu2 := Tryz.underlying53
 have HV0 := Aside0.mk (fun W (hW : Below w.heap.size w W) => (show Kd.V k36 36 W W.heap.size (fun k => k < w.heap.size) (.slice A0 l.length c0) l from Kd.V_below (Kd.V_mk hc0 (Kd.C_F k36_heap hr0)) hW))
 have HSM := Aside0.mk (show smallOf l style = (zeal l) by rw [smallOf, if_pos hst])
 have HPR := Aside0.mk (show printL l style long = (pageTo style long.toNat (zeal l), 0) by rw [printL, HSM.out, if_pos hbad])
 obtain ⟨hl1, hl2, hcr⟩ := wrongN_zero hbad
 have HBD := Aside0.mk hbad
 have t0 : (style == 3) = true := by simp [hst]
 have hzt := zeal_tot l
 have hzl := zeal_len l
 have HFS := Aside0.mk (fine_zeal hf (by omega))
 have HSD := Aside0.mk (zeal_ok (sides_of hcr))
 have HTOT := Aside0.mk (show tot (zeal l) ≤ 60000 ∧ (zeal l).length ≤ 60000 from ⟨by omega, by omega⟩)
 have H33 := Aside0.mk (show ∀ p ∈ (zeal l), p.f3.length ≤ 100000 from fun p hp => by have h1 := tot_mem hp; have h2 := HTOT.out.1; simp only [szP] at h1; omega)
 have HZ := Aside0.mk (zeal_calls (w.alloc (pageObj style long)) (fun k => k < w.heap.size) A0 l.length c0 l (HV0.out _ (below_alloc (Below.refl _ _) _)) (by omega) (by omega))
 have HWR := Aside0.mk (fun (w2 : World) (A5 : Option Addr) (c5 : Nat) (hb2 : Below (w.alloc (pageObj style long)).heap.size (w.alloc (pageObj style long)) w2) (hN2 : Kd.N k36 36 w2 (w.alloc (pageObj style long)).heap.size (fun k => k < w.heap.size ∨ (w.alloc (pageObj style long)).heap.size ≤ k) (.slice A5 (zeal l).length c5) (zeal l)) => wrong_calls w2 (fun _ => True) style long A0 l.length c0 A5 (zeal l).length c5 l (zeal l) (Kd.V_mono (HV0.out _ (page_over w style long w2 hb2).2.2.2.1) (fun _ _ => trivial)) (Kd.V_mono (Kd.N_V hN2) (fun _ _ => trivial)) (by omega) (by omega) (by have := HTOT.out; omega) (by have := HTOT.out; omega) H33.out hf HFS.out)
 simp only [HBD.out] at HWR
 clear hbad hf hr0 HSM H33 hst
 go_enter Tryz.func12, Tryz.ntmps12
 go_wp2_with (fail)
 refine HZ.out.mono ?_
 rintro e w2 ⟨v2, rfl, hN2, hb2⟩
 obtain ⟨A5, c5, e5⟩ := Kd.N_slice hN2
 subst e5
 obtain ⟨-, y0, y1, -, -⟩ := page_over w style long w2 hb2
 have HWR := Aside0.mk (HWR.out w2 A5 c5 hb2 hN2)
 have HB2 := Aside0.mk hb2
 have N2 := Aside0.mk hN2
 clear hb2 hN2
 go_wp2_with (fail)
 refine HWR.out.mono ?_
 rintro e w3 ⟨rfl, hb3⟩
 have HB23 := Aside0.mk (HB2.out.trans (hb3.mono HB2.out.size))
 have HLE := Aside0.mk ((Kd.N_reads' N2.out).2.1)
 have hs1 : (w.alloc (pageObj style long)).heap.size = w.heap.size + 1 := by simp
 have HF3 := Aside0.mk (Kd.F_mono (Kd.F_bound (Kd.F_below (Kd.N_F N2.out) hb3)) (fun k hk => (⟨hk.2, by rcases hk.1 with h | h <;> omega⟩ : k < w3.heap.size ∧ k ≠ w.heap.size)))
 clear hs1
 obtain ⟨hp3, -, -, hb0, hz3⟩ := page_over w style long w3 HB23.out
 have HB3 := Aside0.mk hb0
 have HZ3 := Aside0.mk hz3
 clear hb3 y0 y1 hb0 HWR HB23
 have HP3 := Aside0.mk (⟨Nat.le_refl _, by rw [Int.toNat_of_nonneg (by omega)]; exact hp3, Kd.R_nil _ _ _ _ _⟩ : Page w.heap.size w3 w.heap.size style long.toNat (.slice none 0 0) [])
 clear hz3 hp3
 go_wp2
 obtain ⟨n, rfl⟩ : ∃ n : Nat, long = (n : Int) := ⟨long.toNat, by omega⟩
 rw [Int.toNat_natCast] at HPR
 go_loopg [35] (zeal l).length (fun gg s35 wr => ∃ kk : Nat, kk ≤ (zeal l).length ∧ (zeal l).length - kk ≤ gg ∧ s35 = .int .i64 kk ∧ Aside0 (∃ vk, Page w.heap.size wr w.heap.size style n vk (pageTo style n ((zeal l).take kk)) ∧ (∀ k, k < w3.heap.size → k ≠ w.heap.size → wr.heap[k]? = w3.heap[k]? ∧ some k ≠ vk.ownBlock) ∧ w3.heap.size ≤ wr.heap.size) ∧ Aside0 (Below w.heap.size w wr))
 case atStart => exact ⟨0, Nat.zero_le _, by omega, rfl, ⟨_, HP3.out, fun k _ _ => ⟨rfl, by simp [Value.ownBlock]⟩, Nat.le_refl _⟩, HB3⟩
 case round =>
  clear HP3 HB3
  obtain ⟨kk, hkk, hg, rfl, HS, HW⟩ := hrel
  obtain ⟨vk, hpg, hfr, hzr⟩ := HS.out
  clear HS
  have HFR := Aside0.mk hfr
  have hZ3 := HZ3.out
  have HLN := Aside0.mk (pageTo_len style n (zeal l) kk)
  have hBr : w.heap.size ≤ wr.heap.size := by omega
  by_cases hlt : kk < (zeal l).length
  ·have hltz : (kk : Int) < ((zeal l).length : Int) := by omega
   obtain ⟨x, hxk⟩ : ∃ x, (zeal l)[kk]? = some x := ⟨_, List.getElem?_eq_getElem hlt⟩
   obtain ⟨ad, A1, c1, A2, c2, A3, c3, rfl, ⟨h0, h1, h2, h3⟩, hpv⟩ := elemVP (Kd.V_mk (e := 36) (base := 0) HLE.out (Kd.F_step HF3.out (fun k hk hlt => (hfr k hk.1 hk.2).1))) hxk
   have hmem := List.mem_of_getElem? hxk
   have hsx := tot_mem hmem
   have hs16 := (HSD.out x hmem).1
   have HFx := Aside0.mk (HFS.out x hmem)
   have HK := Aside0.mk (pageTo_succ style n hxk)
   have hszp : szP x = x.f1.length + x.f2.length + x.f3.length + x.f3.flatten.length := rfl
   have HFX := Aside0.mk (show ∀ (w' : World) (v' : Value), (∀ k, k < wr.heap.size → (k ≠ w.heap.size ∧ some k ≠ vk.ownBlock) → w'.heap[k]? = wr.heap[k]? ∧ some k ≠ v'.ownBlock) → wr.heap.size ≤ w'.heap.size → (∀ k, k < w3.heap.size → k ≠ w.heap.size → w'.heap[k]? = w3.heap[k]? ∧ some k ≠ v'.ownBlock) ∧ w3.heap.size ≤ w'.heap.size from fun w' v' g1 g2 => ⟨fun k hk hne => by
    have g3 := HFR.out k hk hne
    have g4 := g1 k (by omega) ⟨hne, g3.2⟩
    exact ⟨g4.1.trans g3.1, g4.2⟩, by omega⟩)
   obtain ⟨out, hout⟩ : ∃ out, pageTo style n ((zeal l).take kk) = out := ⟨_, rfl⟩
   rw [hout] at hpg HK HLN
   have HLn := Aside0.mk (show out.length + szP x + x.f2.length + 40 ≤ 1000000 by have := HLN.out; have := HTOT.out; omega)
   have HLX := Aside0.mk (show out.length + x.f1.length ≤ 1000000 by have := HLn.out; omega)
   have HOB := Aside0.mk (show ∀ o : Obj, Below wr.heap.size wr (wr.alloc o) from fun o => below_alloc (Below.refl _ _) o)
   have HPG := Aside0.mk hpg
   have HPV := Aside0.mk hpv
   clear hxk hmem hsx hpg hpv hfr hout HLN hszp
   cases hq : x.f0 with
   | true =>
    rw [hq] at h0
    have hs16 := hs16 hq
    have HO := Aside0.mk (show pageOne style n out x = conflictL x style n out by rw [pageOne, if_pos hq])
    have HC := Aside0.mk (fun o => conflict_calls w.heap.size w (wr.alloc o) w.heap.size style n vk out (fun k => k < w3.heap.size ∧ k ≠ w.heap.size) x A1 c1 A2 c2 A3 c3 (fun k hk => ⟨Nat.lt_of_lt_of_le hk.1 (Nat.le_trans hzr (HOB.out o).size), hk.2, (HFR.out k hk.1 hk.2).2⟩) (HPG.out.below (HOB.out o)) (HW.out.alloc hBr o) (HPV.out.below (HOB.out o)) (by omega) hs16 HLn.out HFx.out)
    rw [pv, hq] at HC
    go_wp2_with (go_at_call 33; refine (HC.out _).mono ?_; rintro e w5 ⟨rfl, hb5, vo5, hpg5, hk5, hz5⟩; have H5 := Aside0.mk (⟨hpg5, HFX.out _ _ (fun k hk hf => by have g1 := hk5 k (Nat.lt_of_lt_of_le hk (HOB.out _).size) hf; exact ⟨g1.1.trans ((HOB.out _).block k hk), g1.2⟩) (Nat.le_trans (HOB.out _).size hz5)⟩ : _ ∧ _); have HB5 := Aside0.mk hb5; clear hpg5 hb5 hk5 hz5)
    go_roundg ((zeal l).length - (kk + 1))
    case measure => omega
    case rel => exact ⟨kk + 1, by omega, by omega, by go_num, ⟨_, by rw [HK.out, HO.out]; exact H5.out⟩, HB5⟩
   | false =>
    rw [hq] at h0
    have HO := Aside0.mk (show pageOne style n out x = out ++ x.f1 by rw [pageOne, if_neg (by simp [hq])])
    go_wp2
    have HQ := Aside0.mk (blk_below (blk_new wr (.cells #[.bool false, .slice A1 x.f1.length c1, .slice A2 x.f2.length c2, .slice A3 x.f3.length c3] 36)) (below_drew (Below.refl _ _)))
    have H9 := Aside0.mk (HPG.out.below (HOB.out (.cells #[.bool false, .slice A1 x.f1.length c1, .slice A2 x.f2.length c2, .slice A3 x.f3.length c3] 36)))
    have B9 := Aside0.mk (HW.out.alloc hBr (.cells #[.bool false, .slice A1 x.f1.length c1, .slice A2 x.f2.length c2, .slice A3 x.f3.length c3] 36))
    have HC9 := Aside0.mk (Kd.F_now (HPV.out.below (HOB.out (.cells #[.bool false, .slice A1 x.f1.length c1, .slice A2 x.f2.length c2, .slice A3 x.f3.length c3] 36))).g1)
    have HOB := Aside0.mk (HOB.out (.cells #[.bool false, .slice A1 x.f1.length c1, .slice A2 x.f2.length c2, .slice A3 x.f3.length c3] 36))
    have hBw9 := Nat.le_trans hBr HOB.out.size
    have q1 := (blk_cell (blk_new wr (.cells #[.bool false, .slice A1 x.f1.length c1, .slice A2 x.f2.length c2, .slice A3 x.f3.length c3] 36)) 1).trans rfl
    generalize wr.alloc (.cells #[.bool false, .slice A1 x.f1.length c1, .slice A2 x.f2.length c2, .slice A3 x.f3.length c3] 36) = w9 at HQ H9 B9 HC9 HOB hBw9 q1 ⊢
    have hbxe : ∃ bx, wr.heap.size = bx := ⟨_, rfl⟩
    obtain ⟨Av, cv, ev⟩ := Kd.R_slice H9.out.out
    subst ev
    have HQN := Aside0.mk (show some wr.heap.size ≠ (Value.slice Av out.length cv).ownBlock from fun e => by
     obtain ⟨c', hc'⟩ := Kd.R_typed (Kd.R_drew H9.out.out) _ e.symm
     have g1 := HQ.out
     rw [hc'] at g1
     injection g1 with g1
     injection g1 with _ g2
     exact absurd g2 (by decide))
    have hwrz := HOB.out.size
    obtain ⟨bx, hbx⟩ := hbxe
    rw [hbx] at HQ HQN q1 ⊢
    obtain ⟨p2, pz⟩ := H9.out.cell
    refine start_ (n := 11) (S := fun w' => w'.cell? ⟨w.heap.size, 2, none⟩ = some (.slice Av out.length cv) ∧ w'.cell? ⟨bx, 1, none⟩ = some (.slice A1 x.f1.length c1)) (ds := [10]) #[false, false, false, false, false, false, false, false, false, false, false] (by kernel_rfl) rfl rfl ?hS0 (fun hHeld => ?_)
    case hS0 => (first | exact ⟨by assumption, by assumption⟩ | (go_simp; done) | (refine ⟨?_, ?_⟩ <;> assumption))
    refine pure_ (i := 0) (N := some 44) (v := ?_) (a' := ?_) #[true, false, false, false, false, false, false, false, false, false, false] rfl rfl (by kernel_rfl) (fun _ _ _ h => h) (Or.inl ⟨by rfl, ?_⟩) ?_ ?_
    rotate_left
    ·intro w'
     go_simp
     first | done | with_reducible rfl
    rotate_left
    ·try simp only [Act.put, List.setIfInBounds_toArray, List.set_cons_zero, List.set_cons_succ, i64_w, i32_w]
     first | done | rfl
    refine pure_ (i := 1) (N := some 45) (v := ?_) (a' := ?_) #[true, true, false, false, false, false, false, false, false, false, false] rfl rfl (by kernel_rfl) (fun _ _ _ h => h) (Or.inl ⟨by rfl, ?_⟩) ?_ ?_
    rotate_left
    ·intro w'
     go_simp
     first | done | with_reducible rfl
    rotate_left
    ·try simp only [Act.put, List.setIfInBounds_toArray, List.set_cons_zero, List.set_cons_succ, i64_w, i32_w]
     first | done | rfl
    refine pure_ (i := 2) (N := some 46) (v := ?_) (a' := ?_) #[true, true, true, false, false, false, false, false, false, false, false] rfl rfl (by kernel_rfl) (fun _ _ _ h => h) (Or.inl ⟨by rfl, ?_⟩) ?_ ?_
    rotate_left
    ·intro w'
     go_simp
     first | done | with_reducible rfl
    rotate_left
    ·try simp only [Act.put, List.setIfInBounds_toArray, List.set_cons_zero, List.set_cons_succ, i64_w, i32_w]
     first | done | rfl
    refine pure_ (i := 3) (N := some 47) (v := ?_) (a' := ?_) #[true, true, true, true, false, false, false, false, false, false, false] rfl rfl (by kernel_rfl) (fun _ _ _ h => h) (Or.inl ⟨by rfl, ?_⟩) ?_ ?_
    rotate_left
    ·intro w'
     go_simp
     first | done | with_reducible rfl
    rotate_left
    ·try simp only [Act.put, List.setIfInBounds_toArray, List.set_cons_zero, List.set_cons_succ, i64_w, i32_w]
     first | done | rfl
    refine pure_ (i := 5) (N := some 49) (v := ?_) (a' := ?_) #[true, true, true, true, false, true, false, false, false, false, false] rfl rfl (by kernel_rfl) (fun _ _ _ h => h) (Or.inl ⟨by rfl, ?_⟩) ?_ ?_
    rotate_left
    ·intro w'
     go_simp
     first | done | with_reducible rfl
    rotate_left
    ·try simp only [Act.put, List.setIfInBounds_toArray, List.set_cons_zero, List.set_cons_succ, i64_w, i32_w]
     first | done | rfl
    refine take_ (i := 4) (N := some 48) (v := ?_) (a' := ?_) #[true, true, true, true, true, true, false, false, false, false, false] rfl rfl (by kernel_rfl) (fun _ _ _ h => h) (Or.inl ⟨by rfl, ?_⟩) hHeld ?_ ?_
    rotate_left
    ·rintro w' ⟨s0_, s1_⟩
     go_simp
     first | done | with_reducible rfl
    rotate_left
    ·try simp only [Act.put, List.setIfInBounds_toArray, List.set_cons_zero, List.set_cons_succ, i64_w, i32_w]
     first | done | rfl
    refine take_ (i := 6) (N := some 50) (v := ?_) (a' := ?_) #[true, true, true, true, true, true, true, false, false, false, false] rfl rfl (by kernel_rfl) (fun _ _ _ h => h) (Or.inl ⟨by rfl, ?_⟩) hHeld ?_ ?_
    rotate_left
    ·rintro w' ⟨s0_, s1_⟩
     go_simp
     first | done | with_reducible rfl
    rotate_left
    ·try simp only [Act.put, List.setIfInBounds_toArray, List.set_cons_zero, List.set_cons_succ, i64_w, i32_w]
     first | done | rfl
    refine one_ (i := 7) (N := some 51) #[true, true, true, true, true, true, true, true, false, false, false] rfl rfl (by kernel_rfl) (by decide) (fun K hK => ?_)
    refine Kd.R_append_rows_step Kd.string (w0 := w) (W := w9.drew) (Rr := Kd.string.K w9.drew) w.heap.size ?hw (.tmp 48) (.tmp 50) 25 9 (.string ⟨#[]⟩) 16 ?ho Tryz.underlying25 info9 rfl (by decide) (by omega) (.slice Av out.length cv) out x.f1 A1 x.f1.length c1 (fun _ => True) (fun _ => False) ?hs ?hx (Kd.R_drew H9.out.out) (Kd.C_drew HC9.out) (fun _ _ h => h) (fun _ h => h.elim) (fun _ _ => trivial) B9.out.drew hBw9 (by have := HLX.out; omega) ?_
    case hw => rfl
    case ho => rfl
    case hs => rfl
    case hx => rfl
    intro v10 w10 hT10 hB10 hg10 hat10
    obtain ⟨A10, c10, e10⟩ := Kd.R_slice hT10
    subst e10
    have h9d : Page w.heap.size w9.drew w.heap.size style n (.slice Av out.length cv) out := H9.out.below (below_drew (Below.refl _ _))
    have hb10a := blk_grown h9d.page hg10 h9d.ne
    clear p2 pz
    have s2 := (blk_cell hb10a 2).trans rfl
    have sz := blk_frozen hb10a
    have H10 := Aside0.mk (h9d.more hg10 hat10 hT10)
    have B10 := Aside0.mk (below_cell hB10 (Nat.le_refl _) 2 (.slice A10 (out ++ x.f1).length c10))
    have K10 := Aside0.mk (show ∀ k, k < w9.heap.size → (k ≠ w.heap.size ∧ some k ≠ (Value.slice Av out.length cv).ownBlock) → (w10.setCell ⟨w.heap.size, 2, none⟩ (.slice A10 (out ++ x.f1).length c10)).heap[k]? = w9.heap[k]? ∧ some k ≠ (Value.slice A10 (out ++ x.f1).length c10).ownBlock from fun k hk hf => ⟨(Below.heap_setCell w10 ⟨w.heap.size, 2, none⟩ _ k hf.1).trans (hg10.block k hk hf.2), fun e => by
     rcases hat10 with h | ⟨b, h, hle⟩
     ·rw [← e] at h
      exact hf.2 h
     ·rw [h] at e
      injection e with e
      have h3 : w9.heap.size ≤ b := hle
      omega⟩)
    have Z10 := Aside0.mk (show w9.heap.size ≤ (w10.setCell ⟨w.heap.size, 2, none⟩ (.slice A10 (out ++ x.f1).length c10)).heap.size from Nat.le_trans (show w9.heap.size ≤ w10.heap.size from hg10.size) (by simp [World.setCell]))
    have s1 : w10.cell? ⟨bx, 1, none⟩ = some (.slice A1 x.f1.length c1) := (blk_cell (blk_grown (HQ.out) hg10 HQN.out) 1).trans rfl
    clear h9d hT10 hB10 hg10 hat10 hb10a q1
    obtain ⟨n2, hn2⟩ : ∃ n2, (out ++ x.f1).length = n2 := ⟨_, rfl⟩
    rw [hn2] at H10 B10 K10 Z10 ⊢
    clear hn2
    refine hK.out _ _ (⟨s2, s1⟩) (fun hHeld => ?_)
    clear hK K
    refine norm_ (a' := ?_) ?_ ?_
    rotate_left
    ·try simp only [Act.put, List.setIfInBounds_toArray, List.set_cons_zero, List.set_cons_succ, i64_w, i32_w]
     first | done | rfl
    refine pure_ (i := 8) (N := some 52) (v := ?_) (a' := ?_) #[true, true, true, true, true, true, true, true, true, false, false] rfl rfl (by kernel_rfl) (fun _ _ _ h => h) (Or.inl ⟨by rfl, ?_⟩) ?_ ?_
    rotate_left
    ·intro w'
     go_simp
     first | done | with_reducible rfl
    rotate_left
    ·try simp only [Act.put, List.setIfInBounds_toArray, List.set_cons_zero, List.set_cons_succ, i64_w, i32_w]
     first | done | rfl
    refine pure_ (i := 9) (N := some 53) (v := ?_) (a' := ?_) #[true, true, true, true, true, true, true, true, true, true, false] rfl rfl (by kernel_rfl) (fun _ _ _ h => h) (Or.inl ⟨by rfl, ?_⟩) ?_ ?_
    rotate_left
    ·intro w'
     go_simp
     first | done | with_reducible rfl
    rotate_left
    ·try simp only [Act.put, List.setIfInBounds_toArray, List.set_cons_zero, List.set_cons_succ, i64_w, i32_w]
     first | done | rfl
    refine last_ (i := 10) (N := none) #[true, true, true, true, true, true, true, true, true, true, true] rfl rfl (by kernel_rfl) (by decide) (fun K hK => ?_)
    go_simp
    refine hK.out _ _ ?_
    clear hK K
    refine norm_ (a' := ?_) ?_ ?_
    rotate_left
    ·try simp only [Act.put, List.setIfInBounds_toArray, List.set_cons_zero, List.set_cons_succ, i64_w, i32_w]
     first | done | rfl
    refine done_ (by kernel_rfl) ?_
    clear s2 sz s1
    have H11 := Aside0.mk (⟨H10.out, HFX.out _ _ (fun k hk hf => by have g1 := K10.out k (Nat.lt_of_lt_of_le hk HOB.out.size) hf; exact ⟨g1.1.trans (HOB.out.block k hk), g1.2⟩) (Nat.le_trans HOB.out.size Z10.out)⟩ : _ ∧ _)
    generalize w10.setCell ⟨w.heap.size, 2, none⟩ (.slice A10 n2 c10) = w11 at H11 B10 ⊢
    go_wp2
    go_roundg ((zeal l).length - (kk + 1))
    case measure => omega
    case rel => exact ⟨kk + 1, by omega, by omega, by go_num, ⟨_, by rw [HK.out, HO.out]; exact H11.out⟩, B10⟩
  ·have hltz : ¬ (kk : Int) < ((zeal l).length : Int) := by omega
   have hkl : kk = (zeal l).length := by omega
   subst hkl
   rw [List.take_length] at hpg
   obtain ⟨p2, pz⟩ := hpg.cell
   have HPG := Aside0.mk hpg
   clear hpg hfr
   go_wp2
   go_ret2
   rw [HPR.out]
   exact ⟨_, rfl, Kd.R_V (Kd.R_reok rfl HPG.out.out (Kd.R_base HPG.out.out)), HW.out⟩
def mark_Print.f (l : List Piece) (a1 a2 : Int) : Option (List ByteArray × Int) := if (l.length ≤ 20000 ∧ tot l ≤ 20000) ∧ ∀ p ∈ l, ∀ t ∈ textsL p, ∀ s ∈ t, s.size ≤ 1000000 then some (printL l a1 a2) else none
theorem mark_Print.calls (A0 : Option Addr) (c0 : Nat) (l0 : List Piece) (a1 a2 : Int) (r0 : List ByteArray) (r1 : Int) (w : World) (hr0 : Kd.C k36 w A0 l0.length l0) (hc0 : l0.length ≤ c0) (h : mark_Print.f l0 a1 a2 = some (r0, r1)) :
  Calls Tryz.prog 12 #[.slice A0 l0.length c0, .int .i64 a1, .int .i64 a2] w fun e w' => ∃ v0_, e = .returned (.tuple #[v0_, .int .i64 r1]) ∧
   Kd.V Kd.string 9 w' w.heap.size (fun k_ => w.heap.size ≤ k_) v0_ r0 ∧ Below w.heap.size w w' := by
 unfold mark_Print.f at h
 split at h
 ·rename_i hg
  have e := Option.some.inj h
  have H : Calls Tryz.prog 12 #[.slice A0 l0.length c0, .int .i64 a1, .int .i64 a2] w (Printed w (printL l0 a1 a2)) := by
   by_cases h3 : a1 = 3
   ·by_cases hb : wrongN l0 (zeal l0) a1 a2 = 0
    ·exact print_zok A0 c0 l0 a1 a2 w hr0 hc0 hg.1.1 hg.1.2 hg.2 h3 hb
    ·exact print_zbad A0 c0 l0 a1 a2 w hr0 hc0 hg.1.1 hg.1.2 hg.2 h3 hb
   ·by_cases hb : wrongN l0 l0 a1 a2 = 0
    ·exact print_ok A0 c0 l0 a1 a2 w hr0 hc0 hg.1.1 hg.1.2 hg.2 h3 hb
    ·exact print_bad A0 c0 l0 a1 a2 w hr0 hc0 hg.1.1 hg.1.2 hg.2 h3 hb
  rw [e] at H
  exact H
 ·cases h
#print axioms mark_Print.calls
end Go.Proofs.YtcnjbmdnnhbfkaaGreatDoor.Mark
