import Derived.Test.YtcnjbmdnnhbfkaaGreatDoorXD0
import Derived.Test.YtcnjbmdnnhbfkaaGreatDoorLib
import Derived.Deep.RegionLaw
import Derived.Lib.Hide
import Derived.Lib.Walk
import Derived.WalkKit
import Derived.Deep.LoopGhost
import Derived.Deep.Draws
import Derived.Laws.EntriesVeiled
import Derived.Deep.QuietTactic
import Derived.BigQuiet
/- slices.IndexFunc, ContainsFunc, EqualFunc, Equal at the program's types: what they compute, for a function that is handed in and told by its contract. -/
namespace Go.Proofs.YtcnjbmdnnhbfkaaGreatDoor.Mark
open Go.RowKit Go.Proofs.YtcnjbmdnnhbfkaaGreatDoorW.PrintWords Go.Proofs.YtcnjbmdnnhbfkaaGreatDoor.XD
abbrev Piece := S36
def rdSS (xs : List (List ByteArray)) (i : Int) : List ByteArray := xs.getD i.toNat []
theorem atSS {w : World} {A : Option Addr} {n : Nat} {xs : List (List ByteArray)} (h : Kd.C (Kd.slice 9 Kd.string) w A n xs) (i : Int) (h0 : 0 ≤ i) (h1 : i < n) : ∃ ad A0 c0, A = some ad ∧ w.cell? (ad.add i.toNat) = some (.slice A0 (rdSS xs i).length c0) ∧ (rdSS xs i).length ≤ c0 ∧ Kd.string.C w A0 (rdSS xs i).length (rdSS xs i) := by
 obtain ⟨ad, c, e, _, hK, hc0⟩ := Kd.C_get h ([] : List ByteArray) i h0 h1
 have hc : ∀ j u, c[j]? = some u → w.cell? (ad.add (i.toNat * 1 + j)) = some u := hc0
 obtain ⟨A0, c0, rfl, l0, g0⟩ := hK
 exact ⟨ad, A0, c0, e, by have hq := hc 0 _ rfl; rwa [Nat.mul_one, Nat.add_zero] at hq, l0, g0⟩
def PredS (g : Nat) (cb : Array Value) (p : List ByteArray → Bool) (w : World) (xs : List (List ByteArray)) : Prop :=
 ∀ (W : World) (x : List ByteArray) (A : Option Addr) (c : Nat), Below w.heap.size w W → x ∈ xs → x.length ≤ c → Kd.string.C W A x.length x → Calls Tryz.prog g (#[.slice A x.length c] ++ cb) W fun e w' => e = .returned (.bool (p x)) ∧ Below w.heap.size w w'
def idx {α : Type} (p : α → Bool) (xs : List α) : Int := match xs.findIdx? p with
 | some k => (k : Int)
 | none => -1
theorem idx_hit {α : Type} (p : α → Bool) (xs : List α) (k : Nat) (x : α) (hx : xs[k]? = some x) (hp : p x = true) (hn : ∀ j y, j < k → xs[j]? = some y → p y = false) : idx p xs = k := by
 have hk : k < xs.length := (List.getElem?_eq_some_iff.1 hx).1
 have : xs.findIdx? p = some k := by
  rw [List.findIdx?_eq_some_iff_getElem]
  refine ⟨hk, ?_, fun j hj => ?_⟩
  ·have := (List.getElem?_eq_some_iff.1 hx).2
   rw [this]; exact hp
  ·have := hn j xs[j] hj (List.getElem?_eq_getElem (by omega))
   rw [this]; simp
 rw [idx, this]
theorem idx_miss {α : Type} (p : α → Bool) (xs : List α) (hn : ∀ (j : Nat) y, xs[j]? = some y → p y = false) : idx p xs = -1 := by
 have : xs.findIdx? p = none := by
  rw [List.findIdx?_eq_none_iff]
  intro x hx
  obtain ⟨j, hj⟩ := List.getElem?_of_mem hx
  exact hn j x hj
 rw [idx, this]
theorem idx_any {α : Type} (p : α → Bool) (xs : List α) : (decide (0 ≤ idx p xs)) = xs.any p := by
 rw [idx]
 rcases h : xs.findIdx? p with _ | k
 ·rw [List.findIdx?_eq_none_iff] at h
  have : xs.any p = false := by simpa using h
  rw [this]; simp
 ·rw [List.findIdx?_eq_some_iff_getElem] at h
  obtain ⟨hk, hp, _⟩ := h
  have : xs.any p = true := List.any_eq_true.2 ⟨xs[k], List.getElem_mem hk, hp⟩
  rw [this]; simp
set_option maxHeartbeats 1000000 in
theorem indexS_calls (w : World) (A : Option Addr) (c : Nat) (xs : List (List ByteArray)) (g : Nat) (cb : Array Value) (p : List ByteArray → Bool)
  (eg : ∀ args w, (callFunc g args).run Tryz.prog w = .ok (.enter g args) w) (hC : Kd.C (Kd.slice 9 Kd.string) w A xs.length xs) (hp : PredS g cb p w xs) :
  Calls Tryz.prog 97 #[.slice A xs.length c, .func (.func g) #[] cb] w fun e w' => e = .returned (.int .i64 (idx p xs)) ∧ Below w.heap.size w w' := by
 have hmax := Kd.C_max hC
 have HC := Aside0.mk hC
 have HP := Aside0.mk hp
 clear hC hp
 go_enter Tryz.func97, Tryz.ntmps97
 go_wp2
 go_loopg [5, 8] xs.length (fun gg _ s8 wr => ∃ kk : Nat, kk ≤ xs.length ∧ xs.length - kk ≤ gg ∧ s8 = .int .i64 kk ∧ Aside0 (Below w.heap.size w wr) ∧ Aside0 (∀ j y, j < kk → xs[j]? = some y → p y = false))
 case atStart => exact ⟨0, Nat.zero_le _, by omega, rfl, ⟨Below.refl _ w⟩, ⟨fun j _ hj => absurd hj (Nat.not_lt_zero _)⟩⟩
 case round =>
  obtain ⟨kk, hkk, hg, rfl, BW, AA⟩ := hrel
  by_cases hlt : kk < xs.length
  ·have hltz : (kk : Int) < (xs.length : Int) := by omega
   obtain ⟨ad, A0, c0, eA, hcell, hl0, hC0⟩ := atSS (Kd.C_below HC.out BW.out) (kk : Int) (by omega) hltz
   subst eA
   have hx : xs[kk]? = some (rdSS xs kk) := by rw [rdSS, Int.toNat_natCast, List.getD_eq_getElem?_getD, List.getElem?_eq_getElem hlt]; rfl
   have hcall := HP.out wr (rdSS xs kk) A0 c0 BW.out (List.mem_of_getElem? hx) hl0 hC0
   generalize rdSS xs kk = y at hcell hcall hx
   have HX := Aside0.mk hx
   clear hx hl0 hC0
   rw [Int.toNat_natCast] at hcell
   cases hq : p y with
   | true =>
    have HQ := Aside0.mk hq
    rw [hq] at hcall
    have HCa := Aside0.mk hcall
    clear hcall hq
    go_wp2_with (go_at_fn g; refine HCa.out.mono ?_; rintro e w' ⟨rfl, hb'⟩)
    go_ret
    refine ⟨?_, hb'⟩
    rw [idx_hit p xs kk y HX.out HQ.out AA.out]; rfl
   | false =>
    have HQ := Aside0.mk hq
    rw [hq] at hcall
    have HCa := Aside0.mk hcall
    clear hcall hq
    go_wp2_with (go_at_fn g; refine HCa.out.mono ?_; rintro e w' ⟨rfl, hb'⟩)
    go_roundg (xs.length - (kk + 1))
    case measure => omega
    case rel =>
     refine ⟨kk + 1, by omega, by omega, by go_num, ⟨hb'⟩, ⟨fun j z hj hz => ?_⟩⟩
     by_cases e : j = kk
     ·subst e
      have := HX.out.symm.trans hz
      injection this with this
      rw [← this]; exact HQ.out
     ·exact AA.out j z (by omega) hz
  ·have hltz : ¬ (kk : Int) < (xs.length : Int) := by omega
   go_wp2
   go_ret
   refine ⟨?_, BW.out⟩
   rw [idx_miss p xs (fun j y hy => AA.out j y (by have := (List.getElem?_eq_some_iff.1 hy).1; omega) hy)]; rfl
set_option maxHeartbeats 1000000 in
theorem containsS_calls (w : World) (A : Option Addr) (c : Nat) (xs : List (List ByteArray)) (g : Nat) (cb : Array Value) (p : List ByteArray → Bool)
  (eg : ∀ args w, (callFunc g args).run Tryz.prog w = .ok (.enter g args) w) (hC : Kd.C (Kd.slice 9 Kd.string) w A xs.length xs) (hp : PredS g cb p w xs) :
  Calls Tryz.prog 76 #[.slice A xs.length c, .func (.func g) #[] cb] w fun e w' => e = .returned (.bool (xs.any p)) ∧ Below w.heap.size w w' := by
 have HI := Aside0.mk (indexS_calls w A c xs g cb p eg hC hp)
 have HA := Aside0.mk (idx_any p xs)
 clear hC hp
 go_enter Tryz.func76, Tryz.ntmps76
 go_wp2_with (go_at_call 97; refine HI.out.mono ?_; rintro e w' ⟨rfl, hb'⟩)
 go_ret
 exact ⟨by rw [← HA.out]; rfl, hb'⟩
/-! ### equal, element by element -/
def eqBy {α β : Type} (q : α → β → Bool) (xs : List α) (ys : List β) : Bool := decide (xs.length = ys.length) && (xs.zip ys).all (fun p => q p.1 p.2)
theorem eqBy_len {α β : Type} (q : α → β → Bool) {xs : List α} {ys : List β} (h : xs.length ≠ ys.length) : eqBy q xs ys = false := by simp [eqBy, h]
theorem eqBy_hit {α β : Type} (q : α → β → Bool) {xs : List α} {ys : List β} {k : Nat} {x : α} {y : β} (hx : xs[k]? = some x) (hy : ys[k]? = some y) (h : q x y = false) : eqBy q xs ys = false := by
 have : (xs.zip ys).all (fun p => q p.1 p.2) = false := by
  rw [List.all_eq_false]
  exact ⟨(x, y), List.mem_of_getElem? (i := k) (by rw [List.getElem?_zip_eq_some]; exact ⟨hx, hy⟩), by simp [h]⟩
 rw [eqBy, this, Bool.and_false]
theorem eqBy_all {α β : Type} (q : α → β → Bool) {xs : List α} {ys : List β} (hl : xs.length = ys.length) (h : ∀ (j : Nat) x y, xs[j]? = some x → ys[j]? = some y → q x y = true) : eqBy q xs ys = true := by
 have : (xs.zip ys).all (fun p => q p.1 p.2) = true := by
  rw [List.all_eq_true]
  rintro ⟨x, y⟩ hm
  obtain ⟨j, hj⟩ := List.getElem?_of_mem hm
  rw [List.getElem?_zip_eq_some] at hj
  exact h j x y hj.1 hj.2
 rw [eqBy, this, hl]; simp
def eqL (xs ys : List ByteArray) : Bool := eqBy (fun a b => a.toList == b.toList) xs ys
theorem elemS {w : World} {A : Option Addr} {n : Nat} {xs : List ByteArray} (h : Kd.string.C w A n xs) {k : Nat} {s : ByteArray} (hs : xs[k]? = some s) : ∃ ad, A = some ad ∧ w.cell? (ad.add k) = some (.string s) := by
 have hk : k < xs.length := (List.getElem?_eq_some_iff.1 hs).1
 obtain ⟨ad, c, e, _, hK, hc⟩ := Kd.C_get h ByteArray.empty (k : Int) (by omega) (by have := Kd.C_len h; omega)
 refine ⟨ad, e, ?_⟩
 have hK' : c = [.string s] := by
  have := hK
  rw [Int.toNat_natCast, List.getD_eq_getElem?_getD, hs] at this
  exact this
 have := hc 0 (.string s) (by rw [hK']; rfl)
 simpa [Kd.string, Kd.scalar] using this
theorem elemL {w : World} {A : Option Addr} {n : Nat} {xs : List (List ByteArray)} (h : Kd.C (Kd.slice 9 Kd.string) w A n xs) {k : Nat} {x : List ByteArray} (hx : xs[k]? = some x) :
  ∃ ad A0 c0, A = some ad ∧ w.cell? (ad.add k) = some (.slice A0 x.length c0) ∧ x.length ≤ c0 ∧ Kd.string.C w A0 x.length x := by
 have hk : k < xs.length := (List.getElem?_eq_some_iff.1 hx).1
 obtain ⟨ad, A0, c0, e, hcell, hl, hC⟩ := atSS h (k : Int) (by omega) (by have := Kd.C_len h; omega)
 have : rdSS xs k = x := by rw [rdSS, Int.toNat_natCast, List.getD_eq_getElem?_getD, hx]; rfl
 rw [this] at hcell hl hC
 rw [Int.toNat_natCast] at hcell
 exact ⟨ad, A0, c0, e, hcell, hl, hC⟩
set_option maxHeartbeats 1000000 in
theorem equalS_calls (w : World) (A1 A2 : Option Addr) (c1 c2 : Nat) (xs ys : List ByteArray) (hx : Kd.string.C w A1 xs.length xs) (hy : Kd.string.C w A2 ys.length ys) :
  Calls Tryz.prog 101 #[.slice A1 xs.length c1, .slice A2 ys.length c2] w fun e w' => e = .returned (.bool (eqL xs ys)) ∧ Below w.heap.size w w' := by
 have hmax := Kd.C_max hx
 have hmay := Kd.C_max hy
 have HX := Aside0.mk hx
 have HY := Aside0.mk hy
 clear hx hy
 by_cases hl : xs.length = ys.length
 ·have t0 : ((xs.length : Int) != (ys.length : Int)) = false := by simp [hl]
  have HL := Aside0.mk hl
  clear hl
  go_enter Tryz.func101, Tryz.ntmps101
  go_wp2
  go_loopg [13] xs.length (fun gg s13 wr => ∃ kk q : Nat, kk ≤ xs.length ∧ xs.length - kk ≤ gg ∧ s13 = .int .i64 kk ∧ wr = w.drewN q ∧ Aside0 (∀ (j : Nat) x y, j < kk → xs[j]? = some x → ys[j]? = some y → (x.toList == y.toList) = true))
  case atStart => exact ⟨0, 0, Nat.zero_le _, by omega, rfl, rfl, ⟨fun j _ _ hj => absurd hj (Nat.not_lt_zero _)⟩⟩
  case round =>
   obtain ⟨kk, q, hkk, hg, rfl, rfl, AA⟩ := hrel
   by_cases hlt : kk < xs.length
   ·have hltz : (kk : Int) < (xs.length : Int) := by omega
    have hltz2 : (kk : Int) < (ys.length : Int) := by rw [← HL.out]; exact hltz
    have h0z : (0 : Int) ≤ (kk : Int) := by omega
    obtain ⟨x, hxk⟩ : ∃ x, xs[kk]? = some x := ⟨_, List.getElem?_eq_getElem hlt⟩
    obtain ⟨y, hyk⟩ : ∃ y, ys[kk]? = some y := ⟨_, List.getElem?_eq_getElem (by rw [← HL.out]; exact hlt)⟩
    obtain ⟨ad1, rfl, hc1⟩ := elemS HX.out hxk
    obtain ⟨ad2, rfl, hc2⟩ := elemS HY.out hyk
    have HXK := Aside0.mk hxk
    have HYK := Aside0.mk hyk
    clear hxk hyk
    cases hq : (x.toList == y.toList) with
    | false =>
     have hq2 : (!(x.toList == y.toList)) = true := by rw [hq]; rfl
     have HQ := Aside0.mk hq
     clear hq
     go_wp2
     go_quiet (fail)
     go_wp2
     go_ret
     exact ⟨by rw [eqL, eqBy_hit _ HXK.out HYK.out HQ.out]; rfl, by (with_reducible repeat (first | exact Below.refl _ _ | apply pw_below_drewN | apply below_drew))⟩
    | true =>
     have hq2 : (!(x.toList == y.toList)) = false := by rw [hq]; rfl
     have HQ := Aside0.mk hq
     clear hq
     go_wp2
     go_quiet (fail)
     go_wp2
     go_roundg (xs.length - (kk + 1))
     case measure => omega
     case rel =>
      refine ⟨kk + 1, _, by omega, by omega, by go_num, rfl, ⟨fun j a b hj ha hb => ?_⟩⟩
      by_cases e : j = kk
      ·subst e
       have h1 := HXK.out.symm.trans ha
       have h2 := HYK.out.symm.trans hb
       injection h1 with h1
       injection h2 with h2
       rw [← h1, ← h2]; exact HQ.out
      ·exact AA.out j a b (by omega) ha hb
   ·have hltz : ¬ (kk : Int) < (xs.length : Int) := by omega
    go_wp2
    go_ret
    exact ⟨by rw [eqL, eqBy_all _ HL.out (fun j a b ha hb => AA.out j a b (by have := (List.getElem?_eq_some_iff.1 ha).1; omega) ha hb)]; rfl, by (with_reducible repeat (first | exact Below.refl _ _ | apply pw_below_drewN | apply below_drew))⟩
 ·have t0 : ((xs.length : Int) != (ys.length : Int)) = true := by simp; omega
  have HL := Aside0.mk hl
  clear hl
  go_enter Tryz.func101, Tryz.ntmps101
  go_wp2
  go_ret
  exact ⟨by rw [eqL, eqBy_len _ HL.out]; rfl, Below.refl _ _⟩
#print axioms containsS_calls
#print axioms equalS_calls
end Go.Proofs.YtcnjbmdnnhbfkaaGreatDoor.Mark
/- slices.ContainsFunc and EqualFunc at pieces and at rows of rows; pick.Same: what they compute. -/
namespace Go.Proofs.YtcnjbmdnnhbfkaaGreatDoor.Mark
open Go.RowKit Go.Proofs.YtcnjbmdnnhbfkaaGreatDoorW.PrintWords Go.Proofs.YtcnjbmdnnhbfkaaGreatDoor.XD
structure PC (W : World) (x : Piece) (A1 : Option Addr) (c1 : Nat) (A2 : Option Addr) (c2 : Nat) (A3 : Option Addr) (c3 : Nat) : Prop where
 l1 : x.f1.length ≤ c1
 g1 : Kd.string.C W A1 x.f1.length x.f1
 l2 : x.f2.length ≤ c2
 g2 : Kd.string.C W A2 x.f2.length x.f2
 l3 : x.f3.length ≤ c3
 g3 : (Kd.slice 9 Kd.string).C W A3 x.f3.length x.f3
theorem PC.below {W W1 : World} {x : Piece} {A1 : Option Addr} {c1 : Nat} {A2 : Option Addr} {c2 : Nat} {A3 : Option Addr} {c3 : Nat} (h : PC W x A1 c1 A2 c2 A3 c3) (hb : Below W.heap.size W W1) : PC W1 x A1 c1 A2 c2 A3 c3 :=
 ⟨h.l1, Kd.C_below h.g1 hb, h.l2, Kd.C_below h.g2 hb, h.l3, Kd.C_below h.g3 hb⟩
abbrev pv (x : Piece) (A1 : Option Addr) (c1 : Nat) (A2 : Option Addr) (c2 : Nat) (A3 : Option Addr) (c3 : Nat) : Value := .agg #[.bool x.f0, .slice A1 x.f1.length c1, .slice A2 x.f2.length c2, .slice A3 x.f3.length c3]
structure C4 (w : World) (a : Addr) (v0 v1 v2 v3 : Value) : Prop where
 h0 : w.cell? a = some v0
 h1 : w.cell? ⟨a.block, a.off + 1, none⟩ = some v1
 h2 : w.cell? ⟨a.block, a.off + 2, none⟩ = some v2
 h3 : w.cell? ⟨a.block, a.off + 3, none⟩ = some v3
theorem cell_new (w : World) (v : Value) (t : TypeId) : (w.alloc (.cells #[v] t)).cell? ⟨w.heap.size, 0, none⟩ = some v := by simp
theorem cell_alloc {w : World} {a : Addr} {v : Value} (h : w.cell? a = some v) (o : Obj) : (w.alloc o).cell? a = some v := (World.cell?_alloc_some w a o (by rw [h]; rfl)).trans h
theorem C4.alloc {w : World} {a : Addr} {v0 v1 v2 v3 : Value} (h : C4 w a v0 v1 v2 v3) (o : Obj) : C4 (w.alloc o) a v0 v1 v2 v3 := ⟨cell_alloc h.h0 o, cell_alloc h.h1 o, cell_alloc h.h2 o, cell_alloc h.h3 o⟩
theorem bcell {W w1 : World} (hb : Below W.heap.size W w1) : (∀ b o, b < W.heap.size → w1.cell? ⟨b, o, none⟩ = W.cell? ⟨b, o, none⟩) ∧ (∀ b o, b < W.heap.size → w1.frozen? ⟨b, o, none⟩ = W.frozen? ⟨b, o, none⟩) :=
 ⟨fun b o h => hb.cell (p := ⟨b, o, none⟩) h, fun b o h => hb.frozen (p := ⟨b, o, none⟩) h⟩
theorem elemP {w : World} {A : Option Addr} {n : Nat} {xs : List Piece} (h : Kd.C k36 w A n xs) {k : Nat} {x : Piece} (hx : xs[k]? = some x) :
  ∃ ad A1 c1 A2 c2 A3 c3, A = some ad ∧ C4 w (ad.add (k * 4)) (.bool x.f0) (.slice A1 x.f1.length c1) (.slice A2 x.f2.length c2) (.slice A3 x.f3.length c3) ∧ PC w x A1 c1 A2 c2 A3 c3 := by
 have hk : k < xs.length := (List.getElem?_eq_some_iff.1 hx).1
 obtain ⟨ad, A1, c1, A2, c2, A3, c3, e, h0, h1, h2, h3, l1, g1, l2, g2, l3, g3⟩ := at_T36 h (k : Int) (by omega) (by have := Kd.C_len h; omega)
 have : rd_T36 xs k = x := by rw [rd_T36, Int.toNat_natCast, List.getD_eq_getElem?_getD, hx]; rfl
 rw [this] at h0 h1 h2 h3 l1 g1 l2 g2 l3 g3
 rw [Int.toNat_natCast] at h0 h1 h2 h3
 exact ⟨ad, A1, c1, A2, c2, A3, c3, e, ⟨h0, h1, h2, h3⟩, ⟨l1, g1, l2, g2, l3, g3⟩⟩
def PredP (g : Nat) (cb : Array Value) (p : Piece → Bool) (w : World) (xs : List Piece) : Prop :=
 ∀ (W : World) (x : Piece) (A1 : Option Addr) (c1 : Nat) (A2 : Option Addr) (c2 : Nat) (A3 : Option Addr) (c3 : Nat), Below w.heap.size w W → x ∈ xs → PC W x A1 c1 A2 c2 A3 c3 → Calls Tryz.prog g (#[pv x A1 c1 A2 c2 A3 c3] ++ cb) W fun e w' => e = .returned (.bool (p x)) ∧ Below w.heap.size w w'
set_option maxHeartbeats 1000000 in
set_option maxRecDepth 100000 in
theorem indexP_calls (w : World) (A : Option Addr) (c : Nat) (xs : List Piece) (g : Nat) (cb : Array Value) (p : Piece → Bool)
  (eg : ∀ args w, (callFunc g args).run Tryz.prog w = .ok (.enter g args) w) (hC : Kd.C k36 w A xs.length xs) (hp : PredP g cb p w xs) :
  Calls Tryz.prog 79 #[.slice A xs.length c, .func (.func g) #[] cb] w fun e w' => e = .returned (.int .i64 (idx p xs)) ∧ Below w.heap.size w w' := by
 have hu := Tryz.underlying36
 have hmax := Kd.C_max hC
 have HC := Aside0.mk hC
 have HP := Aside0.mk hp
 clear hC hp
 go_enter Tryz.func79, Tryz.ntmps79
 go_wp2
 go_loopg [5, 8] xs.length (fun gg _ s8 wr => ∃ kk : Nat, kk ≤ xs.length ∧ xs.length - kk ≤ gg ∧ s8 = .int .i64 kk ∧ Aside0 (Below w.heap.size w wr) ∧ Aside0 (∀ j y, j < kk → xs[j]? = some y → p y = false))
 case atStart => exact ⟨0, Nat.zero_le _, by omega, rfl, ⟨Below.refl _ w⟩, ⟨fun j _ hj => absurd hj (Nat.not_lt_zero _)⟩⟩
 case round =>
  obtain ⟨kk, hkk, hg, rfl, BW, AA⟩ := hrel
  by_cases hlt : kk < xs.length
  ·have hltz : (kk : Int) < (xs.length : Int) := by omega
   obtain ⟨x, hx⟩ : ∃ x, xs[kk]? = some x := ⟨_, List.getElem?_eq_getElem hlt⟩
   obtain ⟨ad, A1, c1, A2, c2, A3, c3, rfl, ⟨h0, h1, h2, h3⟩, hpc⟩ := elemP (Kd.C_below HC.out BW.out) hx
   have hcall := HP.out wr x A1 c1 A2 c2 A3 c3 BW.out (List.mem_of_getElem? hx) hpc
   have HX := Aside0.mk hx
   clear hx hpc
   cases hq : p x with
   | true =>
    have HQ := Aside0.mk hq
    rw [hq] at hcall
    have HCa := Aside0.mk hcall
    clear hcall hq
    go_wp2_with (go_at_fn g; refine HCa.out.mono ?_; rintro e w' ⟨rfl, hb'⟩)
    go_ret
    refine ⟨?_, hb'⟩
    rw [idx_hit p xs kk x HX.out HQ.out AA.out]; rfl
   | false =>
    have HQ := Aside0.mk hq
    rw [hq] at hcall
    have HCa := Aside0.mk hcall
    clear hcall hq
    go_wp2_with (go_at_fn g; refine HCa.out.mono ?_; rintro e w' ⟨rfl, hb'⟩)
    go_roundg (xs.length - (kk + 1))
    case measure => omega
    case rel =>
     refine ⟨kk + 1, by omega, by omega, by go_num, ⟨hb'⟩, ⟨fun j z hj hz => ?_⟩⟩
     by_cases e : j = kk
     ·subst e
      have := HX.out.symm.trans hz
      injection this with this
      rw [← this]; exact HQ.out
     ·exact AA.out j z (by omega) hz
  ·have hltz : ¬ (kk : Int) < (xs.length : Int) := by omega
   go_wp2
   go_ret
   refine ⟨?_, BW.out⟩
   rw [idx_miss p xs (fun j y hy => AA.out j y (by have := (List.getElem?_eq_some_iff.1 hy).1; omega) hy)]; rfl
set_option maxHeartbeats 1000000 in
theorem containsP_calls (w : World) (A : Option Addr) (c : Nat) (xs : List Piece) (g : Nat) (cb : Array Value) (p : Piece → Bool)
  (eg : ∀ args w, (callFunc g args).run Tryz.prog w = .ok (.enter g args) w) (hC : Kd.C k36 w A xs.length xs) (hp : PredP g cb p w xs) :
  Calls Tryz.prog 53 #[.slice A xs.length c, .func (.func g) #[] cb] w fun e w' => e = .returned (.bool (xs.any p)) ∧ Below w.heap.size w w' := by
 have HI := Aside0.mk (indexP_calls w A c xs g cb p eg hC hp)
 have HA := Aside0.mk (idx_any p xs)
 clear hC hp
 go_enter Tryz.func53, Tryz.ntmps53
 go_wp2_with (go_at_call 79; refine HI.out.mono ?_; rintro e w' ⟨rfl, hb'⟩)
 go_ret
 exact ⟨by rw [← HA.out]; rfl, hb'⟩
/-! ### EqualFunc -/
set_option maxHeartbeats 1000000 in
theorem equalL_calls (w : World) (A1 A2 : Option Addr) (c1 c2 : Nat) (xs ys : List (List ByteArray)) (hx : Kd.C (Kd.slice 9 Kd.string) w A1 xs.length xs) (hy : Kd.C (Kd.slice 9 Kd.string) w A2 ys.length ys) :
  Calls Tryz.prog 104 #[.slice A1 xs.length c1, .slice A2 ys.length c2, .func (.func 101) #[] #[]] w fun e w' => e = .returned (.bool (eqBy eqL xs ys)) ∧ Below w.heap.size w w' := by
 have hmax := Kd.C_max hx
 have hmay := Kd.C_max hy
 have HX := Aside0.mk hx
 have HY := Aside0.mk hy
 clear hx hy
 by_cases hl : xs.length = ys.length
 ·have t0 : ((xs.length : Int) != (ys.length : Int)) = false := by simp [hl]
  have HL := Aside0.mk hl
  clear hl
  go_enter Tryz.func104, Tryz.ntmps104
  go_wp2
  go_loopg [17] xs.length (fun gg s13 wr => ∃ kk : Nat, kk ≤ xs.length ∧ xs.length - kk ≤ gg ∧ s13 = .int .i64 kk ∧ Aside0 (Below w.heap.size w wr) ∧ Aside0 (∀ (j : Nat) x y, j < kk → xs[j]? = some x → ys[j]? = some y → eqL x y = true))
  case atStart => exact ⟨0, Nat.zero_le _, by omega, rfl, ⟨Below.refl _ _⟩, ⟨fun j _ _ hj => absurd hj (Nat.not_lt_zero _)⟩⟩
  case round =>
   obtain ⟨kk, hkk, hg, rfl, BW, AA⟩ := hrel
   by_cases hlt : kk < xs.length
   ·have hltz : (kk : Int) < (xs.length : Int) := by omega
    have hltz2 : (kk : Int) < (ys.length : Int) := by rw [← HL.out]; exact hltz
    obtain ⟨x, hxk⟩ : ∃ x, xs[kk]? = some x := ⟨_, List.getElem?_eq_getElem hlt⟩
    obtain ⟨y, hyk⟩ : ∃ y, ys[kk]? = some y := ⟨_, List.getElem?_eq_getElem (by rw [← HL.out]; exact hlt)⟩
    obtain ⟨ad1, B1, d1, rfl, hc1, _, hC1⟩ := elemL (Kd.C_below HX.out BW.out) hxk
    obtain ⟨ad2, B2, d2, rfl, hc2, _, hC2⟩ := elemL (Kd.C_below HY.out BW.out) hyk
    have HXK := Aside0.mk hxk
    have HYK := Aside0.mk hyk
    have hcall := equalS_calls wr B1 B2 d1 d2 x y hC1 hC2
    clear hxk hyk hC1 hC2
    cases hq : eqL x y with
    | false =>
     have HQ := Aside0.mk hq
     rw [hq] at hcall
     have HCa := Aside0.mk hcall
     clear hq hcall
     go_wp2_with (go_at_call 101; refine HCa.out.mono ?_; rintro e w' ⟨rfl, hb'⟩)
     go_ret
     exact ⟨by rw [eqBy_hit _ HXK.out HYK.out HQ.out]; rfl, BW.out.trans (hb'.mono BW.out.size)⟩
    | true =>
     have HQ := Aside0.mk hq
     rw [hq] at hcall
     have HCa := Aside0.mk hcall
     clear hq hcall
     go_wp2_with (go_at_call 101; refine HCa.out.mono ?_; rintro e w' ⟨rfl, hb'⟩)
     go_roundg (xs.length - (kk + 1))
     case measure => omega
     case rel =>
      refine ⟨kk + 1, by omega, by omega, by go_num, ⟨BW.out.trans (hb'.mono BW.out.size)⟩, ⟨fun j a b hj ha hb => ?_⟩⟩
      by_cases e : j = kk
      ·subst e
       have h1 := HXK.out.symm.trans ha
       have h2 := HYK.out.symm.trans hb
       injection h1 with h1
       injection h2 with h2
       rw [← h1, ← h2]; exact HQ.out
      ·exact AA.out j a b (by omega) ha hb
   ·have hltz : ¬ (kk : Int) < (xs.length : Int) := by omega
    go_wp2
    go_ret
    exact ⟨by rw [eqBy_all _ HL.out (fun j a b ha hb => AA.out j a b (by have := (List.getElem?_eq_some_iff.1 ha).1; omega) ha hb)]; rfl, BW.out⟩
 ·have t0 : ((xs.length : Int) != (ys.length : Int)) = true := by simp; omega
  have HL := Aside0.mk hl
  clear hl
  go_enter Tryz.func104, Tryz.ntmps104
  go_wp2
  go_ret
  exact ⟨by rw [eqBy_len _ HL.out]; rfl, Below.refl _ _⟩
def sameB (x y : Piece) : Bool := x.f0 == y.f0 && eqL x.f1 y.f1 && eqL x.f2 y.f2 && eqBy eqL x.f3 y.f3
theorem below2 {w w1 : World} {o o' : Obj} (hb : Below ((w.alloc o).alloc o').heap.size ((w.alloc o).alloc o') w1) : Below w.heap.size w w1 := (below_alloc (below_alloc (Below.refl _ _) o) o').trans (hb.mono (by simp only [World.size_alloc]; omega))
set_option maxHeartbeats 2000000 in
set_option maxRecDepth 100000 in
theorem same1_calls (w : World) (g : Nat) (x y : Piece) (A1 : Option Addr) (c1 : Nat) (A2 : Option Addr) (c2 : Nat) (A3 : Option Addr) (c3 : Nat) (B1 : Option Addr) (d1 : Nat) (B2 : Option Addr) (d2 : Nat) (B3 : Option Addr) (d3 : Nat)
  (hg : w.cell? ⟨g, 0, none⟩ = some (.func (.func 101) #[] #[])) (hx : PC w x A1 c1 A2 c2 A3 c3) (hy : PC w y B1 d1 B2 d2 B3 d3) :
  Calls Tryz.prog 103 #[pv x A1 c1 A2 c2 A3 c3, pv y B1 d1 B2 d2 B3 d3, .pointer (some ⟨g, 0, none⟩)] w fun e w' => e = .returned (.bool (sameB x y)) ∧ Below w.heap.size w w' := by
 have hu := Tryz.underlying36
 have hgs := World.block_lt_of_cell? w _ hg
 have HX := Aside0.mk hx
 have HY := Aside0.mk hy
 clear hx hy
 obtain ⟨b0, hb0⟩ : ∃ b, (x.f0 == y.f0) = b := ⟨_, rfl⟩
 obtain ⟨b1, hb1⟩ : ∃ b, eqL x.f1 y.f1 = b := ⟨_, rfl⟩
 obtain ⟨b2, hb2⟩ : ∃ b, eqL x.f2 y.f2 = b := ⟨_, rfl⟩
 obtain ⟨b3, hb3⟩ : ∃ b, eqBy eqL x.f3 y.f3 = b := ⟨_, rfl⟩
 have HS := Aside0.mk (show sameB x y = (b0 && b1 && b2 && b3) by rw [sameB, hb0, hb1, hb2, hb3])
 have k1 : ∀ W, Below w.heap.size w W → Calls Tryz.prog 101 #[.slice A1 x.f1.length c1, .slice B1 y.f1.length d1] W fun e w' => e = .returned (.bool b1) ∧ Below W.heap.size W w' := fun W hW => by
  rw [← hb1]; exact equalS_calls W _ _ _ _ _ _ (Kd.C_below HX.out.g1 hW) (Kd.C_below HY.out.g1 hW)
 have k2 : ∀ W, Below w.heap.size w W → Calls Tryz.prog 101 #[.slice A2 x.f2.length c2, .slice B2 y.f2.length d2] W fun e w' => e = .returned (.bool b2) ∧ Below W.heap.size W w' := fun W hW => by
  rw [← hb2]; exact equalS_calls W _ _ _ _ _ _ (Kd.C_below HX.out.g2 hW) (Kd.C_below HY.out.g2 hW)
 have k3 : ∀ W, Below w.heap.size w W → Calls Tryz.prog 104 #[.slice A3 x.f3.length c3, .slice B3 y.f3.length d3, .func (.func 101) #[] #[]] W fun e w' => e = .returned (.bool b3) ∧ Below W.heap.size W w' := fun W hW => by
  rw [← hb3]; exact equalL_calls W _ _ _ _ _ _ (Kd.C_below HX.out.g3 hW) (Kd.C_below HY.out.g3 hW)
 have K1 := Aside0.mk k1
 have K2 := Aside0.mk k2
 have K3 := Aside0.mk k3
 clear hb1 hb2 hb3 k1 k2 k3
 cases b0
 ·go_enter Tryz.func103, Tryz.ntmps103
  go_wp2_with (fail)
  refine (K3.out _ (below_alloc (below_alloc (Below.refl _ _) _) _)).mono ?_
  rintro e w1 ⟨rfl, hb⟩
  have HB := Aside0.mk (below2 hb)
  obtain ⟨hc, hf⟩ := bcell hb
  have hz : w.heap.size + 1 < w1.heap.size := by have := hb.size; simp at this; omega
  have hz0 : w.heap.size < w1.heap.size := by omega
  have hg1 : w1.cell? ⟨g, 0, none⟩ = some (.func (.func 101) #[] #[]) := (HB.out.cell hgs).trans hg
  clear hb
  simp only [World.size_alloc] at hc hf
  go_wp2
  go_ret
  exact ⟨by rw [HS.out]; rfl, HB.out⟩
 ·go_enter Tryz.func103, Tryz.ntmps103
  go_wp2_with (fail)
  refine (K3.out _ (below_alloc (below_alloc (Below.refl _ _) _) _)).mono ?_
  rintro e w1 ⟨rfl, hb⟩
  have HB := Aside0.mk (below2 hb)
  obtain ⟨hc, hf⟩ := bcell hb
  have hz : w.heap.size + 1 < w1.heap.size := by have := hb.size; simp at this; omega
  have hz0 : w.heap.size < w1.heap.size := by omega
  have hg1 : w1.cell? ⟨g, 0, none⟩ = some (.func (.func 101) #[] #[]) := (HB.out.cell hgs).trans hg
  clear hb
  simp only [World.size_alloc] at hc hf
  cases b1
  ·go_wp2_with (fail)
   refine (K1.out _ HB.out).mono ?_
   rintro e w2 ⟨rfl, hb2⟩
   have HB2 := Aside0.mk (HB.out.trans (hb2.mono HB.out.size))
   clear hb2
   go_wp2
   go_ret
   exact ⟨by rw [HS.out]; rfl, HB2.out⟩
  ·go_wp2_with (fail)
   refine (K1.out _ HB.out).mono ?_
   rintro e w2 ⟨rfl, hb2⟩
   have HB2 := Aside0.mk (HB.out.trans (hb2.mono HB.out.size))
   obtain ⟨hc2, hf2⟩ := bcell hb2
   have hz2 : w.heap.size + 1 < w2.heap.size := by have := hb2.size; omega
   have hz3 : w.heap.size < w2.heap.size := by omega
   have hg2 : w2.cell? ⟨g, 0, none⟩ = some (.func (.func 101) #[] #[]) := (HB2.out.cell hgs).trans hg
   clear hb2
   go_wp2_with (fail)
   refine (K2.out _ HB2.out).mono ?_
   rintro e w3 ⟨rfl, hb3⟩
   have HB3 := Aside0.mk (HB2.out.trans (hb3.mono HB2.out.size))
   clear hb3
   cases b2
   ·go_wp2
    go_ret
    exact ⟨by rw [HS.out]; rfl, HB3.out⟩
   ·cases b3
    ·go_wp2
     go_ret
     exact ⟨by rw [HS.out]; rfl, HB3.out⟩
    ·go_wp2
     go_ret
     exact ⟨by rw [HS.out]; rfl, HB3.out⟩
set_option maxHeartbeats 2000000 in
set_option maxRecDepth 100000 in
theorem equalP_calls (w : World) (g : Nat) (A1 A2 : Option Addr) (c1 c2 : Nat) (xs ys : List Piece) (hg : w.cell? ⟨g, 0, none⟩ = some (.func (.func 101) #[] #[])) (hx : Kd.C k36 w A1 xs.length xs) (hy : Kd.C k36 w A2 ys.length ys) :
  Calls Tryz.prog 102 #[.slice A1 xs.length c1, .slice A2 ys.length c2, .func (.func 103) #[] #[.pointer (some ⟨g, 0, none⟩)]] w fun e w' => e = .returned (.bool (eqBy sameB xs ys)) ∧ Below w.heap.size w w' := by
 have hu := Tryz.underlying36
 have hgs := World.block_lt_of_cell? w _ hg
 have hmax := Kd.C_max hx
 have hmay := Kd.C_max hy
 have HG := Aside0.mk hg
 have HX := Aside0.mk hx
 have HY := Aside0.mk hy
 clear hx hy hg
 by_cases hl : xs.length = ys.length
 ·have t0 : ((xs.length : Int) != (ys.length : Int)) = false := by simp [hl]
  have HL := Aside0.mk hl
  clear hl
  go_enter Tryz.func102, Tryz.ntmps102
  go_wp2
  go_loopg [17] xs.length (fun gg s13 wr => ∃ kk : Nat, kk ≤ xs.length ∧ xs.length - kk ≤ gg ∧ s13 = .int .i64 kk ∧ Aside0 (Below w.heap.size w wr) ∧ Aside0 (∀ (j : Nat) x y, j < kk → xs[j]? = some x → ys[j]? = some y → sameB x y = true))
  case atStart => exact ⟨0, Nat.zero_le _, by omega, rfl, ⟨Below.refl _ _⟩, ⟨fun j _ _ hj => absurd hj (Nat.not_lt_zero _)⟩⟩
  case round =>
   obtain ⟨kk, hkk, hg, rfl, BW, AA⟩ := hrel
   by_cases hlt : kk < xs.length
   ·have hltz : (kk : Int) < (xs.length : Int) := by omega
    have hltz2 : (kk : Int) < (ys.length : Int) := by rw [← HL.out]; exact hltz
    obtain ⟨x, hxk⟩ : ∃ x, xs[kk]? = some x := ⟨_, List.getElem?_eq_getElem hlt⟩
    obtain ⟨y, hyk⟩ : ∃ y, ys[kk]? = some y := ⟨_, List.getElem?_eq_getElem (by rw [← HL.out]; exact hlt)⟩
    obtain ⟨ad1, B1, d1, B2, d2, B3, d3, rfl, hc1, hC1⟩ := elemP (Kd.C_below HX.out BW.out) hxk
    obtain ⟨ad2, D1, e1, D2, e2, D3, e3, rfl, hc2, hC2⟩ := elemP (Kd.C_below HY.out BW.out) hyk
    have HXK := Aside0.mk hxk
    have HYK := Aside0.mk hyk
    have hcall := fun o o' => same1_calls ((wr.alloc o).alloc o') g x y B1 d1 B2 d2 B3 d3 D1 e1 D2 e2 D3 e3 (cell_alloc (cell_alloc ((BW.out.cell hgs).trans HG.out) o) o') ((hC1.below (below_alloc (Below.refl _ _) o)).below (below_alloc (Below.refl _ _) o')) ((hC2.below (below_alloc (Below.refl _ _) o)).below (below_alloc (Below.refl _ _) o'))
    obtain ⟨h10, h11, h12, h13⟩ := hc1
    obtain ⟨h20, h21, h22, h23⟩ := hc2.alloc (.cells #[.bool x.f0, .slice B1 x.f1.length d1, .slice B2 x.f2.length d2, .slice B3 x.f3.length d3] 36)
    clear hxk hyk hC1 hC2 hc2
    cases hq : sameB x y with
    | false =>
     have HQ := Aside0.mk hq
     rw [hq] at hcall
     have HCa := Aside0.mk hcall
     clear hq hcall
     go_wp2_with (go_at_call 103; refine (HCa.out _ _).mono ?_; rintro e w' ⟨rfl, hb'⟩)
     go_ret
     exact ⟨by rw [eqBy_hit _ HXK.out HYK.out HQ.out]; rfl, BW.out.trans ((below2 hb').mono BW.out.size)⟩
    | true =>
     have HQ := Aside0.mk hq
     rw [hq] at hcall
     have HCa := Aside0.mk hcall
     clear hq hcall
     go_wp2_with (go_at_call 103; refine (HCa.out _ _).mono ?_; rintro e w' ⟨rfl, hb'⟩)
     go_roundg (xs.length - (kk + 1))
     case measure => omega
     case rel =>
      refine ⟨kk + 1, by omega, by omega, by go_num, ⟨BW.out.trans ((below2 hb').mono BW.out.size)⟩, ⟨fun j a b hj ha hb => ?_⟩⟩
      by_cases e : j = kk
      ·subst e
       have h1 := HXK.out.symm.trans ha
       have h2 := HYK.out.symm.trans hb
       injection h1 with h1
       injection h2 with h2
       rw [← h1, ← h2]; exact HQ.out
      ·exact AA.out j a b (by omega) ha hb
   ·have hltz : ¬ (kk : Int) < (xs.length : Int) := by omega
    go_wp2
    go_ret
    exact ⟨by rw [eqBy_all _ HL.out (fun j a b ha hb => AA.out j a b (by have := (List.getElem?_eq_some_iff.1 ha).1; omega) ha hb)]; rfl, BW.out⟩
 ·have t0 : ((xs.length : Int) != (ys.length : Int)) = true := by simp; omega
  have HL := Aside0.mk hl
  clear hl
  go_enter Tryz.func102, Tryz.ntmps102
  go_wp2
  go_ret
  exact ⟨by rw [eqBy_len _ HL.out]; rfl, Below.refl _ _⟩
theorem same_calls (w : World) (A1 A2 : Option Addr) (c1 c2 : Nat) (xs ys : List Piece) (hx : Kd.C k36 w A1 xs.length xs) (hy : Kd.C k36 w A2 ys.length ys) :
  Calls Tryz.prog 81 #[.slice A1 xs.length c1, .slice A2 ys.length c2] w fun e w' => e = .returned (.bool (eqBy sameB xs ys)) ∧ Below w.heap.size w w' := by
 have HC := Aside0.mk (fun t => equalP_calls (w.alloc (.cells #[.func (.func 101) #[] #[]] t)) w.heap.size A1 A2 c1 c2 xs ys (cell_new w _ _) (Kd.C_alloc hx _) (Kd.C_alloc hy _))
 clear hx hy
 go_enter Tryz.func81, Tryz.ntmps81
 go_wp2_with (fail)
 refine (HC.out _).mono ?_
 rintro e w' ⟨rfl, hb⟩
 go_wp2
 go_ret
 exact ⟨rfl, (below_alloc (Below.refl _ _) _).trans (hb.mono (by simp))⟩
#print axioms same_calls
end Go.Proofs.YtcnjbmdnnhbfkaaGreatDoor.Mark
/- slices.Grow (from nil) and slices.Concat, at strings and at rows of strings. (Written by tools/mkc.py.) -/
namespace Go.Proofs.YtcnjbmdnnhbfkaaGreatDoor.Mark
open Go.RowKit Go.Proofs.YtcnjbmdnnhbfkaaGreatDoorW.PrintWords Go.Proofs.YtcnjbmdnnhbfkaaGreatDoor.XD
theorem info25' : (Tryz.prog.info? 25).map (fun i => (i.zero, i.size, i.bytes)) = some (some (.slice none 0 0), 1, 24) := by kernel_rfl
theorem elemV {α : Type} {d : Kd α} {e t base n c : Nat} {W : World} {P : Nat → Prop} {A : Option Addr} {xss : List (List α)} {k : Nat} {x : List α} (h : Kd.V (Kd.slice e d) t W base P (.slice A n c) xss) (hx : xss[k]? = some x) :
  ∃ ad A0 c0, A = some ad ∧ W.cell? (ad.add k) = some (.slice A0 x.length c0) ∧ x.length ≤ c0 ∧ Kd.F d W P A0 x.length x := by
 have hk : k < xss.length := (List.getElem?_eq_some_iff.1 hx).1
 obtain ⟨ad, cs, rfl, hcl, hK, hcc, _⟩ := Kd.F_get (Kd.V_F h) ([] : List α) (k : Int) (by omega) (by have := (Kd.V_at h).1; omega)
 have : xss.getD (k : Int).toNat [] = x := by rw [Int.toNat_natCast, List.getD_eq_getElem?_getD, hx]; rfl
 rw [this] at hK
 obtain ⟨A0, c0, rfl, hl, hf⟩ := Kd.FK_slice_open hK
 have := hcc 0 _ rfl
 rw [Int.toNat_natCast, show (Kd.slice e d).sz = 1 from rfl, Nat.mul_one, Nat.add_zero] at this
 exact ⟨ad, A0, c0, rfl, this, hl, hf⟩
def flen {α : Type} (xss : List (List α)) : Nat := xss.flatten.length
theorem flat_snoc {α : Type} {xss : List (List α)} {k : Nat} {x : List α} (hx : xss[k]? = some x) : (xss.take (k + 1)).flatten = (xss.take k).flatten ++ x := by
 obtain ⟨hk, rfl⟩ := List.getElem?_eq_some_iff.1 hx
 rw [List.take_succ_eq_append_getElem hk, List.flatten_append]; simp
theorem flat_le {α : Type} {xss : List (List α)} (k : Nat) : (xss.take k).flatten.length ≤ xss.flatten.length := by
 conv => rhs; rw [← List.take_append_drop k xss, List.flatten_append, List.length_append]
 omega
set_option maxHeartbeats 1000000 in
theorem growS_calls (w : World) (n : Int) (h0 : 0 ≤ n) (hn : n ≤ 1000000) :
  Calls Tryz.prog 117 #[.slice none 0 0, .int .i64 n] w fun e w' => ∃ v, e = .returned v ∧ Kd.N Kd.string 9 w' w.heap.size (fun k => w.heap.size ≤ k) v [] ∧ Below w.heap.size w w' := by
 rcases Int.lt_or_eq_of_le h0 with hp | rfl
 ·have hn0 : ¬ n < 0 := by omega
  go_enter Tryz.func117, Tryz.ntmps117
  go_wp2_with (at_builtin; refine Kd.N_append_zeros Kd.string (w0 := w) w.heap.size rfl (.tmp 20) (.tmp 21) 25 3 9 (.string ⟨#[]⟩) 16 rfl Tryz.underlying25 Tryz.underlying3 info9 rfl (by decide) (by decide) (.slice none 0 0) [] (⟨#[]⟩ : ByteArray) n (fun k => w.heap.size ≤ k) rfl rfl (fun _ _ => rfl) (fun _ h => h) (Kd.N_nil _ _ _ _ _) (by omega) (Below.refl _ _) (Nat.le_refl _) (by simp only [List.length_nil]; omega) ?_; intro v1 w1 hT hB1 _ _; obtain ⟨A1, c1, e1⟩ := Kd.N_slice hT; subst e1; have HT := Aside0.mk (Kd.N_take hT (Nat.zero_le _)); have HB := Aside0.mk hB1; clear hT hB1)
  go_ret
  exact ⟨_, rfl, HT.out, HB.out⟩
 ·go_enter Tryz.func117, Tryz.ntmps117
  go_wp2
  go_ret
  exact ⟨_, rfl, Kd.N_nil _ _ _ _ _, Below.refl _ _⟩
set_option maxHeartbeats 400000 in
set_option maxRecDepth 100000 in
theorem concatS_calls (w : World) (P : Nat → Prop) (A : Option Addr) (n c : Nat) (xss : List (List (ByteArray))) (hx : Kd.V (Kd.slice 9 Kd.string) 25 w w.heap.size P (.slice A n c) xss) (hm : xss.flatten.length ≤ 1000000) :
  Calls Tryz.prog 99 #[.slice A n c] w fun e w' => ∃ v, e = .returned v ∧ Kd.N Kd.string 9 w' w.heap.size (fun k => P k ∨ w.heap.size ≤ k) v xss.flatten ∧ Below w.heap.size w w' := by
 have hx := Kd.V_bound hx
 obtain ⟨rfl, hcc, _⟩ := Kd.V_reads' hx
 have hmax := Kd.F_max (Kd.V_F hx)
 have HX := Aside0.mk hx
 clear hx
 go_enter Tryz.func99, Tryz.ntmps99
 go_wp2
 go_loopg [3, 11] xss.length (fun gg s3 s11 wr => ∃ kk : Nat, kk ≤ xss.length ∧ xss.length - kk ≤ gg ∧ s11 = .int .i64 kk ∧ s3 = .int .i64 (flen (xss.take kk) : Nat) ∧ w = wr)
 case atStart => exact ⟨0, Nat.zero_le _, by omega, rfl, rfl, rfl⟩
 case round =>
  obtain ⟨kk, hkk, hg, rfl, rfl, rfl⟩ := hrel
  by_cases hlt : kk < xss.length
  ·have hltz : (kk : Int) < (xss.length : Int) := by omega
   obtain ⟨x, hxk⟩ : ∃ x, xss[kk]? = some x := ⟨_, List.getElem?_eq_getElem hlt⟩
   obtain ⟨ad, A0, c0, rfl, hcell, hl0, hF⟩ := elemV HX.out hxk
   have hsum : flen (xss.take kk) + x.length ≤ 1000000 := by rw [flen, ← List.length_append, ← flat_snoc hxk]; exact Nat.le_trans (flat_le _) hm
   have HK := Aside0.mk (show flen (xss.take (kk + 1)) = flen (xss.take kk) + x.length by rw [flen, flen, flat_snoc hxk, List.length_append])
   clear hF hxk
   generalize flen (xss.take kk) = s at hsum HK ⊢
   have hs0 : ¬ ((s : Int) + (x.length : Int)) < 0 := by omega
   go_wp2
   go_roundg (xss.length - (kk + 1))
   case measure => omega
   case rel => exact ⟨kk + 1, by omega, by omega, by go_num, by rw [HK.out]; go_num, rfl⟩
  ·have hltz : ¬ (kk : Int) < (xss.length : Int) := by omega
   have hkl : kk = xss.length := by omega
   subst hkl
   have HF := Aside0.mk (show flen (xss.take xss.length) = flen xss by rw [List.take_length])
   rw [HF.out]
   have hfl : flen xss ≤ 1000000 := hm
   clear HF hkk hlt
   go_wp2_with (fail)
   with_reducible refine (growS_calls w (flen xss : Nat) (by omega) (by omega)).mono ?_
   rintro e w1 ⟨v1, rfl, hN, hB⟩
   obtain ⟨A1, c1, e1⟩ := Kd.N_slice hN
   subst e1
   have HN := Aside0.mk (show Kd.N Kd.string 9 w1 w.heap.size (fun k => P k ∨ w.heap.size ≤ k) (.slice A1 ([] : List (ByteArray)).length c1) [] from Kd.N_mono hN (fun _ hk => .inr hk))
   have HB := Aside0.mk hB
   clear hN hB
   go_wp2
   go_loopg [6, 27] xss.length (fun gg s6 s27 wr => ∃ kk : Nat, kk ≤ xss.length ∧ xss.length - kk ≤ gg ∧ s27 = .int .i64 kk ∧ Aside0 (Kd.N Kd.string 9 wr w.heap.size (fun k => P k ∨ w.heap.size ≤ k) s6 (xss.take kk).flatten) ∧ Aside0 (Below w.heap.size w wr))
   case atStart => exact ⟨0, Nat.zero_le _, by omega, rfl, ⟨HN.out⟩, HB⟩
   case round =>
    clear HN HB
    obtain ⟨kk, hkk, hg, rfl, HN, HB⟩ := hrel
    by_cases hlt : kk < xss.length
    ·have hltz : (kk : Int) < (xss.length : Int) := by omega
     obtain ⟨x, hxk⟩ : ∃ x, xss[kk]? = some x := ⟨_, List.getElem?_eq_getElem hlt⟩
     obtain ⟨ad, A0, c0, rfl, hcell, hl0, hF⟩ := elemV (Kd.V_below HX.out HB.out) hxk
     have hsum : (xss.take kk).flatten.length + x.length ≤ 1000000 := by rw [← List.length_append, ← flat_snoc hxk]; exact Nat.le_trans (flat_le _) hm
     have HK := Aside0.mk (flat_snoc hxk)
     have HFF := Aside0.mk hF
     clear hF hxk
     obtain ⟨v, hv⟩ : ∃ v, v = u6 := ⟨_, rfl⟩
     go_wp2_with (at_builtin; refine Kd.N_append_rows Kd.string (w0 := w) w.heap.size rfl (.tmp 31) (.tmp 32) 25 9 (.string ⟨#[]⟩) 16 rfl Tryz.underlying25 info9 rfl (by decide) (by decide) u6 (xss.take kk).flatten x A0 x.length c0 (fun k => P k ∨ w.heap.size ≤ k) (fun k => P k ∧ k < w.heap.size) rfl rfl HN.out HFF.out (fun k hk => ⟨.inl hk.1, fun e => absurd (Kd.N_base HN.out k e.symm) (by have := hk.2; omega)⟩) (fun k hk => .inr (Nat.le_trans HB.out.size hk)) HB.out HB.out.size (by omega) ?_; intro v1 w1 hT hB1 _ _; have HT := Aside0.mk hT; have HB1 := Aside0.mk hB1; clear hT hB1)
     go_roundg (xss.length - (kk + 1))
     case measure => omega
     case rel => exact ⟨kk + 1, by omega, by omega, by go_num, ⟨by rw [HK.out]; exact HT.out⟩, HB1⟩
    ·have hltz : ¬ (kk : Int) < (xss.length : Int) := by omega
     have hkl : kk = xss.length := by omega
     subst hkl
     go_wp2
     go_ret
     refine ⟨_, rfl, ?_, HB.out⟩
     have := HN.out
     rw [List.take_length] at this
     exact this
set_option maxHeartbeats 1000000 in
theorem growL_calls (w : World) (n : Int) (h0 : 0 ≤ n) (hn : n ≤ 1000000) :
  Calls Tryz.prog 100 #[.slice none 0 0, .int .i64 n] w fun e w' => ∃ v, e = .returned v ∧ Kd.N (Kd.slice 9 Kd.string) 25 w' w.heap.size (fun k => w.heap.size ≤ k) v [] ∧ Below w.heap.size w w' := by
 rcases Int.lt_or_eq_of_le h0 with hp | rfl
 ·have hn0 : ¬ n < 0 := by omega
  go_enter Tryz.func100, Tryz.ntmps100
  go_wp2_with (at_builtin; refine Kd.N_append_zeros (Kd.slice 9 Kd.string) (w0 := w) w.heap.size rfl (.tmp 20) (.tmp 21) 34 3 25 (.slice none 0 0) 24 rfl Tryz.underlying34 Tryz.underlying3 info25' rfl (by decide) (by decide) (.slice none 0 0) [] ([] : List ByteArray) n (fun k => w.heap.size ≤ k) rfl rfl (Kd.FK_slice_mk (Nat.le_refl _) (Kd.F_nil _ _ _)) (fun _ h => h) (Kd.N_nil _ _ _ _ _) (by omega) (Below.refl _ _) (Nat.le_refl _) (by simp only [List.length_nil]; omega) ?_; intro v1 w1 hT hB1 _ _; obtain ⟨A1, c1, e1⟩ := Kd.N_slice hT; subst e1; have HT := Aside0.mk (Kd.N_take hT (Nat.zero_le _)); have HB := Aside0.mk hB1; clear hT hB1)
  go_ret
  exact ⟨_, rfl, HT.out, HB.out⟩
 ·go_enter Tryz.func100, Tryz.ntmps100
  go_wp2
  go_ret
  exact ⟨_, rfl, Kd.N_nil _ _ _ _ _, Below.refl _ _⟩
set_option maxHeartbeats 400000 in
set_option maxRecDepth 100000 in
theorem concatL_calls (w : World) (P : Nat → Prop) (A : Option Addr) (n c : Nat) (xss : List (List (List ByteArray))) (hx : Kd.V (Kd.slice 25 (Kd.slice 9 Kd.string)) 34 w w.heap.size P (.slice A n c) xss) (hm : xss.flatten.length ≤ 1000000) :
  Calls Tryz.prog 80 #[.slice A n c] w fun e w' => ∃ v, e = .returned v ∧ Kd.N (Kd.slice 9 Kd.string) 25 w' w.heap.size (fun k => P k ∨ w.heap.size ≤ k) v xss.flatten ∧ Below w.heap.size w w' := by
 have hx := Kd.V_bound hx
 obtain ⟨rfl, hcc, _⟩ := Kd.V_reads' hx
 have hmax := Kd.F_max (Kd.V_F hx)
 have HX := Aside0.mk hx
 clear hx
 go_enter Tryz.func80, Tryz.ntmps80
 go_wp2
 go_loopg [3, 11] xss.length (fun gg s3 s11 wr => ∃ kk : Nat, kk ≤ xss.length ∧ xss.length - kk ≤ gg ∧ s11 = .int .i64 kk ∧ s3 = .int .i64 (flen (xss.take kk) : Nat) ∧ w = wr)
 case atStart => exact ⟨0, Nat.zero_le _, by omega, rfl, rfl, rfl⟩
 case round =>
  obtain ⟨kk, hkk, hg, rfl, rfl, rfl⟩ := hrel
  by_cases hlt : kk < xss.length
  ·have hltz : (kk : Int) < (xss.length : Int) := by omega
   obtain ⟨x, hxk⟩ : ∃ x, xss[kk]? = some x := ⟨_, List.getElem?_eq_getElem hlt⟩
   obtain ⟨ad, A0, c0, rfl, hcell, hl0, hF⟩ := elemV HX.out hxk
   have hsum : flen (xss.take kk) + x.length ≤ 1000000 := by rw [flen, ← List.length_append, ← flat_snoc hxk]; exact Nat.le_trans (flat_le _) hm
   have HK := Aside0.mk (show flen (xss.take (kk + 1)) = flen (xss.take kk) + x.length by rw [flen, flen, flat_snoc hxk, List.length_append])
   clear hF hxk
   generalize flen (xss.take kk) = s at hsum HK ⊢
   have hs0 : ¬ ((s : Int) + (x.length : Int)) < 0 := by omega
   go_wp2
   go_roundg (xss.length - (kk + 1))
   case measure => omega
   case rel => exact ⟨kk + 1, by omega, by omega, by go_num, by rw [HK.out]; go_num, rfl⟩
  ·have hltz : ¬ (kk : Int) < (xss.length : Int) := by omega
   have hkl : kk = xss.length := by omega
   subst hkl
   have HF := Aside0.mk (show flen (xss.take xss.length) = flen xss by rw [List.take_length])
   rw [HF.out]
   have hfl : flen xss ≤ 1000000 := hm
   clear HF hkk hlt
   go_wp2_with (fail)
   with_reducible refine (growL_calls w (flen xss : Nat) (by omega) (by omega)).mono ?_
   rintro e w1 ⟨v1, rfl, hN, hB⟩
   obtain ⟨A1, c1, e1⟩ := Kd.N_slice hN
   subst e1
   have HN := Aside0.mk (show Kd.N (Kd.slice 9 Kd.string) 25 w1 w.heap.size (fun k => P k ∨ w.heap.size ≤ k) (.slice A1 ([] : List (List ByteArray)).length c1) [] from Kd.N_mono hN (fun _ hk => .inr hk))
   have HB := Aside0.mk hB
   clear hN hB
   go_wp2
   go_loopg [6, 27] xss.length (fun gg s6 s27 wr => ∃ kk : Nat, kk ≤ xss.length ∧ xss.length - kk ≤ gg ∧ s27 = .int .i64 kk ∧ Aside0 (Kd.N (Kd.slice 9 Kd.string) 25 wr w.heap.size (fun k => P k ∨ w.heap.size ≤ k) s6 (xss.take kk).flatten) ∧ Aside0 (Below w.heap.size w wr))
   case atStart => exact ⟨0, Nat.zero_le _, by omega, rfl, ⟨HN.out⟩, HB⟩
   case round =>
    clear HN HB
    obtain ⟨kk, hkk, hg, rfl, HN, HB⟩ := hrel
    by_cases hlt : kk < xss.length
    ·have hltz : (kk : Int) < (xss.length : Int) := by omega
     obtain ⟨x, hxk⟩ : ∃ x, xss[kk]? = some x := ⟨_, List.getElem?_eq_getElem hlt⟩
     obtain ⟨ad, A0, c0, rfl, hcell, hl0, hF⟩ := elemV (Kd.V_below HX.out HB.out) hxk
     have hsum : (xss.take kk).flatten.length + x.length ≤ 1000000 := by rw [← List.length_append, ← flat_snoc hxk]; exact Nat.le_trans (flat_le _) hm
     have HK := Aside0.mk (flat_snoc hxk)
     have HFF := Aside0.mk hF
     clear hF hxk
     obtain ⟨v, hv⟩ : ∃ v, v = u6 := ⟨_, rfl⟩
     go_wp2_with (at_builtin; refine Kd.N_append_rows (Kd.slice 9 Kd.string) (w0 := w) w.heap.size rfl (.tmp 31) (.tmp 32) 34 25 (.slice none 0 0) 24 rfl Tryz.underlying34 info25' rfl (by decide) (by decide) u6 (xss.take kk).flatten x A0 x.length c0 (fun k => P k ∨ w.heap.size ≤ k) (fun k => P k ∧ k < w.heap.size) rfl rfl HN.out HFF.out (fun k hk => ⟨.inl hk.1, fun e => absurd (Kd.N_base HN.out k e.symm) (by have := hk.2; omega)⟩) (fun k hk => .inr (Nat.le_trans HB.out.size hk)) HB.out HB.out.size (by omega) ?_; intro v1 w1 hT hB1 _ _; have HT := Aside0.mk hT; have HB1 := Aside0.mk hB1; clear hT hB1)
     go_roundg (xss.length - (kk + 1))
     case measure => omega
     case rel => exact ⟨kk + 1, by omega, by omega, by go_num, ⟨by rw [HK.out]; exact HT.out⟩, HB1⟩
    ·have hltz : ¬ (kk : Int) < (xss.length : Int) := by omega
     have hkl : kk = xss.length := by omega
     subst hkl
     go_wp2
     go_ret
     refine ⟨_, rfl, ?_, HB.out⟩
     have := HN.out
     rw [List.take_length] at this
     exact this
#print axioms concatS_calls
#print axioms concatL_calls
end Go.Proofs.YtcnjbmdnnhbfkaaGreatDoor.Mark
/- pick.row's methods last and put, each, Normal: what they compute. -/
namespace Go.Proofs.YtcnjbmdnnhbfkaaGreatDoor.Mark
open Go.RowKit Go.Proofs.YtcnjbmdnnhbfkaaGreatDoorW.PrintWords Go.Proofs.YtcnjbmdnnhbfkaaGreatDoor.XD
structure PV (W : World) (P : Nat → Prop) (x : Piece) (A1 : Option Addr) (c1 : Nat) (A2 : Option Addr) (c2 : Nat) (A3 : Option Addr) (c3 : Nat) : Prop where
 l1 : x.f1.length ≤ c1
 g1 : Kd.F Kd.string W P A1 x.f1.length x.f1
 l2 : x.f2.length ≤ c2
 g2 : Kd.F Kd.string W P A2 x.f2.length x.f2
 l3 : x.f3.length ≤ c3
 g3 : Kd.F (Kd.slice 9 Kd.string) W P A3 x.f3.length x.f3
section
variable {W W1 : World} {P P' : Nat → Prop} {x : Piece} {A1 : Option Addr} {c1 : Nat} {A2 : Option Addr} {c2 : Nat} {A3 : Option Addr} {c3 : Nat}
theorem PV.below (h : PV W P x A1 c1 A2 c2 A3 c3) (hb : Below W.heap.size W W1) : PV W1 P x A1 c1 A2 c2 A3 c3 := ⟨h.l1, Kd.F_below h.g1 hb, h.l2, Kd.F_below h.g2 hb, h.l3, Kd.F_below h.g3 hb⟩
theorem PV.mono (h : PV W P x A1 c1 A2 c2 A3 c3) (hP : ∀ k, P k → P' k) : PV W P' x A1 c1 A2 c2 A3 c3 := ⟨h.l1, Kd.F_mono h.g1 hP, h.l2, Kd.F_mono h.g2 hP, h.l3, Kd.F_mono h.g3 hP⟩
theorem PV.step (h : PV W P x A1 c1 A2 c2 A3 c3) (hm : ∀ k, P k → k < W.heap.size → W1.heap[k]? = W.heap[k]?) : PV W1 P x A1 c1 A2 c2 A3 c3 := ⟨h.l1, Kd.F_step h.g1 hm, h.l2, Kd.F_step h.g2 hm, h.l3, Kd.F_step h.g3 hm⟩
theorem PV.bound (h : PV W P x A1 c1 A2 c2 A3 c3) : PV W (fun k => P k ∧ k < W.heap.size) x A1 c1 A2 c2 A3 c3 := ⟨h.l1, Kd.F_bound h.g1, h.l2, Kd.F_bound h.g2, h.l3, Kd.F_bound h.g3⟩
theorem PV.fk (h : PV W P x A1 c1 A2 c2 A3 c3) : Kd.FK k36 W P x [.bool x.f0, .slice A1 x.f1.length c1, .slice A2 x.f2.length c2, .slice A3 x.f3.length c3] := k36_mkF _ _ _ h.l1 h.g1 h.l2 h.g2 h.l3 h.g3
end
theorem PV.of_fk {W : World} {P : Nat → Prop} {x : Piece} {cs : List Value} (h : Kd.FK k36 W P x cs) : ∃ A1 c1 A2 c2 A3 c3, cs = [.bool x.f0, .slice A1 x.f1.length c1, .slice A2 x.f2.length c2, .slice A3 x.f3.length c3] ∧ PV W P x A1 c1 A2 c2 A3 c3 := by
 obtain ⟨A1, c1, A2, c2, A3, c3, e, l1, g1, l2, g2, l3, g3⟩ := k36_openF h
 exact ⟨A1, c1, A2, c2, A3, c3, e, l1, g1, l2, g2, l3, g3⟩
theorem C4.of {w : World} {a : Addr} {v0 v1 v2 v3 : Value} {m : Nat} (h : ∀ j u, [v0, v1, v2, v3][j]? = some u → w.cell? (a.add (m + j)) = some u) : C4 w (a.add m) v0 v1 v2 v3 :=
 ⟨by have := h 0 _ rfl; rwa [Nat.add_zero] at this, by have := h 1 _ rfl; rwa [add_field _ _ 1 (by omega)] at this, by have := h 2 _ rfl; rwa [add_field _ _ 2 (by omega)] at this, by have := h 3 _ rfl; rwa [add_field _ _ 3 (by omega)] at this⟩
theorem elemVP {t base n c : Nat} {W : World} {P : Nat → Prop} {A : Option Addr} {xs : List Piece} {k : Nat} {x : Piece} (h : Kd.V k36 t W base P (.slice A n c) xs) (hx : xs[k]? = some x) :
  ∃ ad A1 c1 A2 c2 A3 c3, A = some ad ∧ C4 W (ad.add (k * 4)) (.bool x.f0) (.slice A1 x.f1.length c1) (.slice A2 x.f2.length c2) (.slice A3 x.f3.length c3) ∧ PV W P x A1 c1 A2 c2 A3 c3 := by
 have hk : k < xs.length := (List.getElem?_eq_some_iff.1 hx).1
 obtain ⟨ad, cs, rfl, hcl, hK, hcc, _⟩ := Kd.F_get (Kd.V_F h) x (k : Int) (by omega) (by have := (Kd.V_at h).1; omega)
 have : xs.getD (k : Int).toNat x = x := by rw [Int.toNat_natCast, List.getD_eq_getElem?_getD, hx]; rfl
 rw [this] at hK
 obtain ⟨A1, c1, A2, c2, A3, c3, rfl, hp⟩ := PV.of_fk hK
 rw [Int.toNat_natCast] at hcc
 exact ⟨ad, A1, c1, A2, c2, A3, c3, rfl, C4.of hcc, hp⟩
theorem N_tightS {e base : Nat} {w : World} {ok ok' : Nat → Prop} {v : Value} {xs : List ByteArray} (h : Kd.N Kd.string e w base ok v xs) (h' : ∀ k, v.ownBlock = some k → ok' k) : Kd.N Kd.string e w base ok' v xs := by
 obtain ⟨h0, rows, hl, hR, hf⟩ := h
 exact ⟨h', rows, hl, hR, fun j x c hx hc => fun W' _ => show Kd.string.K W' x c from (show c = [.string x] from Kd.FK_now (hf j x c hx hc))⟩
theorem C_two {α : Type} {d : Kd α} {e n c1 c2 : Nat} {W : World} {A1 A2 : Option Addr} {x y : List α} (h0 : W.cell? ⟨n, 0, none⟩ = some (.slice A1 x.length c1)) (h1 : W.cell? ⟨n, 1, none⟩ = some (.slice A2 y.length c2)) (l1 : x.length ≤ c1) (g1 : d.C W A1 x.length x) (l2 : y.length ≤ c2) (g2 : d.C W A2 y.length y) :
  (Kd.slice e d).C W (some ⟨n, 0, none⟩) 2 [x, y] := by
 refine ⟨rfl, by decide, fun _ => ⟨_, rfl, fun j p hj => ?_⟩⟩
 rcases j with _ | _ | j
 ·simp only [List.getElem?_cons_zero, Option.some.injEq] at hj
  subst hj
  refine ⟨[.slice A1 x.length c1], rfl, ⟨A1, c1, rfl, l1, g1⟩, fun i u hu => ?_⟩
  rcases i with _ | i
  ·simp only [List.getElem?_cons_zero, Option.some.injEq] at hu
   subst hu
   simpa [add_at] using h0
  ·simp at hu
 ·simp only [Nat.zero_add, List.getElem?_cons_succ, List.getElem?_cons_zero, Option.some.injEq] at hj
  subst hj
  refine ⟨[.slice A2 y.length c2], rfl, ⟨A2, c2, rfl, l2, g2⟩, fun i u hu => ?_⟩
  rcases i with _ | i
  ·simp only [List.getElem?_cons_zero, Option.some.injEq] at hu
   subst hu
   simpa [add_at, Kd.slice] using h1
  ·simp at hu
 ·simp at hj
theorem F_two {α : Type} {d : Kd α} {e n c1 c2 : Nat} {W : World} {ok : Nat → Prop} {A1 A2 : Option Addr} {x y : List α} (hn : ok n) (h0 : W.cell? ⟨n, 0, none⟩ = some (.slice A1 x.length c1)) (h1 : W.cell? ⟨n, 1, none⟩ = some (.slice A2 y.length c2)) (l1 : x.length ≤ c1) (g1 : Kd.F d W ok A1 x.length x) (l2 : y.length ≤ c2) (g2 : Kd.F d W ok A2 y.length y) :
  Kd.F (Kd.slice e d) W ok (some ⟨n, 0, none⟩) 2 [x, y] := fun W' hW => by
 have hb := hW n hn (World.block_lt_of_cell? W _ h0)
 exact C_two ((World.cell?_of_block (a := ⟨n, 0, none⟩) hb).trans h0) ((World.cell?_of_block (a := ⟨n, 1, none⟩) hb).trans h1) l1 (g1 W' hW) l2 (g2 W' hW)
/-! ### the row -/
structure PS (B : Nat) (w : World) (g : Nat) (P : Nat → Prop) (vo : Value) (out : List Piece) : Prop where
 hg : B ≤ g
 blk : w.heap[g]? = some (.cells #[vo] 90 (0, 0))
 out : Kd.N k36 36 w B (fun k => (P k ∨ B ≤ k) ∧ k ≠ g) vo out
theorem PS.lt {B : Nat} {w : World} {g : Nat} {P : Nat → Prop} {vo : Value} {out : List Piece} (h : PS B w g P vo out) : g < w.heap.size := blk_lt h.blk
theorem PS.cell {B : Nat} {w : World} {g : Nat} {P : Nat → Prop} {vo : Value} {out : List Piece} (h : PS B w g P vo out) : w.cell? ⟨g, 0, none⟩ = some vo := (blk_cell h.blk 0).trans rfl
theorem PS.ne {B : Nat} {w : World} {g : Nat} {P : Nat → Prop} {vo : Value} {out : List Piece} (h : PS B w g P vo out) : some g ≠ vo.ownBlock := fun e => (h.out.1 g e.symm).2 rfl
theorem PS.below {B : Nat} {w w1 : World} {g : Nat} {P : Nat → Prop} {vo : Value} {out : List Piece} (h : PS B w g P vo out) (hb : Below w.heap.size w w1) : PS B w1 g P vo out := ⟨h.hg, blk_below h.blk hb, Kd.N_below h.out hb⟩
def lastV (vo : Value) (out : List Piece) : Value := match out.getLast? with
 | none => .pointer none
 | some y => if y.f0 = true then .pointer none else match vo.ownBlock with
  | some b => .pointer (some ⟨b, (out.length - 1) * 4, none⟩)
  | none => .pointer none
set_option maxHeartbeats 400000 in
theorem last_calls (B : Nat) (w : World) (g : Nat) (P : Nat → Prop) (vo : Value) (out : List Piece) (h : PS B w g P vo out) (hl : out.length ≤ 1000000) :
  Calls Tryz.prog 98 #[.pointer (some ⟨g, 0, none⟩)] w fun e w' => e = .returned (lastV vo out) ∧ w = w' := by
 have hu := Tryz.underlying36
 have hu2 := Tryz.underlying90
 have hc := h.cell
 obtain ⟨A, c, e⟩ := Kd.N_slice h.out
 subst e
 rcases List.eq_nil_or_concat out with hn | ⟨ini, y, hn⟩
 ·have hl0 : out.length = 0 := by rw [hn]; rfl
  have HV := Aside0.mk (show lastV (.slice A out.length c) out = .pointer none by rw [hn]; rfl)
  clear hn h
  have t0 : ((out.length : Int) == 0) = true := by simp [hl0]
  have HL := Aside0.mk hl0
  clear hl0
  go_enter Tryz.func98, Tryz.ntmps98
  go_wp2
  go_ret
  exact ⟨by rw [HV.out]; rfl, rfl⟩
 ·have hol : out.length = ini.length + 1 := by rw [hn]; simp
  have hy : out[ini.length]? = some y := by rw [hn]; simp
  have hgl : out.getLast? = some y := by rw [hn]; simp
  obtain ⟨b, cap, eb, -, -, -⟩ := Kd.N_form h.out (by omega)
  injection eb with eA _ _
  subst eA
  have hN := h.out
  obtain ⟨ad, A1, c1, A2, c2, A3, c3, ead, ⟨h0, -, -, -⟩, -⟩ := elemVP (Kd.N_V (base' := 0) hN) hy
  injection ead with ead
  subst ead
  have t0 : ((out.length : Int) == 0) = false := beq_eq_false_iff_ne.2 (by omega)
  have hi0 : (0 : Int) ≤ (out.length : Int) - 1 := by omega
  have hi1 : (out.length : Int) - 1 < (out.length : Int) := by omega
  have hi2 : ((out.length : Int) - 1).toNat = ini.length := by omega
  have hi3 : (1 : Int) ≤ (out.length : Int) := by omega
  rw [add_at, Nat.zero_add] at h0
  have HY := Aside0.mk hgl
  have HO := Aside0.mk hol
  clear hN h hy hn hgl hol
  cases hq : y.f0 with
  | true =>
   rw [hq] at h0
   have HV := Aside0.mk (show lastV (.slice (some ⟨b, 0, none⟩) out.length cap) out = .pointer none by rw [lastV, HY.out]; simp [hq])
   clear hq
   go_enter Tryz.func98, Tryz.ntmps98
   go_wp2
   go_ret
   exact ⟨by rw [HV.out]; rfl, rfl⟩
  | false =>
   rw [hq] at h0
   have HV := Aside0.mk (show lastV (.slice (some ⟨b, 0, none⟩) out.length cap) out = .pointer (some ⟨b, ini.length * 4, none⟩) by rw [lastV, HY.out, HO.out]; simp [hq, Value.ownBlock])
   clear hq
   go_enter Tryz.func98, Tryz.ntmps98
   go_wp2
   go_ret
   exact ⟨by rw [HV.out]; rfl, rfl⟩
/-! ### put -/
def putR (out : List Piece) (x : Piece) : List Piece :=
 if x.f0 = true then out ++ [⟨true, [], x.f2, x.f3⟩]
 else if x.f1.length = 0 then out
 else match out.getLast? with
  | none => out ++ [⟨false, x.f1, [], []⟩]
  | some y => if y.f0 = true then out ++ [⟨false, x.f1, [], []⟩] else out.set (out.length - 1) ⟨y.f0, y.f1 ++ x.f1, y.f2, y.f3⟩
theorem below_cell {B : Nat} {w0 w : World} (h : Below B w0 w) {g : Nat} (hg : B ≤ g) (j : Nat) (u : Value) : Below B w0 (w.setCell ⟨g, j, none⟩ u) := h.setCell hg u
def Put (B : Nat) (w0 : World) (g : Nat) (P : Nat → Prop) (out : List Piece) (e : Ending) (w' : World) : Prop := e = .returned (.tuple #[]) ∧ Below B w0 w' ∧ ∃ vo, PS B w' g P vo out
theorem PS.more {B : Nat} {w w1 : World} {g : Nat} {P : Nat → Prop} {vo v1 : Value} {out out1 : List Piece} (h : PS B w g P vo out) (hg : w.grownBy w1 vo.ownBlock) (hO : Kd.N k36 36 w1 B (fun k => (P k ∨ B ≤ k) ∧ k ≠ g) v1 out1) :
  PS B (w1.setCell ⟨g, 0, none⟩ v1) g P v1 out1 :=
 ⟨h.hg, blk_put (blk_grown h.blk hg h.ne) 0 v1 rfl, Kd.N_far hO (fun _ hk => hk.2) _⟩
structure Box4 (wb : World) (bx : Nat) (v0 v1 v2 v3 : Value) : Prop where
 k0 : wb.cell? ⟨bx, 0, none⟩ = some v0
 k1 : wb.cell? ⟨bx, 1, none⟩ = some v1
 k2 : wb.cell? ⟨bx, 2, none⟩ = some v2
 k3 : wb.cell? ⟨bx, 3, none⟩ = some v3
theorem Box4.below {wb w1 : World} {bx : Nat} {v0 v1 v2 v3 : Value} (h : Box4 wb bx v0 v1 v2 v3) (hb : Below wb.heap.size wb w1) : Box4 w1 bx v0 v1 v2 v3 :=
 ⟨(hb.cell (World.block_lt_of_cell? wb _ h.k0)).trans h.k0, (hb.cell (World.block_lt_of_cell? wb _ h.k1)).trans h.k1, (hb.cell (World.block_lt_of_cell? wb _ h.k2)).trans h.k2, (hb.cell (World.block_lt_of_cell? wb _ h.k3)).trans h.k3⟩
theorem boxed (w : World) (v0 v1 v2 v3 : Value) (t : TypeId) : Box4 (w.alloc (.cells #[v0, v1, v2, v3] t)) w.heap.size v0 v1 v2 v3 := ⟨by simp, by simp, by simp, by simp⟩
structure Ready (B : Nat) (w0 wb : World) (bx g : Nat) (P : Nat → Prop) (vo : Value) (out : List Piece) (x : Piece) (A1 : Option Addr) (c1 : Nat) (A2 : Option Addr) (c2 : Nat) (A3 : Option Addr) (c3 : Nat) : Prop where
 ps : PS B wb g P vo out
 pv : PV wb P x A1 c1 A2 c2 A3 c3
 below : Below B w0 wb
 box : Box4 wb bx (.bool x.f0) (.slice A1 x.f1.length c1) (.slice A2 x.f2.length c2) (.slice A3 x.f3.length c3)
theorem ready {B : Nat} {w0 w : World} {g : Nat} {P : Nat → Prop} {vo : Value} {out : List Piece} {x : Piece} {A1 : Option Addr} {c1 : Nat} {A2 : Option Addr} {c2 : Nat} {A3 : Option Addr} {c3 : Nat} (h : PS B w g P vo out) (hB : Below B w0 w) (hx : PV w P x A1 c1 A2 c2 A3 c3) :
  Ready B w0 (w.alloc (.cells #[.bool x.f0, .slice A1 x.f1.length c1, .slice A2 x.f2.length c2, .slice A3 x.f3.length c3] 36)) w.heap.size g P vo out x A1 c1 A2 c2 A3 c3 :=
 ⟨h.below (below_alloc (Below.refl _ _) _), hx.below (below_alloc (Below.refl _ _) _), hB.alloc (Nat.le_trans h.hg (Nat.le_of_lt h.lt)) _, boxed _ _ _ _ _ _⟩
set_option maxHeartbeats 400000 in
theorem put_conflict (B : Nat) (w0 w : World) (g : Nat) (P : Nat → Prop) (vo : Value) (out : List Piece) (x : Piece) (A1 : Option Addr) (c1 : Nat) (A2 : Option Addr) (c2 : Nat) (A3 : Option Addr) (c3 : Nat)
  (hP : ∀ k, P k → k < B) (h : PS B w g P vo out) (hB : Below B w0 w) (hx : PV w P x A1 c1 A2 c2 A3 c3) (hl : out.length ≤ 1000000) (hf : x.f0 = true) :
  Calls Tryz.prog 78 #[.pointer (some ⟨g, 0, none⟩), pv x A1 c1 A2 c2 A3 c3] w (Put B w0 g P (out ++ [⟨true, [], x.f2, x.f3⟩])) := by
 have hu := Tryz.underlying36
 have hu2 := Tryz.underlying90
 have HR := Aside0.mk (ready h hB hx)
 have HL := Aside0.mk (last_calls B _ g P vo out HR.out.ps hl)
 rw [hf] at HR HL
 obtain ⟨A, c, e⟩ := Kd.N_slice h.out
 subst e
 have hgB := h.hg
 clear h hx hB
 go_enter Tryz.func78, Tryz.ntmps78
 go_wp2_with (fail)
 refine HL.out.mono ?_
 rintro e w1 ⟨rfl, rfl⟩
 clear HL
 generalize w.alloc (.cells #[.bool true, .slice A1 x.f1.length c1, .slice A2 x.f2.length c2, .slice A3 x.f3.length c3] 36) = wb at HR ⊢
 generalize w.heap.size = bx at HR ⊢
 generalize lastV (.slice A out.length c) out = lv
 have H := Aside0.mk HR.out.ps
 have HX := Aside0.mk HR.out.pv
 have HB := Aside0.mk HR.out.below
 obtain ⟨k0, k1, k2, k3⟩ := HR.out.box
 rw [hf] at k0
 have hc := H.out.cell
 have hgs := H.out.lt
 have hbs : B ≤ wb.heap.size := Nat.le_trans hgB (Nat.le_of_lt hgs)
 have HK := Aside0.mk (show ∀ k, P k → ((P k ∨ B ≤ k) ∧ k ≠ g) ∧ some k ≠ (Value.slice A out.length c).ownBlock from fun k hk => ⟨⟨.inl hk, fun e => absurd (hP k hk) (by omega)⟩, fun e => absurd (Kd.N_base H.out.out k e.symm) (by have := hP k hk; omega)⟩)
 have HFr := Aside0.mk (show ∀ k, wb.drew.heap.size ≤ k → (P k ∨ B ≤ k) ∧ k ≠ g from fun k hk => by
  have : wb.heap.size ≤ k := hk
  exact ⟨.inr (by omega), by omega⟩)
 clear HR hP
 go_wp2
 go_region_law (refine Kd.N_append_step k36 (w0 := w0) (W := wb.drew) B ?hw (.tmp 26) (.tmp 32) 22 36 (.agg #[(.bool false), (.slice none 0 0), (.slice none 0 0), (.slice none 0 0)]) 80 ?ho Tryz.underlying22 info36 rfl (by decide) (by omega) (.slice A out.length c) out (⟨true, [], x.f2, x.f3⟩ : Piece) [.bool true, .slice none 0 0, .slice A2 x.f2.length c2, .slice A3 x.f3.length c3] (fun k => (P k ∨ B ≤ k) ∧ k ≠ g) P ?hs ?hx ?aP ?aK ?aF ?aO ?aB ?aS ?aL ?_; (case hw => rfl); (case ho => rfl); (case hs => rfl); (case hx => rfl); (case aP => exact PV.fk ⟨Nat.le_refl _, Kd.F_nil _ _ _, HX.out.l2, Kd.F_drew HX.out.g2, HX.out.l3, Kd.F_drew HX.out.g3⟩); (case aK => exact HK.out); (case aF => exact HFr.out); (case aO => exact Kd.N_drew H.out.out); (case aB => exact HB.out.drew); (case aS => exact hbs); (case aL => omega); intro v1 w1 hO1 hB1 hg1 _; obtain ⟨A3', c3', e3⟩ := Kd.N_slice hO1; subst e3; have hbk := blk_grown (w := wb.drew) H.out.blk hg1 H.out.ne; have d0 := (blk_cell hbk 0).trans rfl; have dz := blk_frozen hbk; have HG1 := Aside0.mk hg1; have HB1 := Aside0.mk hB1; have HO1 := Aside0.mk hO1; clear hbk hg1 hB1 hO1)
 all_goals
  go_wp2
  go_end0
  have hO2 := PS.more H.out (w1 := w1) ⟨HG1.out.os, HG1.out.tape, HG1.out.output, HG1.out.size, HG1.out.block⟩ HO1.out
  simp only [List.length_append, List.length_cons, List.length_nil, Nat.zero_add] at hO2
  exact ⟨rfl, below_cell HB1.out H.out.hg _ _, _, hO2⟩
set_option maxHeartbeats 400000 in
theorem put_new (B : Nat) (w0 w : World) (g : Nat) (P : Nat → Prop) (vo : Value) (out : List Piece) (x : Piece) (A1 : Option Addr) (c1 : Nat) (A2 : Option Addr) (c2 : Nat) (A3 : Option Addr) (c3 : Nat)
  (hP : ∀ k, P k → k < B) (h : PS B w g P vo out) (hB : Below B w0 w) (hx : PV w P x A1 c1 A2 c2 A3 c3) (hl : out.length ≤ 1000000) (hf : x.f0 = false) (h1 : x.f1.length ≠ 0) (hlv : lastV vo out = .pointer none) :
  Calls Tryz.prog 78 #[.pointer (some ⟨g, 0, none⟩), pv x A1 c1 A2 c2 A3 c3] w (Put B w0 g P (out ++ [⟨false, x.f1, [], []⟩])) := by
 have hu := Tryz.underlying36
 have hu2 := Tryz.underlying90
 have HR := Aside0.mk (ready h hB hx)
 have HL := Aside0.mk (last_calls B _ g P vo out HR.out.ps hl)
 rw [hf] at HR HL
 obtain ⟨A, c, e⟩ := Kd.N_slice h.out
 subst e
 have hgB := h.hg
 clear h hx hB
 have t1 : ((x.f1.length : Int) == 0) = false := beq_eq_false_iff_ne.2 (by omega)
 clear h1
 go_enter Tryz.func78, Tryz.ntmps78
 go_wp2_with (fail)
 refine HL.out.mono ?_
 rintro e w1 ⟨rfl, rfl⟩
 clear HL
 generalize w.alloc (.cells #[.bool false, .slice A1 x.f1.length c1, .slice A2 x.f2.length c2, .slice A3 x.f3.length c3] 36) = wb at HR ⊢
 generalize w.heap.size = bx at HR ⊢
 rw [hlv]
 have H := Aside0.mk HR.out.ps
 have HX := Aside0.mk HR.out.pv
 have HB := Aside0.mk HR.out.below
 obtain ⟨k0, k1, k2, k3⟩ := HR.out.box
 rw [hf] at k0
 have hc := H.out.cell
 have hgs := H.out.lt
 have hbs : B ≤ wb.heap.size := Nat.le_trans hgB (Nat.le_of_lt hgs)
 have HK := Aside0.mk (show ∀ k, P k → ((P k ∨ B ≤ k) ∧ k ≠ g) ∧ some k ≠ (Value.slice A out.length c).ownBlock from fun k hk => ⟨⟨.inl hk, fun e => absurd (hP k hk) (by omega)⟩, fun e => absurd (Kd.N_base H.out.out k e.symm) (by have := hP k hk; omega)⟩)
 have HFr := Aside0.mk (show ∀ k, wb.drew.heap.size ≤ k → (P k ∨ B ≤ k) ∧ k ≠ g from fun k hk => by
  have : wb.heap.size ≤ k := hk
  exact ⟨.inr (by omega), by omega⟩)
 clear HR hP
 go_wp2
 go_region_law (refine Kd.N_append_step k36 (w0 := w0) (W := wb.drew) B ?hw (.tmp 11) (.tmp 15) 22 36 (.agg #[(.bool false), (.slice none 0 0), (.slice none 0 0), (.slice none 0 0)]) 80 ?ho Tryz.underlying22 info36 rfl (by decide) (by omega) (.slice A out.length c) out (⟨false, x.f1, [], []⟩ : Piece) [.bool false, .slice A1 x.f1.length c1, .slice none 0 0, .slice none 0 0] (fun k => (P k ∨ B ≤ k) ∧ k ≠ g) P ?hs ?hx ?aP ?aK ?aF ?aO ?aB ?aS ?aL ?_; (case hw => rfl); (case ho => rfl); (case hs => rfl); (case hx => rfl); (case aP => exact PV.fk ⟨HX.out.l1, Kd.F_drew HX.out.g1, Nat.le_refl _, Kd.F_nil _ _ _, Nat.le_refl _, Kd.F_nil _ _ _⟩); (case aK => exact HK.out); (case aF => exact HFr.out); (case aO => exact Kd.N_drew H.out.out); (case aB => exact HB.out.drew); (case aS => exact hbs); (case aL => omega); intro v1 w1 hO1 hB1 hg1 _; obtain ⟨A3', c3', e3⟩ := Kd.N_slice hO1; subst e3; have hbk := blk_grown (w := wb.drew) H.out.blk hg1 H.out.ne; have d0 := (blk_cell hbk 0).trans rfl; have dz := blk_frozen hbk; have HG1 := Aside0.mk hg1; have HB1 := Aside0.mk hB1; have HO1 := Aside0.mk hO1; clear hbk hg1 hB1 hO1)
 all_goals
  go_wp2
  go_end0
  have hO2 := PS.more H.out (w1 := w1) ⟨HG1.out.os, HG1.out.tape, HG1.out.output, HG1.out.size, HG1.out.block⟩ HO1.out
  simp only [List.length_append, List.length_cons, List.length_nil, Nat.zero_add] at hO2
  exact ⟨rfl, below_cell HB1.out H.out.hg _ _, _, hO2⟩
set_option maxHeartbeats 400000 in
theorem put_empty (B : Nat) (w0 w : World) (g : Nat) (P : Nat → Prop) (vo : Value) (out : List Piece) (x : Piece) (A1 : Option Addr) (c1 : Nat) (A2 : Option Addr) (c2 : Nat) (A3 : Option Addr) (c3 : Nat)
  (h : PS B w g P vo out) (hB : Below B w0 w) (hx : PV w P x A1 c1 A2 c2 A3 c3) (hl : out.length ≤ 1000000) (hf : x.f0 = false) (h1 : x.f1.length = 0) :
  Calls Tryz.prog 78 #[.pointer (some ⟨g, 0, none⟩), pv x A1 c1 A2 c2 A3 c3] w (Put B w0 g P out) := by
 have hu := Tryz.underlying36
 have HR := Aside0.mk (ready h hB hx)
 have HL := Aside0.mk (last_calls B _ g P vo out HR.out.ps hl)
 rw [hf] at HR HL
 clear h hx hB
 have t1 : ((x.f1.length : Int) == 0) = true := by simp [h1]
 have HH := Aside0.mk h1
 clear h1
 go_enter Tryz.func78, Tryz.ntmps78
 go_wp2_with (fail)
 refine HL.out.mono ?_
 rintro e w1 ⟨rfl, rfl⟩
 clear HL
 generalize w.alloc (.cells #[.bool false, .slice A1 x.f1.length c1, .slice A2 x.f2.length c2, .slice A3 x.f3.length c3] 36) = wb at HR ⊢
 generalize w.heap.size = bx at HR ⊢
 generalize lastV vo out = lv
 obtain ⟨k0, k1, k2, k3⟩ := HR.out.box
 rw [hf] at k0
 go_wp2
 go_end0
 exact ⟨rfl, HR.out.below, _, HR.out.ps⟩
end Go.Proofs.YtcnjbmdnnhbfkaaGreatDoor.Mark
/- pick.row.put where a text goes on; put; each; pick.Normal. -/
namespace Go.Proofs.YtcnjbmdnnhbfkaaGreatDoor.Mark
open Go.RowKit Go.Proofs.YtcnjbmdnnhbfkaaGreatDoorW.PrintWords Go.Proofs.YtcnjbmdnnhbfkaaGreatDoor.XD
theorem PS.turned {B : Nat} {w w1 : World} {g : Nat} {P : Nat → Prop} {b c n : Nat} {out : List Piece} {y : Piece} (h : PS B w g P (.slice (some ⟨b, 0, none⟩) out.length c) out) (hb : Below w.heap.size w w1) (hy : out[n]? = some y) {v1 : Value} {zs : List ByteArray} (hN : Kd.N Kd.string 9 w1 w.heap.size (fun k => True ∨ w.heap.size ≤ k) v1 zs) :
  PS B (w1.setCell ⟨b, n * 4 + 1, none⟩ v1) g P (.slice (some ⟨b, 0, none⟩) out.length c) (out.set n ⟨y.f0, zs, y.f2, y.f3⟩) := by
 have hn : n < out.length := (List.getElem?_eq_some_iff.1 hy).1
 have h1 := h.below hb
 have hgb : g ≠ b := fun e => h.ne (by simp [Value.ownBlock, e])
 have hbs : b < w.heap.size := Kd.N_lt h.out b (by simp [Value.ownBlock])
 have hBb : B ≤ b := Kd.N_base h.out b (by simp [Value.ownBlock])
 obtain ⟨cs, hcl, hK, hcc, -⟩ := Kd.N_elem h1.out y (n : Int) (by omega) (by omega)
 have : out.getD (n : Int).toNat y = y := by rw [Int.toNat_natCast, List.getD_eq_getElem?_getD, hy]; rfl
 rw [this] at hK
 obtain ⟨A1, c1, A2, c2, A3, c3, rfl, hp⟩ := PV.of_fk hK
 obtain ⟨A9, c9, rfl⟩ := Kd.N_slice hN
 have hok : ∀ k, (Value.slice A9 zs.length c9).ownBlock = some k → ((P k ∨ B ≤ k) ∧ k ≠ g) ∧ k ≠ b := fun k hk => by
  have := Kd.N_base hN k hk
  have := h.lt
  exact ⟨⟨.inr (by omega), by omega⟩, by omega⟩
 have hM : Kd.FK k36 w1 (fun k => ((P k ∨ B ≤ k) ∧ k ≠ g) ∧ k ≠ b) (⟨y.f0, zs, y.f2, y.f3⟩ : Piece) [.bool y.f0, .slice A9 zs.length c9, .slice A2 y.f2.length c2, .slice A3 y.f3.length c3] :=
  PV.fk ⟨(Kd.N_reads' hN).2.1, Kd.N_F (N_tightS hN hok), hp.l2, hp.g2, hp.l3, hp.g3⟩
 have hs := Kd.N_seg h1.out (n : Int) (by omega) (by omega) (c := [.bool y.f0, .slice A1 y.f1.length c1, .slice A2 y.f2.length c2, .slice A3 y.f3.length c3]) (seg := [.slice A9 zs.length c9]) (j := 1) rfl hcc (show 1 + 1 ≤ 4 by decide) hM (fun k hk => hk)
 rw [Int.toNat_natCast] at hs
 refine ⟨h.hg, (Below.heap_setCell _ _ _ _ hgb).trans h1.blk, hs.1⟩
set_option maxHeartbeats 1000000 in
set_option maxRecDepth 100000 in
theorem put_on (B : Nat) (w0 w : World) (g : Nat) (P : Nat → Prop) (vo : Value) (out : List Piece) (x : Piece) (A1 : Option Addr) (c1 : Nat) (A2 : Option Addr) (c2 : Nat) (A3 : Option Addr) (c3 : Nat)
  (h : PS B w g P vo out) (hB : Below B w0 w) (hx : PV w P x A1 c1 A2 c2 A3 c3) (hl : out.length ≤ 1000000) (hf : x.f0 = false) (h1 : x.f1.length ≠ 0) (ini : List Piece) (y : Piece) (ho : out = ini ++ [y]) (hy : y.f0 = false) (hm : y.f1.length + x.f1.length ≤ 1000000) :
  Calls Tryz.prog 78 #[.pointer (some ⟨g, 0, none⟩), pv x A1 c1 A2 c2 A3 c3] w (Put B w0 g P (out.set (out.length - 1) ⟨y.f0, y.f1 ++ x.f1, y.f2, y.f3⟩)) := by
 have hu := Tryz.underlying36
 have hu2 := Tryz.underlying90
 have hol : out.length = ini.length + 1 := by rw [ho]; simp
 have hyk : out[ini.length]? = some y := by rw [ho]; simp
 have hlv : out.getLast? = some y := by rw [ho]; simp
 have HR := Aside0.mk (ready h hB hx)
 have HL := Aside0.mk (last_calls B _ g P vo out HR.out.ps hl)
 rw [hf] at HR HL
 obtain ⟨b, c, e, hbB, -, -⟩ := Kd.N_form h.out (by omega)
 subst e
 have HLV := Aside0.mk (show lastV (.slice (some ⟨b, 0, none⟩) out.length c) out = .pointer (some ⟨b, ini.length * 4, none⟩) by rw [lastV, hlv, hol]; simp [hy, Value.ownBlock])
 have hgB := h.hg
 clear h hx hB ho hlv
 have t1 : ((x.f1.length : Int) == 0) = false := beq_eq_false_iff_ne.2 (by omega)
 clear h1
 have HOL := Aside0.mk hol
 clear hol
 go_enter Tryz.func78, Tryz.ntmps78
 go_wp2_with (fail)
 refine HL.out.mono ?_
 rintro e w1 ⟨rfl, rfl⟩
 clear HL
 rw [HLV.out]
 generalize w.alloc (.cells #[.bool false, .slice A1 x.f1.length c1, .slice A2 x.f2.length c2, .slice A3 x.f3.length c3] 36) = wb at HR ⊢
 generalize w.heap.size = bx at HR ⊢
 obtain ⟨ad, B1, d1, B2, d2, B3, d3, ead, hc4, hpy⟩ := elemVP (Kd.N_V (base' := 0) HR.out.ps.out) hyk
 injection ead with ead
 subst ead
 rw [add_at, Nat.zero_add] at hc4
 obtain ⟨e0, e1, e2, e3⟩ := hc4
 have HPY := Aside0.mk hpy
 have HYK := Aside0.mk hyk
 clear hpy hyk
 obtain ⟨k0, k1, k2, k3⟩ := HR.out.box
 have hfr : wb.frozen? ⟨b, ini.length * 4 + 1, none⟩ = false := by
  obtain ⟨_, _, _, _, hz⟩ := Kd.N_elem HR.out.ps.out y (ini.length : Int) (by omega) (by rw [HOL.out]; omega)
  have := hz 1
  rwa [Int.toNat_natCast, show k36.sz = 4 from rfl] at this
 have hbb : b < wb.heap.size := World.block_lt_of_cell? wb _ e1
 have HFR := Aside0.mk hfr
 have HE1 := Aside0.mk e1
 clear hfr
 rw [hf] at k0
 rw [hy] at e0
 have hb0 := World.block_lt_of_cell? wb _ e1
 have hb1 := World.block_lt_of_cell? wb _ k1
 have HT := Aside0.mk (show Kd.V (Kd.slice 9 Kd.string) 25 (wb.alloc (.cells #[.slice B1 y.f1.length d1, .slice A1 x.f1.length c1] 25)).drew (wb.alloc (.cells #[.slice B1 y.f1.length d1, .slice A1 x.f1.length c1] 25)).drew.heap.size (fun _ => True) (.slice (some ⟨wb.heap.size, 0, none⟩) 2 2) [y.f1, x.f1] from
  ⟨_, _, rfl, Nat.le_refl _, F_two trivial (by simp) (by simp) HPY.out.l1 (Kd.F_mono (Kd.F_drew (Kd.F_alloc HPY.out.g1 _)) (fun _ _ => trivial)) HR.out.pv.l1 (Kd.F_mono (Kd.F_drew (Kd.F_alloc HR.out.pv.g1 _)) (fun _ _ => trivial))⟩)
 have HC := Aside0.mk (concatS_calls _ _ _ _ _ _ HT.out (by simp; omega))
 have hsz : (wb.alloc (.cells #[.slice B1 y.f1.length d1, .slice A1 x.f1.length c1] 25)).drew.heap.size = wb.heap.size + 1 := by simp
 have HSZ := Aside0.mk hsz
 clear hsz HT
 go_wp2
 go_region_with (go_at_call 99; refine HC.out.mono ?_; rintro e w1 ⟨v1, rfl, hN, hb1⟩; have HN := Aside0.mk hN; have HB1 := Aside0.mk ((below_alloc (Below.refl _ _) _).trans ((below_drew (Below.refl _ _)).trans (hb1.mono (by rw [HSZ.out]; omega)))); have f1 : w1.cell? ⟨b, ini.length * 4 + 1, none⟩ = some (.slice B1 y.f1.length d1) := (HB1.out.cell (p := ⟨b, ini.length * 4 + 1, none⟩) hbb).trans HE1.out; have f2 : w1.frozen? ⟨b, ini.length * 4 + 1, none⟩ = false := (HB1.out.frozen (p := ⟨b, ini.length * 4 + 1, none⟩) hbb).trans HFR.out; obtain ⟨A9, c9, e9⟩ := Kd.N_slice HN.out; subst e9; clear hN hb1)
 all_goals
  go_end0
  have hN := HN.out
  rw [HSZ.out] at hN
  have hN2 : Kd.N Kd.string 9 w1 wb.heap.size (fun k => True ∨ wb.heap.size ≤ k) (.slice A9 (y.f1.length + x.f1.length) c9) (y.f1 ++ x.f1) := by
   have := Kd.N_mono (Kd.N_lower hN (Nat.le_succ _)) (ok' := fun k => True ∨ wb.heap.size ≤ k) (fun _ _ => .inl trivial)
   simpa using this
  have hO := PS.turned HR.out.ps HB1.out HYK.out hN2
  rw [show out.length - 1 = ini.length by rw [HOL.out]; rfl]
  have hol : (out.set ini.length ⟨y.f0, y.f1 ++ x.f1, y.f2, y.f3⟩).length = out.length := List.length_set ..
  exact ⟨rfl, below_cell (HR.out.below.trans (HB1.out.mono (Nat.le_trans hgB (Nat.le_of_lt HR.out.ps.lt)))) hbB _ _, _, hO⟩
theorem put_calls (B : Nat) (w0 w : World) (g : Nat) (P : Nat → Prop) (vo : Value) (out : List Piece) (x : Piece) (A1 : Option Addr) (c1 : Nat) (A2 : Option Addr) (c2 : Nat) (A3 : Option Addr) (c3 : Nat)
  (hP : ∀ k, P k → k < B) (h : PS B w g P vo out) (hB : Below B w0 w) (hx : PV w P x A1 c1 A2 c2 A3 c3) (hl : out.length ≤ 1000000) (hm : ∀ y ∈ out, y.f1.length + x.f1.length ≤ 1000000) :
  Calls Tryz.prog 78 #[.pointer (some ⟨g, 0, none⟩), pv x A1 c1 A2 c2 A3 c3] w (Put B w0 g P (putR out x)) := by
 rw [putR]
 cases hf : x.f0 with
 | true => rw [if_pos rfl]; exact put_conflict B w0 w g P vo out x A1 c1 A2 c2 A3 c3 hP h hB hx hl hf
 | false =>
  rw [if_neg (by simp)]
  by_cases h1 : x.f1.length = 0
  ·rw [if_pos h1]; exact put_empty B w0 w g P vo out x A1 c1 A2 c2 A3 c3 h hB hx hl hf h1
  ·rw [if_neg h1]
   rcases List.eq_nil_or_concat out with hn | ⟨ini, y, hn⟩
   ·have hg : out.getLast? = none := by rw [hn]; rfl
    rw [hg]
    exact put_new B w0 w g P vo out x A1 c1 A2 c2 A3 c3 hP h hB hx hl hf h1 (by rw [lastV, hg])
   ·have hg : out.getLast? = some y := by rw [hn]; simp
    rw [hg]
    by_cases hy : y.f0 = true
    ·simp only [if_pos hy]
     exact put_new B w0 w g P vo out x A1 c1 A2 c2 A3 c3 hP h hB hx hl hf h1 (by rw [lastV, hg]; simp [hy])
    ·simp only [if_neg hy]
     exact put_on B w0 w g P vo out x A1 c1 A2 c2 A3 c3 h hB hx hl hf h1 ini y (by rw [hn]; simp) (by simpa using hy) (hm y (by rw [hn]; simp))
/-! ### each, Normal -/
def wt (l : List Piece) : Nat := (l.map fun p => p.f1.length).sum
theorem wt_mem {l : List Piece} {p : Piece} (h : p ∈ l) : p.f1.length ≤ wt l := by
 induction l with
 | nil => cases h
 | cons q l ih =>
  simp only [wt, List.map_cons, List.sum_cons]
  rcases List.mem_cons.1 h with rfl | h
  ·omega
  ·have := ih h
   simp only [wt] at this
   omega
theorem wt_append (a b : List Piece) : wt (a ++ b) = wt a + wt b := by simp [wt]
theorem putR_wt (out : List Piece) (x : Piece) : wt (putR out x) ≤ wt out + x.f1.length := by
 unfold putR
 split
 ·rw [wt_append]; simp [wt]
 ·split
  ·omega
  ·rcases List.eq_nil_or_concat out with hn | ⟨ini, y, hn⟩
   ·rw [hn]; simp [wt]
   ·have hg : out.getLast? = some y := by rw [hn]; simp
    rw [hg]
    by_cases hy : y.f0 = true
    ·simp only [if_pos hy]; rw [wt_append]; simp [wt]
    ·simp only [if_neg hy]
     rw [hn]
     simp only [List.concat_eq_append, List.length_append, List.length_cons, List.length_nil, Nat.zero_add, Nat.add_sub_cancel, List.set_append_right, Nat.le_refl, Nat.sub_self, List.set_cons_zero, wt_append]
     simp [wt]; omega
theorem putR_len (out : List Piece) (x : Piece) : (putR out x).length ≤ out.length + 1 := by
 unfold putR
 split
 ·simp
 ·split
  ·omega
  ·split
   ·simp
   ·split <;> simp
theorem fold_le (xs : List Piece) : ∀ out, (xs.foldl putR out).length ≤ out.length + xs.length ∧ wt (xs.foldl putR out) ≤ wt out + wt xs := by
 induction xs with
 | nil => intro out; simp [wt]
 | cons x xs ih =>
  intro out
  obtain ⟨h1, h2⟩ := ih (putR out x)
  have h3 := putR_len out x
  have h4 := putR_wt out x
  simp only [List.foldl_cons, List.length_cons]
  have : wt (x :: xs) = x.f1.length + wt xs := by simp [wt]
  omega
theorem wt_take (xs : List Piece) (k : Nat) : wt (xs.take k) ≤ wt xs := by
 conv => rhs; rw [← List.take_append_drop k xs, wt_append]
 omega
set_option maxHeartbeats 1000000 in
set_option maxRecDepth 100000 in
theorem each_calls (B : Nat) (w0 w : World) (g : Nat) (P : Nat → Prop) (vo : Value) (out : List Piece) (A : Option Addr) (n c : Nat) (xs : List Piece)
  (hP : ∀ k, P k → k < B) (h : PS B w g P vo out) (hB : Below B w0 w) (hx : Kd.V k36 36 w B P (.slice A n c) xs) (hl : out.length + xs.length ≤ 1000000) (hm : wt out + wt xs ≤ 1000000) :
  Calls Tryz.prog 48 #[.slice A n c, .func (.func 78) #[.pointer (some ⟨g, 0, none⟩)] #[]] w (Put B w0 g P (xs.foldl putR out)) := by
 have hu := Tryz.underlying36
 obtain ⟨rfl, hcc, _⟩ := Kd.V_reads' hx
 have hmax := Kd.F_max (Kd.V_F hx)
 have HX := Aside0.mk hx
 have H := Aside0.mk h
 clear hx h
 have HP := Aside0.mk hP
 clear hP
 go_enter Tryz.func48, Tryz.ntmps48
 go_wp2
 go_loopg [8] xs.length (fun gg s8 wr => ∃ kk : Nat, kk ≤ xs.length ∧ xs.length - kk ≤ gg ∧ s8 = .int .i64 kk ∧ Aside0 (∃ vo, PS B wr g P vo ((xs.take kk).foldl putR out)) ∧ Aside0 (Below B w0 wr))
 case atStart => exact ⟨0, Nat.zero_le _, by omega, rfl, ⟨_, H.out⟩, ⟨hB⟩⟩
 case round =>
  obtain ⟨kk, hkk, hg, rfl, HS, HB⟩ := hrel
  by_cases hlt : kk < xs.length
  ·have hltz : (kk : Int) < (xs.length : Int) := by omega
   obtain ⟨x, hxk⟩ : ∃ x, xs[kk]? = some x := ⟨_, List.getElem?_eq_getElem hlt⟩
   obtain ⟨ad, A1, c1, A2, c2, A3, c3, rfl, ⟨h0, h1, h2, h3⟩, hpv⟩ := elemVP (Kd.V_step HX.out (fun k hk _ => (HB.out.block k (HP.out k hk)).trans (hB.block k (HP.out k hk)).symm)) hxk
   obtain ⟨vo, hps⟩ := HS.out
   have hts : xs.take (kk + 1) = xs.take kk ++ [x] := by
    obtain ⟨hk, rfl⟩ := List.getElem?_eq_some_iff.1 hxk
    exact List.take_succ_eq_append_getElem hk
   have hle := fold_le (xs.take kk) out
   have hlk : (xs.take kk).length = kk := by rw [List.length_take]; omega
   have hwk : wt (xs.take (kk + 1)) ≤ wt xs := wt_take xs _
   rw [hts, wt_append] at hwk
   have hx1 : wt [x] = x.f1.length := by simp [wt]
   have HC := Aside0.mk (fun o => put_calls B w0 (wr.alloc o) g P vo ((xs.take kk).foldl putR out) x A1 c1 A2 c2 A3 c3 HP.out (hps.below (below_alloc (Below.refl _ _) o)) (HB.out.alloc (Nat.le_trans hps.hg (Nat.le_of_lt hps.lt)) o) (hpv.below (below_alloc (Below.refl _ _) o)) (by omega) (fun y hy => by have := wt_mem hy; omega))
   have HE := Aside0.mk (show (xs.take (kk + 1)).foldl putR out = putR ((xs.take kk).foldl putR out) x by rw [hts, List.foldl_append]; rfl)
   clear hpv hps hts hle hlk hwk hx1 hxk
   go_wp2_with (go_at_call 78; refine (HC.out _).mono ?_; rintro e w' ⟨rfl, hb', hps'⟩)
   go_roundg (xs.length - (kk + 1))
   case measure => omega
   case rel => exact ⟨kk + 1, by omega, by omega, by go_num, ⟨by rw [HE.out]; exact hps'⟩, ⟨hb'⟩⟩
  ·have hltz : ¬ (kk : Int) < (xs.length : Int) := by omega
   have hkl : kk = xs.length := by omega
   subst hkl
   go_wp2
   go_end0
   exact ⟨rfl, HB.out, by have := HS.out; rwa [List.take_length] at this⟩
def norm (l : List Piece) : List Piece := l.foldl putR []
set_option maxHeartbeats 1000000 in
set_option maxRecDepth 100000 in
theorem normal_calls (w : World) (P : Nat → Prop) (A : Option Addr) (n c : Nat) (xs : List Piece)
  (hx : Kd.V k36 36 w w.heap.size P (.slice A n c) xs) (hl : xs.length ≤ 1000000) (hm : wt xs ≤ 1000000) :
  Calls Tryz.prog 51 #[.slice A n c] w fun e w' => ∃ v, e = .returned v ∧ Kd.N k36 36 w' w.heap.size (fun k => P k ∨ w.heap.size ≤ k) v (norm xs) ∧ Below w.heap.size w w' := by
 have hu2 := Tryz.underlying90
 have hx := Kd.V_bound hx
 have HE := Aside0.mk (each_calls w.heap.size w (w.alloc (.cells #[.slice none 0 0] 90)) w.heap.size (fun k => P k ∧ k < w.heap.size) (.slice none 0 0) [] A n c xs (fun k hk => hk.2)
  ⟨Nat.le_refl _, blk_new w _, Kd.N_nil _ _ _ _ _⟩ (below_alloc (Below.refl _ _) _) (Kd.V_alloc hx _) (by simpa using hl) (by simpa [wt] using hm))
 clear hx
 go_enter Tryz.func51, Tryz.ntmps51
 go_wp2_with (fail)
 refine HE.out.mono ?_
 rintro e w1 ⟨rfl, hb, vo, hps⟩
 have hc := hps.cell
 have HPS := Aside0.mk hps
 have HB := Aside0.mk hb
 clear hps hb
 go_wp2
 go_ret
 exact ⟨_, rfl, Kd.N_mono HPS.out.out (fun k hk => hk.1.elim (fun h => .inl h.1) .inr), HB.out⟩
#print axioms normal_calls
end Go.Proofs.YtcnjbmdnnhbfkaaGreatDoor.Mark
/- zeal.alike (with each of its two functions), cut: what they compute. (Written by tools/mkf.py.) -/
namespace Go.Proofs.YtcnjbmdnnhbfkaaGreatDoor.Mark
open Go.RowKit Go.Proofs.YtcnjbmdnnhbfkaaGreatDoorW.PrintWords Go.Proofs.YtcnjbmdnnhbfkaaGreatDoorW.PrintLast Go.Proofs.YtcnjbmdnnhbfkaaGreatDoorW.PrintMore Go.Proofs.YtcnjbmdnnhbfkaaGreatDoor.XD
attribute [local go_sem] max2_int min2_int max_two min_two max_three min_three max_four min_four
def atA (l : List ByteArray) (i : Nat) : ByteArray := l.getD i ByteArray.empty
def atB (l : List ByteArray) (i : Nat) : ByteArray := l.getD (l.length - 1 - i) ByteArray.empty
def least (l : List (List ByteArray)) : Nat := l.foldl (fun m k => min m k.length) (l.headD []).length
theorem foldmin_le (l : List (List ByteArray)) : ∀ m, l.foldl (fun m k => min m k.length) m ≤ m ∧ ∀ k ∈ l, l.foldl (fun m k => min m k.length) m ≤ k.length := by
 induction l with
 | nil => intro m; simp
 | cons x l ih =>
  intro m
  obtain ⟨h1, h2⟩ := ih (min m x.length)
  simp only [List.foldl_cons]
  refine ⟨by omega, fun k hk => ?_⟩
  rcases List.mem_cons.1 hk with rfl | hk
  ·omega
  ·exact h2 k hk
theorem least_le {l : List (List ByteArray)} {k : List ByteArray} (h : k ∈ l) : least l ≤ k.length := (foldmin_le l _).2 k h
def good (f : List ByteArray → Nat → ByteArray) (l : List (List ByteArray)) (n : Nat) : Bool := !(l.any fun k => !((f k n).toList == (f (l.headD []) n).toList))
def alike (f : List ByteArray → Nat → ByteArray) (l : List (List ByteArray)) : Nat := ((List.range (least l)).takeWhile (good f l)).length
theorem takeWhile_range (p : Nat → Bool) (m k : Nat) (hk : k ≤ m) (h : ∀ j, j < k → p j = true) (he : k = m ∨ p k = false) : ((List.range m).takeWhile p).length = k := by
 have e : List.range m = List.range k ++ (List.range (m - k)).map (k + ·) := by
  have := List.range_add (n := k) (m := m - k)
  rwa [Nat.add_sub_cancel' hk] at this
 rw [e, List.takeWhile_append_of_pos (fun j hj => h j (List.mem_range.1 hj)), List.length_append, List.length_range]
 rcases he with rfl | he
 ·simp
 ·rcases Nat.eq_zero_or_pos (m - k) with h0 | hp
  ·rw [h0]; simp
  ·obtain ⟨d, hd⟩ : ∃ d, m - k = d + 1 := ⟨m - k - 1, by omega⟩
   rw [hd, List.range_succ_eq_map]
   simp [he]
theorem alike_le (f : List ByteArray → Nat → ByteArray) (l : List (List ByteArray)) : alike f l ≤ least l := by
 have := List.Sublist.length_le (List.takeWhile_sublist (good f l) (l := List.range (least l)))
 simpa [alike] using this
set_option maxHeartbeats 400000 in
theorem atA_calls (w : World) (A : Option Addr) (c : Nat) (l : List ByteArray) (i : Nat) (h : Kd.string.C w A l.length l) (hi : i < l.length) :
  Calls Tryz.prog 73 #[.slice A l.length c, .int .i64 (i : Int)] w fun e w' => e = .returned (.string (atA l i)) ∧ w = w' := by
 obtain ⟨x, hx⟩ : ∃ x, l[i]? = some x := ⟨_, List.getElem?_eq_getElem hi⟩
 obtain ⟨ad, rfl, hc⟩ := elemS h hx
 have HX := Aside0.mk (show atA l i = x by rw [atA, List.getD_eq_getElem?_getD, hx]; rfl)
 have hmax := Kd.C_max h
 clear hx h
 have h1 : (i : Int) < (l.length : Int) := by omega
 go_enter Tryz.func73, Tryz.ntmps73
 go_wp2
 go_ret
 exact ⟨by rw [HX.out]; rfl, rfl⟩
set_option maxHeartbeats 400000 in
theorem atB_calls (w : World) (A : Option Addr) (c : Nat) (l : List ByteArray) (i : Nat) (h : Kd.string.C w A l.length l) (hi : i < l.length) :
  Calls Tryz.prog 75 #[.slice A l.length c, .int .i64 (i : Int)] w fun e w' => e = .returned (.string (atB l i)) ∧ w = w' := by
 obtain ⟨x, hx⟩ : ∃ x, l[l.length - 1 - i]? = some x := ⟨_, List.getElem?_eq_getElem (by omega)⟩
 obtain ⟨ad, rfl, hc⟩ := elemS h hx
 have HX := Aside0.mk (show atB l i = x by rw [atB, List.getD_eq_getElem?_getD, hx]; rfl)
 have hmax := Kd.C_max h
 clear hx h
 have h1 : (0 : Int) ≤ (l.length : Int) - 1 - (i : Int) := by omega
 have h2 : (l.length : Int) - 1 - (i : Int) < (l.length : Int) := by omega
 have h3 : ((l.length : Int) - 1 - (i : Int)).toNat = l.length - 1 - i := by omega
 go_enter Tryz.func75, Tryz.ntmps75
 go_wp2
 go_ret
 exact ⟨by rw [HX.out]; rfl, rfl⟩
set_option maxHeartbeats 1000000 in
set_option maxRecDepth 100000 in
theorem alike1A_calls (w : World) (b0 b1 b2 : Nat) (n : Nat) (A A2 : Option Addr) (c c2 : Nat) (k : List ByteArray) (l : List (List ByteArray)) (h0 : w.cell? ⟨b0, 0, none⟩ = some (.func (.func 73) #[] #[])) (h1 : w.cell? ⟨b1, 0, none⟩ = some (.slice A2 l.length c2)) (h2 : w.cell? ⟨b2, 0, none⟩ = some (.int .i64 (n : Int)))
  (hk : Kd.string.C w A k.length k) (hn : n < k.length) (hl : Kd.C (Kd.slice 9 Kd.string) w A2 l.length l) (hl0 : 0 < l.length) (hln : n < (l.headD []).length) :
  Calls Tryz.prog 96 #[.slice A k.length c, .pointer (some ⟨b0, 0, none⟩), .pointer (some ⟨b2, 0, none⟩), .pointer (some ⟨b1, 0, none⟩)] w fun e w' => e = .returned (.bool (!((atA k n).toList == (atA (l.headD []) n).toList))) ∧ Below w.heap.size w w' := by
 obtain ⟨x, hx⟩ : ∃ x, l[0]? = some x := ⟨_, List.getElem?_eq_getElem hl0⟩
 have hd : l.headD [] = x := by cases l with
  | nil => cases hx
  | cons a l => simpa using hx
 rw [hd] at hln ⊢
 obtain ⟨ad, A0, c0, rfl, hc0, hlc, hC0⟩ := elemL hl hx
 have hc1 : w.cell? ad = some (.slice A0 x.length c0) := by
  have := hc0
  cases ad
  exact this
 have hlz : (0 : Int) < (l.length : Int) := by omega
 have HK := Aside0.mk (fun q => atA_calls (w.drewN q) A c k n (Kd.C_drewN hk q) hn)
 have HK0 := Aside0.mk (fun q => atA_calls (w.drewN q) A0 c0 x n (Kd.C_drewN hC0 q) hln)
 obtain ⟨s1, hs1⟩ : ∃ s, atA k n = s := ⟨_, rfl⟩
 obtain ⟨s2, hs2⟩ : ∃ s, atA x n = s := ⟨_, rfl⟩
 rw [hs1] at HK
 rw [hs2] at HK0
 rw [hs1, hs2]
 clear hk hl hC0 hs1 hs2 hx hd
 go_enter Tryz.func96, Tryz.ntmps96
 go_wp2
 go_quiet ((first | (go_at_call_of 73 (Value.slice A k.length c); refine Calls.quiet_of_same ((HK.out _).mono (fun _ _ h => ⟨h.1, h.2.symm⟩))) | (go_at_call_of 73 (Value.slice A0 x.length c0); refine Calls.quiet_of_same ((HK0.out _).mono (fun _ _ h => ⟨h.1, h.2.symm⟩)))))
 go_wp2
 go_ret
 exact ⟨rfl, by (with_reducible repeat (first | exact Below.refl _ _ | apply pw_below_drewN | apply below_drew))⟩
set_option maxHeartbeats 1000000 in
set_option maxRecDepth 100000 in
theorem alike1B_calls (w : World) (b0 b1 b2 : Nat) (n : Nat) (A A2 : Option Addr) (c c2 : Nat) (k : List ByteArray) (l : List (List ByteArray)) (h0 : w.cell? ⟨b0, 0, none⟩ = some (.func (.func 75) #[] #[])) (h1 : w.cell? ⟨b1, 0, none⟩ = some (.slice A2 l.length c2)) (h2 : w.cell? ⟨b2, 0, none⟩ = some (.int .i64 (n : Int)))
  (hk : Kd.string.C w A k.length k) (hn : n < k.length) (hl : Kd.C (Kd.slice 9 Kd.string) w A2 l.length l) (hl0 : 0 < l.length) (hln : n < (l.headD []).length) :
  Calls Tryz.prog 96 #[.slice A k.length c, .pointer (some ⟨b0, 0, none⟩), .pointer (some ⟨b2, 0, none⟩), .pointer (some ⟨b1, 0, none⟩)] w fun e w' => e = .returned (.bool (!((atB k n).toList == (atB (l.headD []) n).toList))) ∧ Below w.heap.size w w' := by
 obtain ⟨x, hx⟩ : ∃ x, l[0]? = some x := ⟨_, List.getElem?_eq_getElem hl0⟩
 have hd : l.headD [] = x := by cases l with
  | nil => cases hx
  | cons a l => simpa using hx
 rw [hd] at hln ⊢
 obtain ⟨ad, A0, c0, rfl, hc0, hlc, hC0⟩ := elemL hl hx
 have hc1 : w.cell? ad = some (.slice A0 x.length c0) := by
  have := hc0
  cases ad
  exact this
 have hlz : (0 : Int) < (l.length : Int) := by omega
 have HK := Aside0.mk (fun q => atB_calls (w.drewN q) A c k n (Kd.C_drewN hk q) hn)
 have HK0 := Aside0.mk (fun q => atB_calls (w.drewN q) A0 c0 x n (Kd.C_drewN hC0 q) hln)
 obtain ⟨s1, hs1⟩ : ∃ s, atB k n = s := ⟨_, rfl⟩
 obtain ⟨s2, hs2⟩ : ∃ s, atB x n = s := ⟨_, rfl⟩
 rw [hs1] at HK
 rw [hs2] at HK0
 rw [hs1, hs2]
 clear hk hl hC0 hs1 hs2 hx hd
 go_enter Tryz.func96, Tryz.ntmps96
 go_wp2
 go_quiet ((first | (go_at_call_of 75 (Value.slice A k.length c); refine Calls.quiet_of_same ((HK.out _).mono (fun _ _ h => ⟨h.1, h.2.symm⟩))) | (go_at_call_of 75 (Value.slice A0 x.length c0); refine Calls.quiet_of_same ((HK0.out _).mono (fun _ _ h => ⟨h.1, h.2.symm⟩)))))
 go_wp2
 go_ret
 exact ⟨rfl, by (with_reducible repeat (first | exact Below.refl _ _ | apply pw_below_drewN | apply below_drew))⟩
end Go.Proofs.YtcnjbmdnnhbfkaaGreatDoor.Mark
/- zeal.alike, with each of its two functions. (Written by tools/mkg.py.) -/
namespace Go.Proofs.YtcnjbmdnnhbfkaaGreatDoor.Mark
open Go.RowKit Go.Proofs.YtcnjbmdnnhbfkaaGreatDoorW.PrintWords Go.Proofs.YtcnjbmdnnhbfkaaGreatDoorW.PrintLast Go.Proofs.YtcnjbmdnnhbfkaaGreatDoorW.PrintMore Go.Proofs.YtcnjbmdnnhbfkaaGreatDoor.XD
attribute [local go_sem] max2_int min2_int max_two min_two max_three min_three max_four min_four
def lowest (l : List (List ByteArray)) (k : Nat) : Nat := (l.take k).foldl (fun m x => min m x.length) (l.headD []).length
theorem lowest_all (l : List (List ByteArray)) : lowest l l.length = least l := by rw [lowest, List.take_length, least]
theorem lowest_succ {l : List (List ByteArray)} {k : Nat} {x : List ByteArray} (h : l[k]? = some x) : lowest l (k + 1) = min (lowest l k) x.length := by
 obtain ⟨hk, rfl⟩ := List.getElem?_eq_some_iff.1 h
 rw [lowest, List.take_succ_eq_append_getElem hk, List.foldl_append]; rfl
theorem headD_mem {l : List (List ByteArray)} (h : 0 < l.length) : l.headD [] ∈ l := by
 cases l with
 | nil => simp at h
 | cons a l => simp
theorem head_get {l : List (List ByteArray)} (h : 0 < l.length) : l[0]? = some (l.headD []) := by
 cases l with
 | nil => simp at h
 | cons a l => simp
structure Al (B : Nat) (w0 w : World) (f : Nat) (A : Option Addr) (n c : Nat) : Prop where
 below : Below B w0 w
 b0 : w.heap[B]? = some (.cells #[.func (.func f) #[] #[]] 85 (0, 0))
 b1 : w.heap[B + 1]? = some (.cells #[.slice A n c] 34 (0, 0))
theorem Al.mono {B : Nat} {w0 w w1 : World} {f : Nat} {A : Option Addr} {n c : Nat} (h : Al B w0 w f A n c) (hB : B ≤ w.heap.size) (hb : Below w.heap.size w w1) : Al B w0 w1 f A n c := ⟨h.below.trans (hb.mono hB), blk_below h.b0 hb, blk_below h.b1 hb⟩
theorem Al.far {B : Nat} {w0 w : World} {f : Nat} {A : Option Addr} {n c : Nat} (h : Al B w0 w f A n c) {b : Nat} (hb : B + 1 < b) (j : Nat) (u : Value) : Al B w0 (w.setCell ⟨b, j, none⟩ u) f A n c :=
 ⟨below_cell h.below (by omega) _ _, (Below.heap_setCell w ⟨b, j, none⟩ u B (fun e => by have : B = b := e; omega)).trans h.b0, (Below.heap_setCell w ⟨b, j, none⟩ u (B + 1) (fun e => by have : B + 1 = b := e; omega)).trans h.b1⟩
set_option maxHeartbeats 2000000 in
set_option maxRecDepth 100000 in
theorem alikeA_calls (w : World) (A : Option Addr) (c : Nat) (l : List (List ByteArray)) (hl : Kd.C (Kd.slice 9 Kd.string) w A l.length l) (hl0 : 0 < l.length) :
  Calls Tryz.prog 72 #[.func (.func 73) #[] #[], .slice A l.length c] w fun e w' => e = .returned (.int .i64 ((alike atA l : Nat) : Int)) ∧ Below w.heap.size w w' := by
 have eg : ∀ args w, (callFunc 96 args).run Tryz.prog w = .ok (.enter 96 args) w := enters_of Tryz.func96 (by kernel_rfl) rfl
 have EG := Aside0.mk eg
 clear eg
 have hmax := Kd.C_max hl
 have HA := Aside0.mk (⟨below_alloc (below_alloc (Below.refl _ _) _) _, blk_below (blk_new w _) (below_alloc (Below.refl _ _) _), by have := blk_new (w.alloc (.cells #[.func (.func 73) #[] #[]] 85)) (.cells #[.slice A l.length c] 34); simpa using this⟩ : Al w.heap.size w ((w.alloc (.cells #[.func (.func 73) #[] #[]] 85)).alloc (.cells #[.slice A l.length c] 34)) 73 A l.length c)
 have HS := Aside0.mk (show ((w.alloc (.cells #[.func (.func 73) #[] #[]] 85)).alloc (.cells #[.slice A l.length c] 34)).heap.size = w.heap.size + 2 by simp)
 obtain ⟨ad, A0, c0, rfl, hc0, hlc, hC0⟩ := elemL hl (head_get hl0)
 have hc1 : w.cell? ad = some (.slice A0 (l.headD []).length c0) := by
  have := hc0
  cases ad
  exact this
 have hd0 := cell_alloc (cell_alloc hc1 (.cells #[.func (.func 73) #[] #[]] 85)) (.cells #[.slice (some ad) l.length c] 34)
 have hd1 := cell_alloc (cell_alloc hc0 (.cells #[.func (.func 73) #[] #[]] 85)) (.cells #[.slice (some ad) l.length c] 34)
 have hlz : (0 : Int) < (l.length : Int) := by omega
 have HC := Aside0.mk hl
 have hcm := Kd.C_max hC0
 clear hl hC0
 generalize hx0 : (l.headD []).length = m0 at hc0 hc1 hd0 hd1 hlc hcm
 have HX0 := Aside0.mk hx0
 clear hx0
 have hm0 := Kd.C_max HC.out
 go_enter Tryz.func72, Tryz.ntmps72
 go_wp2
 clear hc0 hc1 hd0 hd1
 generalize (w.alloc (.cells #[.func (.func 73) #[] #[]] 85)).alloc (.cells #[.slice (some ad) l.length c] 34) = wb at HA HS ⊢
 go_loopg [5, 15] l.length (fun gg s5 s15 wr => ∃ kk : Nat, kk ≤ l.length ∧ l.length - kk ≤ gg ∧ s15 = .int .i64 kk ∧ s5 = .int .i64 (lowest l kk : Nat) ∧ wb = wr)
 case atStart => exact ⟨0, Nat.zero_le _, by omega, rfl, by rw [← HX0.out]; rfl, rfl⟩
 case round =>
  obtain ⟨kk, hkk, hg, rfl, rfl, rfl⟩ := hrel
  by_cases hlt : kk < l.length
  ·have hltz : (kk : Int) < (l.length : Int) := by omega
   obtain ⟨x, hxk⟩ : ∃ x, l[kk]? = some x := ⟨_, List.getElem?_eq_getElem hlt⟩
   obtain ⟨ad', B0, d0, e, hcell, hl0', -⟩ := elemL (Kd.C_below HC.out HA.out.below) hxk
   injection e with e
   subst e
   have HK := Aside0.mk (lowest_succ hxk)
   clear hxk
   generalize lowest l kk = m at HK ⊢
   by_cases hm : (x.length : Int) < (m : Int)
   ·go_wp2
    go_roundg (l.length - (kk + 1))
    case measure => omega
    case rel => exact ⟨kk + 1, by omega, by omega, by go_num, by rw [HK.out, Nat.min_eq_right (by omega)], rfl⟩
   ·go_wp2
    go_roundg (l.length - (kk + 1))
    case measure => omega
    case rel => exact ⟨kk + 1, by omega, by omega, by go_num, by rw [HK.out, Nat.min_eq_left (by omega)], rfl⟩
  ·have hltz : ¬ (kk : Int) < (l.length : Int) := by omega
   have hkl : kk = l.length := by omega
   subst hkl
   rw [lowest_all]
   have hll : least l ≤ m0 := by rw [← HX0.out]; exact least_le (headD_mem hl0)
   have HLL := Aside0.mk (fun k hk => least_le (l := l) (k := k) hk)
   obtain ⟨ls, hls⟩ : ∃ ls, least l = ls := ⟨_, rfl⟩
   have HLS := Aside0.mk hls
   rw [hls] at hll ⊢
   clear hls
   have HBW := Aside0.mk (show w.heap.size ≤ wb.heap.size by rw [HS.out]; omega)
   have HN := Aside0.mk (show ∃ b, w.heap.size + 1 < b ∧ b = wb.heap.size from ⟨_, by rw [HS.out]; omega, rfl⟩)
   have HA2 := Aside0.mk (HA.out.mono HBW.out (below_alloc (Below.refl _ _) (.cells #[.int .i64 0] 3)))
   have HB2 := Aside0.mk (blk_new wb (.cells #[.int .i64 0] 3))
   go_wp2
   clear hkk hlt hltz
   obtain ⟨b2, hb2, eb⟩ := HN.out
   rw [← eb] at HB2
   rw [← eb]
   have hlm : ls ≤ 9223372036854775807 := by omega
   clear eb HN HBW HS hll
   generalize wb.alloc (.cells #[.int .i64 0] 3) = wc at HA2 HB2 ⊢
   go_loopg [24] ls (fun gg _ wr => ∃ kk : Nat, kk ≤ ls ∧ ls - kk ≤ gg ∧ Aside0 (Al w.heap.size w wr 73 (some ad) l.length c) ∧ Aside0 (wr.heap[b2]? = some (.cells #[.int .i64 (kk : Int)] 3 (0, 0))) ∧ Aside0 (∀ j, j < kk → good atA l j = true))
   case atStart => exact ⟨0, Nat.zero_le _, by omega, HA2, HB2, ⟨fun j hj => absurd hj (Nat.not_lt_zero _)⟩⟩
   case round =>
    clear HA2 HB2 HA
    obtain ⟨kk, hkk, hg, HA, HB, HG⟩ := hrel
    have k0 := (blk_cell HA.out.b0 0).trans rfl
    have k1 := (blk_cell HA.out.b1 0).trans rfl
    have k2 := (blk_cell HB.out 0).trans rfl
    have hsw := Nat.lt_trans hb2 (blk_lt HB.out)
    by_cases hlt : kk < ls
    ·have hltz : (kk : Int) < (ls : Int) := by omega
     have HK0 := Aside0.mk k0
     have HK1 := Aside0.mk k1
     have HK2 := Aside0.mk k2
     have HC4 := Aside0.mk (containsS_calls wr (some ad) c l 96 #[.pointer (some ⟨w.heap.size, 0, none⟩), .pointer (some ⟨b2, 0, none⟩), .pointer (some ⟨w.heap.size + 1, 0, none⟩)] (fun k => !((atA k kk).toList == (atA (l.headD []) kk).toList)) EG.out (Kd.C_below HC.out HA.out.below) (fun W x A1 c1 hW hxm _ hCx =>
      (alike1A_calls W w.heap.size (w.heap.size + 1) b2 kk A1 (some ad) c1 c x l ((hW.cell (p := ⟨w.heap.size, 0, none⟩) (World.block_lt_of_cell? wr _ HK0.out)).trans HK0.out) ((hW.cell (p := ⟨w.heap.size + 1, 0, none⟩) (World.block_lt_of_cell? wr _ HK1.out)).trans HK1.out) ((hW.cell (p := ⟨b2, 0, none⟩) (World.block_lt_of_cell? wr _ HK2.out)).trans HK2.out)
       hCx (by have := HLL.out x hxm; have := HLS.out; omega) (Kd.C_below (Kd.C_below HC.out HA.out.below) hW) hl0 (by have := HLL.out _ (headD_mem hl0); have := HLS.out; omega)).mono fun _ _ h => ⟨h.1, hW.trans (h.2.mono hW.size)⟩))
     obtain ⟨bb, hbb⟩ : ∃ bb, (l.any fun k => !((atA k kk).toList == (atA (l.headD []) kk).toList)) = bb := ⟨_, rfl⟩
     have HBB := Aside0.mk (show good atA l kk = !bb by rw [good, hbb])
     rw [hbb] at HC4
     clear hbb HK0 HK1 HK2
     cases bb
     ·go_wp2_with (go_at_call 76; refine HC4.out.mono ?_; rintro e w1 ⟨rfl, hb⟩; have hA1 := HA.out.mono (by omega) hb; have hB1 := blk_below HB.out hb; have q2 := (blk_cell hB1 0).trans rfl; have z2 := blk_frozen hB1 0; have HA1 := Aside0.mk hA1; have HB1 := Aside0.mk hB1; clear hb hA1 hB1)
      go_roundg (ls - (kk + 1))
      case measure => omega
      case rel =>
       refine ⟨kk + 1, by omega, by omega, ⟨HA1.out.far hb2 _ _⟩, ⟨blk_put HB1.out 0 _ (by simp)⟩, ⟨fun j hj => ?_⟩⟩
       by_cases e : j = kk
       ·subst e; rw [HBB.out]; rfl
       ·exact HG.out j (by omega)
     ·go_wp2_with (go_at_call 76; refine HC4.out.mono ?_; rintro e w1 ⟨rfl, hb⟩; have hA1 := HA.out.mono (by omega) hb; have hB1 := blk_below HB.out hb; have q2 := (blk_cell hB1 0).trans rfl; have HA1 := Aside0.mk hA1; clear hb hA1 hB1)
      go_ret
      exact ⟨by rw [show alike atA l = kk from takeWhile_range _ _ _ (by rw [HLS.out]; omega) HG.out (.inr (by rw [HBB.out]; rfl))]; rfl, HA1.out.below⟩
    ·have hltz : ¬ (kk : Int) < (ls : Int) := by omega
     have hkl : kk = ls := by omega
     subst hkl
     go_wp2
     go_ret
     exact ⟨by rw [show alike atA l = kk from takeWhile_range _ _ _ (by rw [HLS.out]; omega) HG.out (.inl HLS.out.symm)]; rfl, HA.out.below⟩
set_option maxHeartbeats 2000000 in
set_option maxRecDepth 100000 in
theorem alikeB_calls (w : World) (A : Option Addr) (c : Nat) (l : List (List ByteArray)) (hl : Kd.C (Kd.slice 9 Kd.string) w A l.length l) (hl0 : 0 < l.length) :
  Calls Tryz.prog 72 #[.func (.func 75) #[] #[], .slice A l.length c] w fun e w' => e = .returned (.int .i64 ((alike atB l : Nat) : Int)) ∧ Below w.heap.size w w' := by
 have eg : ∀ args w, (callFunc 96 args).run Tryz.prog w = .ok (.enter 96 args) w := enters_of Tryz.func96 (by kernel_rfl) rfl
 have EG := Aside0.mk eg
 clear eg
 have hmax := Kd.C_max hl
 have HA := Aside0.mk (⟨below_alloc (below_alloc (Below.refl _ _) _) _, blk_below (blk_new w _) (below_alloc (Below.refl _ _) _), by have := blk_new (w.alloc (.cells #[.func (.func 75) #[] #[]] 85)) (.cells #[.slice A l.length c] 34); simpa using this⟩ : Al w.heap.size w ((w.alloc (.cells #[.func (.func 75) #[] #[]] 85)).alloc (.cells #[.slice A l.length c] 34)) 75 A l.length c)
 have HS := Aside0.mk (show ((w.alloc (.cells #[.func (.func 75) #[] #[]] 85)).alloc (.cells #[.slice A l.length c] 34)).heap.size = w.heap.size + 2 by simp)
 obtain ⟨ad, A0, c0, rfl, hc0, hlc, hC0⟩ := elemL hl (head_get hl0)
 have hc1 : w.cell? ad = some (.slice A0 (l.headD []).length c0) := by
  have := hc0
  cases ad
  exact this
 have hd0 := cell_alloc (cell_alloc hc1 (.cells #[.func (.func 75) #[] #[]] 85)) (.cells #[.slice (some ad) l.length c] 34)
 have hd1 := cell_alloc (cell_alloc hc0 (.cells #[.func (.func 75) #[] #[]] 85)) (.cells #[.slice (some ad) l.length c] 34)
 have hlz : (0 : Int) < (l.length : Int) := by omega
 have HC := Aside0.mk hl
 have hcm := Kd.C_max hC0
 clear hl hC0
 generalize hx0 : (l.headD []).length = m0 at hc0 hc1 hd0 hd1 hlc hcm
 have HX0 := Aside0.mk hx0
 clear hx0
 have hm0 := Kd.C_max HC.out
 go_enter Tryz.func72, Tryz.ntmps72
 go_wp2
 clear hc0 hc1 hd0 hd1
 generalize (w.alloc (.cells #[.func (.func 75) #[] #[]] 85)).alloc (.cells #[.slice (some ad) l.length c] 34) = wb at HA HS ⊢
 go_loopg [5, 15] l.length (fun gg s5 s15 wr => ∃ kk : Nat, kk ≤ l.length ∧ l.length - kk ≤ gg ∧ s15 = .int .i64 kk ∧ s5 = .int .i64 (lowest l kk : Nat) ∧ wb = wr)
 case atStart => exact ⟨0, Nat.zero_le _, by omega, rfl, by rw [← HX0.out]; rfl, rfl⟩
 case round =>
  obtain ⟨kk, hkk, hg, rfl, rfl, rfl⟩ := hrel
  by_cases hlt : kk < l.length
  ·have hltz : (kk : Int) < (l.length : Int) := by omega
   obtain ⟨x, hxk⟩ : ∃ x, l[kk]? = some x := ⟨_, List.getElem?_eq_getElem hlt⟩
   obtain ⟨ad', B0, d0, e, hcell, hl0', -⟩ := elemL (Kd.C_below HC.out HA.out.below) hxk
   injection e with e
   subst e
   have HK := Aside0.mk (lowest_succ hxk)
   clear hxk
   generalize lowest l kk = m at HK ⊢
   by_cases hm : (x.length : Int) < (m : Int)
   ·go_wp2
    go_roundg (l.length - (kk + 1))
    case measure => omega
    case rel => exact ⟨kk + 1, by omega, by omega, by go_num, by rw [HK.out, Nat.min_eq_right (by omega)], rfl⟩
   ·go_wp2
    go_roundg (l.length - (kk + 1))
    case measure => omega
    case rel => exact ⟨kk + 1, by omega, by omega, by go_num, by rw [HK.out, Nat.min_eq_left (by omega)], rfl⟩
  ·have hltz : ¬ (kk : Int) < (l.length : Int) := by omega
   have hkl : kk = l.length := by omega
   subst hkl
   rw [lowest_all]
   have hll : least l ≤ m0 := by rw [← HX0.out]; exact least_le (headD_mem hl0)
   have HLL := Aside0.mk (fun k hk => least_le (l := l) (k := k) hk)
   obtain ⟨ls, hls⟩ : ∃ ls, least l = ls := ⟨_, rfl⟩
   have HLS := Aside0.mk hls
   rw [hls] at hll ⊢
   clear hls
   have HBW := Aside0.mk (show w.heap.size ≤ wb.heap.size by rw [HS.out]; omega)
   have HN := Aside0.mk (show ∃ b, w.heap.size + 1 < b ∧ b = wb.heap.size from ⟨_, by rw [HS.out]; omega, rfl⟩)
   have HA2 := Aside0.mk (HA.out.mono HBW.out (below_alloc (Below.refl _ _) (.cells #[.int .i64 0] 3)))
   have HB2 := Aside0.mk (blk_new wb (.cells #[.int .i64 0] 3))
   go_wp2
   clear hkk hlt hltz
   obtain ⟨b2, hb2, eb⟩ := HN.out
   rw [← eb] at HB2
   rw [← eb]
   have hlm : ls ≤ 9223372036854775807 := by omega
   clear eb HN HBW HS hll
   generalize wb.alloc (.cells #[.int .i64 0] 3) = wc at HA2 HB2 ⊢
   go_loopg [24] ls (fun gg _ wr => ∃ kk : Nat, kk ≤ ls ∧ ls - kk ≤ gg ∧ Aside0 (Al w.heap.size w wr 75 (some ad) l.length c) ∧ Aside0 (wr.heap[b2]? = some (.cells #[.int .i64 (kk : Int)] 3 (0, 0))) ∧ Aside0 (∀ j, j < kk → good atB l j = true))
   case atStart => exact ⟨0, Nat.zero_le _, by omega, HA2, HB2, ⟨fun j hj => absurd hj (Nat.not_lt_zero _)⟩⟩
   case round =>
    clear HA2 HB2 HA
    obtain ⟨kk, hkk, hg, HA, HB, HG⟩ := hrel
    have k0 := (blk_cell HA.out.b0 0).trans rfl
    have k1 := (blk_cell HA.out.b1 0).trans rfl
    have k2 := (blk_cell HB.out 0).trans rfl
    have hsw := Nat.lt_trans hb2 (blk_lt HB.out)
    by_cases hlt : kk < ls
    ·have hltz : (kk : Int) < (ls : Int) := by omega
     have HK0 := Aside0.mk k0
     have HK1 := Aside0.mk k1
     have HK2 := Aside0.mk k2
     have HC4 := Aside0.mk (containsS_calls wr (some ad) c l 96 #[.pointer (some ⟨w.heap.size, 0, none⟩), .pointer (some ⟨b2, 0, none⟩), .pointer (some ⟨w.heap.size + 1, 0, none⟩)] (fun k => !((atB k kk).toList == (atB (l.headD []) kk).toList)) EG.out (Kd.C_below HC.out HA.out.below) (fun W x A1 c1 hW hxm _ hCx =>
      (alike1B_calls W w.heap.size (w.heap.size + 1) b2 kk A1 (some ad) c1 c x l ((hW.cell (p := ⟨w.heap.size, 0, none⟩) (World.block_lt_of_cell? wr _ HK0.out)).trans HK0.out) ((hW.cell (p := ⟨w.heap.size + 1, 0, none⟩) (World.block_lt_of_cell? wr _ HK1.out)).trans HK1.out) ((hW.cell (p := ⟨b2, 0, none⟩) (World.block_lt_of_cell? wr _ HK2.out)).trans HK2.out)
       hCx (by have := HLL.out x hxm; have := HLS.out; omega) (Kd.C_below (Kd.C_below HC.out HA.out.below) hW) hl0 (by have := HLL.out _ (headD_mem hl0); have := HLS.out; omega)).mono fun _ _ h => ⟨h.1, hW.trans (h.2.mono hW.size)⟩))
     obtain ⟨bb, hbb⟩ : ∃ bb, (l.any fun k => !((atB k kk).toList == (atB (l.headD []) kk).toList)) = bb := ⟨_, rfl⟩
     have HBB := Aside0.mk (show good atB l kk = !bb by rw [good, hbb])
     rw [hbb] at HC4
     clear hbb HK0 HK1 HK2
     cases bb
     ·go_wp2_with (go_at_call 76; refine HC4.out.mono ?_; rintro e w1 ⟨rfl, hb⟩; have hA1 := HA.out.mono (by omega) hb; have hB1 := blk_below HB.out hb; have q2 := (blk_cell hB1 0).trans rfl; have z2 := blk_frozen hB1 0; have HA1 := Aside0.mk hA1; have HB1 := Aside0.mk hB1; clear hb hA1 hB1)
      go_roundg (ls - (kk + 1))
      case measure => omega
      case rel =>
       refine ⟨kk + 1, by omega, by omega, ⟨HA1.out.far hb2 _ _⟩, ⟨blk_put HB1.out 0 _ (by simp)⟩, ⟨fun j hj => ?_⟩⟩
       by_cases e : j = kk
       ·subst e; rw [HBB.out]; rfl
       ·exact HG.out j (by omega)
     ·go_wp2_with (go_at_call 76; refine HC4.out.mono ?_; rintro e w1 ⟨rfl, hb⟩; have hA1 := HA.out.mono (by omega) hb; have hB1 := blk_below HB.out hb; have q2 := (blk_cell hB1 0).trans rfl; have HA1 := Aside0.mk hA1; clear hb hA1 hB1)
      go_ret
      exact ⟨by rw [show alike atB l = kk from takeWhile_range _ _ _ (by rw [HLS.out]; omega) HG.out (.inr (by rw [HBB.out]; rfl))]; rfl, HA1.out.below⟩
    ·have hltz : ¬ (kk : Int) < (ls : Int) := by omega
     have hkl : kk = ls := by omega
     subst hkl
     go_wp2
     go_ret
     exact ⟨by rw [show alike atB l = kk from takeWhile_range _ _ _ (by rw [HLS.out]; omega) HG.out (.inl HLS.out.symm)]; rfl, HA.out.below⟩
end Go.Proofs.YtcnjbmdnnhbfkaaGreatDoor.Mark
/- zeal.cut, Trim$3: what they compute. -/
namespace Go.Proofs.YtcnjbmdnnhbfkaaGreatDoor.Mark
open Go.RowKit Go.Proofs.YtcnjbmdnnhbfkaaGreatDoorW.PrintWords Go.Proofs.YtcnjbmdnnhbfkaaGreatDoor.XD
def midL (k : List ByteArray) (a b : Nat) : List ByteArray := (k.take (k.length - b)).drop a
def cutL (l : List (List ByteArray)) (a b : Nat) : List (List ByteArray) := l.map fun k => midL k a b
theorem midL_length {k : List ByteArray} {a b : Nat} (h : a + b ≤ k.length) : (midL k a b).length = k.length - b - a := by
 rw [midL, List.length_drop, List.length_take]; omega
theorem cutL_snoc {l : List (List ByteArray)} {k : Nat} {x : List ByteArray} (a b : Nat) (h : l[k]? = some x) : cutL (l.take (k + 1)) a b = cutL (l.take k) a b ++ [midL x a b] := by
 obtain ⟨hk, rfl⟩ := List.getElem?_eq_some_iff.1 h
 rw [cutL, cutL, List.take_succ_eq_append_getElem hk, List.map_append]; rfl
theorem cut_at (w : World) (P : Nat → Prop) (A : Option Addr) (c : Nat) (x : List ByteArray) (a b : Nat) (hf : Kd.F Kd.string w P A x.length x) (hc : x.length ≤ c) (hab : a + b ≤ x.length) :
  ∃ A' c', (∀ W : World, (Instr.slice 25 (.slice A x.length c) (some (.int .i64 (a : Int))) (some (.int .i64 ((x.length : Int) - (b : Int)))) none).run Tryz.prog W = .ok (.slice A' (midL x a b).length c') W) ∧ (midL x a b).length ≤ c' ∧ Kd.F Kd.string w P A' (midL x a b).length (midL x a b) := by
 obtain ⟨i, hi, hz⟩ := Option.map_eq_some_iff.1 info9
 simp only [Prod.mk.injEq] at hz
 have h := cut_mid (P := Tryz.prog) 25 9 .i64 .i64 Tryz.underlying25 hi 1 hz.2.1 A x.length c (a : Int) ((x.length : Int) - (b : Int)) (by omega) (by omega) (by omega) hc
 rw [show ((x.length : Int) - (b : Int)).toNat = x.length - b by omega, Int.toNat_natCast] at h
 refine ⟨if c = a then A else A.map (·.add (a * 1)), c - a, fun W => ?_, by rw [midL_length hab]; omega, ?_⟩
 ·rw [h W, midL_length hab]
 ·exact Kd.F_mid (lo := a) (hi := x.length - b) hf (by omega) (by omega) hc
set_option maxHeartbeats 1000000 in
set_option maxRecDepth 100000 in
theorem cut_calls (w : World) (P : Nat → Prop) (A : Option Addr) (n c : Nat) (l : List (List ByteArray)) (a b : Nat) (hx : Kd.V (Kd.slice 9 Kd.string) 25 w w.heap.size P (.slice A n c) l) (hab : ∀ k ∈ l, a + b ≤ k.length) (hl : l.length ≤ 1000000) :
  Calls Tryz.prog 74 #[.slice A n c, .int .i64 (a : Int), .int .i64 (b : Int)] w fun e w' => ∃ v, e = .returned v ∧ Kd.N (Kd.slice 9 Kd.string) 25 w' w.heap.size (fun k => P k ∨ w.heap.size ≤ k) v (cutL l a b) ∧ Below w.heap.size w w' := by
 have hx := Kd.V_bound hx
 obtain ⟨rfl, hcc, _⟩ := Kd.V_reads' hx
 have HX := Aside0.mk hx
 have HAB := Aside0.mk hab
 clear hx hab
 go_enter Tryz.func74, Tryz.ntmps74
 go_wp2
 go_loopg [7, 12] l.length (fun gg s7 s12 wr => ∃ kk : Nat, kk ≤ l.length ∧ l.length - kk ≤ gg ∧ s12 = .int .i64 kk ∧ Aside0 (Kd.N (Kd.slice 9 Kd.string) 25 wr w.heap.size (fun k => P k ∨ w.heap.size ≤ k) s7 (cutL (l.take kk) a b)) ∧ Aside0 (Below w.heap.size w wr))
 case atStart => exact ⟨0, Nat.zero_le _, by omega, rfl, ⟨Kd.N_nil _ _ _ _ _⟩, ⟨Below.refl _ _⟩⟩
 case round =>
  obtain ⟨kk, hkk, hg, rfl, HN, HB⟩ := hrel
  by_cases hlt : kk < l.length
  ·have hltz : (kk : Int) < (l.length : Int) := by omega
   obtain ⟨x, hxk⟩ : ∃ x, l[kk]? = some x := ⟨_, List.getElem?_eq_getElem hlt⟩
   obtain ⟨ad, A0, c0, rfl, hcell, hl0, hF⟩ := elemV (Kd.V_below HX.out HB.out) hxk
   have habx := HAB.out x (List.mem_of_getElem? hxk)
   obtain ⟨A', c', hsl, hlm, hFm⟩ := cut_at wr _ A0 c0 x a b hF hl0 habx
   have hxm := Kd.F_max hF
   have HK := Aside0.mk (cutL_snoc a b hxk)
   have hlk : (cutL (l.take kk) a b).length = kk := by rw [cutL, List.length_map, List.length_take]; omega
   have HLK := Aside0.mk hlk
   have HFM := Aside0.mk hFm
   clear hF hxk hFm hlk
   generalize midL x a b = m at hsl hlm HFM HK
   go_wp2_with (at_builtin; refine Kd.N_append (Kd.slice 9 Kd.string) (w0 := w) w.heap.size rfl (.tmp 16) (.tmp 24) 34 25 (.slice none 0 0) 24 rfl Tryz.underlying34 info25' rfl (by decide) (by decide) u7 (cutL (l.take kk) a b) m [.slice A' m.length c'] (fun k => P k ∨ w.heap.size ≤ k) (fun k => P k ∧ k < w.heap.size) rfl rfl (Kd.FK_slice_mk hlm HFM.out) (fun k hk => ⟨.inl hk.1, fun e => absurd (Kd.N_base HN.out k e.symm) (by have := hk.2; omega)⟩) (fun k hk => .inr (Nat.le_trans HB.out.size hk)) HN.out HB.out HB.out.size (by rw [HLK.out]; omega) ?_; intro v1 w1 hT hB1 _ _; have HT := Aside0.mk hT; have HB1 := Aside0.mk hB1; clear hT hB1)
   go_roundg (l.length - (kk + 1))
   case measure => omega
   case rel => exact ⟨kk + 1, by omega, by omega, by go_num, ⟨by rw [HK.out]; exact HT.out⟩, HB1⟩
  ·have hltz : ¬ (kk : Int) < (l.length : Int) := by omega
   have hkl : kk = l.length := by omega
   subst hkl
   go_wp2
   go_ret
   refine ⟨_, rfl, ?_, HB.out⟩
   have := HN.out
   rw [List.take_length] at this
   exact this
set_option maxHeartbeats 400000 in
theorem some_calls (w : World) (A : Option Addr) (c : Nat) (l : List ByteArray) : Calls Tryz.prog 77 #[.slice A l.length c] w fun e w' => e = .returned (.bool (decide (0 < l.length))) ∧ Below w.heap.size w w' := by
 by_cases h : 0 < l.length
 ·have h1 : decide (0 < l.length) = true := by simpa using h
  go_enter Tryz.func77, Tryz.ntmps77
  go_wp2
  go_ret
  exact ⟨by simp [h], Below.refl _ _⟩
 ·have h1 : decide (0 < l.length) = false := by simpa using h
  go_enter Tryz.func77, Tryz.ntmps77
  go_wp2
  go_ret
  exact ⟨by simp [h], Below.refl _ _⟩
#print axioms cut_calls
end Go.Proofs.YtcnjbmdnnhbfkaaGreatDoor.Mark
/- zeal.Trim: what it computes. -/
namespace Go.Proofs.YtcnjbmdnnhbfkaaGreatDoor.Mark
open Go.RowKit Go.Proofs.YtcnjbmdnnhbfkaaGreatDoorW.PrintWords Go.Proofs.YtcnjbmdnnhbfkaaGreatDoor.XD
theorem N_new {α : Type} (d : Kd α) {W : World} {base e : Nat} {xs : List α} {inner : List Value} {ok okp : Nat → Prop} (hrep : Reps (Kd.FK d W okp) d.sz xs inner) (hok : ∀ k, okp k → ok k) (hfresh : ok W.heap.size) (hbase : base ≤ W.heap.size) (hm : xs.length ≤ 9223372036854775807) :
  Kd.N d e (W.alloc (.cells inner.toArray e)) base ok (.slice (some ⟨W.heap.size, 0, none⟩) xs.length xs.length) xs := by
 have h2 := World.ownsRow_lit (base := base) (e := e) (size := d.sz) W inner.toArray xs.length hbase (by simpa [maxLen] using hm) (by simpa using hrep.1)
 refine Kd.N_made (rows := Kd.chunks d.sz xs.length inner) ⟨fun k hk => by simpa [Value.ownBlock] using hk.symm, inner, by rw [Kd.chunks_length]; exact h2, reps_raw' hrep⟩ (World.grownBy_alloc W _ none) ⟨W.heap.size, by simp [Value.ownBlock], Nat.le_refl _⟩ (Kd.chunks_length _ _ _) (fun j y c hy hc => by rw [Kd.chunks_get hc]; exact hrep.2 j y hy) hok hfresh
where reps_raw' {α : Type} {d : Kd α} {W : World} {xs : List α} {inner : List Value} {okp : Nat → Prop} (hrep : Reps (Kd.FK d W okp) d.sz xs inner) {W' : World} {b : Nat} {ok' : Nat → Prop} : Reps ((Kd.raw d.sz).M W' b ok') (Kd.raw d.sz).sz (Kd.chunks d.sz xs.length inner) inner :=
 Kd.reps_raw hrep (fun _ _ hk => ⟨d.K_len (Kd.FK_now hk), d.K_one (Kd.FK_now hk)⟩)
theorem take_at (w : World) (P : Nat → Prop) (A : Option Addr) (c : Nat) (x : List ByteArray) (m : Nat) (hf : Kd.F Kd.string w P A x.length x) (hc : x.length ≤ c) (hm : m ≤ x.length) :
  (∀ W : World, (Instr.slice 25 (.slice A x.length c) none (some (.int .i64 (m : Int))) none).run Tryz.prog W = .ok (.slice A (x.take m).length c) W) ∧ (x.take m).length ≤ c ∧ Kd.F Kd.string w P A (x.take m).length (x.take m) := by
 obtain ⟨i, hi, hz⟩ := Option.map_eq_some_iff.1 info9
 have hl : (x.take m).length = m := by rw [List.length_take]; omega
 refine ⟨fun W => ?_, by omega, Kd.F_take hf hm⟩
 have h := cut_to (P := Tryz.prog) 25 9 .i64 Tryz.underlying25 hi A x.length c (m : Int) (by omega) (by omega) hc W
 rw [h, hl, Int.toNat_natCast]
theorem drop_at (w : World) (P : Nat → Prop) (A : Option Addr) (c : Nat) (x : List ByteArray) (m : Nat) (hf : Kd.F Kd.string w P A x.length x) (hc : x.length ≤ c) (hm : m ≤ x.length) :
  ∃ A' c', (∀ W : World, (Instr.slice 25 (.slice A x.length c) (some (.int .i64 ((x.length : Int) - (m : Int)))) none none).run Tryz.prog W = .ok (.slice A' (x.drop (x.length - m)).length c') W) ∧ (x.drop (x.length - m)).length ≤ c' ∧ Kd.F Kd.string w P A' (x.drop (x.length - m)).length (x.drop (x.length - m)) := by
 obtain ⟨i, hi, hz⟩ := Option.map_eq_some_iff.1 info9
 simp only [Prod.mk.injEq] at hz
 have hl : (x.drop (x.length - m)).length = m := by rw [List.length_drop]; omega
 have h := cut_from (P := Tryz.prog) 25 9 .i64 Tryz.underlying25 hi 1 hz.2.1 A x.length c ((x.length : Int) - (m : Int)) (by omega) (by omega)
 rw [show ((x.length : Int) - (m : Int)).toNat = x.length - m by omega] at h
 refine ⟨if c = x.length - m then A else A.map (·.add ((x.length - m) * 1)), c - (x.length - m), fun W => ?_, by omega, Kd.F_cut hf (by omega) hc⟩
 rw [h W, hl, show x.length - (x.length - m) = m by omega]
theorem alike_fit (f : List ByteArray → Nat → ByteArray) {l : List (List ByteArray)} {k : List ByteArray} (h : k ∈ l) : alike f l ≤ k.length := Nat.le_trans (alike_le f l) (least_le h)
theorem cutL_length (l : List (List ByteArray)) (a b : Nat) : (cutL l a b).length = l.length := List.length_map ..
theorem cutL_head {l : List (List ByteArray)} (h : 0 < l.length) (a b : Nat) : (cutL l a b).headD [] = midL (l.headD []) a b := by
 cases l with
 | nil => simp at h
 | cons x l => rfl
def ahead (p : Piece) : Nat := alike atA p.f3
def rest (p : Piece) : List (List ByteArray) := cutL p.f3 (ahead p) 0
def behind (p : Piece) : Nat := alike atB (rest p)
def first (p : Piece) : List ByteArray := p.f3.headD []
def textA (p : Piece) : Piece := ⟨false, (first p).take (ahead p), [], []⟩
def midP (p : Piece) : Piece := ⟨true, [], p.f2, cutL (rest p) 0 (behind p)⟩
def textB (p : Piece) : Piece := ⟨false, (first p).drop ((first p).length - behind p), [], []⟩
def trimC (p : Piece) : List Piece := if (rest p).any (fun k => decide (0 < k.length)) = true then norm [textA p, midP p, textB p] else norm [textA p]
def trim (p : Piece) : List Piece := if p.f0 = false ∨ p.f3.length = 0 then norm [p] else trimC p
theorem reps_one {α : Type} {R : α → List Value → Prop} {sz : Nat} {x : α} {cs : List Value} (h : R x cs) (hl : cs.length = sz) : Reps R sz [x] cs := by
 have := (Reps.none R sz).snoc h hl
 simpa using this
theorem reps_two {α : Type} {R : α → List Value → Prop} {x y : α} {a0 a1 a2 a3 b0 b1 b2 b3 : Value} (h : R x [a0, a1, a2, a3]) (h2 : R y [b0, b1, b2, b3]) : Reps R 4 [x, y] [a0, a1, a2, a3, b0, b1, b2, b3] := by
 have := (reps_one (sz := 4) h rfl).snoc h2 rfl
 simpa using this
def RowOut (w : World) (P : Nat → Prop) (r : List Piece) (e : Ending) (w' : World) : Prop := ∃ v, e = .returned v ∧ Kd.N k36 36 w' w.heap.size (fun k => P k ∨ w.heap.size ≤ k) v r ∧ Below w.heap.size w w'
set_option maxHeartbeats 1000000 in
set_option maxRecDepth 100000 in
theorem trim_plain (w : World) (P : Nat → Prop) (p : Piece) (A1 : Option Addr) (c1 : Nat) (A2 : Option Addr) (c2 : Nat) (A3 : Option Addr) (c3 : Nat) (hp : PV w P p A1 c1 A2 c2 A3 c3) (hw : wt [p] ≤ 1000000) (h : p.f0 = false ∨ p.f3.length = 0) :
  Calls Tryz.prog 50 #[pv p A1 c1 A2 c2 A3 c3] w (RowOut w P (norm [p])) := by
 have hu := Tryz.underlying36
 have hp := hp.bound
 have K : ∀ b, p.f0 = b → Aside0 (Calls Tryz.prog 51 #[.slice (some ⟨w.heap.size + 1, 0, none⟩) 1 1] ((w.alloc (.cells #[.bool b, .slice A1 p.f1.length c1, .slice A2 p.f2.length c2, .slice A3 p.f3.length c3] 36)).alloc (.cells #[.bool b, .slice A1 p.f1.length c1, .slice A2 p.f2.length c2, .slice A3 p.f3.length c3] 36)) (RowOut w P (norm [p]))) := fun b hb => ⟨by
  subst hb
  have hV := N_new k36 (W := w.alloc (.cells #[.bool p.f0, .slice A1 p.f1.length c1, .slice A2 p.f2.length c2, .slice A3 p.f3.length c3] 36)) (e := 36) (base := w.heap.size) (ok := fun k => P k ∨ w.heap.size ≤ k) (reps_one (hp.below (below_alloc (Below.refl _ _) _)).fk rfl) (fun k hk => .inl hk.1) (.inr (by simp)) (by simp) (by simp)
  have hs : (w.alloc (.cells #[.bool p.f0, .slice A1 p.f1.length c1, .slice A2 p.f2.length c2, .slice A3 p.f3.length c3] 36)).heap.size = w.heap.size + 1 := by simp
  rw [hs] at hV
  have hN := normal_calls _ _ _ _ 1 [p] (Kd.N_V hV) (by simp) hw
  refine hN.mono ?_
  rintro e w' ⟨v, rfl, hO, hb⟩
  exact ⟨v, rfl, Kd.N_mono (Kd.N_lower hO (by simp; omega)) (fun k hk => hk.elim (fun h => h) (fun h => .inr (Nat.le_trans (by simp; omega) h))), (below_alloc (below_alloc (Below.refl _ _) _) _).trans (hb.mono (by simp; omega))⟩⟩
 cases hf : p.f0 with
 | false =>
  have HN := K false hf
  clear K hp
  go_enter Tryz.func50, Tryz.ntmps50
  go_wp2_with (fail)
  refine HN.out.mono ?_
  rintro e w' ⟨v, rfl, hO, hb⟩
  have HO := Aside0.mk hO
  have HB := Aside0.mk hb
  clear hO hb
  go_wp2
  go_ret
  exact ⟨_, rfl, HO.out, HB.out⟩
 | true =>
  have h0 : p.f3.length = 0 := h.elim (fun h => by rw [hf] at h; cases h) id
  have t0 : ((p.f3.length : Int) == 0) = true := by simp [h0]
  have HN := K true hf
  clear K hp h0 h
  go_enter Tryz.func50, Tryz.ntmps50
  go_wp2_with (fail)
  refine HN.out.mono ?_
  rintro e w' ⟨v, rfl, hO, hb⟩
  have HO := Aside0.mk hO
  have HB := Aside0.mk hb
  clear hO hb
  go_wp2
  go_ret
  exact ⟨_, rfl, HO.out, HB.out⟩
set_option maxHeartbeats 4000000 in
set_option maxRecDepth 100000 in
theorem trim_conflict (w : World) (P : Nat → Prop) (p : Piece) (A1 : Option Addr) (c1 : Nat) (A2 : Option Addr) (c2 : Nat) (A3 : Option Addr) (c3 : Nat) (hp : PV w P p A1 c1 A2 c2 A3 c3) (hf : p.f0 = true) (hn : 0 < p.f3.length) (hm : p.f3.length ≤ 1000000) (hw : wt [textA p, midP p, textB p] ≤ 1000000) :
  Calls Tryz.prog 50 #[pv p A1 c1 A2 c2 A3 c3] w (RowOut w P (trimC p)) := by
 have hu := Tryz.underlying36
 have hp := hp.bound
 have t0 : ((p.f3.length : Int) == 0) = false := beq_eq_false_iff_ne.2 (by omega)
 have HP := Aside0.mk (hp.below (below_alloc (Below.refl _ _) (.cells #[.bool true, .slice A1 p.f1.length c1, .slice A2 p.f2.length c2, .slice A3 p.f3.length c3] 36)))
 have HX := Aside0.mk (boxed w (.bool true) (.slice A1 p.f1.length c1) (.slice A2 p.f2.length c2) (.slice A3 p.f3.length c3) 36)
 have HW := Aside0.mk (show Below w.heap.size w (w.alloc (.cells #[.bool true, .slice A1 p.f1.length c1, .slice A2 p.f2.length c2, .slice A3 p.f3.length c3] 36)) from below_alloc (Below.refl _ _) _)
 have HL := Aside0.mk (alikeA_calls _ A3 c3 p.f3 (Kd.F_now HP.out.g3) hn)
 clear hp
 go_enter Tryz.func50, Tryz.ntmps50
 go_wp2_with (fail)
 generalize w.alloc (.cells #[.bool true, .slice A1 p.f1.length c1, .slice A2 p.f2.length c2, .slice A3 p.f3.length c3] 36) = wa at HP HX HW HL ⊢
 refine HL.out.mono ?_
 rintro e w1 ⟨rfl, hb1⟩
 clear HL
 have HAF := Aside0.mk (fun k (hk : k ∈ p.f3) => alike_fit atA hk)
 have HAD := Aside0.mk (show ahead p = alike atA p.f3 from rfl)
 rw [← HAD.out] at HAF ⊢
 have C1 := Aside0.mk hb1
 clear hb1
 have XX := Aside0.mk (fun W (hW : Below wa.heap.size wa W) => HX.out.below hW)
 have PP := Aside0.mk (fun W (hW : Below wa.heap.size wa W) => HP.out.below hW)
 obtain ⟨-, k1, k2, k3⟩ := XX.out w1 C1.out
 have hcut := cut_calls w1 _ A3 p.f3.length c3 p.f3 (ahead p) 0 (Kd.V_mk (e := 25) (PP.out w1 C1.out).l3 (PP.out w1 C1.out).g3) (fun k hk => by have := HAF.out k hk; omega) hm
 rw [show ((0 : Nat) : Int) = 0 from rfl, show cutL p.f3 (ahead p) 0 = rest p from rfl] at hcut
 have HC := Aside0.mk hcut
 clear hcut
 go_wp2_with (fail)
 refine HC.out.mono ?_
 rintro e w2 ⟨v2, rfl, hN2, hb2⟩
 clear HC k1 k2 k3
 obtain ⟨A4, c4, e4⟩ := Kd.N_slice hN2
 subst e4
 have HRL := Aside0.mk (show (rest p).length = p.f3.length from cutL_length _ _ _)
 have C2 := Aside0.mk (C1.out.trans (hb2.mono C1.out.size))
 have hbase2 := Nat.le_trans HW.out.size C1.out.size
 have N2 := Aside0.mk (Kd.N_mono (Kd.N_lower hN2 hbase2) (ok' := fun k => (P k ∧ k < w.heap.size) ∨ w.heap.size ≤ k) (fun k hk => hk.imp_right (Nat.le_trans hbase2)))
 clear hN2 hb2
 obtain ⟨-, k1, k2, k3⟩ := XX.out w2 C2.out
 have HB := Aside0.mk (alikeB_calls w2 A4 c4 (rest p) (Kd.N_reads' N2.out).2.2 (by rw [HRL.out]; exact hn))
 go_wp2_with (fail)
 refine HB.out.mono ?_
 rintro e w3 ⟨rfl, hb3⟩
 clear HB k1 k2 k3
 have HBF := Aside0.mk (fun k (hk : k ∈ rest p) => alike_fit atB hk)
 have HBD := Aside0.mk (show behind p = alike atB (rest p) from rfl)
 rw [← HBD.out] at HBF ⊢
 have C3 := Aside0.mk (C2.out.trans (hb3.mono C2.out.size))
 have N3 := Aside0.mk (Kd.N_below N2.out hb3)
 clear hb3
 -- the first side
 obtain ⟨ad, A0, c0, eA, hc0, hl0, hF0⟩ := elemV (Kd.V_mk (e := 25) (base := 0) (PP.out w3 C3.out).l3 (PP.out w3 C3.out).g3) (head_get hn)
 subst eA
 have hc1 : w3.cell? ad = some (.slice A0 (p.f3.headD []).length c0) := by
  have := hc0
  cases ad
  exact this
 have HFD := Aside0.mk (show p.f3.headD [] = first p from rfl)
 have hfa : ahead p ≤ (first p).length := HAF.out _ (headD_mem hn)
 rw [HFD.out] at hc0 hc1 hl0 hF0
 obtain ⟨hsl, hlt, hFt⟩ := take_at w3 _ A0 c0 (first p) (ahead p) hF0 hl0 hfa
 have hnz : (0 : Int) < (p.f3.length : Int) := by omega
 obtain ⟨-, k1, k2, k3⟩ := XX.out w3 C3.out
 have HF0 := Aside0.mk hF0
 have HFT := Aside0.mk hFt
 clear hFt hF0
 obtain ⟨ta, hta⟩ : ∃ ta, (first p).take (ahead p) = ta := ⟨_, rfl⟩
 have HTA := Aside0.mk (show textA p = ⟨false, ta, [], []⟩ by rw [textA, hta])
 rw [hta] at hsl hlt HFT
 clear hta
 have hbase3 := Nat.le_trans HW.out.size C3.out.size
 have N4 := Aside0.mk (N_new k36 (W := w3) (e := 36) (base := w.heap.size) (ok := fun k => (P k ∧ k < w.heap.size) ∨ w.heap.size ≤ k) (reps_one (PV.fk (x := ⟨false, ta, [], []⟩) ⟨hlt, HFT.out, Nat.le_refl _, Kd.F_nil _ _ _, Nat.le_refl _, Kd.F_nil _ _ _⟩) rfl) (fun _ hk => .inl hk) (.inr hbase3) hbase3 (by simp))
 have R4 := Aside0.mk (Kd.N_alloc (Kd.N_bound N3.out) (.cells #[.bool false, .slice A0 ta.length c0, .slice none 0 0, .slice none 0 0] 36))
 have C4 := Aside0.mk (C3.out.alloc C3.out.size (.cells #[.bool false, .slice A0 ta.length c0, .slice none 0 0, .slice none 0 0] 36))
 have F4 := Aside0.mk (Kd.F_alloc HF0.out (.cells #[.bool false, .slice A0 ta.length c0, .slice none 0 0, .slice none 0 0] 36))
 have S4 := Aside0.mk (show w3.heap.size < (w3.alloc (.cells #[.bool false, .slice A0 ta.length c0, .slice none 0 0, .slice none 0 0] 36)).heap.size by simp)
 have eg : ∀ args w, (callFunc 77 args).run Tryz.prog w = .ok (.enter 77 args) w := enters_of Tryz.func77 (by kernel_rfl) rfl
 have EG := Aside0.mk eg
 clear eg
 go_wp2_with (fail)
 clear k1 k2 k3 hsl hc0 hc1
 have HS := Aside0.mk (containsS_calls _ A4 c4 (rest p) 77 #[] (fun k => decide (0 < k.length)) EG.out (Kd.N_reads' R4.out).2.2 (fun W x A c hW _ _ _ => (some_calls W A c x).mono fun _ _ h => ⟨h.1, hW.trans (h.2.mono hW.size)⟩))
 generalize w3.alloc (.cells #[.bool false, .slice A0 ta.length c0, .slice none 0 0, .slice none 0 0] 36) = w4 at N4 R4 C4 F4 S4 HS ⊢
 have S4' := S4.out
 generalize w3.heap.size = s3 at N4 R4 S4 S4' hbase3 ⊢
 obtain ⟨bb, hbb⟩ : ∃ bb, (rest p).any (fun k => decide (0 < k.length)) = bb := ⟨_, rfl⟩
 rw [hbb] at HS
 have HBB := Aside0.mk (show trimC p = if bb = true then norm [textA p, midP p, textB p] else norm [textA p] by rw [trimC, hbb])
 clear hbb
 refine HS.out.mono ?_
 rintro e w5 ⟨rfl, hb5⟩
 clear HS
 have C5 := Aside0.mk (C4.out.trans (hb5.mono C4.out.size))
 have N5 := Aside0.mk (Kd.N_below N4.out hb5)
 have R5 := Aside0.mk (Kd.N_below R4.out hb5)
 have F5 := Aside0.mk (Kd.F_below F4.out hb5)
 have S5 : s3 < w5.heap.size := Nat.lt_of_lt_of_le S4' hb5.size
 clear hb5 N4 R4 F4 S4 S4'
 have hbase5 := Nat.le_trans HW.out.size C5.out.size
 cases bb
 ·-- nothing is left in the middle
  have HNo := Aside0.mk (normal_calls w5 _ _ 1 1 [⟨false, ta, [], []⟩] (Kd.N_V N5.out) (by simp) (by
   rw [← HTA.out]
   have : wt [textA p, midP p, textB p] = wt [textA p] + wt [midP p, textB p] := by simp [wt]
   omega))
  go_wp2_with (fail)
  refine HNo.out.mono ?_
  rintro e w6 ⟨v6, rfl, hN6, hb6⟩
  have N6 := Aside0.mk hN6
  have B6 := Aside0.mk hb6
  clear hN6 hb6 HNo
  go_wp2
  go_ret
  rw [HBB.out, if_neg (by simp), HTA.out]
  exact ⟨_, rfl, Kd.N_mono (Kd.N_lower N6.out hbase5) (fun k hk => hk.elim (fun h => h.imp_left (·.1)) (fun h => .inr (Nat.le_trans hbase5 h))), HW.out.trans ((C5.out.mono HW.out.size).trans (B6.out.mono hbase5))⟩
 ·have HD := Aside0.mk (drop_at w5 _ A0 c0 (first p) (behind p) F5.out hl0 (by have := HBF.out _ (headD_mem (l := rest p) (by rw [HRL.out]; exact hn)); rw [show (rest p).headD [] = midL (first p) (ahead p) 0 from cutL_head hn _ _, midL_length (by omega)] at this; omega))
  obtain ⟨A5, c5, hsl5, hl5, hF5⟩ := HD.out
  obtain ⟨tb, htb⟩ : ∃ tb, (first p).drop ((first p).length - behind p) = tb := ⟨_, rfl⟩
  have HTB := Aside0.mk (show textB p = ⟨false, tb, [], []⟩ by rw [textB, htb])
  rw [htb] at hsl5 hl5 hF5
  clear htb HD
  have HF5 := Aside0.mk hF5
  clear hF5
  have hcut := cut_calls w5.drew _ A4 (rest p).length c4 (rest p) 0 (behind p) (Kd.V_drew (Kd.N_V R5.out)) (fun k hk => by have := HBF.out k hk; omega) (by rw [HRL.out]; exact hm)
  rw [show ((0 : Nat) : Int) = 0 from rfl] at hcut
  have HC := Aside0.mk hcut
  clear hcut
  have hmid : ∃ m, cutL (rest p) 0 (behind p) = m := ⟨_, rfl⟩
  obtain ⟨md, hmd⟩ := hmid
  have HMD := Aside0.mk (show midP p = ⟨true, [], p.f2, md⟩ by rw [midP, hmd])
  rw [hmd] at HC
  clear hmd
  obtain ⟨-, k1, k2, k3⟩ := XX.out w5 C5.out
  have bx5 := World.block_lt_of_cell? w5 _ k2
  have hfb : (behind p : Int) ≤ ((first p).length : Int) := by have := HBF.out _ (headD_mem (l := rest p) (by rw [HRL.out]; exact hn)); rw [show (rest p).headD [] = midL (first p) (ahead p) 0 from cutL_head hn _ _, midL_length (by omega)] at this; omega
  go_wp2_with (fail)
  have hlf := Kd.F_max F5.out
  have HPS := Aside0.mk (show ∀ k, (P k ∧ k < w.heap.size) → ((P k ∧ k < w.heap.size) ∨ w.heap.size ≤ k) ∧ k ≠ s3 from fun k hk => ⟨.inl hk, by omega⟩)
  have hwr : IntKind.i64.wrap (((first p).length : Int) - (behind p : Int)) = ((first p).length : Int) - (behind p : Int) := IntWalk.i64_in _ (by omega)
  go_region_law (first | (go_simp; go_at_call 74; refine HC.out.mono ?_; rintro e w6 ⟨v6, rfl, hN6, hb6⟩; obtain ⟨A6, c6, e6⟩ := Kd.N_slice hN6; subst e6; have N6 := Aside0.mk hN6; have B6 := Aside0.mk (show Below w5.heap.size w5 w6 from (below_drew (Below.refl _ w5)).trans hb6); have q2 := (hb6.cell bx5).trans k2; have P6 := (PP.out w6 (C5.out.trans (B6.out.mono C5.out.size))); have F56 := Kd.F_below HF5.out B6.out; have HR6 := N_new k36 (W := w6) (e := 36) (base := w.heap.size) (ok := fun k => ((P k ∧ k < w.heap.size) ∨ w.heap.size ≤ k) ∧ k ≠ s3) (okp := fun k => ((P k ∧ k < w.heap.size) ∨ w.heap.size ≤ k) ∧ k ≠ s3) (reps_two (PV.fk (x := ⟨true, [], p.f2, md⟩) ⟨Nat.le_refl _, Kd.F_nil _ _ _, P6.l2, Kd.F_mono P6.g2 (fun k h => HPS.out k h), (Kd.N_reads' N6.out).2.1, Kd.F_mono (Kd.N_F N6.out) (fun k hk => hk.elim (fun h => ⟨h.1, Nat.ne_of_lt h.2⟩) (fun h => ⟨.inr (Nat.le_trans hbase5 h), Nat.ne_of_gt (Nat.lt_of_lt_of_le S5 h)⟩))⟩) (PV.fk (x := ⟨false, tb, [], []⟩) ⟨hl5, Kd.F_mono F56 (fun k h => HPS.out k h), Nat.le_refl _, Kd.F_nil _ _ _, Nat.le_refl _, Kd.F_nil _ _ _⟩)) (fun _ h => h) ⟨.inr (Nat.le_trans hbase5 B6.out.size), Nat.ne_of_gt (Nat.lt_of_lt_of_le S5 B6.out.size)⟩ (Nat.le_trans hbase5 B6.out.size) (by simp); have HR6 := Aside0.mk HR6; clear hN6 hb6 P6 F56; go_simp) | (refine Kd.N_append_rows_step k36 (w0 := w) (W := w6.alloc (.cells #[.bool true, .slice none 0 0, .slice A2 p.f2.length c2, .slice A6 md.length c6, .bool false, .slice A5 tb.length c5, .slice none 0 0, .slice none 0 0] 36)) w.heap.size ?hw (.tmp 40) (.tmp 54) 22 36 (.agg #[(.bool false), (.slice none 0 0), (.slice none 0 0), (.slice none 0 0)]) 80 ?ho Tryz.underlying22 info36 rfl (by decide) (by decide) (.slice (some ⟨s3, 0, none⟩) 1 1) [⟨false, ta, [], []⟩] [⟨true, [], p.f2, md⟩, ⟨false, tb, [], []⟩] (some ⟨w6.heap.size, 0, none⟩) 2 2 (fun k => (P k ∧ k < w.heap.size) ∨ w.heap.size ≤ k) (fun k => ((P k ∧ k < w.heap.size) ∨ w.heap.size ≤ k) ∧ k ≠ s3) ?hs ?hx ?aO ?aR ?aK ?aF ?aB ?aS ?aL ?_; (case hw => rfl); (case ho => rfl); (case hs => rfl); (case hx => rfl); (case aO => exact Kd.N_alloc (Kd.N_below N5.out B6.out) _); (case aR => exact Kd.N_F HR6.out); (case aK => exact fun k hk => ⟨hk.1, fun e => hk.2 (by simpa [Value.ownBlock] using e)⟩); (case aF => exact fun k hk => .inr (by have := B6.out.size; simp at hk; omega)); (case aB => exact (HW.out.trans ((C5.out.mono HW.out.size).trans (B6.out.mono hbase5))).alloc (Nat.le_trans hbase5 B6.out.size) _); (case aS => simp; have := B6.out.size; omega); (case aL => simp); intro v7 w7 hN7 hb7 _ _; obtain ⟨A7, c7, e7⟩ := Kd.N_slice hN7; subst e7; have N7 := Aside0.mk hN7; have B7 := Aside0.mk hb7; clear hN7 hb7))
  all_goals
   have HNo := Aside0.mk (normal_calls w7 _ A7 _ c7 _ (Kd.N_V N7.out) (by simp) (by
    have : wt ([⟨false, ta, [], []⟩] ++ [⟨true, [], p.f2, md⟩, ⟨false, tb, [], []⟩]) = wt [textA p, midP p, textB p] := by rw [HTA.out, HMD.out, HTB.out]; rfl
    omega))
   have HNl := Aside0.mk (show norm ([⟨false, ta, [], []⟩] ++ [⟨true, [], p.f2, md⟩, ⟨false, tb, [], []⟩]) = norm [textA p, midP p, textB p] by rw [HTA.out, HMD.out, HTB.out]; rfl)
   go_wp2_with (fail)
   refine HNo.out.mono ?_
   rintro e w8 ⟨v8, rfl, hN8, hb8⟩
   have N8 := Aside0.mk hN8
   have B8 := Aside0.mk hb8
   clear hN8 hb8 HNo
   go_wp2
   go_ret
   rw [HBB.out, if_pos (by simp), ← HNl.out]
   exact ⟨_, rfl, Kd.N_mono (Kd.N_lower N8.out B7.out.size) (fun k hk => hk.elim (fun h => h.imp_left (·.1)) (fun h => .inr (Nat.le_trans B7.out.size h))), B7.out.trans (B8.out.mono B7.out.size)⟩
theorem trim_calls (w : World) (P : Nat → Prop) (p : Piece) (A1 : Option Addr) (c1 : Nat) (A2 : Option Addr) (c2 : Nat) (A3 : Option Addr) (c3 : Nat) (hp : PV w P p A1 c1 A2 c2 A3 c3) (hm : p.f3.length ≤ 1000000) (hw1 : wt [p] ≤ 1000000) (hw : wt [textA p, midP p, textB p] ≤ 1000000) :
  Calls Tryz.prog 50 #[pv p A1 c1 A2 c2 A3 c3] w (RowOut w P (trim p)) := by
 by_cases h : p.f0 = false ∨ p.f3.length = 0
 ·rw [trim, if_pos h]; exact trim_plain w P p A1 c1 A2 c2 A3 c3 hp hw1 h
 ·rw [trim, if_neg h]; exact trim_conflict w P p A1 c1 A2 c2 A3 c3 hp (by cases hf : p.f0 with | true => rfl | false => exact absurd (.inl hf) h) (by have := fun e => h (.inr e); omega) hm hw
#print axioms trim_calls
end Go.Proofs.YtcnjbmdnnhbfkaaGreatDoor.Mark
/- zeal.Zeal: what it computes. -/
namespace Go.Proofs.YtcnjbmdnnhbfkaaGreatDoor.Mark
open Go.RowKit Go.Proofs.YtcnjbmdnnhbfkaaGreatDoorW.PrintWords Go.Proofs.YtcnjbmdnnhbfkaaGreatDoor.XD
def szP (p : Piece) : Nat := p.f1.length + p.f2.length + p.f3.length + p.f3.flatten.length
def tot (l : List Piece) : Nat := (l.map szP).sum
theorem tot_append (a b : List Piece) : tot (a ++ b) = tot a + tot b := by simp [tot]
theorem tot_mem {l : List Piece} {p : Piece} (h : p ∈ l) : szP p ≤ tot l := by
 induction l with
 | nil => cases h
 | cons q l ih =>
  simp only [tot, List.map_cons, List.sum_cons]
  rcases List.mem_cons.1 h with rfl | h
  ·omega
  ·have := ih h
   simp only [tot] at this
   omega
theorem wt_le_tot (l : List Piece) : wt l ≤ tot l := by
 induction l with
 | nil => simp [wt]
 | cons q l ih =>
  simp only [tot, wt, List.map_cons, List.sum_cons, szP] at ih ⊢
  omega
theorem mem_flat_le {l : List (List ByteArray)} {x : List ByteArray} (h : x ∈ l) : x.length ≤ l.flatten.length := by
 induction l with
 | nil => cases h
 | cons y l ih =>
  rcases List.mem_cons.1 h with rfl | h
  ·simp
  ·have := ih h
   simp only [List.flatten_cons, List.length_append]
   omega
theorem cutL_flat (l : List (List ByteArray)) (a b : Nat) : (cutL l a b).flatten.length ≤ l.flatten.length := by
 induction l with
 | nil => simp [cutL]
 | cons y l ih =>
  simp only [cutL, List.map_cons, List.flatten_cons, List.length_append] at ih ⊢
  have : (midL y a b).length ≤ y.length := by rw [midL, List.length_drop, List.length_take]; omega
  omega
theorem first_le (p : Piece) : (first p).length ≤ p.f3.flatten.length := by
 rw [first]
 cases h : p.f3 with
 | nil => simp
 | cons x l => simp
theorem putR_tot (out : List Piece) (x : Piece) : tot (putR out x) ≤ tot out + szP x := by
 unfold putR
 split
 ·rw [tot_append]; simp [tot, szP]
 ·split
  ·omega
  ·rcases List.eq_nil_or_concat out with hn | ⟨ini, y, hn⟩
   ·rw [hn]; simp [tot, szP]; omega
   ·have hg : out.getLast? = some y := by rw [hn]; simp
    rw [hg]
    by_cases hy : y.f0 = true
    ·simp only [if_pos hy]; rw [tot_append]; simp [tot, szP]; omega
    ·simp only [if_neg hy]
     rw [hn]
     simp only [List.concat_eq_append, List.length_append, List.length_cons, List.length_nil, Nat.zero_add, Nat.add_sub_cancel, List.set_append_right, Nat.le_refl, Nat.sub_self, List.set_cons_zero, tot_append]
     simp [tot, szP]; omega
theorem fold_tot (xs : List Piece) : ∀ out, tot (xs.foldl putR out) ≤ tot out + tot xs := by
 induction xs with
 | nil => intro out; simp [tot]
 | cons x xs ih =>
  intro out
  have h1 := ih (putR out x)
  have h3 := putR_tot out x
  simp only [List.foldl_cons]
  have : tot (x :: xs) = szP x + tot xs := by simp [tot]
  omega
theorem norm_tot (xs : List Piece) : tot (norm xs) ≤ tot xs := by have := fold_tot xs []; simpa [tot, norm] using this
theorem norm_len (xs : List Piece) : (norm xs).length ≤ xs.length := by have := (fold_le xs []).1; simpa [norm] using this
theorem trim_three (p : Piece) : wt [textA p, midP p, textB p] ≤ 2 * szP p ∧ tot [textA p, midP p, textB p] ≤ 3 * szP p := by
 have h1 : (textA p).f1.length ≤ (first p).length := by rw [textA]; simp only [List.length_take]; omega
 have h2 : (textB p).f1.length ≤ (first p).length := by rw [textB]; simp only [List.length_drop]; omega
 have h3 := first_le p
 have h4 : (rest p).flatten.length ≤ p.f3.flatten.length := cutL_flat _ _ _
 have h5 : (cutL (rest p) 0 (behind p)).flatten.length ≤ (rest p).flatten.length := cutL_flat _ _ _
 have h6 : (cutL (rest p) 0 (behind p)).length = p.f3.length := by rw [cutL_length, rest, cutL_length]
 have e1 : wt [textA p, midP p, textB p] = (textA p).f1.length + (textB p).f1.length := by simp [wt, midP]
 have e2 : tot [textA p, midP p, textB p] = (textA p).f1.length + (p.f2.length + (cutL (rest p) 0 (behind p)).length + (cutL (rest p) 0 (behind p)).flatten.length) + (textB p).f1.length := by simp [tot, szP, textA, midP, textB]; omega
 rw [e1, e2]
 simp only [szP]
 omega
theorem trim_len (p : Piece) : (trim p).length ≤ 3 := by
 unfold trim trimC
 split
 ·exact Nat.le_trans (norm_len _) (by simp)
 ·split
  ·exact norm_len _
  ·exact Nat.le_trans (norm_len _) (by simp)
theorem trim_tot (p : Piece) : tot (trim p) ≤ 3 * szP p := by
 have h := (trim_three p).2
 unfold trim trimC
 split
 ·refine Nat.le_trans (norm_tot _) ?_
  simp [tot]; omega
 ·split
  ·exact Nat.le_trans (norm_tot _) h
  ·refine Nat.le_trans (norm_tot _) ?_
   have : tot [textA p, midP p, textB p] = tot [textA p] + tot [midP p, textB p] := by simp [tot]
   omega
theorem flat_trim (l : List Piece) : (l.flatMap trim).length ≤ 3 * l.length ∧ tot (l.flatMap trim) ≤ 3 * tot l := by
 induction l with
 | nil => simp [tot]
 | cons p l ih =>
  rw [List.flatMap_cons, tot_append, List.length_append, List.length_cons]
  have h1 := trim_len p
  have h2 := trim_tot p
  have : tot (p :: l) = szP p + tot l := by simp [tot]
  omega
def zeal (l : List Piece) : List Piece := norm (l.flatMap trim)
theorem zeal_tot (l : List Piece) : tot (zeal l) ≤ 3 * tot l := Nat.le_trans (norm_tot _) (flat_trim l).2
theorem zeal_len (l : List Piece) : (zeal l).length ≤ 3 * l.length := Nat.le_trans (norm_len _) (flat_trim l).1
theorem fm_snoc {l : List Piece} {k : Nat} {x : Piece} (h : l[k]? = some x) : (l.take (k + 1)).flatMap trim = (l.take k).flatMap trim ++ trim x := by
 obtain ⟨hk, rfl⟩ := List.getElem?_eq_some_iff.1 h
 rw [List.take_succ_eq_append_getElem hk, List.flatMap_append]; simp
set_option maxHeartbeats 1000000 in
set_option maxRecDepth 100000 in
theorem zeal_calls (w : World) (P : Nat → Prop) (A : Option Addr) (n c : Nat) (l : List Piece) (hx : Kd.V k36 36 w w.heap.size P (.slice A n c) l) (hl : l.length ≤ 100000) (ht : tot l ≤ 100000) :
  Calls Tryz.prog 31 #[.slice A n c] w (RowOut w P (zeal l)) := by
 have hu := Tryz.underlying36
 have hx := Kd.V_bound hx
 obtain ⟨rfl, hcc, _⟩ := Kd.V_reads' hx
 have HX := Aside0.mk hx
 clear hx
 go_enter Tryz.func31, Tryz.ntmps31
 go_wp2
 go_loopg [3, 8] l.length (fun gg s3 s8 wr => ∃ kk : Nat, kk ≤ l.length ∧ l.length - kk ≤ gg ∧ s8 = .int .i64 kk ∧ Aside0 (Kd.N k36 36 wr w.heap.size (fun k => (P k ∧ k < w.heap.size) ∨ w.heap.size ≤ k) s3 ((l.take kk).flatMap trim)) ∧ Aside0 (Below w.heap.size w wr))
 case atStart => exact ⟨0, Nat.zero_le _, by omega, rfl, ⟨Kd.N_nil _ _ _ _ _⟩, ⟨Below.refl _ _⟩⟩
 case round =>
  obtain ⟨kk, hkk, hg, rfl, HN, HB⟩ := hrel
  by_cases hlt : kk < l.length
  ·have hltz : (kk : Int) < (l.length : Int) := by omega
   obtain ⟨x, hxk⟩ : ∃ x, l[kk]? = some x := ⟨_, List.getElem?_eq_getElem hlt⟩
   obtain ⟨ad, A1, c1, A2, c2, A3, c3, rfl, ⟨h0, h1, h2, h3⟩, hpv⟩ := elemVP (Kd.V_below HX.out HB.out) hxk
   have hsz := tot_mem (List.mem_of_getElem? hxk)
   have h3z := trim_three x
   have hw1 : wt [x] ≤ szP x := by simp [wt, szP]; omega
   have hs3 : x.f3.length ≤ szP x := by simp [szP]; omega
   have HK := Aside0.mk (fm_snoc hxk)
   have HT := Aside0.mk (fun o => trim_calls (wr.alloc o) _ x A1 c1 A2 c2 A3 c3 (hpv.below (below_alloc (Below.refl _ _) o)) (by omega) (by omega) (by omega))
   have HLn := Aside0.mk (show ((l.take kk).flatMap trim).length + (trim x).length ≤ 1000000 by
    have := (flat_trim (l.take kk)).1
    rw [List.length_take] at this
    have := trim_len x
    omega)
   clear hpv hxk hsz h3z hw1 hs3
   have hbs := HB.out.size
   go_wp2_with (first | (go_at_call 50; refine (HT.out _).mono ?_; rintro e w1 ⟨v1, rfl, hN1, hb1⟩; obtain ⟨A5, c5, e5⟩ := Kd.N_slice hN1; subst e5; have N1 := Aside0.mk hN1; have HO := Aside0.mk (Kd.N_below (Kd.N_bound HN.out) ((below_alloc (Below.refl _ _) _).trans (hb1.mono (by simp)))); have HB1 := Aside0.mk ((HB.out.alloc hbs _).trans (hb1.mono (by simp; omega))); have hz1 := Nat.le_trans (show wr.heap.size ≤ _ by simp) hb1.size; clear hN1 hb1) | (at_builtin; refine Kd.N_append_rows k36 (w0 := w) w.heap.size rfl (.tmp 12) (.tmp 14) 22 36 (.agg #[(.bool false), (.slice none 0 0), (.slice none 0 0), (.slice none 0 0)]) 80 rfl Tryz.underlying22 info36 rfl (by decide) (by decide) u3 ((l.take kk).flatMap trim) (trim x) A5 (trim x).length c5 (fun k => (P k ∧ k < w.heap.size) ∨ w.heap.size ≤ k) (fun k => (P k ∧ k < w.heap.size) ∨ wr.heap.size ≤ k) rfl rfl (Kd.N_mono HO.out (fun _ h => h.1)) (Kd.F_mono (Kd.N_F N1.out) (fun k hk => hk.imp_right (fun h => by simp at h; omega))) (fun k hk => ⟨hk.imp_right (Nat.le_trans hbs), fun e => by have h1 := Kd.N_base HO.out k e.symm; have h2 := (HO.out.1 k e.symm).2; rcases hk with hk | hk <;> omega⟩) (fun k hk => .inr (Nat.le_trans HB1.out.size hk)) HB1.out HB1.out.size (by have := HLn.out; omega) ?_; intro v1 w2 hT2 hB2 _ _; have HT2 := Aside0.mk hT2; have HB2 := Aside0.mk hB2; clear hT2 hB2))
   go_roundg (l.length - (kk + 1))
   case measure => omega
   case rel => exact ⟨kk + 1, by omega, by omega, by go_num, ⟨by rw [HK.out]; exact HT2.out⟩, HB2⟩
  ·have hltz : ¬ (kk : Int) < (l.length : Int) := by omega
   have hkl : kk = l.length := by omega
   subst hkl
   obtain ⟨A5, c5, e5⟩ := Kd.N_slice HN.out
   subst e5
   have hN := HN.out
   rw [List.take_length] at hN
   have h3 := flat_trim l
   have h4 := wt_le_tot (l.flatMap trim)
   have HNo := Aside0.mk (normal_calls wr _ A5 (l.flatMap trim).length c5 _ (Kd.N_V hN) (by omega) (by omega))
   have HLe := Aside0.mk (show ((l.take l.length).flatMap trim).length = (l.flatMap trim).length by rw [List.take_length])
   rw [HLe.out]
   have HZ := Aside0.mk (show zeal l = norm (l.flatMap trim) from rfl)
   clear hN h3 h4 HN HLe
   generalize l.flatMap trim = r at HNo HZ ⊢
   go_wp2_with (fail)
   refine HNo.out.mono ?_
   rintro e w8 ⟨v8, rfl, hN8, hb8⟩
   have N8 := Aside0.mk hN8
   have B8 := Aside0.mk hb8
   clear hN8 hb8 HNo
   go_wp2
   go_ret
   rw [HZ.out]
   exact ⟨_, rfl, Kd.N_mono (Kd.N_lower N8.out HB.out.size) (fun k hk => hk.elim (fun h => h.imp_left (·.1)) (fun h => .inr (Nat.le_trans HB.out.size h))), HB.out.trans (B8.out.mono HB.out.size)⟩
#print axioms zeal_calls
end Go.Proofs.YtcnjbmdnnhbfkaaGreatDoor.Mark
