import Derived.Test.YtcnjbmdnnhbfkaaDoorXD0
import Derived.Test.YtcnjbmdnnhbfkaaDoorLib
import Derived.Deep.RegionLaw
import Derived.Lib.Hide
import Derived.Lib.Walk
import Derived.WalkKit
import Derived.Deep.LoopGhost
import Derived.Deep.Draws
import Derived.Laws.EntriesVeiled
/- slices.IndexFunc, ContainsFunc, EqualFunc, Equal at the program's types: what they compute, for a function that is handed in and told by its contract. -/
namespace Go.Proofs.YtcnjbmdnnhbfkaaDoor.Mark
open Go.RowKit Go.Proofs.YtcnjbmdnnhbfkaaDoorW.PrintWords Go.Proofs.YtcnjbmdnnhbfkaaDoor.XD
abbrev Piece := S37
def rdSS (xs : List (List ByteArray)) (i : Int) : List ByteArray := xs.getD i.toNat []
theorem atSS {w : World} {A : Option Addr} {n : Nat} {xs : List (List ByteArray)} (h : Kd.C (Kd.slice 9 Kd.string) w A n xs) (i : Int) (h0 : 0 ≤ i) (h1 : i < n) : ∃ ad A0 c0, A = some ad ∧ w.cell? (ad.add i.toNat) = some (.slice A0 (rdSS xs i).length c0) ∧ (rdSS xs i).length ≤ c0 ∧ Kd.string.C w A0 (rdSS xs i).length (rdSS xs i) := by
  obtain ⟨ad, c, e, _, hK, hc0⟩ := Kd.C_get h ([] : List ByteArray) i h0 h1
  have hc : ∀ j u, c[j]? = some u → w.cell? (ad.add (i.toNat * 1 + j)) = some u := hc0
  obtain ⟨A0, c0, rfl, l0, g0⟩ := hK
  exact ⟨ad, A0, c0, e, by have hq := hc 0 _ rfl; rwa [Nat.mul_one, Nat.add_zero] at hq, l0, g0⟩
def PredS (g : Nat) (cb : Array Value) (p : List ByteArray → Bool) (w : World) (xs : List (List ByteArray)) : Prop :=
  ∀ (W : World) (x : List ByteArray) (A : Option Addr) (c : Nat), Below w.heap.size w W → x ∈ xs → x.length ≤ c → Kd.string.C W A x.length x → Calls Tryd.prog g (#[.slice A x.length c] ++ cb) W fun e w' => e = .returned (.bool (p x)) ∧ Below w.heap.size w w'
def idx {α : Type} (p : α → Bool) (xs : List α) : Int := match xs.findIdx? p with
  | some k => (k : Int)
  | none => -1
theorem idx_hit {α : Type} (p : α → Bool) (xs : List α) (k : Nat) (x : α) (hx : xs[k]? = some x) (hp : p x = true) (hn : ∀ j y, j < k → xs[j]? = some y → p y = false) : idx p xs = k := by
  have hk : k < xs.length := (List.getElem?_eq_some_iff.1 hx).1
  have : xs.findIdx? p = some k := by
    rw [List.findIdx?_eq_some_iff_getElem]
    refine ⟨hk, ?_, fun j hj => ?_⟩
    · have := (List.getElem?_eq_some_iff.1 hx).2
      rw [this]; exact hp
    · have := hn j xs[j] hj (List.getElem?_eq_getElem (by omega))
      rw [this]; simp
  rw [idx, this]
theorem idx_miss {α : Type} (p : α → Bool) (xs : List α) (hn : ∀ (j : Nat) y, xs[j]? = some y → p y = false) : idx p xs = -1 := by
  have : xs.findIdx? p = none := by
    rw [List.findIdx?_eq_none_iff]
    intro x hx
    obtain ⟨j, hj⟩ := List.getElem?_of_mem hx
    exact hn j x hj
  rw [idx, this]
theorem idx_any {α : Type} (p : α → Bool) (xs : List α) : (decide (0 ≤ idx p xs)) = xs.any p := by
  rw [idx]
  rcases h : xs.findIdx? p with _ | k
  · rw [List.findIdx?_eq_none_iff] at h
    have : xs.any p = false := by simpa using h
    rw [this]; simp
  · rw [List.findIdx?_eq_some_iff_getElem] at h
    obtain ⟨hk, hp, _⟩ := h
    have : xs.any p = true := List.any_eq_true.2 ⟨xs[k], List.getElem_mem hk, hp⟩
    rw [this]; simp
set_option maxHeartbeats 1000000 in
theorem indexS_calls (w : World) (A : Option Addr) (c : Nat) (xs : List (List ByteArray)) (g : Nat) (cb : Array Value) (p : List ByteArray → Bool)
    (eg : ∀ args w, (callFunc g args).run Tryd.prog w = .ok (.enter g args) w) (hC : Kd.C (Kd.slice 9 Kd.string) w A xs.length xs) (hp : PredS g cb p w xs) :
    Calls Tryd.prog 92 #[.slice A xs.length c, .func (.func g) #[] cb] w fun e w' => e = .returned (.int .i64 (idx p xs)) ∧ Below w.heap.size w w' := by
  have hmax := Kd.C_max hC
  have HC := Aside0.mk hC
  have HP := Aside0.mk hp
  clear hC hp
  go_enter Tryd.func92, Tryd.ntmps92
  go_wp2
  go_loopg [5, 8] xs.length (fun gg _ s8 wr => ∃ kk : Nat, kk ≤ xs.length ∧ xs.length - kk ≤ gg ∧ s8 = .int .i64 kk ∧ Aside0 (Below w.heap.size w wr) ∧ Aside0 (∀ j y, j < kk → xs[j]? = some y → p y = false))
  case atStart => exact ⟨0, Nat.zero_le _, by omega, rfl, ⟨Below.refl _ w⟩, ⟨fun j _ hj => absurd hj (Nat.not_lt_zero _)⟩⟩
  case round =>
    obtain ⟨kk, hkk, hg, rfl, BW, AA⟩ := hrel
    by_cases hlt : kk < xs.length
    · have hltz : (kk : Int) < (xs.length : Int) := by omega
      obtain ⟨ad, A0, c0, eA, hcell, hl0, hC0⟩ := atSS (Kd.C_below HC.out BW.out) (kk : Int) (by omega) hltz
      subst eA
      have hx : xs[kk]? = some (rdSS xs kk) := by rw [rdSS, Int.toNat_natCast, List.getD_eq_getElem?_getD, List.getElem?_eq_getElem hlt]; rfl
      have hcall := HP.out wr (rdSS xs kk) A0 c0 BW.out (List.mem_of_getElem? hx) hl0 hC0
      generalize rdSS xs kk = y at hcell hcall hx
      have HX := Aside0.mk hx
      clear hx hl0 hC0
      rw [Int.toNat_natCast] at hcell
      cases hq : p y with
      | true =>
        have HQ := Aside0.mk hq
        rw [hq] at hcall
        have HCa := Aside0.mk hcall
        clear hcall hq
        go_wp2_with (go_at_fn g; refine HCa.out.mono ?_; rintro e w' ⟨rfl, hb'⟩)
        go_ret
        refine ⟨?_, hb'⟩
        rw [idx_hit p xs kk y HX.out HQ.out AA.out]; rfl
      | false =>
        have HQ := Aside0.mk hq
        rw [hq] at hcall
        have HCa := Aside0.mk hcall
        clear hcall hq
        go_wp2_with (go_at_fn g; refine HCa.out.mono ?_; rintro e w' ⟨rfl, hb'⟩)
        go_roundg (xs.length - (kk + 1))
        case measure => omega
        case rel =>
          refine ⟨kk + 1, by omega, by omega, by go_num, ⟨hb'⟩, ⟨fun j z hj hz => ?_⟩⟩
          by_cases e : j = kk
          · subst e
            have := HX.out.symm.trans hz
            injection this with this
            rw [← this]; exact HQ.out
          · exact AA.out j z (by omega) hz
    · have hltz : ¬ (kk : Int) < (xs.length : Int) := by omega
      go_wp2
      go_ret
      refine ⟨?_, BW.out⟩
      rw [idx_miss p xs (fun j y hy => AA.out j y (by have := (List.getElem?_eq_some_iff.1 hy).1; omega) hy)]; rfl
set_option maxHeartbeats 1000000 in
theorem containsS_calls (w : World) (A : Option Addr) (c : Nat) (xs : List (List ByteArray)) (g : Nat) (cb : Array Value) (p : List ByteArray → Bool)
    (eg : ∀ args w, (callFunc g args).run Tryd.prog w = .ok (.enter g args) w) (hC : Kd.C (Kd.slice 9 Kd.string) w A xs.length xs) (hp : PredS g cb p w xs) :
    Calls Tryd.prog 70 #[.slice A xs.length c, .func (.func g) #[] cb] w fun e w' => e = .returned (.bool (xs.any p)) ∧ Below w.heap.size w w' := by
  have HI := Aside0.mk (indexS_calls w A c xs g cb p eg hC hp)
  have HA := Aside0.mk (idx_any p xs)
  clear hC hp
  go_enter Tryd.func70, Tryd.ntmps70
  go_wp2_with (go_at_call 92; refine HI.out.mono ?_; rintro e w' ⟨rfl, hb'⟩)
  go_ret
  exact ⟨by rw [← HA.out]; rfl, hb'⟩
/-! ### equal, element by element -/
def eqBy {α β : Type} (q : α → β → Bool) (xs : List α) (ys : List β) : Bool := decide (xs.length = ys.length) && (xs.zip ys).all (fun p => q p.1 p.2)
theorem eqBy_len {α β : Type} (q : α → β → Bool) {xs : List α} {ys : List β} (h : xs.length ≠ ys.length) : eqBy q xs ys = false := by simp [eqBy, h]
theorem eqBy_hit {α β : Type} (q : α → β → Bool) {xs : List α} {ys : List β} {k : Nat} {x : α} {y : β} (hx : xs[k]? = some x) (hy : ys[k]? = some y) (h : q x y = false) : eqBy q xs ys = false := by
  have : (xs.zip ys).all (fun p => q p.1 p.2) = false := by
    rw [List.all_eq_false]
    exact ⟨(x, y), List.mem_of_getElem? (i := k) (by rw [List.getElem?_zip_eq_some]; exact ⟨hx, hy⟩), by simp [h]⟩
  rw [eqBy, this, Bool.and_false]
theorem eqBy_all {α β : Type} (q : α → β → Bool) {xs : List α} {ys : List β} (hl : xs.length = ys.length) (h : ∀ (j : Nat) x y, xs[j]? = some x → ys[j]? = some y → q x y = true) : eqBy q xs ys = true := by
  have : (xs.zip ys).all (fun p => q p.1 p.2) = true := by
    rw [List.all_eq_true]
    rintro ⟨x, y⟩ hm
    obtain ⟨j, hj⟩ := List.getElem?_of_mem hm
    rw [List.getElem?_zip_eq_some] at hj
    exact h j x y hj.1 hj.2
  rw [eqBy, this, hl]; simp
def eqL (xs ys : List ByteArray) : Bool := eqBy (fun a b => a.toList == b.toList) xs ys
theorem elemS {w : World} {A : Option Addr} {n : Nat} {xs : List ByteArray} (h : Kd.string.C w A n xs) {k : Nat} {s : ByteArray} (hs : xs[k]? = some s) : ∃ ad, A = some ad ∧ w.cell? (ad.add k) = some (.string s) := by
  have hk : k < xs.length := (List.getElem?_eq_some_iff.1 hs).1
  obtain ⟨ad, c, e, _, hK, hc⟩ := Kd.C_get h ByteArray.empty (k : Int) (by omega) (by have := Kd.C_len h; omega)
  refine ⟨ad, e, ?_⟩
  have hK' : c = [.string s] := by
    have := hK
    rw [Int.toNat_natCast, List.getD_eq_getElem?_getD, hs] at this
    exact this
  have := hc 0 (.string s) (by rw [hK']; rfl)
  simpa [Kd.string, Kd.scalar] using this
theorem elemL {w : World} {A : Option Addr} {n : Nat} {xs : List (List ByteArray)} (h : Kd.C (Kd.slice 9 Kd.string) w A n xs) {k : Nat} {x : List ByteArray} (hx : xs[k]? = some x) :
    ∃ ad A0 c0, A = some ad ∧ w.cell? (ad.add k) = some (.slice A0 x.length c0) ∧ x.length ≤ c0 ∧ Kd.string.C w A0 x.length x := by
  have hk : k < xs.length := (List.getElem?_eq_some_iff.1 hx).1
  obtain ⟨ad, A0, c0, e, hcell, hl, hC⟩ := atSS h (k : Int) (by omega) (by have := Kd.C_len h; omega)
  have : rdSS xs k = x := by rw [rdSS, Int.toNat_natCast, List.getD_eq_getElem?_getD, hx]; rfl
  rw [this] at hcell hl hC
  rw [Int.toNat_natCast] at hcell
  exact ⟨ad, A0, c0, e, hcell, hl, hC⟩
set_option maxHeartbeats 1000000 in
theorem equalS_calls (w : World) (A1 A2 : Option Addr) (c1 c2 : Nat) (xs ys : List ByteArray) (hx : Kd.string.C w A1 xs.length xs) (hy : Kd.string.C w A2 ys.length ys) :
    Calls Tryd.prog 96 #[.slice A1 xs.length c1, .slice A2 ys.length c2] w fun e w' => e = .returned (.bool (eqL xs ys)) ∧ Below w.heap.size w w' := by
  have hmax := Kd.C_max hx
  have hmay := Kd.C_max hy
  have HX := Aside0.mk hx
  have HY := Aside0.mk hy
  clear hx hy
  by_cases hl : xs.length = ys.length
  · have t0 : ((xs.length : Int) != (ys.length : Int)) = false := by simp [hl]
    have HL := Aside0.mk hl
    clear hl
    go_enter Tryd.func96, Tryd.ntmps96
    go_wp2
    go_loopg [13] xs.length (fun gg s13 wr => ∃ kk q : Nat, kk ≤ xs.length ∧ xs.length - kk ≤ gg ∧ s13 = .int .i64 kk ∧ wr = w.drewN q ∧ Aside0 (∀ (j : Nat) x y, j < kk → xs[j]? = some x → ys[j]? = some y → (x.toList == y.toList) = true))
    case atStart => exact ⟨0, 0, Nat.zero_le _, by omega, rfl, rfl, ⟨fun j _ _ hj => absurd hj (Nat.not_lt_zero _)⟩⟩
    case round =>
      obtain ⟨kk, q, hkk, hg, rfl, rfl, AA⟩ := hrel
      by_cases hlt : kk < xs.length
      · have hltz : (kk : Int) < (xs.length : Int) := by omega
        have hltz2 : (kk : Int) < (ys.length : Int) := by rw [← HL.out]; exact hltz
        have h0z : (0 : Int) ≤ (kk : Int) := by omega
        obtain ⟨x, hxk⟩ : ∃ x, xs[kk]? = some x := ⟨_, List.getElem?_eq_getElem hlt⟩
        obtain ⟨y, hyk⟩ : ∃ y, ys[kk]? = some y := ⟨_, List.getElem?_eq_getElem (by rw [← HL.out]; exact hlt)⟩
        obtain ⟨ad1, rfl, hc1⟩ := elemS HX.out hxk
        obtain ⟨ad2, rfl, hc2⟩ := elemS HY.out hyk
        have HXK := Aside0.mk hxk
        have HYK := Aside0.mk hyk
        clear hxk hyk
        cases hq : (x.toList == y.toList) with
        | false =>
          have hq2 : (!(x.toList == y.toList)) = true := by rw [hq]; rfl
          have HQ := Aside0.mk hq
          clear hq
          go_wp2
          go_quiet (fail)
          go_wp2
          go_ret
          exact ⟨by rw [eqL, eqBy_hit _ HXK.out HYK.out HQ.out]; rfl, by (with_reducible repeat (first | exact Below.refl _ _ | apply pw_below_drewN | apply below_drew))⟩
        | true =>
          have hq2 : (!(x.toList == y.toList)) = false := by rw [hq]; rfl
          have HQ := Aside0.mk hq
          clear hq
          go_wp2
          go_quiet (fail)
          go_wp2
          go_roundg (xs.length - (kk + 1))
          case measure => omega
          case rel =>
            refine ⟨kk + 1, _, by omega, by omega, by go_num, rfl, ⟨fun j a b hj ha hb => ?_⟩⟩
            by_cases e : j = kk
            · subst e
              have h1 := HXK.out.symm.trans ha
              have h2 := HYK.out.symm.trans hb
              injection h1 with h1
              injection h2 with h2
              rw [← h1, ← h2]; exact HQ.out
            · exact AA.out j a b (by omega) ha hb
      · have hltz : ¬ (kk : Int) < (xs.length : Int) := by omega
        go_wp2
        go_ret
        exact ⟨by rw [eqL, eqBy_all _ HL.out (fun j a b ha hb => AA.out j a b (by have := (List.getElem?_eq_some_iff.1 ha).1; omega) ha hb)]; rfl, by (with_reducible repeat (first | exact Below.refl _ _ | apply pw_below_drewN | apply below_drew))⟩
  · have t0 : ((xs.length : Int) != (ys.length : Int)) = true := by simp; omega
    have HL := Aside0.mk hl
    clear hl
    go_enter Tryd.func96, Tryd.ntmps96
    go_wp2
    go_ret
    exact ⟨by rw [eqL, eqBy_len _ HL.out]; rfl, Below.refl _ _⟩
#print axioms containsS_calls
#print axioms equalS_calls
end Go.Proofs.YtcnjbmdnnhbfkaaDoor.Mark

/- slices.ContainsFunc and EqualFunc at pieces and at rows of rows; pick.Same: what they compute. -/
namespace Go.Proofs.YtcnjbmdnnhbfkaaDoor.Mark
open Go.RowKit Go.Proofs.YtcnjbmdnnhbfkaaDoorW.PrintWords Go.Proofs.YtcnjbmdnnhbfkaaDoor.XD
structure PC (W : World) (x : Piece) (A1 : Option Addr) (c1 : Nat) (A2 : Option Addr) (c2 : Nat) (A3 : Option Addr) (c3 : Nat) : Prop where
  l1 : x.f1.length ≤ c1
  g1 : Kd.string.C W A1 x.f1.length x.f1
  l2 : x.f2.length ≤ c2
  g2 : Kd.string.C W A2 x.f2.length x.f2
  l3 : x.f3.length ≤ c3
  g3 : (Kd.slice 9 Kd.string).C W A3 x.f3.length x.f3
theorem PC.below {W W1 : World} {x : Piece} {A1 : Option Addr} {c1 : Nat} {A2 : Option Addr} {c2 : Nat} {A3 : Option Addr} {c3 : Nat} (h : PC W x A1 c1 A2 c2 A3 c3) (hb : Below W.heap.size W W1) : PC W1 x A1 c1 A2 c2 A3 c3 :=
  ⟨h.l1, Kd.C_below h.g1 hb, h.l2, Kd.C_below h.g2 hb, h.l3, Kd.C_below h.g3 hb⟩
abbrev pv (x : Piece) (A1 : Option Addr) (c1 : Nat) (A2 : Option Addr) (c2 : Nat) (A3 : Option Addr) (c3 : Nat) : Value := .agg #[.bool x.f0, .slice A1 x.f1.length c1, .slice A2 x.f2.length c2, .slice A3 x.f3.length c3]
structure C4 (w : World) (a : Addr) (v0 v1 v2 v3 : Value) : Prop where
  h0 : w.cell? a = some v0
  h1 : w.cell? ⟨a.block, a.off + 1, none⟩ = some v1
  h2 : w.cell? ⟨a.block, a.off + 2, none⟩ = some v2
  h3 : w.cell? ⟨a.block, a.off + 3, none⟩ = some v3
theorem cell_new (w : World) (v : Value) (t : TypeId) : (w.alloc (.cells #[v] t)).cell? ⟨w.heap.size, 0, none⟩ = some v := by simp
theorem cell_alloc {w : World} {a : Addr} {v : Value} (h : w.cell? a = some v) (o : Obj) : (w.alloc o).cell? a = some v := (World.cell?_alloc_some w a o (by rw [h]; rfl)).trans h
theorem C4.alloc {w : World} {a : Addr} {v0 v1 v2 v3 : Value} (h : C4 w a v0 v1 v2 v3) (o : Obj) : C4 (w.alloc o) a v0 v1 v2 v3 := ⟨cell_alloc h.h0 o, cell_alloc h.h1 o, cell_alloc h.h2 o, cell_alloc h.h3 o⟩
theorem bcell {W w1 : World} (hb : Below W.heap.size W w1) : (∀ b o, b < W.heap.size → w1.cell? ⟨b, o, none⟩ = W.cell? ⟨b, o, none⟩) ∧ (∀ b o, b < W.heap.size → w1.frozen? ⟨b, o, none⟩ = W.frozen? ⟨b, o, none⟩) :=
  ⟨fun b o h => hb.cell (p := ⟨b, o, none⟩) h, fun b o h => hb.frozen (p := ⟨b, o, none⟩) h⟩
theorem elemP {w : World} {A : Option Addr} {n : Nat} {xs : List Piece} (h : Kd.C k37 w A n xs) {k : Nat} {x : Piece} (hx : xs[k]? = some x) :
    ∃ ad A1 c1 A2 c2 A3 c3, A = some ad ∧ C4 w (ad.add (k * 4)) (.bool x.f0) (.slice A1 x.f1.length c1) (.slice A2 x.f2.length c2) (.slice A3 x.f3.length c3) ∧ PC w x A1 c1 A2 c2 A3 c3 := by
  have hk : k < xs.length := (List.getElem?_eq_some_iff.1 hx).1
  obtain ⟨ad, A1, c1, A2, c2, A3, c3, e, h0, h1, h2, h3, l1, g1, l2, g2, l3, g3⟩ := at_T37 h (k : Int) (by omega) (by have := Kd.C_len h; omega)
  have : rd_T37 xs k = x := by rw [rd_T37, Int.toNat_natCast, List.getD_eq_getElem?_getD, hx]; rfl
  rw [this] at h0 h1 h2 h3 l1 g1 l2 g2 l3 g3
  rw [Int.toNat_natCast] at h0 h1 h2 h3
  exact ⟨ad, A1, c1, A2, c2, A3, c3, e, ⟨h0, h1, h2, h3⟩, ⟨l1, g1, l2, g2, l3, g3⟩⟩
/-! ### EqualFunc -/
set_option maxHeartbeats 1000000 in
theorem equalL_calls (w : World) (A1 A2 : Option Addr) (c1 c2 : Nat) (xs ys : List (List ByteArray)) (hx : Kd.C (Kd.slice 9 Kd.string) w A1 xs.length xs) (hy : Kd.C (Kd.slice 9 Kd.string) w A2 ys.length ys) :
    Calls Tryd.prog 99 #[.slice A1 xs.length c1, .slice A2 ys.length c2, .func (.func 96) #[] #[]] w fun e w' => e = .returned (.bool (eqBy eqL xs ys)) ∧ Below w.heap.size w w' := by
  have hmax := Kd.C_max hx
  have hmay := Kd.C_max hy
  have HX := Aside0.mk hx
  have HY := Aside0.mk hy
  clear hx hy
  by_cases hl : xs.length = ys.length
  · have t0 : ((xs.length : Int) != (ys.length : Int)) = false := by simp [hl]
    have HL := Aside0.mk hl
    clear hl
    go_enter Tryd.func99, Tryd.ntmps99
    go_wp2
    go_loopg [17] xs.length (fun gg s13 wr => ∃ kk : Nat, kk ≤ xs.length ∧ xs.length - kk ≤ gg ∧ s13 = .int .i64 kk ∧ Aside0 (Below w.heap.size w wr) ∧ Aside0 (∀ (j : Nat) x y, j < kk → xs[j]? = some x → ys[j]? = some y → eqL x y = true))
    case atStart => exact ⟨0, Nat.zero_le _, by omega, rfl, ⟨Below.refl _ _⟩, ⟨fun j _ _ hj => absurd hj (Nat.not_lt_zero _)⟩⟩
    case round =>
      obtain ⟨kk, hkk, hg, rfl, BW, AA⟩ := hrel
      by_cases hlt : kk < xs.length
      · have hltz : (kk : Int) < (xs.length : Int) := by omega
        have hltz2 : (kk : Int) < (ys.length : Int) := by rw [← HL.out]; exact hltz
        obtain ⟨x, hxk⟩ : ∃ x, xs[kk]? = some x := ⟨_, List.getElem?_eq_getElem hlt⟩
        obtain ⟨y, hyk⟩ : ∃ y, ys[kk]? = some y := ⟨_, List.getElem?_eq_getElem (by rw [← HL.out]; exact hlt)⟩
        obtain ⟨ad1, B1, d1, rfl, hc1, _, hC1⟩ := elemL (Kd.C_below HX.out BW.out) hxk
        obtain ⟨ad2, B2, d2, rfl, hc2, _, hC2⟩ := elemL (Kd.C_below HY.out BW.out) hyk
        have HXK := Aside0.mk hxk
        have HYK := Aside0.mk hyk
        have hcall := equalS_calls wr B1 B2 d1 d2 x y hC1 hC2
        clear hxk hyk hC1 hC2
        cases hq : eqL x y with
        | false =>
          have HQ := Aside0.mk hq
          rw [hq] at hcall
          have HCa := Aside0.mk hcall
          clear hq hcall
          go_wp2_with (go_at_call 96; refine HCa.out.mono ?_; rintro e w' ⟨rfl, hb'⟩)
          go_ret
          exact ⟨by rw [eqBy_hit _ HXK.out HYK.out HQ.out]; rfl, BW.out.trans (hb'.mono BW.out.size)⟩
        | true =>
          have HQ := Aside0.mk hq
          rw [hq] at hcall
          have HCa := Aside0.mk hcall
          clear hq hcall
          go_wp2_with (go_at_call 96; refine HCa.out.mono ?_; rintro e w' ⟨rfl, hb'⟩)
          go_roundg (xs.length - (kk + 1))
          case measure => omega
          case rel =>
            refine ⟨kk + 1, by omega, by omega, by go_num, ⟨BW.out.trans (hb'.mono BW.out.size)⟩, ⟨fun j a b hj ha hb => ?_⟩⟩
            by_cases e : j = kk
            · subst e
              have h1 := HXK.out.symm.trans ha
              have h2 := HYK.out.symm.trans hb
              injection h1 with h1
              injection h2 with h2
              rw [← h1, ← h2]; exact HQ.out
            · exact AA.out j a b (by omega) ha hb
      · have hltz : ¬ (kk : Int) < (xs.length : Int) := by omega
        go_wp2
        go_ret
        exact ⟨by rw [eqBy_all _ HL.out (fun j a b ha hb => AA.out j a b (by have := (List.getElem?_eq_some_iff.1 ha).1; omega) ha hb)]; rfl, BW.out⟩
  · have t0 : ((xs.length : Int) != (ys.length : Int)) = true := by simp; omega
    have HL := Aside0.mk hl
    clear hl
    go_enter Tryd.func99, Tryd.ntmps99
    go_wp2
    go_ret
    exact ⟨by rw [eqBy_len _ HL.out]; rfl, Below.refl _ _⟩
def sameB (x y : Piece) : Bool := x.f0 == y.f0 && eqL x.f1 y.f1 && eqL x.f2 y.f2 && eqBy eqL x.f3 y.f3
theorem below2 {w w1 : World} {o o' : Obj} (hb : Below ((w.alloc o).alloc o').heap.size ((w.alloc o).alloc o') w1) : Below w.heap.size w w1 := (below_alloc (below_alloc (Below.refl _ _) o) o').trans (hb.mono (by simp only [World.size_alloc]; omega))
set_option maxHeartbeats 2000000 in
set_option maxRecDepth 100000 in
theorem same1_calls (w : World) (g : Nat) (x y : Piece) (A1 : Option Addr) (c1 : Nat) (A2 : Option Addr) (c2 : Nat) (A3 : Option Addr) (c3 : Nat) (B1 : Option Addr) (d1 : Nat) (B2 : Option Addr) (d2 : Nat) (B3 : Option Addr) (d3 : Nat)
    (hg : w.cell? ⟨g, 0, none⟩ = some (.func (.func 96) #[] #[])) (hx : PC w x A1 c1 A2 c2 A3 c3) (hy : PC w y B1 d1 B2 d2 B3 d3) :
    Calls Tryd.prog 98 #[pv x A1 c1 A2 c2 A3 c3, pv y B1 d1 B2 d2 B3 d3, .pointer (some ⟨g, 0, none⟩)] w fun e w' => e = .returned (.bool (sameB x y)) ∧ Below w.heap.size w w' := by
  have hu := Tryd.underlying37
  have hgs := World.block_lt_of_cell? w _ hg
  have HX := Aside0.mk hx
  have HY := Aside0.mk hy
  clear hx hy
  obtain ⟨b0, hb0⟩ : ∃ b, (x.f0 == y.f0) = b := ⟨_, rfl⟩
  obtain ⟨b1, hb1⟩ : ∃ b, eqL x.f1 y.f1 = b := ⟨_, rfl⟩
  obtain ⟨b2, hb2⟩ : ∃ b, eqL x.f2 y.f2 = b := ⟨_, rfl⟩
  obtain ⟨b3, hb3⟩ : ∃ b, eqBy eqL x.f3 y.f3 = b := ⟨_, rfl⟩
  have HS := Aside0.mk (show sameB x y = (b0 && b1 && b2 && b3) by rw [sameB, hb0, hb1, hb2, hb3])
  have k1 : ∀ W, Below w.heap.size w W → Calls Tryd.prog 96 #[.slice A1 x.f1.length c1, .slice B1 y.f1.length d1] W fun e w' => e = .returned (.bool b1) ∧ Below W.heap.size W w' := fun W hW => by
    rw [← hb1]; exact equalS_calls W _ _ _ _ _ _ (Kd.C_below HX.out.g1 hW) (Kd.C_below HY.out.g1 hW)
  have k2 : ∀ W, Below w.heap.size w W → Calls Tryd.prog 96 #[.slice A2 x.f2.length c2, .slice B2 y.f2.length d2] W fun e w' => e = .returned (.bool b2) ∧ Below W.heap.size W w' := fun W hW => by
    rw [← hb2]; exact equalS_calls W _ _ _ _ _ _ (Kd.C_below HX.out.g2 hW) (Kd.C_below HY.out.g2 hW)
  have k3 : ∀ W, Below w.heap.size w W → Calls Tryd.prog 99 #[.slice A3 x.f3.length c3, .slice B3 y.f3.length d3, .func (.func 96) #[] #[]] W fun e w' => e = .returned (.bool b3) ∧ Below W.heap.size W w' := fun W hW => by
    rw [← hb3]; exact equalL_calls W _ _ _ _ _ _ (Kd.C_below HX.out.g3 hW) (Kd.C_below HY.out.g3 hW)
  have K1 := Aside0.mk k1
  have K2 := Aside0.mk k2
  have K3 := Aside0.mk k3
  clear hb1 hb2 hb3 k1 k2 k3
  cases b0
  · go_enter Tryd.func98, Tryd.ntmps98
    go_wp2_with (fail)
    refine (K3.out _ (below_alloc (below_alloc (Below.refl _ _) _) _)).mono ?_
    rintro e w1 ⟨rfl, hb⟩
    have HB := Aside0.mk (below2 hb)
    obtain ⟨hc, hf⟩ := bcell hb
    have hz : w.heap.size + 1 < w1.heap.size := by have := hb.size; simp at this; omega
    have hz0 : w.heap.size < w1.heap.size := by omega
    have hg1 : w1.cell? ⟨g, 0, none⟩ = some (.func (.func 96) #[] #[]) := (HB.out.cell hgs).trans hg
    clear hb
    simp only [World.size_alloc] at hc hf
    go_wp2
    go_ret
    exact ⟨by rw [HS.out]; rfl, HB.out⟩
  · go_enter Tryd.func98, Tryd.ntmps98
    go_wp2_with (fail)
    refine (K3.out _ (below_alloc (below_alloc (Below.refl _ _) _) _)).mono ?_
    rintro e w1 ⟨rfl, hb⟩
    have HB := Aside0.mk (below2 hb)
    obtain ⟨hc, hf⟩ := bcell hb
    have hz : w.heap.size + 1 < w1.heap.size := by have := hb.size; simp at this; omega
    have hz0 : w.heap.size < w1.heap.size := by omega
    have hg1 : w1.cell? ⟨g, 0, none⟩ = some (.func (.func 96) #[] #[]) := (HB.out.cell hgs).trans hg
    clear hb
    simp only [World.size_alloc] at hc hf
    cases b1
    · go_wp2_with (fail)
      refine (K1.out _ HB.out).mono ?_
      rintro e w2 ⟨rfl, hb2⟩
      have HB2 := Aside0.mk (HB.out.trans (hb2.mono HB.out.size))
      clear hb2
      go_wp2
      go_ret
      exact ⟨by rw [HS.out]; rfl, HB2.out⟩
    · go_wp2_with (fail)
      refine (K1.out _ HB.out).mono ?_
      rintro e w2 ⟨rfl, hb2⟩
      have HB2 := Aside0.mk (HB.out.trans (hb2.mono HB.out.size))
      obtain ⟨hc2, hf2⟩ := bcell hb2
      have hz2 : w.heap.size + 1 < w2.heap.size := by have := hb2.size; omega
      have hz3 : w.heap.size < w2.heap.size := by omega
      have hg2 : w2.cell? ⟨g, 0, none⟩ = some (.func (.func 96) #[] #[]) := (HB2.out.cell hgs).trans hg
      clear hb2
      go_wp2_with (fail)
      refine (K2.out _ HB2.out).mono ?_
      rintro e w3 ⟨rfl, hb3⟩
      have HB3 := Aside0.mk (HB2.out.trans (hb3.mono HB2.out.size))
      clear hb3
      cases b2
      · go_wp2
        go_ret
        exact ⟨by rw [HS.out]; rfl, HB3.out⟩
      · cases b3
        · go_wp2
          go_ret
          exact ⟨by rw [HS.out]; rfl, HB3.out⟩
        · go_wp2
          go_ret
          exact ⟨by rw [HS.out]; rfl, HB3.out⟩
set_option maxHeartbeats 2000000 in
set_option maxRecDepth 100000 in
theorem equalP_calls (w : World) (g : Nat) (A1 A2 : Option Addr) (c1 c2 : Nat) (xs ys : List Piece) (hg : w.cell? ⟨g, 0, none⟩ = some (.func (.func 96) #[] #[])) (hx : Kd.C k37 w A1 xs.length xs) (hy : Kd.C k37 w A2 ys.length ys) :
    Calls Tryd.prog 97 #[.slice A1 xs.length c1, .slice A2 ys.length c2, .func (.func 98) #[] #[.pointer (some ⟨g, 0, none⟩)]] w fun e w' => e = .returned (.bool (eqBy sameB xs ys)) ∧ Below w.heap.size w w' := by
  have hu := Tryd.underlying37
  have hgs := World.block_lt_of_cell? w _ hg
  have hmax := Kd.C_max hx
  have hmay := Kd.C_max hy
  have HG := Aside0.mk hg
  have HX := Aside0.mk hx
  have HY := Aside0.mk hy
  clear hx hy hg
  by_cases hl : xs.length = ys.length
  · have t0 : ((xs.length : Int) != (ys.length : Int)) = false := by simp [hl]
    have HL := Aside0.mk hl
    clear hl
    go_enter Tryd.func97, Tryd.ntmps97
    go_wp2
    go_loopg [17] xs.length (fun gg s13 wr => ∃ kk : Nat, kk ≤ xs.length ∧ xs.length - kk ≤ gg ∧ s13 = .int .i64 kk ∧ Aside0 (Below w.heap.size w wr) ∧ Aside0 (∀ (j : Nat) x y, j < kk → xs[j]? = some x → ys[j]? = some y → sameB x y = true))
    case atStart => exact ⟨0, Nat.zero_le _, by omega, rfl, ⟨Below.refl _ _⟩, ⟨fun j _ _ hj => absurd hj (Nat.not_lt_zero _)⟩⟩
    case round =>
      obtain ⟨kk, hkk, hg, rfl, BW, AA⟩ := hrel
      by_cases hlt : kk < xs.length
      · have hltz : (kk : Int) < (xs.length : Int) := by omega
        have hltz2 : (kk : Int) < (ys.length : Int) := by rw [← HL.out]; exact hltz
        obtain ⟨x, hxk⟩ : ∃ x, xs[kk]? = some x := ⟨_, List.getElem?_eq_getElem hlt⟩
        obtain ⟨y, hyk⟩ : ∃ y, ys[kk]? = some y := ⟨_, List.getElem?_eq_getElem (by rw [← HL.out]; exact hlt)⟩
        obtain ⟨ad1, B1, d1, B2, d2, B3, d3, rfl, hc1, hC1⟩ := elemP (Kd.C_below HX.out BW.out) hxk
        obtain ⟨ad2, D1, e1, D2, e2, D3, e3, rfl, hc2, hC2⟩ := elemP (Kd.C_below HY.out BW.out) hyk
        have HXK := Aside0.mk hxk
        have HYK := Aside0.mk hyk
        have hcall := fun o o' => same1_calls ((wr.alloc o).alloc o') g x y B1 d1 B2 d2 B3 d3 D1 e1 D2 e2 D3 e3 (cell_alloc (cell_alloc ((BW.out.cell hgs).trans HG.out) o) o') ((hC1.below (below_alloc (Below.refl _ _) o)).below (below_alloc (Below.refl _ _) o')) ((hC2.below (below_alloc (Below.refl _ _) o)).below (below_alloc (Below.refl _ _) o'))
        obtain ⟨h10, h11, h12, h13⟩ := hc1
        obtain ⟨h20, h21, h22, h23⟩ := hc2.alloc (.cells #[.bool x.f0, .slice B1 x.f1.length d1, .slice B2 x.f2.length d2, .slice B3 x.f3.length d3] 37)
        clear hxk hyk hC1 hC2 hc2
        cases hq : sameB x y with
        | false =>
          have HQ := Aside0.mk hq
          rw [hq] at hcall
          have HCa := Aside0.mk hcall
          clear hq hcall
          go_wp2_with (go_at_call 98; refine (HCa.out _ _).mono ?_; rintro e w' ⟨rfl, hb'⟩)
          go_ret
          exact ⟨by rw [eqBy_hit _ HXK.out HYK.out HQ.out]; rfl, BW.out.trans ((below2 hb').mono BW.out.size)⟩
        | true =>
          have HQ := Aside0.mk hq
          rw [hq] at hcall
          have HCa := Aside0.mk hcall
          clear hq hcall
          go_wp2_with (go_at_call 98; refine (HCa.out _ _).mono ?_; rintro e w' ⟨rfl, hb'⟩)
          go_roundg (xs.length - (kk + 1))
          case measure => omega
          case rel =>
            refine ⟨kk + 1, by omega, by omega, by go_num, ⟨BW.out.trans ((below2 hb').mono BW.out.size)⟩, ⟨fun j a b hj ha hb => ?_⟩⟩
            by_cases e : j = kk
            · subst e
              have h1 := HXK.out.symm.trans ha
              have h2 := HYK.out.symm.trans hb
              injection h1 with h1
              injection h2 with h2
              rw [← h1, ← h2]; exact HQ.out
            · exact AA.out j a b (by omega) ha hb
      · have hltz : ¬ (kk : Int) < (xs.length : Int) := by omega
        go_wp2
        go_ret
        exact ⟨by rw [eqBy_all _ HL.out (fun j a b ha hb => AA.out j a b (by have := (List.getElem?_eq_some_iff.1 ha).1; omega) ha hb)]; rfl, BW.out⟩
  · have t0 : ((xs.length : Int) != (ys.length : Int)) = true := by simp; omega
    have HL := Aside0.mk hl
    clear hl
    go_enter Tryd.func97, Tryd.ntmps97
    go_wp2
    go_ret
    exact ⟨by rw [eqBy_len _ HL.out]; rfl, Below.refl _ _⟩
theorem same_calls (w : World) (A1 A2 : Option Addr) (c1 c2 : Nat) (xs ys : List Piece) (hx : Kd.C k37 w A1 xs.length xs) (hy : Kd.C k37 w A2 ys.length ys) :
    Calls Tryd.prog 76 #[.slice A1 xs.length c1, .slice A2 ys.length c2] w fun e w' => e = .returned (.bool (eqBy sameB xs ys)) ∧ Below w.heap.size w w' := by
  have HC := Aside0.mk (fun t => equalP_calls (w.alloc (.cells #[.func (.func 96) #[] #[]] t)) w.heap.size A1 A2 c1 c2 xs ys (cell_new w _ _) (Kd.C_alloc hx _) (Kd.C_alloc hy _))
  clear hx hy
  go_enter Tryd.func76, Tryd.ntmps76
  go_wp2_with (fail)
  refine (HC.out _).mono ?_
  rintro e w' ⟨rfl, hb⟩
  go_wp2
  go_ret
  exact ⟨rfl, (below_alloc (Below.refl _ _) _).trans (hb.mono (by simp))⟩
#print axioms same_calls
end Go.Proofs.YtcnjbmdnnhbfkaaDoor.Mark
