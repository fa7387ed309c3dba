/- pick.Choose: what it computes; its contract. (Written by tools/mkpick.py.) -/
import Derived.Test.YtcnjbmdnnhbfkaaGreatDoorMk2
namespace Go.Proofs.YtcnjbmdnnhbfkaaGreatDoor.Mark
open Go.RowKit Go.Proofs.YtcnjbmdnnhbfkaaGreatDoorW.PrintWords Go.Proofs.YtcnjbmdnnhbfkaaGreatDoorW.PrintLast Go.Proofs.YtcnjbmdnnhbfkaaGreatDoorW.PrintMore Go.Proofs.YtcnjbmdnnhbfkaaGreatDoor.XD
set_option linter.unusedSimpArgs false

/-- What a piece gives, a side chosen. -/
def chooseP (side : Int) (x : Piece) : List ByteArray := if x.f0 = false then x.f1 else if 1 ≤ side ∧ side ≤ x.f3.length then x.f3.getD (side - 1).toNat [] else []
def chooseL (side : Int) (l : List Piece) : List ByteArray := l.flatMap (chooseP side)

/-- The lines' cell lies in block g, the side's in gs; the lines are the call's own row. -/
structure CH (B : Nat) (w : World) (g gs : Nat) (side : Int) (vo : Value) (out : List ByteArray) : Prop where
  hg : B ≤ g
  blk : w.heap[g]? = some (.cells #[vo] 25 (0, 0))
  sd : w.heap[gs]? = some (.cells #[.int .i64 side] 3 (0, 0))
  out : Kd.string.R 9 w B (fun _ => True) vo out
section
variable {B : Nat} {w w1 : World} {g gs : Nat} {side : Int} {vo v1 : Value} {out out1 : List ByteArray}
theorem CH.ne (h : CH B w g gs side vo out) : some g ≠ vo.ownBlock ∧ some gs ≠ vo.ownBlock ∧ g ≠ gs := by
  have blk : ∀ {a b : Nat} {c c' : Array Value} {t t' : TypeId}, w.heap[a]? = some (.cells c t (0, 0)) → w.heap[b]? = some (.cells c' t' (0, 0)) → t ≠ t' → a ≠ b := by
    rintro a b c c' t t' h1 h2 hne rfl
    rw [h1] at h2
    injection h2 with h2
    injection h2 with _ h2
    exact hne h2
  have own : ∀ {a : Nat} {c : Array Value} {t : TypeId}, w.heap[a]? = some (.cells c t (0, 0)) → t ≠ 9 → some a ≠ vo.ownBlock := by
    intro a c t h1 hne e
    obtain ⟨c', hc⟩ := Kd.R_typed h.out a e.symm
    exact blk h1 hc hne rfl
  exact ⟨own h.blk (by decide), own h.sd (by decide), blk h.blk h.sd (by decide)⟩
theorem CH.below (h : CH B w g gs side vo out) (hb : Below w.heap.size w w1) : CH B w1 g gs side vo out := ⟨h.hg, blk_below h.blk hb, blk_below h.sd hb, Kd.R_below h.out hb⟩
theorem CH.more (h : CH B w g gs side vo out) (hg : w.grownBy w1 vo.ownBlock) (hat : v1.ownBlock = vo.ownBlock ∨ ∃ b, v1.ownBlock = some b ∧ w.heap.size ≤ b) (hO : Kd.string.R 9 w1 B (fun _ => True) v1 out1) : CH B (w1.setCell ⟨g, 0, none⟩ v1) g gs side v1 out1 := by
  obtain ⟨n1, n2, n3⟩ := h.ne
  have hlt := blk_lt h.blk
  have hne : some g ≠ v1.ownBlock := by
    rcases hat with hat | ⟨b, hb, hle⟩
    · rw [hat]; exact n1
    · rw [hb]; intro e; injection e with e; omega
  exact ⟨h.hg, blk_put (blk_grown h.blk hg n1) 0 v1 rfl, (Below.heap_setCell _ _ _ _ (Ne.symm n3)).trans (blk_grown h.sd hg n2), Kd.R_mono (Kd.R_far (Kd.R_tight rfl hO) (fun k hk e => hne (by rw [← hk, e])) _) (fun _ _ => trivial)⟩
end
/-- What the closure leaves. -/
def Chosen (w0 : World) (g gs : Nat) (side : Int) (out : List ByteArray) (e : Ending) (w' : World) : Prop := e = .returned (.tuple #[]) ∧ Below w0.heap.size w0 w' ∧ ∃ vo, CH w0.heap.size w' g gs side vo out

set_option maxHeartbeats 2000000 in
set_option maxRecDepth 100000 in
/-- A text comes. -/
theorem choose_text (w0 w : World) (g gs : Nat) (side : Int) (vo : Value) (out : List ByteArray) (x : Piece) (A1 : Option Addr) (c1 : Nat) (A2 : Option Addr) (c2 : Nat) (A3 : Option Addr) (c3 : Nat)
    (h : CH w0.heap.size w g gs side vo out) (hB : Below w0.heap.size w0 w) (hx : PC w x A1 c1 A2 c2 A3 c3) (hf : x.f0 = false) (hm : out.length + x.f1.length ≤ 1000000) :
    Calls Tryz.prog 49 #[pv x A1 c1 A2 c2 A3 c3, .pointer (some ⟨g, 0, none⟩), .pointer (some ⟨gs, 0, none⟩)] w (Chosen w0 g gs side (out ++ x.f1)) := by
  have hu := Tryz.underlying36
  obtain ⟨Av, cv, e⟩ := Kd.R_slice h.out
  subst e
  obtain ⟨k0, k1, k2, k3⟩ := boxed w (.bool x.f0) (.slice A1 x.f1.length c1) (.slice A2 x.f2.length c2) (.slice A3 x.f3.length c3) 36
  have ha := below_alloc (Below.refl w.heap.size w) (.cells #[.bool x.f0, .slice A1 x.f1.length c1, .slice A2 x.f2.length c2, .slice A3 x.f3.length c3] 36)
  have H := Aside0.mk (h.below ha)
  have HX := Aside0.mk (hx.below ha)
  have HB := Aside0.mk (hB.trans (ha.mono hB.size))
  rw [hf] at k0 k1 k2 k3 H HX HB
  clear h hB hx ha
  have p0 := (blk_cell H.out.blk 0).trans rfl
  have hBw := HB.out.size
  go_enter Tryz.func49, Tryz.ntmps49
  go_wp2_with (at_builtin; refine Kd.R_append_rows Kd.string (w0 := w0) (W := w.alloc _) (Rr := Kd.string.K (w.alloc _)) w0.heap.size rfl (.tmp 8) (.tmp 10) 25 9 (.string ⟨#[]⟩) 16 rfl Tryz.underlying25 info9 rfl (by decide) (by decide) (.slice Av out.length cv) out x.f1 A1 x.f1.length c1 (fun _ => True) (fun _ => False) rfl rfl H.out.out HX.out.g1 (fun _ _ h => h) (fun _ h => h.elim) (fun _ _ => trivial) HB.out hBw (by omega) ?_; intro v7 w7 hT7 hB7 hg7 hat7; obtain ⟨A7, c7, e7⟩ := Kd.R_slice hT7; obtain ⟨n7, hn7⟩ : ∃ n7, (out ++ x.f1).length = n7 := ⟨_, rfl⟩; rw [hn7] at e7; clear hn7; subst e7; have dz := blk_frozen (blk_grown H.out.blk hg7 H.out.ne.1); have d0 := (blk_cell (blk_grown H.out.blk hg7 H.out.ne.1) 0).trans rfl; have H7 := Aside0.mk (H.out.more hg7 hat7 hT7); have B7 := Aside0.mk (below_cell hB7 H.out.hg 0 (.slice A7 n7 c7)); clear hT7 hB7 hg7 hat7)
  go_end0
  exact ⟨rfl, B7.out, _, H7.out⟩

set_option maxHeartbeats 2000000 in
set_option maxRecDepth 100000 in
/-- A conflict comes. -/
theorem choose_conf (w0 w : World) (g gs : Nat) (side : Int) (vo : Value) (out : List ByteArray) (x : Piece) (A1 : Option Addr) (c1 : Nat) (A2 : Option Addr) (c2 : Nat) (A3 : Option Addr) (c3 : Nat)
    (h : CH w0.heap.size w g gs side vo out) (hB : Below w0.heap.size w0 w) (hx : PC w x A1 c1 A2 c2 A3 c3) (hf : x.f0 = true) (hm : out.length + (chooseP side x).length ≤ 1000000) :
    Calls Tryz.prog 49 #[pv x A1 c1 A2 c2 A3 c3, .pointer (some ⟨g, 0, none⟩), .pointer (some ⟨gs, 0, none⟩)] w (Chosen w0 g gs side (out ++ chooseP side x)) := by
  have hu := Tryz.underlying36
  obtain ⟨Av, cv, e⟩ := Kd.R_slice h.out
  subst e
  obtain ⟨k0, k1, k2, k3⟩ := boxed w (.bool x.f0) (.slice A1 x.f1.length c1) (.slice A2 x.f2.length c2) (.slice A3 x.f3.length c3) 36
  have ha := below_alloc (Below.refl w.heap.size w) (.cells #[.bool x.f0, .slice A1 x.f1.length c1, .slice A2 x.f2.length c2, .slice A3 x.f3.length c3] 36)
  have H := Aside0.mk (h.below ha)
  have HX := Aside0.mk (hx.below ha)
  have HB := Aside0.mk (hB.trans (ha.mono hB.size))
  have hz := Kd.C_max hx.g3
  rw [hf] at k0 k1 k2 k3 H HX HB
  clear h hB hx ha
  by_cases hin : 1 ≤ side ∧ side ≤ x.f3.length
  · obtain ⟨i1, i2⟩ := hin
    obtain ⟨y, hy⟩ : ∃ y, x.f3[(side - 1).toNat]? = some y := ⟨_, List.getElem?_eq_getElem (by omega)⟩
    have e : chooseP side x = y := by rw [chooseP, if_neg (by rw [hf]; decide), if_pos ⟨i1, i2⟩, List.getD_eq_getElem?_getD, hy]; rfl
    rw [e] at hm ⊢
    obtain ⟨ad, E1, e1, rfl, hcy, hly, hCy⟩ := elemL HX.out.g3 hy
    have HCY := Aside0.mk hCy
    rw [show (side - 1).toNat = side.toNat - 1 by omega] at hcy
    have j0 : (0 : Int) ≤ side - 1 := by omega
    have j1 : side - 1 < (x.f3.length : Int) := by omega
    have jw : IntKind.i64.wrap (side - 1) = side - 1 := IntWalk.i64_in _ (by omega)
    clear hy e
    have p0 := (blk_cell H.out.blk 0).trans rfl
    have p1 := (blk_cell H.out.sd 0).trans rfl
    have hBw := HB.out.size
    go_enter Tryz.func49, Tryz.ntmps49
    go_wp2_with (fail)
    generalize w.alloc (.cells #[.bool true, .slice A1 x.f1.length c1, .slice A2 x.f2.length c2, .slice (some ad) x.f3.length c3] 36) = wb at H HX HB HCY hcy hCy p0 p1 k0 k1 k2 k3 hBw ⊢
    generalize w.heap.size = bx at k0 k1 k2 k3 ⊢
    refine start_ (n := 9) (S := fun w' => w'.cell? ⟨g, 0, none⟩ = some (.slice Av out.length cv) ∧ w'.cell? ⟨bx, 3, none⟩ = some (.slice (some ad) x.f3.length c3) ∧ w'.cell? ⟨gs, 0, none⟩ = some (.int .i64 side) ∧ w'.cell? (ad.add (side.toNat - 1)) = some (.slice E1 y.length e1)) (ds := [7, 8]) #[false, false, false, false, false, false, false, false, false] (by kernel_rfl) rfl rfl ?hS0 (fun hHeld => ?_)
    case hS0 => (first | exact ⟨by assumption, by assumption, by assumption, by assumption⟩ | (go_simp; done) | (refine ⟨?_, ?_, ?_, ?_⟩ <;> assumption))
    refine pure_ (i := 1) (N := some 23) (v := ?_) (a' := ?_) #[false, true, false, false, false, false, false, false, false] rfl rfl (by kernel_rfl) (fun _ _ _ h => h) (Or.inl ⟨by rfl, ?_⟩) ?_ ?_
    rotate_left
    · intro w'
      go_simp
      first | done | with_reducible rfl
    rotate_left
    · try simp only [Act.put, List.setIfInBounds_toArray, List.set_cons_zero, List.set_cons_succ, i64_w, i32_w]
      first | done | rfl
    refine take_ (i := 0) (N := some 22) (v := ?_) (a' := ?_) #[true, true, false, false, false, false, false, false, false] rfl rfl (by kernel_rfl) (fun _ _ _ h => h) (Or.inl ⟨by rfl, ?_⟩) hHeld ?_ ?_
    rotate_left
    · rintro w' ⟨s0_, s1_, s2_, s3_⟩
      go_simp
      first | done | with_reducible rfl
    rotate_left
    · try simp only [Act.put, List.setIfInBounds_toArray, List.set_cons_zero, List.set_cons_succ, i64_w, i32_w]
      first | done | rfl
    refine take_ (i := 2) (N := some 24) (v := ?_) (a' := ?_) #[true, true, true, false, false, false, false, false, false] rfl rfl (by kernel_rfl) (fun _ _ _ h => h) (Or.inl ⟨by rfl, ?_⟩) hHeld ?_ ?_
    rotate_left
    · rintro w' ⟨s0_, s1_, s2_, s3_⟩
      go_simp
      first | done | with_reducible rfl
    rotate_left
    · try simp only [Act.put, List.setIfInBounds_toArray, List.set_cons_zero, List.set_cons_succ, i64_w, i32_w]
      first | done | rfl
    refine take_ (i := 3) (N := some 25) (v := ?_) (a' := ?_) #[true, true, true, true, false, false, false, false, false] rfl rfl (by kernel_rfl) (fun _ _ _ h => h) (Or.inl ⟨by rfl, ?_⟩) hHeld ?_ ?_
    rotate_left
    · rintro w' ⟨s0_, s1_, s2_, s3_⟩
      go_simp
      first | done | with_reducible rfl
    rotate_left
    · try simp only [Act.put, List.setIfInBounds_toArray, List.set_cons_zero, List.set_cons_succ, i64_w, i32_w]
      first | done | rfl
    refine pure_ (i := 4) (N := some 26) (v := ?_) (a' := ?_) #[true, true, true, true, true, false, false, false, false] rfl rfl (by kernel_rfl) (fun _ _ _ h => h) (Or.inl ⟨by rfl, ?_⟩) ?_ ?_
    rotate_left
    · intro w'
      go_simp
      first | done | with_reducible rfl
    rotate_left
    · try simp only [Act.put, List.setIfInBounds_toArray, List.set_cons_zero, List.set_cons_succ, i64_w, i32_w]
      first | done | rfl
    refine pure_ (i := 5) (N := some 27) (v := ?_) (a' := ?_) #[true, true, true, true, true, true, false, false, false] rfl rfl (by kernel_rfl) (fun _ _ _ h => h) (Or.inl ⟨by rfl, ?_⟩) ?_ ?_
    rotate_left
    · intro w'
      go_simp
      first | done | with_reducible rfl
    rotate_left
    · try simp only [Act.put, List.setIfInBounds_toArray, List.set_cons_zero, List.set_cons_succ, i64_w, i32_w]
      first | done | rfl
    refine take_ (i := 6) (N := some 28) (v := ?_) (a' := ?_) #[true, true, true, true, true, true, true, false, false] rfl rfl (by kernel_rfl) (fun _ _ _ h => h) (Or.inl ⟨by rfl, ?_⟩) hHeld ?_ ?_
    rotate_left
    · rintro w' ⟨s0_, s1_, s2_, s3_⟩
      go_simp
      first | done | with_reducible rfl
    rotate_left
    · try simp only [Act.put, List.setIfInBounds_toArray, List.set_cons_zero, List.set_cons_succ, i64_w, i32_w]
      first | done | rfl
    refine last_ (i := 7) (N := some 29) #[true, true, true, true, true, true, true, true, false] rfl rfl (by kernel_rfl) (by decide) (fun K hK => ?_)
    refine Kd.R_append_rows_step Kd.string (w0 := w0) (W := wb.drew) (Rr := Kd.string.K wb.drew) w0.heap.size ?hw (.tmp 22) (.tmp 28) 25 9 (.string ⟨#[]⟩) 16 ?ho Tryz.underlying25 info9 rfl (by decide) (by omega) (.slice Av out.length cv) out y E1 y.length e1 (fun _ => True) (fun _ => False) ?hs ?hx (Kd.R_drew H.out.out) (Kd.C_drew HCY.out) (fun _ _ h => h) (fun _ h => h.elim) (fun _ _ => trivial) HB.out.drew hBw (by omega) ?_
    case hw => rfl
    case ho => rfl
    case hs => rfl
    case hx => rfl
    intro v7 w7 hT7 hB7 hg7 hat7
    obtain ⟨A7, c7, e7⟩ := Kd.R_slice hT7
    obtain ⟨n7, hn7⟩ : ∃ n7, (out ++ y).length = n7 := ⟨_, rfl⟩
    rw [hn7] at e7
    clear hn7
    subst e7
    have hd : CH w0.heap.size wb.drew g gs side (.slice Av out.length cv) out := H.out.below (below_drew (Below.refl _ _))
    have dz := blk_frozen (blk_grown hd.blk hg7 hd.ne.1)
    have d0 := (blk_cell (blk_grown hd.blk hg7 hd.ne.1) 0).trans rfl
    have H7 := Aside0.mk (hd.more hg7 hat7 hT7)
    have B7 := Aside0.mk (below_cell hB7 hd.hg 0 (.slice A7 n7 c7))
    clear hd hT7 hB7 hg7 hat7
    refine hK.out _ _ ?_
    clear hK K
    refine norm_ (a' := ?_) ?_ ?_
    rotate_left
    · try simp only [Act.put, List.setIfInBounds_toArray, List.set_cons_zero, List.set_cons_succ, i64_w, i32_w]
      first | done | rfl
    refine last_ (i := 8) (N := none) #[true, true, true, true, true, true, true, true, true] rfl rfl (by kernel_rfl) (by decide) (fun K hK => ?_)
    go_simp
    refine hK.out _ _ ?_
    clear hK K
    refine norm_ (a' := ?_) ?_ ?_
    rotate_left
    · try simp only [Act.put, List.setIfInBounds_toArray, List.set_cons_zero, List.set_cons_succ, i64_w, i32_w]
      first | done | rfl
    refine done_ (by kernel_rfl) ?_
    go_wp2
    go_end0
    exact ⟨rfl, B7.out, _, H7.out⟩
  · have e : chooseP side x = [] := by rw [chooseP, if_neg (by rw [hf]; decide), if_neg hin]
    rw [e, List.append_nil]
    have p1 := (blk_cell H.out.sd 0).trans rfl
    clear e hm
    by_cases i1 : 1 ≤ side
    · have i2 : ¬ side ≤ (x.f3.length : Int) := fun h => hin ⟨i1, h⟩
      clear hin
      go_enter Tryz.func49, Tryz.ntmps49
      go_wp2
      go_end0
      exact ⟨rfl, HB.out, _, H.out⟩
    · clear hin
      go_enter Tryz.func49, Tryz.ntmps49
      go_wp2
      go_end0
      exact ⟨rfl, HB.out, _, H.out⟩

theorem choose1_calls (w0 w : World) (g gs : Nat) (side : Int) (vo : Value) (out : List ByteArray) (x : Piece) (A1 : Option Addr) (c1 : Nat) (A2 : Option Addr) (c2 : Nat) (A3 : Option Addr) (c3 : Nat)
    (h : CH w0.heap.size w g gs side vo out) (hB : Below w0.heap.size w0 w) (hx : PC w x A1 c1 A2 c2 A3 c3) (hm : out.length + (chooseP side x).length ≤ 1000000) :
    Calls Tryz.prog 49 #[pv x A1 c1 A2 c2 A3 c3, .pointer (some ⟨g, 0, none⟩), .pointer (some ⟨gs, 0, none⟩)] w (Chosen w0 g gs side (out ++ chooseP side x)) := by
  by_cases hf : x.f0 = false
  · have e : chooseP side x = x.f1 := by rw [chooseP, if_pos hf]
    rw [e] at hm ⊢
    exact choose_text w0 w g gs side vo out x A1 c1 A2 c2 A3 c3 h hB hx hf hm
  · exact choose_conf w0 w g gs side vo out x A1 c1 A2 c2 A3 c3 h hB hx (by simpa using hf) hm
theorem chooseL_snoc {side : Int} {xs : List Piece} {k : Nat} {x : Piece} (hx : xs[k]? = some x) : chooseL side (xs.take (k + 1)) = chooseL side (xs.take k) ++ chooseP side x := by
  obtain ⟨hk, rfl⟩ := List.getElem?_eq_some_iff.1 hx
  rw [chooseL, List.take_succ_eq_append_getElem hk, List.flatMap_append]
  simp [chooseL]
theorem chooseL_le (side : Int) (xs : List Piece) (k : Nat) : (chooseL side (xs.take k)).length ≤ (chooseL side xs).length := by
  have : chooseL side xs = chooseL side (xs.take k) ++ chooseL side (xs.drop k) := by rw [chooseL, chooseL, chooseL, ← List.flatMap_append, List.take_append_drop]
  rw [this, List.length_append]
  omega

set_option maxHeartbeats 1000000 in
set_option maxRecDepth 100000 in
theorem eachC_calls (w0 w : World) (g gs : Nat) (side : Int) (vo : Value) (A : Option Addr) (c : Nat) (xs : List Piece)
    (h : CH w0.heap.size w g gs side vo []) (hB : Below w0.heap.size w0 w) (hx : Kd.C k36 w0 A xs.length xs) (hm : (chooseL side xs).length ≤ 1000000) :
    Calls Tryz.prog 48 #[.slice A xs.length c, .func (.func 49) #[] #[.pointer (some ⟨g, 0, none⟩), .pointer (some ⟨gs, 0, none⟩)]] w (Chosen w0 g gs side (chooseL side xs)) := by
  have hu := Tryz.underlying36
  have hmax := Kd.C_max hx
  have HX := Aside0.mk hx
  have H := Aside0.mk h
  clear hx h
  go_enter Tryz.func48, Tryz.ntmps48
  go_wp2
  go_loopg [8] xs.length (fun gg s8 wr => ∃ kk : Nat, kk ≤ xs.length ∧ xs.length - kk ≤ gg ∧ s8 = .int .i64 kk ∧ Aside0 (∃ vo, CH w0.heap.size wr g gs side vo (chooseL side (xs.take kk))) ∧ Aside0 (Below w0.heap.size w0 wr))
  case atStart => exact ⟨0, Nat.zero_le _, by omega, rfl, ⟨_, H.out⟩, ⟨hB⟩⟩
  case round =>
    obtain ⟨kk, hkk, hg, rfl, HS, HB⟩ := hrel
    by_cases hlt : kk < xs.length
    · have hltz : (kk : Int) < (xs.length : Int) := by omega
      obtain ⟨x, hxk⟩ : ∃ x, xs[kk]? = some x := ⟨_, List.getElem?_eq_getElem hlt⟩
      obtain ⟨ad, A1, c1, A2, c2, A3, c3, rfl, ⟨h0, h1, h2, h3⟩, hpv⟩ := elemP (Kd.C_below HX.out HB.out) hxk
      obtain ⟨vo, hps⟩ := HS.out
      have HE := Aside0.mk (chooseL_snoc (side := side) hxk)
      have hle := chooseL_le side xs (kk + 1)
      rw [HE.out, List.length_append] at hle
      have HC := Aside0.mk (fun o => choose1_calls w0 (wr.alloc o) g gs side vo (chooseL side (xs.take kk)) x A1 c1 A2 c2 A3 c3 (hps.below (below_alloc (Below.refl _ _) o)) (HB.out.alloc HB.out.size o) (hpv.below (below_alloc (Below.refl _ _) o)) (by omega))
      clear hpv hps hle hxk
      go_wp2_with (go_at_call 49; refine (HC.out _).mono ?_; rintro e w' ⟨rfl, hb', hps'⟩)
      go_roundg (xs.length - (kk + 1))
      case measure => omega
      case rel => exact ⟨kk + 1, by omega, by omega, by go_num, ⟨by rw [HE.out]; exact hps'⟩, ⟨hb'⟩⟩
    · have hltz : ¬ (kk : Int) < (xs.length : Int) := by omega
      have hkl : kk = xs.length := by omega
      subst hkl
      go_wp2
      go_end0
      exact ⟨rfl, HB.out, by have := HS.out; rwa [List.take_length] at this⟩

set_option maxHeartbeats 1000000 in
set_option maxRecDepth 100000 in
theorem choose_calls (w : World) (A : Option Addr) (c : Nat) (xs : List Piece) (side : Int) (hx : Kd.C k36 w A xs.length xs) (hm : (chooseL side xs).length ≤ 1000000) :
    Calls Tryz.prog 28 #[.slice A xs.length c, .int .i64 side] w fun e w' => ∃ v, e = .returned v ∧ Kd.R Kd.string 9 w' w.heap.size (fun _ => True) v (chooseL side xs) ∧ Below w.heap.size w w' := by
  have HE := Aside0.mk (eachC_calls w ((w.alloc (.cells #[.int .i64 side] 3)).alloc (.cells #[.slice none 0 0] 25)) (w.heap.size + 1) w.heap.size side (.slice none 0 0) A c xs
    ⟨Nat.le_succ _, by have := blk_new (w.alloc (.cells #[.int .i64 side] 3)) (.cells #[.slice none 0 0] 25); simpa using this, blk_below (blk_new w _) (below_alloc (Below.refl _ _) _), Kd.R_nil _ _ _ _ _⟩ (below_alloc (below_alloc (Below.refl _ _) _) _) hx hm)
  clear hx
  go_enter Tryz.func28, Tryz.ntmps28
  go_wp2_with (fail)
  refine HE.out.mono ?_
  rintro e w1 ⟨rfl, hb, vo, hps⟩
  have hc := (blk_cell hps.blk 0).trans rfl
  have HPS := Aside0.mk hps
  have HB := Aside0.mk hb
  clear hps hb
  go_wp2
  go_ret
  exact ⟨_, rfl, HPS.out.out, HB.out⟩

/-! ### the contract, in the form of a printed one -/
def pick_Choose.f (l : List Piece) (side : Int) : Option (List ByteArray) := if (chooseL side l).length ≤ 1000000 then some (chooseL side l) else none
theorem pick_Choose.calls (A0 : Option Addr) (c0 : Nat) (l0 : List Piece) (a1 : Int) (r : List ByteArray) (w : World) (hr0 : Kd.C k36 w A0 l0.length l0) (_ : l0.length ≤ c0) (h : pick_Choose.f l0 a1 = some r) :
    Calls Tryz.prog 28 #[.slice A0 l0.length c0, .int .i64 a1] w fun e w' => ∃ v0_ : Value, e = .returned (v0_) ∧ Kd.R Kd.string 9 w' w.heap.size (fun _ => True) v0_ r ∧ Below w.heap.size w w' := by
  unfold pick_Choose.f at h
  split at h
  · rename_i hg
    have e := Option.some.inj h
    subst e
    exact choose_calls w A0 c0 l0 a1 hr0 hg
  · cases h
#print axioms pick_Choose.calls

end Go.Proofs.YtcnjbmdnnhbfkaaGreatDoor.Mark
