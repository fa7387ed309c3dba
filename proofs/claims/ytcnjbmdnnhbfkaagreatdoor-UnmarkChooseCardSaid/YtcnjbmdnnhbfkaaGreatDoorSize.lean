/- The contracts of size.cutLeft (at a set of one ASCII byte) and of size.Run. -/
import Derived.Test.YtcnjbmdnnhbfkaaGreatDoorProg
import Derived.WalkKit
import Derived.Lib.OthersKept
import Derived.Laws.Runes
import Derived.Laws.Slices
import Derived.Lib.Hide
import Derived.KernelRfl
namespace Go.Proofs.YtcnjbmdnnhbfkaaGreatDoor.Size
open Go.RowKit
def lead (c : UInt8) (s : ByteArray) : Nat := (s.data.toList.takeWhile (· == c)).length
def rest (c : UInt8) (s : ByteArray) : ByteArray := s.extract (lead c s) s.size
theorem lead_le (c : UInt8) (s : ByteArray) : lead c s ≤ s.size := by
 unfold lead
 have := (List.takeWhile_prefix (l := s.data.toList) (· == c)).length_le
 simpa using this
theorem takeWhile_len {α} (p : α → Bool) (l : List α) (i : Nat) (h : i < (l.takeWhile p).length) (hi : i < l.length) : p l[i] = true := by
 induction l generalizing i with
 | nil => simp at hi
 | cons a l ih =>
  simp only [List.takeWhile_cons] at h
  split at h
  ·rename_i ha
   cases i with
   | zero => simpa using ha
   | succ i => simpa using ih i (by simpa using h) (by simpa using hi)
  ·simp at h
theorem takeWhile_len_stop {α} (p : α → Bool) (l : List α) (h : (l.takeWhile p).length < l.length) : p l[(l.takeWhile p).length] = false := by
 induction l with
 | nil => simp at h
 | cons a l ih =>
  by_cases ha : p a = true
  ·have e : (a :: l).takeWhile p = a :: l.takeWhile p := by simp [ha]
   have h2 : (l.takeWhile p).length < l.length := by rw [e] at h; simpa using h
   have := ih h2
   simp only [e, List.length_cons, List.getElem_cons_succ]
   exact this
  ·have e : (a :: l).takeWhile p = [] := by simp [ha]
   simp only [e, List.length_nil, List.getElem_cons_zero]
   simpa using ha
theorem lead_at (c : UInt8) (s : ByteArray) (pos : Nat) (h : pos < lead c s) (h2 : pos < s.size) : s[pos] = c := by
 have := takeWhile_len (· == c) s.data.toList pos h (by simpa using h2)
 simp at this
 exact this
theorem lead_stop (c : UInt8) (s : ByteArray) (h2 : lead c s < s.size) : s[lead c s] ≠ c := by
 have := takeWhile_len_stop (· == c) s.data.toList (by simpa [lead] using h2)
 simp at this
 exact this
theorem decode_eq (s : ByteArray) (c : UInt8) (hc : c.toNat < 128) (pos : Nat) (h : pos < s.size) (he : s[pos] = c) : Utf8.decode s pos = (c.toNat, 1) := by
 rw [decode_ascii s pos h (by rw [he]; exact hc), he]
theorem decode_ne (s : ByteArray) (c : UInt8) (hc : c.toNat < 128) (pos : Nat) (h : pos < s.size) (he : s[pos] ≠ c) : (Utf8.decode s pos).1 ≠ c.toNat := by
 by_cases ha : (s[pos]).toNat < 128
 ·rw [decode_ascii s pos h ha]
  intro e
  exact he (UInt8.toNat_inj.1 e)
 ·have := (decode_high s pos h (by omega)).1
  omega
theorem lead_all (c : UInt8) (s : ByteArray) (pos : Nat) (hp : pos ≤ lead c s) (h : ¬ pos < s.size) : rest c s = ⟨#[]⟩ := by
 have := lead_le c s
 unfold rest
 rw [show lead c s = s.size by omega]
 apply ByteArray.ext
 simp
set_option maxHeartbeats 400000 in
theorem cutLeft_any (s : ByteArray) (c : UInt8) (hc : c.toNat < 128) (w : World) :
  Calls Tryz.prog 71 #[.string s, .string ⟨#[c]⟩] w fun e w' => e = .returned (.string (rest c s)) ∧ Below w.heap.size w w' := by
 have hcd : Utf8.decode ⟨#[c]⟩ 0 = (c.toNat, 1) := decode_eq ⟨#[c]⟩ c hc 0 (Nat.zero_lt_one) rfl
 go_enter Tryz.func71, Tryz.ntmps71
 go_wp2
 go_loopw [4] (fun v4 wr => ∃ pos : Nat, v4 = .string ⟨#[]⟩ ∧ pos ≤ lead c s ∧ wr.heap[w.heap.size]? = some (.stringIter s pos) ∧ Hid (Below w.heap.size w wr) ∧ w.heap.size < wr.heap.size) (fun _ wr => s.size - wr.iterPos w.heap.size)
 case atStart => exact ⟨0, rfl, Nat.zero_le _, World.iter_heap _ _ _, Below.alloc (Below.refl _ _) (Nat.le_refl _) _, by simp [World.iter]⟩
 case round =>
  obtain ⟨wo, rfl⟩ : ∃ wo : World, wo = wr := ⟨_, rfl⟩
  obtain ⟨pos, rfl, hp, hit, hB, hsz⟩ := hrel
  have hpos : wo.iterPos w.heap.size = pos := by simp [World.iterPos, hit]
  by_cases hlt : pos < s.size
  ·have hit1 := Lib.iterAt_heap wo w.heap.size s pos (pos + (Utf8.decode s pos).2) hit
   have hsz1 := Lib.iterAt_size wo w.heap.size s (pos + (Utf8.decode s pos).2)
   have hB1 := Lib.below_iterAt hB.out (Nat.le_refl _) s (pos + (Utf8.decode s pos).2)
   have hnx : ∀ ty, (Instr.next (.pointer (some ⟨w.heap.size, 0, none⟩)) true ty).run Tryz.prog wo = _ := fun ty => Lib.run_next_any_at wo w.heap.size s pos ty hit hlt
   obtain ⟨r, n, hd⟩ : ∃ r n, Utf8.decode s pos = (r, n) := ⟨_, _, rfl⟩
   rw [hd] at hnx hit1 hsz1 hB1
   generalize hW : wo.iterAt w.heap.size s (pos + n) = W1 at *
   simp only at hit1 hsz1 hnx hB1
   have HB1 : Hid (Below w.heap.size w W1) := hB1
   have hgt : w.heap.size < W1.heap.size := by omega
   have HPOS := Lib.hid hpos
   have HD := Lib.hid hd
   clear hB1 hW hsz1 hpos hcd hd
   have hb : ∃ b, ((r : Int) == (c.toNat : Int)) = b := ⟨_, rfl⟩
   obtain ⟨b, hb⟩ := hb
   go_wp2
   go_loopw [7] (fun v7 w2 => ∃ p : Nat, p ≤ 1 ∧ v7 = .bool (decide (0 < p) && b) ∧ w2.heap[W1.heap.size]? = some (.stringIter ⟨#[c]⟩ p) ∧ w2.heap[w.heap.size]? = some (.stringIter s (pos + n)) ∧ Hid (Below w.heap.size w w2) ∧ W1.heap.size < w2.heap.size) (fun _ w2 => 1 - w2.iterPos W1.heap.size)
   case atStart => exact ⟨0, by omega, rfl, World.iter_heap _ _ _, by rw [World.iter, Below.heap_alloc _ _ _ hgt]; exact hit1, HB1.out.alloc (by omega) _, by simp [World.iter]⟩
   case round =>
    obtain ⟨p, hp1, rfl, hi2, hi1, hB2, hsz2⟩ := hrel
    have hpp : p = 0 ∨ p = 1 := by omega
    rcases hpp with rfl | rfl
    ·have hcd : Utf8.decode ⟨#[c]⟩ 0 = (c.toNat, 1) := decode_eq ⟨#[c]⟩ c hc 0 (Nat.zero_lt_one) rfl
     have hnx2 : ∀ ty, (Instr.next (.pointer (some ⟨W1.heap.size, 0, none⟩)) true ty).run Tryz.prog wr = _ := fun ty => Lib.run_next_any_at wr W1.heap.size ⟨#[c]⟩ 0 ty hi2 (Nat.zero_lt_one)
     rw [hcd] at hnx2
     have HP2 := Lib.hid (show wr.iterPos W1.heap.size = 0 by simp [World.iterPos, hi2])
     have hi3 := Lib.iterAt_heap wr W1.heap.size ⟨#[c]⟩ 0 1 hi2
     have hs3 := Lib.iterAt_size wr W1.heap.size ⟨#[c]⟩ 1
     have ho3 := Lib.iterAt_other wr W1.heap.size w.heap.size ⟨#[c]⟩ 1 (by omega)
     have hB3 := Lib.below_iterAt hB2.out (show w.heap.size ≤ W1.heap.size by omega) ⟨#[c]⟩ 1
     clear hcd
     simp only [Nat.zero_add] at hnx2
     generalize wr.iterAt W1.heap.size ⟨#[c]⟩ 1 = W3 at *
     have HB3 : Hid (Below w.heap.size w W3) := hB3
     have HO3 := Lib.hid (ho3.trans hi1)
     have HS3 := Lib.hid hs3
     clear hB3 ho3 hs3
     go_wp2
     go_roundw
     case rel => exact ⟨1, by omega, by simp, hi3, HO3.out, HB3, by rw [HS3.out]; exact hsz2⟩
     case measure => rw [HP2.out]; simp [World.iterPos, hi3]
    ·have hnx2 : ∀ ty, (Instr.next (.pointer (some ⟨W1.heap.size, 0, none⟩)) true ty).run Tryz.prog wr = _ := fun ty => Lib.run_next_end_at wr W1.heap.size ⟨#[c]⟩ 1 ty hi2 (Nat.lt_irrefl _)
     by_cases he : s[pos] = c
     ·have := decode_eq s c hc pos hlt he
      rw [HD.out, Prod.mk.injEq] at this
      obtain ⟨e1, e2⟩ := this
      obtain rfl : b = true := by rw [← hb, e1]; simp
      have hpl : pos + 1 ≤ lead c s := by
       by_cases h : pos < lead c s
       ·omega
       ·have e : pos = lead c s := by omega
        subst e
        exact absurd he (lead_stop c s hlt)
      have E2 := Lib.hid e2
      have hn1 : n ≤ 1 := by omega
      clear e1 e2 hb
      go_wp2
      go_roundw
      case rel => exact ⟨pos + n, rfl, by omega, hi1, hB2, by omega⟩
      case measure => rw [HPOS.out]; simp [World.iterPos, hi1]; have := E2.out; omega
     ·have := decode_ne s c hc pos hlt he
      rw [HD.out] at this
      obtain rfl : b = false := by rw [← hb]; simp; simp at this; omega
      clear hb
      have hr : rest c s = s.extract pos s.size := by
       have : lead c s = pos := by
        by_cases h : pos < lead c s
        ·exact absurd (lead_at c s pos h hlt) he
        ·omega
       rw [rest, this]
      have HR := Lib.hid hr
      clear hr
      go_wp2
      go_ret
      rw [HR.out]
      exact ⟨rfl, hB2⟩
  ·have hnx : ∀ ty, (Instr.next (.pointer (some ⟨w.heap.size, 0, none⟩)) true ty).run Tryz.prog wo = _ := fun ty => Lib.run_next_end_at wo w.heap.size s pos ty hit hlt
   go_wp2
   go_ret
   rw [lead_all c s pos hp hlt]
   exact ⟨rfl, hB⟩
theorem rest_size (c : UInt8) (s : ByteArray) : (rest c s).size = s.size - lead c s := by
 unfold rest
 simp
def runN (s : ByteArray) : Nat :=
 if 0 < lead 60 s then lead 60 s else if 0 < lead 124 s then lead 124 s else if 0 < lead 61 s then lead 61 s else lead 62 s
def signs : ByteArray := ⟨#[60, 124, 61, 62]⟩
def sg (k : Nat) : UInt8 := if k = 0 then 60 else if k = 1 then 124 else if k = 2 then 61 else 62
theorem dec_at : ∀ pos, pos < 4 → Utf8.decode ⟨#[60, 124, 61, 62]⟩ pos = ((sg pos).toNat, 1)
 | 0, _ => by kernel_rfl
 | 1, _ => by kernel_rfl
 | 2, _ => by kernel_rfl
 | 3, _ => by kernel_rfl
theorem enc_at : ∀ pos, pos < 4 → Utf8.encode (((sg pos).toNat : Int)) = ⟨#[sg pos]⟩
 | 0, _ => by kernel_rfl
 | 1, _ => by kernel_rfl
 | 2, _ => by kernel_rfl
 | 3, _ => by kernel_rfl
set_option maxHeartbeats 400000 in
theorem run_any (s : ByteArray) (hs : s.size ≤ 9223372036854775807) (w : World) :
  Calls Tryz.prog 45 #[.string s] w fun e w' => e = .returned (.int .i64 (runN s)) ∧ Below w.heap.size w w' := by
 go_enter Tryz.func45, Tryz.ntmps45
 go_wp2
 go_loopw [2] (fun v2 wr => ∃ pos : Nat, v2 = .int .i64 0 ∧ pos ≤ 4 ∧ (∀ k, k < pos → lead (sg k) s = 0) ∧ wr.heap[w.heap.size]? = some (.stringIter ⟨#[60, 124, 61, 62]⟩ pos) ∧ Hid (Below w.heap.size w wr) ∧ w.heap.size < wr.heap.size) (fun _ wr => 4 - wr.iterPos w.heap.size)
 case atStart => exact ⟨0, rfl, by omega, fun k hk => absurd hk (Nat.not_lt_zero _), World.iter_heap _ _ _, Below.alloc (Below.refl _ _) (Nat.le_refl _) _, by simp [World.iter]⟩
 case round =>
  obtain ⟨pos, rfl, hp, hld, hit, hB, hsz⟩ := hrel
  have hpos : wr.iterPos w.heap.size = pos := by simp [World.iterPos, hit]
  have hLD := Lib.hid hld
  clear hld
  by_cases hlt : pos < 4
  ·have hnx : ∀ ty, (Instr.next (.pointer (some ⟨w.heap.size, 0, none⟩)) true ty).run Tryz.prog wr = _ := fun ty => Lib.run_next_any_at wr w.heap.size ⟨#[60, 124, 61, 62]⟩ pos ty hit hlt
   have hit1 := Lib.iterAt_heap wr w.heap.size ⟨#[60, 124, 61, 62]⟩ pos (pos + 1) hit
   have hsz1 := Lib.iterAt_size wr w.heap.size ⟨#[60, 124, 61, 62]⟩ (pos + 1)
   have hB1 := Lib.below_iterAt hB.out (Nat.le_refl _) ⟨#[60, 124, 61, 62]⟩ (pos + 1)
   have hd : Utf8.decode ⟨#[60, 124, 61, 62]⟩ pos = ((sg pos).toNat, 1) := dec_at pos hlt
   have he : Utf8.encode (((sg pos).toNat : Int)) = ⟨#[sg pos]⟩ := enc_at pos hlt
   have h128 : (sg pos).toNat < 128 := by
    have : pos = 0 ∨ pos = 1 ∨ pos = 2 ∨ pos = 3 := by omega
    rcases this with rfl | rfl | rfl | rfl <;> decide +kernel
   have hsp : sg pos = 60 ∨ sg pos = 124 ∨ sg pos = 61 ∨ sg pos = 62 := by
    have : pos = 0 ∨ pos = 1 ∨ pos = 2 ∨ pos = 3 := by omega
    rcases this with rfl | rfl | rfl | rfl <;> decide +kernel
   rw [hd] at hnx
   have HLD : Hid (0 < lead (sg pos) s → (runN s : Int) = lead (sg pos) s) := by
    intro h0
    unfold runN
    have : pos = 0 ∨ pos = 1 ∨ pos = 2 ∨ pos = 3 := by omega
    have g0 := hLD.out 0; have g1 := hLD.out 1; have g2 := hLD.out 2
    rcases this with rfl | rfl | rfl | rfl <;> simp [sg] at h0 g0 g1 g2 ⊢ <;> simp [*]
   have hrs := rest_size (sg pos) s
   have hll := lead_le (sg pos) s
   have HL2 : Hid (lead (sg pos) s = 0 → ∀ k, k < pos + 1 → lead (sg k) s = 0) := by
    intro h0 k hk
    by_cases h : k = pos
    ·subst h; exact h0
    ·exact hLD.out k (by omega)
   generalize sg pos = c at *
   generalize wr.iterAt w.heap.size ⟨#[60, 124, 61, 62]⟩ (pos + 1) = W1 at *
   have HB1 : Hid (Below w.heap.size w W1) := hB1
   have HPOS := Lib.hid hpos
   have hgt : w.heap.size < W1.heap.size := by omega
   have HRS := Lib.hid hrs
   clear hB1 hpos hsz1 hd hLD hrs
   by_cases h0 : 0 < lead c s
   ·have t1 : decide ((rest c s).size < s.size) = true := by rw [HRS.out]; simp; omega
    have E := Lib.hid (HLD.out h0)
    clear HLD HL2
    go_wp2_with (go_at_call 71; refine (cutLeft_any s c h128 _).mono ?_; rintro e w1 ⟨rfl, hb1⟩; have HB2 := Lib.hid hb1; clear hb1)
    go_ret
    refine ⟨?_, HB1.out.trans (HB2.out.mono (by omega))⟩
    have e : wrap64 ((s.size : Int) - ((rest c s).size : Int)) = runN s := by
     rw [HRS.out, E.out]; unfold wrap64; omega
    rw [e]
    rfl
   ·have t1 : decide ((rest c s).size < s.size) = false := by rw [HRS.out]; simp; omega
    have E := Lib.hid (HL2.out (by omega))
    clear HLD HL2
    go_wp2_with (go_at_call 71; refine (cutLeft_any s c h128 _).mono ?_; rintro e w1 ⟨rfl, hb1⟩; have HB2 := Lib.hid hb1; clear hb1)
    go_roundw
    case rel => exact ⟨pos + 1, rfl, by omega, E.out, by rw [HB2.out.block _ (by omega)]; exact hit1, HB1.out.trans (HB2.out.mono (by omega)), by have := HB2.out.size; omega⟩
    case measure => rw [HPOS.out]; simp only [World.iterPos, HB2.out.block w.heap.size (by omega), hit1]; omega
  ·have hnx : ∀ ty, (Instr.next (.pointer (some ⟨w.heap.size, 0, none⟩)) true ty).run Tryz.prog wr = _ := fun ty => Lib.run_next_end_at wr w.heap.size ⟨#[60, 124, 61, 62]⟩ pos ty hit (by show ¬ pos < 4; exact hlt)
   obtain rfl : pos = 4 := by omega
   have g0 := hLD.out 0 (by omega); have g1 := hLD.out 1 (by omega); have g2 := hLD.out 2 (by omega); have g3 := hLD.out 3 (by omega)
   have E : Hid (runN s = 0) := by
    simp [sg] at g0 g1 g2 g3
    simp [Hid, runN, *]
   clear g0 g1 g2 g3
   go_wp2
   go_ret
   rw [E.out]
   exact ⟨rfl, hB⟩
def size_Run.f (a0 : ByteArray) : Option Int := if a0.size ≤ 9223372036854775807 then some (runN a0) else none
theorem size_Run.calls (a0 : ByteArray) (r : Int) (w : World) (h : size_Run.f a0 = some r) :
  Calls Tryz.prog 45 #[.string a0] w fun e w' => e = .returned (.int .i64 r) ∧ Below w.heap.size w w' := by
 unfold size_Run.f at h
 split at h
 ·rename_i hs
  obtain rfl := Option.some.inj h
  exact run_any a0 hs w
 ·cases h
end Go.Proofs.YtcnjbmdnnhbfkaaGreatDoor.Size
