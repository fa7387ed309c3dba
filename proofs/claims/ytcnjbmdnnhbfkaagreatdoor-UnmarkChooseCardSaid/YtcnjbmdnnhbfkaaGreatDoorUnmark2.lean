/- unmark: the reader's methods that take a line, and Parse. -/
import Derived.Test.YtcnjbmdnnhbfkaaGreatDoorUnmark
import Derived.Laws.EntriesVeiled
namespace Go.Proofs.YtcnjbmdnnhbfkaaGreatDoor.Unmark
open Go.RowKit Go.Proofs.YtcnjbmdnnhbfkaaGreatDoorW.PrintWords Go.Proofs.YtcnjbmdnnhbfkaaGreatDoor.XD Go.Proofs.YtcnjbmdnnhbfkaaGreatDoor.Size
def outside (σ : Rd) (s : ByteArray) (mark : Bool) : Option Rd :=
 if mark = false then some { σ with text := σ.text ++ [s] }
 else if eqS s (repB ⟨#[60]⟩ σ.long ++ ⟨#[32, 49, 10]⟩) = false then none
 else some { flush σ with conf := true, base := [], sides := [], inn := true }
def Told (B : Nat) (w0 : World) (g : Nat) (r : Option Rd) (e : Ending) (w' : World) : Prop :=
 e = .returned (.bool r.isSome) ∧ Below B w0 w' ∧ ∀ σ', r = some σ' → ∃ vo vt vb vs vp, RS B w' g σ' vo vt vb vs vp
set_option maxHeartbeats 800000 in
theorem outside_calls (B : Nat) (w0 w : World) (g : Nat) (σ : Rd) (s : ByteArray) (mark : Bool) {vo vt vb vs vp : Value} (h : RS B w g σ vo vt vb vs vp) (hB : Below B w0 w) (hBw : B ≤ w.heap.size)
  (ho : σ.out.length ≤ 1000000) (ht : σ.text.length ≤ 1000000) (hn : σ.long ≤ 4096) :
  Calls Tryz.prog 42 #[.pointer (some ⟨g, 0, none⟩), .string s, .bool mark] w (Told B w0 g (outside σ s mark)) := by
 obtain ⟨At, ct, et⟩ := Kd.R_slice h.text
 subst et
 obtain ⟨c0, c1, c2, c3, c4, c5, c6, c7, c8, c9, c10, hfz⟩ := cells_of h.blk
 have HA := Lib.hid h.apart
 have H := Lib.hid h
 clear h
 have hsz : g < w.heap.size := HA.out.1
 cases mark
 ·have HR := Lib.hid (show outside σ s false = some { σ with text := σ.text ++ [s] } from rfl)
  go_enter Tryz.func42, Tryz.ntmps42
  go_wp2_with (at_builtin; refine Kd.R_append Kd.string (w0 := w0) B rfl (.tmp 13) (.tmp 15) 25 9 (.string ⟨#[]⟩) 16 rfl Tryz.underlying25 info9 rfl (by decide) (by omega) (.slice At σ.text.length ct) σ.text s [.string s] (fun _ => True) (fun _ => False) rfl rfl rfl (fun _ h => h.elim) (fun _ _ => trivial) (Kd.R_mono H.out.text (fun _ _ => trivial)) hB hBw (by omega) ?_; intro v1 w1 hT hB1 hg1 hat1; obtain ⟨A3, c3', e3⟩ := Kd.R_slice hT; subst e3; have hbk := blk_grown H.out.blk hg1 (fun e => (HA.out.2.2.1 g e).2.2.1 rfl); obtain ⟨-, -, d2, -, -, -, -, -, -, -, -, dz⟩ := cells_of hbk; have HG1 := Lib.hid hg1; have HAT := Lib.hid hat1; have HB1 := Lib.hid hB1; clear hbk hg1 hat1 hB1)
  go_ret
  have hO := H.out.texted HG1.out HAT.out hT
  simp only [List.length_append, List.length_cons, List.length_nil, Nat.zero_add] at hO
  rw [HR.out]
  exact ⟨rfl, below_cell HB1.out H.out.hg _ _, fun σ' e => by obtain rfl := Option.some.inj e; exact ⟨_, _, _, _, _, hO⟩⟩
 ·have hsz2 : (⟨#[60]⟩ : ByteArray).size * σ.long ≤ 140737488355328 := by rw [show (⟨#[60]⟩ : ByteArray).size = 1 from rfl]; omega
  have hrs := repB_size 60 σ.long
  obtain ⟨b, hb⟩ : ∃ b, eqS s (repB ⟨#[60]⟩ σ.long ++ ⟨#[32, 49, 10]⟩) = b := ⟨_, rfl⟩
  have HE := Lib.hid hb
  have HR := Lib.hid (show outside σ s true = if b = false then none else some { flush σ with conf := true, base := [], sides := [], inn := true } by rw [← hb]; rfl)
  clear hb
  go_enter Tryz.func42, Tryz.ntmps42
  go_wp2_with (fail)
  refine (Tryz.strings_Repeat ⟨#[60]⟩ σ.long _ (by omega) hsz2).mono ?_
  rintro e w1 ⟨rfl, hb1⟩
  have H1 := Lib.hid (H.out.below hb1)
  obtain ⟨d0, d1, d2, d3, d4, d5, d6, d7, d8, d9, d10, dz⟩ := cells_of H1.out.blk
  have HB1 := Lib.hid (show Below B w0 w1 from hB.trans (hb1.mono hBw))
  have hBw1 : B ≤ w1.heap.size := Nat.le_trans hBw hb1.size
  clear hb1 c0 c1 c2 c3 c4 c5 c6 c7 c8 c9 c10 hfz
  generalize hS : (⟨(Lib.repeatL (⟨#[60]⟩ : ByteArray).data.toList σ.long).toArray⟩ : ByteArray) = S
  have HS := Lib.hid (show repB ⟨#[60]⟩ σ.long = S from hS)
  clear hS
  have hS1 : S.size ≤ 1000000 := by rw [← HS.out, hrs]; omega
  clear hrs hsz2
  have tb : (s.toList == (S ++ ⟨#[32, 49, 10]⟩).toList) = b := by rw [← HS.out]; exact HE.out
  cases b
  ·go_wp2
   go_ret
   rw [HR.out]
   exact ⟨by simp, HB1.out, fun σ' e => by simp at e⟩
  ·go_wp2_with (fail)
   refine (flush_calls B w0 w1 g σ H1.out HB1.out hBw1 ho).mono ?_
   rintro e w2 ⟨rfl, hb2, vo2, vt2, vb2, vs2, vp2, h2⟩
   obtain ⟨e0, e1, e2, e3, e4, e5, e6, e7, e8, e9, e10, ez⟩ := cells_of h2.blk
   have HB2 := Lib.hid hb2
   have H2 := Lib.hid h2
   clear h2 hb2 d0 d1 d2 d3 d4 d5 d6 d7 d8 d9 d10 dz
   have hsz2 : g < w2.heap.size := H2.out.apart.1
   go_wp2
   go_ret
   rw [HR.out]
   refine ⟨by simp, below_cell (below_cell (below_cell (below_cell (below_cell HB2.out H2.out.hg _ _) H2.out.hg _ _) H2.out.hg _ _) H2.out.hg _ _) H2.out.hg _ _, fun σ' e => ?_⟩
   obtain rfl := Option.some.inj e
   exact ⟨_, _, _, _, _, H2.out.begun⟩
end Go.Proofs.YtcnjbmdnnhbfkaaGreatDoor.Unmark
