/- unmark: a part's end, and the base's begin. -/
import Derived.Test.YtcnjbmdnnhbfkaaGreatDoorUnmark2
namespace Go.Proofs.YtcnjbmdnnhbfkaaGreatDoor.Unmark
open Go.RowKit Go.Proofs.YtcnjbmdnnhbfkaaGreatDoorW.PrintWords Go.Proofs.YtcnjbmdnnhbfkaaGreatDoor.XD Go.Proofs.YtcnjbmdnnhbfkaaGreatDoor.Size
def trimB (x : ByteArray) : ByteArray := ⟨(Lib.trimSuffix x.data.toList [10]).toArray⟩
def lastOf (l : List ByteArray) : ByteArray := rdOf ByteArray.empty l ((l.length - 1 : Nat) : Int)
def ended (l : List ByteArray) (isOpen : Bool) : Option (List ByteArray) :=
 if isOpen = false then some l else if l.length = 0 then none else if (lastOf l).size < 2 then none else some (l.set (l.length - 1) (trimB (lastOf l)))
def putPart (σ : Rd) (p : List ByteArray) : Rd := if σ.inb then { σ with base := p, part := [], inb := false } else { σ with sides := σ.sides ++ [p], part := [], inb := false }
def endP (σ : Rd) (isOpen : Bool) : Option Rd := (ended σ.part isOpen).map (putPart σ)
set_option maxHeartbeats 1600000 in
theorem end_calls (B : Nat) (w0 w : World) (g : Nat) (σ : Rd) (isOpen : Bool) {vo vt vb vs vp : Value} (h : RS B w g σ vo vt vb vs vp) (hB : Below B w0 w) (hBw : B ≤ w.heap.size)
  (hs : σ.sides.length ≤ 1000000) (hp : σ.part.length ≤ 1000000) (hz : ∀ s ∈ σ.part, s.size ≤ 1000000) :
  Calls Tryz.prog 93 #[.pointer (some ⟨g, 0, none⟩), .bool isOpen] w (Told B w0 g (endP σ isOpen)) := by
 obtain ⟨Ap, cp, ep⟩ := Kd.R_slice h.part
 subst ep
 obtain ⟨As, cs, es⟩ := Kd.N_slice h.sides
 subst es
 obtain ⟨c0, c1, c2, c3, c4, c5, c6, c7, c8, c9, c10, hfz⟩ := cells_of h.blk
 have HA := Lib.hid h.apart
 have H := Lib.hid h
 clear h
 have hsz : g < w.heap.size := HA.out.1
 cases isOpen
 ·have HR := Lib.hid (show endP σ false = some (putPart σ σ.part) from rfl)
  cases hin : σ.inb
  ·rw [hin] at c8
   have HF := Lib.hid (show putPart σ σ.part = { σ with sides := σ.sides ++ [σ.part], part := [], inb := false } by rw [putPart, hin]; rfl)
   have hin' := Lib.hid hin
   clear hin
   go_enter Tryz.func93, Tryz.ntmps93
   go_wp2
   go_region_law (refine Kd.N_append_step (Kd.slice 9 Kd.string) (w0 := w0) (W := (w).drew) B ?hw (.tmp 59) (.tmp 64) 34 25 (.slice none 0 0) 24 ?ho Tryz.underlying34 info25 rfl (by decide) (by omega) (.slice As σ.sides.length cs) σ.sides σ.part [.slice Ap σ.part.length cp] (okO B g vo vt (.slice none 0 0)) (isOwn (.slice Ap σ.part.length cp)) ?hs ?hx ?aP ?aK ?aF ?aO ?aB ?aS ?aL ?_; (case hw => rfl); (case ho => rfl); (case hs => rfl); (case hx => rfl); (case aP => have hp_ := (H.out).part; first | exact Kd.FK_slice_mk (Kd.R_reads' hp_).2.1 (Kd.R_F (Kd.R_drew hp_)) | (rw [← HLN.out] at hp_ ⊢; exact Kd.FK_slice_mk (Kd.R_reads' hp_).2.1 (Kd.R_F (Kd.R_drew hp_)))); (case aK => exact fun k hk => have z := HA.out.2.2.2.2 k hk; ⟨⟨z.1, z.2.2.1, z.2.2.2.1, z.2.2.2.2.1, isOwn_nil⟩, z.2.2.2.2.2⟩); (case aF => exact fun k hk => ⟨Nat.le_trans hBw hk, fun e => by have z1 : (w).heap.size ≤ k := hk; have z2 := HA.out.1; omega, fun x => absurd (HA.out.2.1 k x).2.1 (Nat.not_lt.2 hk), fun x => absurd (HA.out.2.2.1 k x).2.1 (Nat.not_lt.2 hk), isOwn_nil⟩); (case aO => exact Kd.N_mono (Kd.N_drew (H.out).sides) (fun k hk => ⟨hk.1, hk.2.1, hk.2.2.1, hk.2.2.2.1, isOwn_nil⟩)); (case aB => exact hB.drew); (case aS => exact hBw); (case aL => omega); intro v1 w1 hO1 hB1 hg1 hat1; obtain ⟨A3, c3', e3⟩ := Kd.N_slice hO1; subst e3; have hbk := blk_grown (w := (w).drew) (H.out).blk hg1 (fun e => (HA.out.2.2.2.1 g e).2.2.1 rfl); obtain ⟨-, -, -, -, -, -, d6, d7, d8, -, -, dz⟩ := cells_of hbk; have HG1 := Lib.hid hg1; have HAT := Lib.hid hat1; have HB1 := Lib.hid hB1; clear hbk hg1 hat1 hB1)
   all_goals
    go_wp2
    go_ret
    have hO2 := RS.sided (H.out) (w1 := w1) ⟨HG1.out.os, HG1.out.tape, HG1.out.output, HG1.out.size, HG1.out.block⟩ HAT.out hO1
    simp only [List.length_append, List.length_cons, List.length_nil, Nat.zero_add] at hO2
    rw [HR.out, HF.out]
    exact ⟨rfl, below_cell (below_cell (below_cell HB1.out H.out.hg _ _) H.out.hg _ _) H.out.hg _ _, fun σ' e => by obtain rfl := Option.some.inj e; exact ⟨_, _, _, _, _, hO2⟩⟩
  ·rw [hin] at c8
   have HF := Lib.hid (show putPart σ σ.part = { σ with base := σ.part, part := [], inb := false } by rw [putPart, hin]; rfl)
   have hin' := Lib.hid hin
   clear hin
   go_enter Tryz.func93, Tryz.ntmps93
   go_wp2
   go_ret
   have hO2 := RS.based (H.out)
   rw [HR.out, HF.out]
   exact ⟨rfl, below_cell (below_cell (below_cell (hB) H.out.hg _ _) H.out.hg _ _) H.out.hg _ _, fun σ' e => by obtain rfl := Option.some.inj e; exact ⟨_, _, _, _, _, hO2⟩⟩
 ·by_cases h0 : σ.part.length = 0
  ·have HR := Lib.hid (show endP σ true = none by rw [endP, ended, if_neg (by decide), if_pos h0]; rfl)
   have hl1 : (((σ.part.length : Int) == 0)) = true := by rw [beq_iff_eq]; omega
   go_enter Tryz.func93, Tryz.ntmps93
   go_wp2
   go_ret
   rw [HR.out]
   exact ⟨rfl, hB, fun σ' e => by cases e⟩
  ·have hpos : 0 < σ.part.length := by omega
   obtain ⟨b, cap, eb, hbB, hbs, -⟩ := Kd.R_form H.out.part hpos
   injection eb with eA _ ec
   subst eA ec
   obtain ⟨hcell, hfr⟩ := Kd.R_cell ByteArray.empty H.out.part ((σ.part.length - 1 : Nat) : Int) (by omega) (by omega)
   rw [Int.toNat_natCast] at hcell hfr
   change w.cell? ⟨b, σ.part.length - 1, none⟩ = some (.string (lastOf σ.part)) at hcell
   have HL := Lib.hid (show (lastOf σ.part).size ≤ 1000000 by
    unfold lastOf rdOf
    rw [Int.toNat_natCast, List.getD_eq_getElem?_getD, List.getElem?_eq_getElem (by omega)]
    exact hz _ (List.getElem_mem _))
   have hl1 : (((σ.part.length : Int) == 0)) = false := by rw [beq_eq_false_iff_ne]; omega
   have hl2 : IntKind.i64.wrap ((σ.part.length : Int) - 1) = (σ.part.length : Int) - 1 := IntWalk.i64_in _ (by omega)
   by_cases h2 : (lastOf σ.part).size < 2
   ·have h2b : decide ((lastOf σ.part).size < 2) = true := by simpa using h2
    have h2c : decide (((lastOf σ.part).size : Int) < 2) = true := by simp; omega
    have HR := Lib.hid (show endP σ true = none by rw [endP, ended, if_neg (by decide), if_neg h0, if_pos h2]; rfl)
    go_enter Tryz.func93, Tryz.ntmps93
    go_wp2
    go_ret
    rw [HR.out]
    exact ⟨rfl, hB, fun σ' e => by cases e⟩
   ·have h2b : decide ((lastOf σ.part).size < 2) = false := by simpa using h2
    have h2c : decide (((lastOf σ.part).size : Int) < 2) = false := by simp; omega
    have HR := Lib.hid (show endP σ true = some (putPart σ (σ.part.set (σ.part.length - 1) (trimB (lastOf σ.part)))) by rw [endP, ended, if_neg (by decide), if_neg h0, if_neg h2]; rfl)
    have hT := H.out.trimmed rfl rfl ((σ.part.length - 1 : Nat) : Int) (trimB (lastOf σ.part))
    rw [Int.toNat_natCast] at hT
    have HT := Lib.hid hT.drew
    have hne : b ≠ g := fun e => (HA.out.2.2.2.2 b (by simp [isOwn, Value.ownBlock])).2.2.1 e
    have HBT := Lib.hid (show Below B w0 (w.setCell ⟨b, σ.part.length - 1, none⟩ (.string (trimB (lastOf σ.part)))).drew from (below_cell hB hbB _ _).drew)
    clear hT
    go_enter Tryz.func93, Tryz.ntmps93
    go_upto_region 5 with (fail)
    go_cut [] (fun wc => wc = (w.setCell ⟨b, σ.part.length - 1, none⟩ (.string (trimB (lastOf σ.part)))).drew)
    case first =>
     go_region_with (go_at_call 112; refine (Tryz.strings_TrimSuffix (lastOf σ.part) ⟨#[10]⟩ _ (by have := HL.out; omega)).mono ?_; rintro e w' ⟨rfl, rfl⟩)
     all_goals
      try go_wp2
      go_meet
      case rel => rfl
    case rest =>
     obtain rfl := hcut
     generalize trimB (lastOf σ.part) = X at *
     have hsz2 : (w.setCell ⟨b, σ.part.length - 1, none⟩ (.string X)).drew.heap.size = w.heap.size := by simp [World.setCell]
     generalize (w.setCell ⟨b, σ.part.length - 1, none⟩ (.string X)).drew = w2 at *
     have HA2 := Lib.hid HT.out.apart
     have HLN := Lib.hid (show (σ.part.set (σ.part.length - 1) X).length = σ.part.length by simp)
     clear c0 c1 c2 c3 c4 c5 c6 c7 c8 c9 c10 hfz hcell hfr
     obtain ⟨c0, c1, c2, c3, c4, c5, c6, c7, c8, c9, c10, hfz⟩ := cells_of HT.out.blk
     have hBw : B ≤ w2.heap.size := by omega
     have hsz : g < w2.heap.size := by omega
     clear hsz2 hbs
     generalize hP : σ.part.set (σ.part.length - 1) X = P at *
     cases hin : σ.inb
     ·rw [hin] at c8
      have HF := Lib.hid (show putPart σ P = { σ with sides := σ.sides ++ [P], part := [], inb := false } by rw [putPart, hin]; rfl)
      have hin' := Lib.hid hin
      clear hin
      go_wp2
      go_region_law (refine Kd.N_append_step (Kd.slice 9 Kd.string) (w0 := w0) (W := (w2).drew) B ?hw (.tmp 59) (.tmp 64) 34 25 (.slice none 0 0) 24 ?ho Tryz.underlying34 info25 rfl (by decide) (by omega) (.slice As σ.sides.length cs) σ.sides P [.slice (some ⟨b, 0, none⟩) σ.part.length cp] (okO B g vo vt (.slice none 0 0)) (isOwn (.slice (some ⟨b, 0, none⟩) σ.part.length cp)) ?hs ?hx ?aP ?aK ?aF ?aO ?aB ?aS ?aL ?_; (case hw => rfl); (case ho => rfl); (case hs => rfl); (case hx => rfl); (case aP => have hp_ := (HT.out).part; first | exact Kd.FK_slice_mk (Kd.R_reads' hp_).2.1 (Kd.R_F (Kd.R_drew hp_)) | (rw [← HLN.out] at hp_ ⊢; exact Kd.FK_slice_mk (Kd.R_reads' hp_).2.1 (Kd.R_F (Kd.R_drew hp_)))); (case aK => exact fun k hk => have z := HA2.out.2.2.2.2 k hk; ⟨⟨z.1, z.2.2.1, z.2.2.2.1, z.2.2.2.2.1, isOwn_nil⟩, z.2.2.2.2.2⟩); (case aF => exact fun k hk => ⟨Nat.le_trans hBw hk, fun e => by have z1 : (w2).heap.size ≤ k := hk; have z2 := HA2.out.1; omega, fun x => absurd (HA2.out.2.1 k x).2.1 (Nat.not_lt.2 hk), fun x => absurd (HA2.out.2.2.1 k x).2.1 (Nat.not_lt.2 hk), isOwn_nil⟩); (case aO => exact Kd.N_mono (Kd.N_drew (HT.out).sides) (fun k hk => ⟨hk.1, hk.2.1, hk.2.2.1, hk.2.2.2.1, isOwn_nil⟩)); (case aB => exact HBT.out.drew); (case aS => exact hBw); (case aL => omega); intro v1 w1 hO1 hB1 hg1 hat1; obtain ⟨A3, c3', e3⟩ := Kd.N_slice hO1; subst e3; have hbk := blk_grown (w := (w2).drew) (HT.out).blk hg1 (fun e => (HA2.out.2.2.2.1 g e).2.2.1 rfl); obtain ⟨-, -, -, -, -, -, d6, d7, d8, -, -, dz⟩ := cells_of hbk; have HG1 := Lib.hid hg1; have HAT := Lib.hid hat1; have HB1 := Lib.hid hB1; clear hbk hg1 hat1 hB1)
      all_goals
       go_wp2
       go_ret
       have hO2 := RS.sided (HT.out) (w1 := w1) ⟨HG1.out.os, HG1.out.tape, HG1.out.output, HG1.out.size, HG1.out.block⟩ HAT.out hO1
       simp only [List.length_append, List.length_cons, List.length_nil, Nat.zero_add] at hO2
       rw [HR.out, HF.out]
       exact ⟨rfl, below_cell (below_cell (below_cell HB1.out H.out.hg _ _) H.out.hg _ _) H.out.hg _ _, fun σ' e => by obtain rfl := Option.some.inj e; exact ⟨_, _, _, _, _, hO2⟩⟩
     ·rw [hin] at c8
      have HF := Lib.hid (show putPart σ P = { σ with base := P, part := [], inb := false } by rw [putPart, hin]; rfl)
      have hin' := Lib.hid hin
      clear hin
      go_wp2
      go_ret
      have hO2 := RS.based (HT.out)
      rw [HR.out, HF.out]
      exact ⟨rfl, below_cell (below_cell (below_cell (HBT.out) H.out.hg _ _) H.out.hg _ _) H.out.hg _ _, fun σ' e => by obtain rfl := Option.some.inj e; exact ⟨_, _, _, _, _, hO2⟩⟩
end Go.Proofs.YtcnjbmdnnhbfkaaGreatDoor.Unmark
