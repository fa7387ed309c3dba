/- unmark: the base's begin, and what stands in a conflict. -/
import Derived.Test.YtcnjbmdnnhbfkaaGreatDoorUnmark3
import Derived.Laws.EntriesVeiled
namespace Go.Proofs.YtcnjbmdnnhbfkaaGreatDoor.Unmark
open Go.RowKit Go.Proofs.YtcnjbmdnnhbfkaaGreatDoorW.PrintWords Go.Proofs.YtcnjbmdnnhbfkaaGreatDoor.XD Go.Proofs.YtcnjbmdnnhbfkaaGreatDoor.Size
def beginP (σ : Rd) (isOpen : Bool) : Option Rd :=
 if 0 < σ.sides.length then none else if σ.style = 1 then none else (endP σ isOpen).map fun τ => { τ with inb := true, style := 2 }
structure Ok (σ : Rd) : Prop where
 long : σ.long ≤ 4096
 out : σ.out.length ≤ 1000000
 text : σ.text.length ≤ 1000000
 sides : σ.sides.length ≤ 90
 part : σ.part.length ≤ 1000000
 size : ∀ s ∈ σ.part, s.size ≤ 1000000
set_option maxHeartbeats 800000 in
theorem begin_calls (B : Nat) (w0 w : World) (g : Nat) (σ : Rd) (isOpen : Bool) {vo vt vb vs vp : Value} (h : RS B w g σ vo vt vb vs vp) (hB : Below B w0 w) (hBw : B ≤ w.heap.size) (hk : Ok σ) :
  Calls Tryz.prog 92 #[.pointer (some ⟨g, 0, none⟩), .bool isOpen] w (Told B w0 g (beginP σ isOpen)) := by
 obtain ⟨As, cs, es⟩ := Kd.N_slice h.sides
 subst es
 obtain ⟨c0, c1, c2, c3, c4, c5, c6, c7, c8, c9, c10, hfz⟩ := cells_of h.blk
 have H := Lib.hid h
 have HK := Lib.hid hk
 clear h hk
 have hsz : g < w.heap.size := H.out.apart.1
 by_cases h0 : 0 < σ.sides.length
 ·have h0b : decide (0 < σ.sides.length) = true := by simpa using h0
  have HR := Lib.hid (show beginP σ isOpen = none by rw [beginP, if_pos h0])
  go_enter Tryz.func92, Tryz.ntmps92
  go_wp2
  go_ret
  rw [HR.out]
  exact ⟨rfl, hB, fun σ' e => by cases e⟩
 ·have h0b : decide (0 < σ.sides.length) = false := by simpa using h0
  by_cases h1 : σ.style = 1
  ·have h1b : (σ.style == 1) = true := by simpa using h1
   have HR := Lib.hid (show beginP σ isOpen = none by rw [beginP, if_neg h0, if_pos h1])
   clear h1
   go_enter Tryz.func92, Tryz.ntmps92
   go_wp2
   go_ret
   rw [HR.out]
   exact ⟨rfl, hB, fun σ' e => by cases e⟩
  ·have h1b : (σ.style == 1) = false := by simpa using h1
   have HR := Lib.hid (show beginP σ isOpen = (endP σ isOpen).map fun τ => { τ with inb := true, style := 2 } by rw [beginP, if_neg h0, if_neg h1])
   clear h1
   go_enter Tryz.func92, Tryz.ntmps92
   go_wp2_with (fail)
   refine (end_calls B w0 w g σ isOpen H.out hB hBw (by have := HK.out.sides; omega) HK.out.part HK.out.size).mono ?_
   rintro e w1 ⟨rfl, hb1, hr⟩
   cases hE : endP σ isOpen with
   | none =>
    have HE := Lib.hid hE
    clear hE hr
    have HB1 := Lib.hid hb1
    clear hb1
    simp only [Option.isSome_none]
    go_wp2
    go_ret
    rw [HR.out, HE.out]
    exact ⟨rfl, HB1.out, fun σ' e => by cases e⟩
   | some τ =>
    obtain ⟨vo1, vt1, vb1, vs1, vp1, h1⟩ := hr τ hE
    have HE := Lib.hid hE
    clear hE hr
    have HB1 := Lib.hid hb1
    clear hb1 c0 c1 c2 c3 c4 c5 c6 c7 c8 c9 c10 hfz
    obtain ⟨c0, c1, c2, c3, c4, c5, c6, c7, c8, c9, c10, hfz⟩ := cells_of h1.blk
    have H1 := Lib.hid h1
    have hsz1 : g < w1.heap.size := h1.apart.1
    clear h1
    simp only [Option.isSome_some]
    go_wp2
    go_ret
    rw [HR.out, HE.out]
    exact ⟨rfl, below_cell (below_cell HB1.out H.out.hg _ _) H.out.hg _ _, fun σ' e => by obtain rfl := Option.some.inj e; exact ⟨_, _, _, _, _, H1.out.inBase⟩⟩
theorem digits_le (n : Nat) (h : n < 100) : (Lib.decDigits n).length ≤ 2 := by
 have : ∀ n, n < 100 → (Lib.decDigits n).length ≤ 2 := by decide +kernel
 exact this n h
theorem endP_out {σ τ : Rd} {b : Bool} (h : endP σ b = some τ) : τ.out = σ.out := by
 unfold endP at h
 obtain ⟨p, -, rfl⟩ := Option.map_eq_some_iff.1 h
 unfold putPart
 split <;> rfl
def isOk (σ : Rd) (s : ByteArray) (c : UInt8) (label : ByteArray) : Bool := eqS s (mkM ⟨#[c]⟩ σ.long ⟨#[]⟩ label) || eqS s (mkM ⟨#[c]⟩ σ.long bang label)
def isOp (σ : Rd) (s : ByteArray) (c : UInt8) (label : ByteArray) : Bool := eqS s (mkM ⟨#[c]⟩ σ.long bang label)
def baseL : ByteArray := ⟨#[32, 98, 97, 115, 101]⟩
def numL (n : Nat) : ByteArray := ⟨#[32]⟩ ++ ⟨(Lib.decDigits n).toArray⟩
def sidesN (σ : Rd) : Nat := σ.sides.length + (if σ.inb then 0 else 1)
def close (τ : Rd) : Rd := { τ with out := τ.out ++ [⟨τ.conf, [], τ.base, τ.sides⟩], conf := false, base := [], sides := [], inn := false }
def after (first last : Bool) (τ : Rd) : Rd := if last then close (if first then { τ with style := 1 } else τ) else (if first then { τ with style := 1 } else τ)
def bars (σ : Rd) (further last : Bool) : Bool := (!further && !last) || (further && decide (16 ≤ sidesN σ)) || (decide (σ.sides.length = 0) && decide (σ.style = 2))
def insideP (σ : Rd) (s : ByteArray) (mark : Bool) : Option Rd :=
 if mark = false then some { σ with part := σ.part ++ [s] }
 else if isOk σ s 124 baseL then beginP σ (isOp σ s 124 baseL)
 else if bars σ (isOk σ s 61 (numL (sidesN σ + 1))) (isOk σ s 62 ⟨#[]⟩) then none
 else (endP σ (isOp σ s 61 (numL (sidesN σ + 1)) || isOp σ s 62 ⟨#[]⟩)).map (after (decide (σ.sides.length = 0)) (isOk σ s 62 ⟨#[]⟩))
set_option maxRecDepth 100000 in
set_option maxHeartbeats 1600000 in
theorem inside_calls (B : Nat) (w0 w : World) (g : Nat) (σ : Rd) (s : ByteArray) (mark : Bool) {vo vt vb vs vp : Value} (h : RS B w g σ vo vt vb vs vp) (hB : Below B w0 w) (hBw : B ≤ w.heap.size) (hk : Ok σ) :
  Calls Tryz.prog 68 #[.pointer (some ⟨g, 0, none⟩), .string s, .bool mark] w (Told B w0 g (insideP σ s mark)) := by
 obtain ⟨Ap, cp, ep⟩ := Kd.R_slice h.part
 subst ep
 obtain ⟨As, cs, es⟩ := Kd.N_slice h.sides
 subst es
 obtain ⟨c0, c1, c2, c3, c4, c5, c6, c7, c8, c9, c10, hfz⟩ := cells_of h.blk
 have HA := Lib.hid h.apart
 have H := Lib.hid h
 have HK := Lib.hid hk
 clear h hk
 have hsz : g < w.heap.size := HA.out.1
 have hp := HK.out.part
 cases mark
 ·have HR := Lib.hid (show insideP σ s false = some { σ with part := σ.part ++ [s] } from rfl)
  go_enter Tryz.func68, Tryz.ntmps68
  go_wp2_with (at_builtin; refine Kd.R_append Kd.string (w0 := w0) B rfl (.tmp 21) (.tmp 23) 25 9 (.string ⟨#[]⟩) 16 rfl Tryz.underlying25 info9 rfl (by decide) (by omega) (.slice Ap σ.part.length cp) σ.part s [.string s] (fun _ => True) (fun _ => False) rfl rfl rfl (fun _ h => h.elim) (fun _ _ => trivial) (Kd.R_mono H.out.part (fun _ _ => trivial)) hB hBw (by omega) ?_; intro v1 w1 hT hB1 hg1 hat1; obtain ⟨A3, c3', e3⟩ := Kd.R_slice hT; subst e3; have hbk := blk_grown H.out.blk hg1 (fun e => (HA.out.2.2.2.2 g e).2.2.1 rfl); obtain ⟨-, -, -, -, -, -, -, d7, -, -, -, dz⟩ := cells_of hbk; have HG1 := Lib.hid hg1; have HAT := Lib.hid hat1; have HB1 := Lib.hid hB1; clear hbk hg1 hat1 hB1)
  go_ret
  have hO := H.out.parted HG1.out HAT.out hT
  simp only [List.length_append, List.length_cons, List.length_nil, Nat.zero_add] at hO
  rw [HR.out]
  exact ⟨rfl, below_cell HB1.out H.out.hg _ _, fun σ' e => by obtain rfl := Option.some.inj e; exact ⟨_, _, _, _, _, hO⟩⟩
 ·have hln := HK.out.long
  go_enter Tryz.func68, Tryz.ntmps68
  go_wp2_with (fail)
  refine (is_calls w g σ.long s baseL 124 c0 hln (by decide) hsz).mono ?_
  rintro e w1 ⟨rfl, hb1⟩
  have H1 := Lib.hid (H.out.below hb1)
  have HB1 := Lib.hid (show Below B w0 w1 from hB.trans (hb1.mono hBw))
  have hBw1 : B ≤ w1.heap.size := Nat.le_trans hBw hb1.size
  clear hb1 c0 c1 c2 c3 c4 c5 c6 c7 c8 c9 c10 hfz
  obtain ⟨c0, c1, c2, c3, c4, c5, c6, c7, c8, c9, c10, hfz⟩ := cells_of H1.out.blk
  have hsz1 : g < w1.heap.size := H1.out.apart.1
  obtain ⟨b1, hb1⟩ : ∃ b, isOk σ s 124 baseL = b := ⟨_, rfl⟩
  have e1 : (eqS s (mkM ⟨#[124]⟩ σ.long ⟨#[]⟩ baseL) || eqS s (mkM ⟨#[124]⟩ σ.long bang baseL)) = b1 := hb1
  rw [e1]
  have HE1 := Lib.hid hb1
  clear e1 hb1
  cases b1
  ·have hsd : σ.sides.length ≤ 90 := HK.out.sides
   go_upto_if 47 with (fail)
   go_cut [9] (fun v9 wc => v9 = .int .i64 (sidesN σ : Int) ∧ wc = w1)
   case first =>
    cases hin : σ.inb
    ·rw [hin] at c8
     have HS := Lib.hid (show sidesN σ = σ.sides.length + 1 by simp [sidesN, hin])
     clear hin
     go_wp2
     go_meet
     case rel => rw [HS.out]; exact ⟨by go_num, rfl⟩
    ·rw [hin] at c8
     have HS := Lib.hid (show sidesN σ = σ.sides.length by simp [sidesN, hin])
     clear hin
     go_wp2
     go_meet
     case rel => rw [HS.out]; exact ⟨rfl, rfl⟩
   case rest =>
    obtain ⟨rfl, rfl⟩ := hcut
    have hn : sidesN σ ≤ 91 := by unfold sidesN; split <;> omega
    generalize hN : sidesN σ = n at *
    have HN := Lib.hid hN
    clear hN
    have hdl := digits_le (n + 1) (by omega)
    go_wp2_with (fail)
    rw [show ((n : Int) + 1) = ((n + 1 : Nat) : Int) by simp]
    refine (Tryz.strconv_Itoa_small (n + 1) (by omega) _).mono ?_
    rintro e _ ⟨rfl, rfl⟩
    have hXs : (⟨(Lib.decDigits (n + 1)).toArray⟩ : ByteArray).size ≤ 2 := by simpa [ByteArray.size] using hdl
    have HNL := Lib.hid (show numL (n + 1) = ⟨#[32]⟩ ++ ⟨(Lib.decDigits (n + 1)).toArray⟩ from rfl)
    generalize (⟨(Lib.decDigits (n + 1)).toArray⟩ : ByteArray) = X at *
    clear hdl
    have hls : ((⟨#[32]⟩ : ByteArray) ++ X).size ≤ 1000 := by rw [ByteArray.size_append]; have : (⟨#[32]⟩ : ByteArray).size = 1 := rfl; omega
    go_wp2_with (fail)
    obtain ⟨L, hL⟩ : ∃ L : ByteArray, (⟨#[32]⟩ : ByteArray) ++ X = L := ⟨_, rfl⟩
    rw [hL] at hls ⊢
    have HNL2 := Lib.hid (HNL.out.trans hL)
    clear hL HNL
    refine (is_calls _ g σ.long s L 61 c0 hln hls hsz1).mono ?_
    rintro e w2 ⟨rfl, hb2⟩
    obtain ⟨further, hfu⟩ : ∃ b, isOk σ s 61 L = b := ⟨_, rfl⟩
    obtain ⟨fo, hfo⟩ : ∃ b, isOp σ s 61 L = b := ⟨_, rfl⟩
    rw [show (eqS s (mkM ⟨#[61]⟩ σ.long ⟨#[]⟩ L) || eqS s (mkM ⟨#[61]⟩ σ.long bang L)) = further from hfu, show eqS s (mkM ⟨#[61]⟩ σ.long bang L) = fo from hfo]
    have HF1 := Lib.hid (show isOk σ s 61 (numL (n + 1)) = further ∧ isOp σ s 61 (numL (n + 1)) = fo by rw [HNL2.out]; exact ⟨hfu, hfo⟩)
    clear hfu hfo HNL2 hls
    have H2 := Lib.hid (H1.out.below hb2)
    have HB2 := Lib.hid (show Below B w0 w2 from HB1.out.trans (hb2.mono hBw1))
    have hBw2 : B ≤ w2.heap.size := Nat.le_trans hBw1 hb2.size
    clear hb2 c0 c1 c2 c3 c4 c5 c6 c7 c8 c9 c10 hfz
    obtain ⟨c0, c1, c2, c3, c4, c5, c6, c7, c8, c9, c10, hfz⟩ := cells_of H2.out.blk
    have hsz2 : g < w2.heap.size := H2.out.apart.1
    go_wp2_with (fail)
    refine (is_calls _ g σ.long s ⟨#[]⟩ 62 c0 hln (by decide) hsz2).mono ?_
    rintro e w3 ⟨rfl, hb3⟩
    obtain ⟨last, hla⟩ : ∃ b, isOk σ s 62 ⟨#[]⟩ = b := ⟨_, rfl⟩
    obtain ⟨lo, hlo⟩ : ∃ b, isOp σ s 62 ⟨#[]⟩ = b := ⟨_, rfl⟩
    rw [show (eqS s (mkM ⟨#[62]⟩ σ.long ⟨#[]⟩ ⟨#[]⟩) || eqS s (mkM ⟨#[62]⟩ σ.long bang ⟨#[]⟩)) = last from hla, show eqS s (mkM ⟨#[62]⟩ σ.long bang ⟨#[]⟩) = lo from hlo]
    have HF := Lib.hid (show isOk σ s 61 (numL (n + 1)) = further ∧ isOp σ s 61 (numL (n + 1)) = fo ∧ isOk σ s 62 ⟨#[]⟩ = last ∧ isOp σ s 62 ⟨#[]⟩ = lo from ⟨HF1.out.1, HF1.out.2, hla, hlo⟩)
    clear hla hlo HF1
    have H3 := Lib.hid (H2.out.below hb3)
    have HB3 := Lib.hid (show Below B w0 w3 from HB2.out.trans (hb3.mono hBw2))
    have hBw3 : B ≤ w3.heap.size := Nat.le_trans hBw2 hb3.size
    clear hb3 c0 c1 c2 c3 c4 c5 c6 c7 c8 c9 c10 hfz
    obtain ⟨c0, c1, c2, c3, c4, c5, c6, c7, c8, c9, c10, hfz⟩ := cells_of H3.out.blk
    have hsz3 : g < w3.heap.size := H3.out.apart.1
    cases further <;> cases last
    ·have HR := Lib.hid (show insideP σ s true = none by rw [insideP, if_neg (by decide), if_neg (by rw [HE1.out]; decide), HN.out, HF.out.1, HF.out.2.2.1, if_pos (by simp [bars])])
     go_wp2
     go_ret
     rw [HR.out]
     exact ⟨rfl, HB3.out, fun σ' e => by cases e⟩
    ·by_cases hf : σ.sides.length = 0
     ·have hfb : ((σ.sides.length : Int) == 0) = true := by rw [beq_iff_eq]; omega
      rw [hfb]
      by_cases hs2 : σ.style = 2
      ·have hs2b : (σ.style == 2) = true := by simpa using hs2
       clear hs2
       have HR := Lib.hid (show insideP σ s true = none by rw [insideP, if_neg (by decide), if_neg (by rw [HE1.out]; decide), HN.out, HF.out.1, HF.out.2.2.1, if_pos (by simp [bars, hf, show σ.style = 2 by simpa using hs2b])])
       go_wp2
       go_ret
       rw [HR.out]
       exact ⟨rfl, HB3.out, fun σ' e => by cases e⟩
      ·have hs2b : (σ.style == 2) = false := by simpa using hs2
       have HBR := Lib.hid (show bars σ false true = false by simp [bars, hs2])
       clear hs2
       have HR := Lib.hid (show insideP σ s true = (endP σ (fo || lo)).map (after true true) by rw [insideP, if_neg (by decide), if_neg (by rw [HE1.out]; decide), HN.out, HF.out.1, HF.out.2.1, HF.out.2.2.1, HF.out.2.2.2, HBR.out, if_neg (by decide), decide_eq_true hf])
       go_upto_region 13 with (fail)
       go_cut [104] (fun v104 wc => v104 = .bool !(endP σ (fo || lo)).isSome ∧ Hid (Below B w0 wc) ∧ Hid (∀ σ', endP σ (fo || lo) = some σ' → ∃ vo vt vb vs vp, RS B wc g σ' vo vt vb vs vp))
       case first =>
        cases fo <;> cases lo
        all_goals
         go_wp2_with (go_at_call 93; refine (end_calls B w0 w3 g σ _ H3.out HB3.out hBw3 (by omega) hp HK.out.size).mono ?_; rintro e w4 ⟨rfl, hb4, hr⟩; have HB4 := Lib.hid hb4; have HRR := Lib.hid hr; clear hb4 hr)
         go_meet
         case rel => exact ⟨by first | rfl | (simp; done), HB4.out, HRR.out⟩
       case rest =>
        obtain ⟨rfl, HB4, HRR⟩ := hcut
        generalize hE : endP σ (fo || lo) = E at *
        have HEE := Lib.hid hE
        clear hE
        cases E with
        | none =>
         simp only [Option.isSome_none, Bool.not_false]
         go_wp2
         go_ret
         rw [HR.out]
         exact ⟨rfl, HB4.out, fun σ' e => by cases e⟩
        | some τ =>
         obtain ⟨vo4, vt4, vb4, vs4, vp4, h4⟩ := HRR.out τ rfl
         have hto : τ.out.length ≤ 1000000 := by rw [endP_out HEE.out]; exact HK.out.out
         obtain ⟨Ao4, co4, eo4⟩ := Kd.N_slice h4.out
         subst eo4
         obtain ⟨As4, cs4, es4⟩ := Kd.N_slice h4.sides
         subst es4
         obtain ⟨Ab4, cb4, eb4⟩ := Kd.V_slice h4.base
         subst eb4
         clear HRR c0 c1 c2 c3 c4 c5 c6 c7 c8 c9 c10 hfz
         have hg := h4.hg
         have HS4 := Lib.hid h4.styled
         have HAF := Lib.hid (show after true true τ = close { τ with style := 1 } by rfl)
         obtain ⟨c0, c1, c2, c3, c4, c5, c6, c7, c8, c9, c10, hfz⟩ := cells_of h4.blk
         have hsz4 : g < wc.heap.size := h4.apart.1
         have hBw4 : B ≤ wc.heap.size := Nat.le_of_lt (Nat.lt_of_le_of_lt hg hsz4)
         clear h4
         simp only [Option.isSome_some, Bool.not_true]
         go_wp2
         go_region_law (refine Kd.N_append_step k36 (w0 := w0) (W := ((wc.setCell ⟨g, 9, none⟩ (.int .i64 1))).drew) B ?hw (.tmp 114) (.tmp 119) 22 36 (.agg #[(.bool false), (.slice none 0 0), (.slice none 0 0), (.slice none 0 0)]) 80 ?ho Tryz.underlying22 info36 rfl (by decide) (by omega) (.slice Ao4 τ.out.length co4) τ.out (⟨τ.conf, [], τ.base, τ.sides⟩ : Piece) [.bool τ.conf, .slice none 0 0, .slice Ab4 τ.base.length cb4, .slice As4 τ.sides.length cs4] (okO B g vt4 (.slice none 0 0) vp4) (okO B g (.slice Ao4 τ.out.length co4) vt4 vp4) ?hs ?hx ?aP ?aK ?aF ?aO ?aB ?aS ?aL ?_; (case hw => rfl); (case ho => rfl); (case hs => rfl); (case hx => first | rfl | (have z_ : ((wc.setCell ⟨g, 9, none⟩ (.int .i64 1))).heap.size = wc.heap.size := (by simp [World.setCell]); exact congrArg (fun n_ : Nat => (Value.slice (some ⟨n_, 0, none⟩) 1 1)) z_.symm)); (case aP => exact k36_mkF _ _ _ (Nat.le_refl _) (Kd.F_nil _ _ _) (Kd.V_reads' HS4.out.base).2.1 (Kd.V_F (Kd.V_mono (Kd.V_drew HS4.out.base) (fun k hk => ⟨hk.1, hk.2.1, hk.2.2.1, hk.2.2.2.1, hk.2.2.2.2.2⟩))) (Kd.N_reads' HS4.out.sides).2.1 (Kd.N_F (Kd.N_drew HS4.out.sides))); (case aK => exact fun k hk => ⟨⟨hk.1, hk.2.1, hk.2.2.2.1, isOwn_nil, hk.2.2.2.2⟩, hk.2.2.1⟩); (case aF => exact fun k hk => have z := HS4.out.apart; ⟨Nat.le_trans (show B ≤ ((wc.setCell ⟨g, 9, none⟩ (.int .i64 1))).heap.size by simpa [World.setCell] using hBw4) hk, fun e => by have z1 : ((wc.setCell ⟨g, 9, none⟩ (.int .i64 1))).heap.size ≤ k := hk; have z2 := z.1; omega, fun x => absurd (z.2.2.1 k x).2.1 (Nat.not_lt.2 hk), isOwn_nil, fun x => absurd (z.2.2.2.2 k x).2.1 (Nat.not_lt.2 hk)⟩); (case aO => exact Kd.N_mono (Kd.N_drew HS4.out.out) (fun k hk => ⟨hk.1, hk.2.1, hk.2.2.1, isOwn_nil, hk.2.2.2.2⟩)); (case aB => exact ((below_cell HB4.out hg _ _)).drew); (case aS => show B ≤ ((wc.setCell ⟨g, 9, none⟩ (.int .i64 1))).heap.size; simpa [World.setCell] using hBw4); (case aL => omega); intro v5 w5 hO5 hB5 hg5 hat5; obtain ⟨A5, c5', e5⟩ := Kd.N_slice hO5; subst e5; have hbk := blk_grown (w := ((wc.setCell ⟨g, 9, none⟩ (.int .i64 1))).drew) HS4.out.blk hg5 (fun e => (HS4.out.apart.2.1 g e).2.2.1 rfl); obtain ⟨-, d1, -, d3, d4, d5, d6, -, -, -, d10, dz⟩ := cells_of hbk; have HG5 := Lib.hid hg5; have HAT5 := Lib.hid hat5; have HB5 := Lib.hid hB5; clear hbk hg5 hat5 hB5)
         all_goals
          go_wp2
          go_ret
          have hO2 := HS4.out.ended (w1 := w5) ⟨HG5.out.os, HG5.out.tape, HG5.out.output, HG5.out.size, HG5.out.block⟩ HAT5.out hO5
          simp only [List.length_append, List.length_cons, List.length_nil, Nat.zero_add] at hO2
          rw [HR.out, Option.map_some, HAF.out]
          exact ⟨rfl, below_cell (below_cell (below_cell (below_cell (below_cell (below_cell HB5.out hg _ _) hg _ _) hg _ _) hg _ _) hg _ _) hg _ _, fun σ' e => by obtain rfl := Option.some.inj e; exact ⟨_, _, _, _, _, hO2⟩⟩
     ·have hfb : ((σ.sides.length : Int) == 0) = false := by rw [beq_eq_false_iff_ne]; omega
      rw [hfb]
      have HBR := Lib.hid (show bars σ false true = false by simp [bars, hf])
      have HR := Lib.hid (show insideP σ s true = (endP σ (fo || lo)).map (after false true) by rw [insideP, if_neg (by decide), if_neg (by rw [HE1.out]; decide), HN.out, HF.out.1, HF.out.2.1, HF.out.2.2.1, HF.out.2.2.2, HBR.out, if_neg (by decide), decide_eq_false hf])
      go_upto_region 13 with (fail)
      go_cut [104] (fun v104 wc => v104 = .bool !(endP σ (fo || lo)).isSome ∧ Hid (Below B w0 wc) ∧ Hid (∀ σ', endP σ (fo || lo) = some σ' → ∃ vo vt vb vs vp, RS B wc g σ' vo vt vb vs vp))
      case first =>
       cases fo <;> cases lo
       all_goals
        go_wp2_with (go_at_call 93; refine (end_calls B w0 w3 g σ _ H3.out HB3.out hBw3 (by omega) hp HK.out.size).mono ?_; rintro e w4 ⟨rfl, hb4, hr⟩; have HB4 := Lib.hid hb4; have HRR := Lib.hid hr; clear hb4 hr)
        go_meet
        case rel => exact ⟨by first | rfl | (simp; done), HB4.out, HRR.out⟩
      case rest =>
       obtain ⟨rfl, HB4, HRR⟩ := hcut
       generalize hE : endP σ (fo || lo) = E at *
       have HEE := Lib.hid hE
       clear hE
       cases E with
       | none =>
        simp only [Option.isSome_none, Bool.not_false]
        go_wp2
        go_ret
        rw [HR.out]
        exact ⟨rfl, HB4.out, fun σ' e => by cases e⟩
       | some τ =>
        obtain ⟨vo4, vt4, vb4, vs4, vp4, h4⟩ := HRR.out τ rfl
        have hto : τ.out.length ≤ 1000000 := by rw [endP_out HEE.out]; exact HK.out.out
        obtain ⟨Ao4, co4, eo4⟩ := Kd.N_slice h4.out
        subst eo4
        obtain ⟨As4, cs4, es4⟩ := Kd.N_slice h4.sides
        subst es4
        obtain ⟨Ab4, cb4, eb4⟩ := Kd.V_slice h4.base
        subst eb4
        clear HRR c0 c1 c2 c3 c4 c5 c6 c7 c8 c9 c10 hfz
        have hg := h4.hg
        have HS4 := Lib.hid h4
        have HAF := Lib.hid (show after false true τ = close τ by rfl)
        obtain ⟨c0, c1, c2, c3, c4, c5, c6, c7, c8, c9, c10, hfz⟩ := cells_of h4.blk
        have hsz4 : g < wc.heap.size := h4.apart.1
        have hBw4 : B ≤ wc.heap.size := Nat.le_of_lt (Nat.lt_of_le_of_lt hg hsz4)
        clear h4
        simp only [Option.isSome_some, Bool.not_true]
        go_wp2
        go_region_law (refine Kd.N_append_step k36 (w0 := w0) (W := (wc).drew) B ?hw (.tmp 114) (.tmp 119) 22 36 (.agg #[(.bool false), (.slice none 0 0), (.slice none 0 0), (.slice none 0 0)]) 80 ?ho Tryz.underlying22 info36 rfl (by decide) (by omega) (.slice Ao4 τ.out.length co4) τ.out (⟨τ.conf, [], τ.base, τ.sides⟩ : Piece) [.bool τ.conf, .slice none 0 0, .slice Ab4 τ.base.length cb4, .slice As4 τ.sides.length cs4] (okO B g vt4 (.slice none 0 0) vp4) (okO B g (.slice Ao4 τ.out.length co4) vt4 vp4) ?hs ?hx ?aP ?aK ?aF ?aO ?aB ?aS ?aL ?_; (case hw => rfl); (case ho => rfl); (case hs => rfl); (case hx => first | rfl | (have z_ : (wc).heap.size = wc.heap.size := (by simp [World.setCell]); exact congrArg (fun n_ : Nat => (Value.slice (some ⟨n_, 0, none⟩) 1 1)) z_.symm)); (case aP => exact k36_mkF _ _ _ (Nat.le_refl _) (Kd.F_nil _ _ _) (Kd.V_reads' HS4.out.base).2.1 (Kd.V_F (Kd.V_mono (Kd.V_drew HS4.out.base) (fun k hk => ⟨hk.1, hk.2.1, hk.2.2.1, hk.2.2.2.1, hk.2.2.2.2.2⟩))) (Kd.N_reads' HS4.out.sides).2.1 (Kd.N_F (Kd.N_drew HS4.out.sides))); (case aK => exact fun k hk => ⟨⟨hk.1, hk.2.1, hk.2.2.2.1, isOwn_nil, hk.2.2.2.2⟩, hk.2.2.1⟩); (case aF => exact fun k hk => have z := HS4.out.apart; ⟨Nat.le_trans (show B ≤ (wc).heap.size by simpa [World.setCell] using hBw4) hk, fun e => by have z1 : (wc).heap.size ≤ k := hk; have z2 := z.1; omega, fun x => absurd (z.2.2.1 k x).2.1 (Nat.not_lt.2 hk), isOwn_nil, fun x => absurd (z.2.2.2.2 k x).2.1 (Nat.not_lt.2 hk)⟩); (case aO => exact Kd.N_mono (Kd.N_drew HS4.out.out) (fun k hk => ⟨hk.1, hk.2.1, hk.2.2.1, isOwn_nil, hk.2.2.2.2⟩)); (case aB => exact (HB4.out).drew); (case aS => show B ≤ (wc).heap.size; simpa [World.setCell] using hBw4); (case aL => omega); intro v5 w5 hO5 hB5 hg5 hat5; obtain ⟨A5, c5', e5⟩ := Kd.N_slice hO5; subst e5; have hbk := blk_grown (w := (wc).drew) HS4.out.blk hg5 (fun e => (HS4.out.apart.2.1 g e).2.2.1 rfl); obtain ⟨-, d1, -, d3, d4, d5, d6, -, -, -, d10, dz⟩ := cells_of hbk; have HG5 := Lib.hid hg5; have HAT5 := Lib.hid hat5; have HB5 := Lib.hid hB5; clear hbk hg5 hat5 hB5)
        all_goals
         go_wp2
         go_ret
         have hO2 := HS4.out.ended (w1 := w5) ⟨HG5.out.os, HG5.out.tape, HG5.out.output, HG5.out.size, HG5.out.block⟩ HAT5.out hO5
         simp only [List.length_append, List.length_cons, List.length_nil, Nat.zero_add] at hO2
         rw [HR.out, Option.map_some, HAF.out]
         exact ⟨rfl, below_cell (below_cell (below_cell (below_cell (below_cell (below_cell HB5.out hg _ _) hg _ _) hg _ _) hg _ _) hg _ _) hg _ _, fun σ' e => by obtain rfl := Option.some.inj e; exact ⟨_, _, _, _, _, hO2⟩⟩
    ·by_cases h16 : 16 ≤ n
     ·have h16b : decide (16 ≤ (n : Int)) = true := by simp; omega
      have HR := Lib.hid (show insideP σ s true = none by rw [insideP, if_neg (by decide), if_neg (by rw [HE1.out]; decide), HN.out, HF.out.1, HF.out.2.2.1, if_pos (by simp [bars, HN.out, h16])])
      go_wp2
      go_ret
      rw [HR.out]
      exact ⟨rfl, HB3.out, fun σ' e => by cases e⟩
     ·have h16b : decide (16 ≤ (n : Int)) = false := by simp; omega
      by_cases hf : σ.sides.length = 0
      ·have hfb : ((σ.sides.length : Int) == 0) = true := by rw [beq_iff_eq]; omega
       rw [hfb]
       by_cases hs2 : σ.style = 2
       ·have hs2b : (σ.style == 2) = true := by simpa using hs2
        clear hs2
        have HR := Lib.hid (show insideP σ s true = none by rw [insideP, if_neg (by decide), if_neg (by rw [HE1.out]; decide), HN.out, HF.out.1, HF.out.2.2.1, if_pos (by simp [bars, hf, show σ.style = 2 by simpa using hs2b])])
        go_wp2
        go_ret
        rw [HR.out]
        exact ⟨rfl, HB3.out, fun σ' e => by cases e⟩
       ·have hs2b : (σ.style == 2) = false := by simpa using hs2
        have HBR := Lib.hid (show bars σ true false = false by simp [bars, hs2, HN.out, h16])
        clear hs2
        have HR := Lib.hid (show insideP σ s true = (endP σ (fo || lo)).map (after true false) by rw [insideP, if_neg (by decide), if_neg (by rw [HE1.out]; decide), HN.out, HF.out.1, HF.out.2.1, HF.out.2.2.1, HF.out.2.2.2, HBR.out, if_neg (by decide), decide_eq_true hf])
        go_upto_region 13 with (fail)
        go_cut [104] (fun v104 wc => v104 = .bool !(endP σ (fo || lo)).isSome ∧ Hid (Below B w0 wc) ∧ Hid (∀ σ', endP σ (fo || lo) = some σ' → ∃ vo vt vb vs vp, RS B wc g σ' vo vt vb vs vp))
        case first =>
         cases fo <;> cases lo
         all_goals
          go_wp2_with (go_at_call 93; refine (end_calls B w0 w3 g σ _ H3.out HB3.out hBw3 (by omega) hp HK.out.size).mono ?_; rintro e w4 ⟨rfl, hb4, hr⟩; have HB4 := Lib.hid hb4; have HRR := Lib.hid hr; clear hb4 hr)
          go_meet
          case rel => exact ⟨by first | rfl | (simp; done), HB4.out, HRR.out⟩
        case rest =>
         obtain ⟨rfl, HB4, HRR⟩ := hcut
         generalize hE : endP σ (fo || lo) = E at *
         have HEE := Lib.hid hE
         clear hE
         cases E with
         | none =>
          simp only [Option.isSome_none, Bool.not_false]
          go_wp2
          go_ret
          rw [HR.out]
          exact ⟨rfl, HB4.out, fun σ' e => by cases e⟩
         | some τ =>
          obtain ⟨vo4, vt4, vb4, vs4, vp4, h4⟩ := HRR.out τ rfl
          have hto : τ.out.length ≤ 1000000 := by rw [endP_out HEE.out]; exact HK.out.out
          obtain ⟨Ao4, co4, eo4⟩ := Kd.N_slice h4.out
          subst eo4
          obtain ⟨As4, cs4, es4⟩ := Kd.N_slice h4.sides
          subst es4
          obtain ⟨Ab4, cb4, eb4⟩ := Kd.V_slice h4.base
          subst eb4
          clear HRR c0 c1 c2 c3 c4 c5 c6 c7 c8 c9 c10 hfz
          have hg := h4.hg
          have HS4 := Lib.hid h4.styled
          have HAF := Lib.hid (show after true false τ = { τ with style := 1 } by rfl)
          obtain ⟨c0, c1, c2, c3, c4, c5, c6, c7, c8, c9, c10, hfz⟩ := cells_of h4.blk
          have hsz4 : g < wc.heap.size := h4.apart.1
          have hBw4 : B ≤ wc.heap.size := Nat.le_of_lt (Nat.lt_of_le_of_lt hg hsz4)
          clear h4
          simp only [Option.isSome_some, Bool.not_true]
          go_wp2
          go_ret
          rw [HR.out, Option.map_some, HAF.out]
          exact ⟨rfl, (below_cell HB4.out hg _ _), fun σ' e => by obtain rfl := Option.some.inj e; exact ⟨_, _, _, _, _, HS4.out⟩⟩
      ·have hfb : ((σ.sides.length : Int) == 0) = false := by rw [beq_eq_false_iff_ne]; omega
       rw [hfb]
       have HBR := Lib.hid (show bars σ true false = false by simp [bars, hf, HN.out, h16])
       have HR := Lib.hid (show insideP σ s true = (endP σ (fo || lo)).map (after false false) by rw [insideP, if_neg (by decide), if_neg (by rw [HE1.out]; decide), HN.out, HF.out.1, HF.out.2.1, HF.out.2.2.1, HF.out.2.2.2, HBR.out, if_neg (by decide), decide_eq_false hf])
       go_upto_region 13 with (fail)
       go_cut [104] (fun v104 wc => v104 = .bool !(endP σ (fo || lo)).isSome ∧ Hid (Below B w0 wc) ∧ Hid (∀ σ', endP σ (fo || lo) = some σ' → ∃ vo vt vb vs vp, RS B wc g σ' vo vt vb vs vp))
       case first =>
        cases fo <;> cases lo
        all_goals
         go_wp2_with (go_at_call 93; refine (end_calls B w0 w3 g σ _ H3.out HB3.out hBw3 (by omega) hp HK.out.size).mono ?_; rintro e w4 ⟨rfl, hb4, hr⟩; have HB4 := Lib.hid hb4; have HRR := Lib.hid hr; clear hb4 hr)
         go_meet
         case rel => exact ⟨by first | rfl | (simp; done), HB4.out, HRR.out⟩
       case rest =>
        obtain ⟨rfl, HB4, HRR⟩ := hcut
        generalize hE : endP σ (fo || lo) = E at *
        have HEE := Lib.hid hE
        clear hE
        cases E with
        | none =>
         simp only [Option.isSome_none, Bool.not_false]
         go_wp2
         go_ret
         rw [HR.out]
         exact ⟨rfl, HB4.out, fun σ' e => by cases e⟩
        | some τ =>
         obtain ⟨vo4, vt4, vb4, vs4, vp4, h4⟩ := HRR.out τ rfl
         have hto : τ.out.length ≤ 1000000 := by rw [endP_out HEE.out]; exact HK.out.out
         obtain ⟨Ao4, co4, eo4⟩ := Kd.N_slice h4.out
         subst eo4
         obtain ⟨As4, cs4, es4⟩ := Kd.N_slice h4.sides
         subst es4
         obtain ⟨Ab4, cb4, eb4⟩ := Kd.V_slice h4.base
         subst eb4
         clear HRR c0 c1 c2 c3 c4 c5 c6 c7 c8 c9 c10 hfz
         have hg := h4.hg
         have HS4 := Lib.hid h4
         have HAF := Lib.hid (show after false false τ = τ by rfl)
         obtain ⟨c0, c1, c2, c3, c4, c5, c6, c7, c8, c9, c10, hfz⟩ := cells_of h4.blk
         have hsz4 : g < wc.heap.size := h4.apart.1
         have hBw4 : B ≤ wc.heap.size := Nat.le_of_lt (Nat.lt_of_le_of_lt hg hsz4)
         clear h4
         simp only [Option.isSome_some, Bool.not_true]
         go_wp2
         go_ret
         rw [HR.out, Option.map_some, HAF.out]
         exact ⟨rfl, HB4.out, fun σ' e => by obtain rfl := Option.some.inj e; exact ⟨_, _, _, _, _, HS4.out⟩⟩
    ·by_cases h16 : 16 ≤ n
     ·have h16b : decide (16 ≤ (n : Int)) = true := by simp; omega
      have HR := Lib.hid (show insideP σ s true = none by rw [insideP, if_neg (by decide), if_neg (by rw [HE1.out]; decide), HN.out, HF.out.1, HF.out.2.2.1, if_pos (by simp [bars, HN.out, h16])])
      go_wp2
      go_ret
      rw [HR.out]
      exact ⟨rfl, HB3.out, fun σ' e => by cases e⟩
     ·have h16b : decide (16 ≤ (n : Int)) = false := by simp; omega
      by_cases hf : σ.sides.length = 0
      ·have hfb : ((σ.sides.length : Int) == 0) = true := by rw [beq_iff_eq]; omega
       rw [hfb]
       by_cases hs2 : σ.style = 2
       ·have hs2b : (σ.style == 2) = true := by simpa using hs2
        clear hs2
        have HR := Lib.hid (show insideP σ s true = none by rw [insideP, if_neg (by decide), if_neg (by rw [HE1.out]; decide), HN.out, HF.out.1, HF.out.2.2.1, if_pos (by simp [bars, hf, show σ.style = 2 by simpa using hs2b])])
        go_wp2
        go_ret
        rw [HR.out]
        exact ⟨rfl, HB3.out, fun σ' e => by cases e⟩
       ·have hs2b : (σ.style == 2) = false := by simpa using hs2
        have HBR := Lib.hid (show bars σ true true = false by simp [bars, hs2, HN.out, h16])
        clear hs2
        have HR := Lib.hid (show insideP σ s true = (endP σ (fo || lo)).map (after true true) by rw [insideP, if_neg (by decide), if_neg (by rw [HE1.out]; decide), HN.out, HF.out.1, HF.out.2.1, HF.out.2.2.1, HF.out.2.2.2, HBR.out, if_neg (by decide), decide_eq_true hf])
        go_upto_region 13 with (fail)
        go_cut [104] (fun v104 wc => v104 = .bool !(endP σ (fo || lo)).isSome ∧ Hid (Below B w0 wc) ∧ Hid (∀ σ', endP σ (fo || lo) = some σ' → ∃ vo vt vb vs vp, RS B wc g σ' vo vt vb vs vp))
        case first =>
         cases fo <;> cases lo
         all_goals
          go_wp2_with (go_at_call 93; refine (end_calls B w0 w3 g σ _ H3.out HB3.out hBw3 (by omega) hp HK.out.size).mono ?_; rintro e w4 ⟨rfl, hb4, hr⟩; have HB4 := Lib.hid hb4; have HRR := Lib.hid hr; clear hb4 hr)
          go_meet
          case rel => exact ⟨by first | rfl | (simp; done), HB4.out, HRR.out⟩
        case rest =>
         obtain ⟨rfl, HB4, HRR⟩ := hcut
         generalize hE : endP σ (fo || lo) = E at *
         have HEE := Lib.hid hE
         clear hE
         cases E with
         | none =>
          simp only [Option.isSome_none, Bool.not_false]
          go_wp2
          go_ret
          rw [HR.out]
          exact ⟨rfl, HB4.out, fun σ' e => by cases e⟩
         | some τ =>
          obtain ⟨vo4, vt4, vb4, vs4, vp4, h4⟩ := HRR.out τ rfl
          have hto : τ.out.length ≤ 1000000 := by rw [endP_out HEE.out]; exact HK.out.out
          obtain ⟨Ao4, co4, eo4⟩ := Kd.N_slice h4.out
          subst eo4
          obtain ⟨As4, cs4, es4⟩ := Kd.N_slice h4.sides
          subst es4
          obtain ⟨Ab4, cb4, eb4⟩ := Kd.V_slice h4.base
          subst eb4
          clear HRR c0 c1 c2 c3 c4 c5 c6 c7 c8 c9 c10 hfz
          have hg := h4.hg
          have HS4 := Lib.hid h4.styled
          have HAF := Lib.hid (show after true true τ = close { τ with style := 1 } by rfl)
          obtain ⟨c0, c1, c2, c3, c4, c5, c6, c7, c8, c9, c10, hfz⟩ := cells_of h4.blk
          have hsz4 : g < wc.heap.size := h4.apart.1
          have hBw4 : B ≤ wc.heap.size := Nat.le_of_lt (Nat.lt_of_le_of_lt hg hsz4)
          clear h4
          simp only [Option.isSome_some, Bool.not_true]
          go_wp2
          go_region_law (refine Kd.N_append_step k36 (w0 := w0) (W := ((wc.setCell ⟨g, 9, none⟩ (.int .i64 1))).drew) B ?hw (.tmp 114) (.tmp 119) 22 36 (.agg #[(.bool false), (.slice none 0 0), (.slice none 0 0), (.slice none 0 0)]) 80 ?ho Tryz.underlying22 info36 rfl (by decide) (by omega) (.slice Ao4 τ.out.length co4) τ.out (⟨τ.conf, [], τ.base, τ.sides⟩ : Piece) [.bool τ.conf, .slice none 0 0, .slice Ab4 τ.base.length cb4, .slice As4 τ.sides.length cs4] (okO B g vt4 (.slice none 0 0) vp4) (okO B g (.slice Ao4 τ.out.length co4) vt4 vp4) ?hs ?hx ?aP ?aK ?aF ?aO ?aB ?aS ?aL ?_; (case hw => rfl); (case ho => rfl); (case hs => rfl); (case hx => first | rfl | (have z_ : ((wc.setCell ⟨g, 9, none⟩ (.int .i64 1))).heap.size = wc.heap.size := (by simp [World.setCell]); exact congrArg (fun n_ : Nat => (Value.slice (some ⟨n_, 0, none⟩) 1 1)) z_.symm)); (case aP => exact k36_mkF _ _ _ (Nat.le_refl _) (Kd.F_nil _ _ _) (Kd.V_reads' HS4.out.base).2.1 (Kd.V_F (Kd.V_mono (Kd.V_drew HS4.out.base) (fun k hk => ⟨hk.1, hk.2.1, hk.2.2.1, hk.2.2.2.1, hk.2.2.2.2.2⟩))) (Kd.N_reads' HS4.out.sides).2.1 (Kd.N_F (Kd.N_drew HS4.out.sides))); (case aK => exact fun k hk => ⟨⟨hk.1, hk.2.1, hk.2.2.2.1, isOwn_nil, hk.2.2.2.2⟩, hk.2.2.1⟩); (case aF => exact fun k hk => have z := HS4.out.apart; ⟨Nat.le_trans (show B ≤ ((wc.setCell ⟨g, 9, none⟩ (.int .i64 1))).heap.size by simpa [World.setCell] using hBw4) hk, fun e => by have z1 : ((wc.setCell ⟨g, 9, none⟩ (.int .i64 1))).heap.size ≤ k := hk; have z2 := z.1; omega, fun x => absurd (z.2.2.1 k x).2.1 (Nat.not_lt.2 hk), isOwn_nil, fun x => absurd (z.2.2.2.2 k x).2.1 (Nat.not_lt.2 hk)⟩); (case aO => exact Kd.N_mono (Kd.N_drew HS4.out.out) (fun k hk => ⟨hk.1, hk.2.1, hk.2.2.1, isOwn_nil, hk.2.2.2.2⟩)); (case aB => exact ((below_cell HB4.out hg _ _)).drew); (case aS => show B ≤ ((wc.setCell ⟨g, 9, none⟩ (.int .i64 1))).heap.size; simpa [World.setCell] using hBw4); (case aL => omega); intro v5 w5 hO5 hB5 hg5 hat5; obtain ⟨A5, c5', e5⟩ := Kd.N_slice hO5; subst e5; have hbk := blk_grown (w := ((wc.setCell ⟨g, 9, none⟩ (.int .i64 1))).drew) HS4.out.blk hg5 (fun e => (HS4.out.apart.2.1 g e).2.2.1 rfl); obtain ⟨-, d1, -, d3, d4, d5, d6, -, -, -, d10, dz⟩ := cells_of hbk; have HG5 := Lib.hid hg5; have HAT5 := Lib.hid hat5; have HB5 := Lib.hid hB5; clear hbk hg5 hat5 hB5)
          all_goals
           go_wp2
           go_ret
           have hO2 := HS4.out.ended (w1 := w5) ⟨HG5.out.os, HG5.out.tape, HG5.out.output, HG5.out.size, HG5.out.block⟩ HAT5.out hO5
           simp only [List.length_append, List.length_cons, List.length_nil, Nat.zero_add] at hO2
           rw [HR.out, Option.map_some, HAF.out]
           exact ⟨rfl, below_cell (below_cell (below_cell (below_cell (below_cell (below_cell HB5.out hg _ _) hg _ _) hg _ _) hg _ _) hg _ _) hg _ _, fun σ' e => by obtain rfl := Option.some.inj e; exact ⟨_, _, _, _, _, hO2⟩⟩
      ·have hfb : ((σ.sides.length : Int) == 0) = false := by rw [beq_eq_false_iff_ne]; omega
       rw [hfb]
       have HBR := Lib.hid (show bars σ true true = false by simp [bars, hf, HN.out, h16])
       have HR := Lib.hid (show insideP σ s true = (endP σ (fo || lo)).map (after false true) by rw [insideP, if_neg (by decide), if_neg (by rw [HE1.out]; decide), HN.out, HF.out.1, HF.out.2.1, HF.out.2.2.1, HF.out.2.2.2, HBR.out, if_neg (by decide), decide_eq_false hf])
       go_upto_region 13 with (fail)
       go_cut [104] (fun v104 wc => v104 = .bool !(endP σ (fo || lo)).isSome ∧ Hid (Below B w0 wc) ∧ Hid (∀ σ', endP σ (fo || lo) = some σ' → ∃ vo vt vb vs vp, RS B wc g σ' vo vt vb vs vp))
       case first =>
        cases fo <;> cases lo
        all_goals
         go_wp2_with (go_at_call 93; refine (end_calls B w0 w3 g σ _ H3.out HB3.out hBw3 (by omega) hp HK.out.size).mono ?_; rintro e w4 ⟨rfl, hb4, hr⟩; have HB4 := Lib.hid hb4; have HRR := Lib.hid hr; clear hb4 hr)
         go_meet
         case rel => exact ⟨by first | rfl | (simp; done), HB4.out, HRR.out⟩
       case rest =>
        obtain ⟨rfl, HB4, HRR⟩ := hcut
        generalize hE : endP σ (fo || lo) = E at *
        have HEE := Lib.hid hE
        clear hE
        cases E with
        | none =>
         simp only [Option.isSome_none, Bool.not_false]
         go_wp2
         go_ret
         rw [HR.out]
         exact ⟨rfl, HB4.out, fun σ' e => by cases e⟩
        | some τ =>
         obtain ⟨vo4, vt4, vb4, vs4, vp4, h4⟩ := HRR.out τ rfl
         have hto : τ.out.length ≤ 1000000 := by rw [endP_out HEE.out]; exact HK.out.out
         obtain ⟨Ao4, co4, eo4⟩ := Kd.N_slice h4.out
         subst eo4
         obtain ⟨As4, cs4, es4⟩ := Kd.N_slice h4.sides
         subst es4
         obtain ⟨Ab4, cb4, eb4⟩ := Kd.V_slice h4.base
         subst eb4
         clear HRR c0 c1 c2 c3 c4 c5 c6 c7 c8 c9 c10 hfz
         have hg := h4.hg
         have HS4 := Lib.hid h4
         have HAF := Lib.hid (show after false true τ = close τ by rfl)
         obtain ⟨c0, c1, c2, c3, c4, c5, c6, c7, c8, c9, c10, hfz⟩ := cells_of h4.blk
         have hsz4 : g < wc.heap.size := h4.apart.1
         have hBw4 : B ≤ wc.heap.size := Nat.le_of_lt (Nat.lt_of_le_of_lt hg hsz4)
         clear h4
         simp only [Option.isSome_some, Bool.not_true]
         go_wp2
         go_region_law (refine Kd.N_append_step k36 (w0 := w0) (W := (wc).drew) B ?hw (.tmp 114) (.tmp 119) 22 36 (.agg #[(.bool false), (.slice none 0 0), (.slice none 0 0), (.slice none 0 0)]) 80 ?ho Tryz.underlying22 info36 rfl (by decide) (by omega) (.slice Ao4 τ.out.length co4) τ.out (⟨τ.conf, [], τ.base, τ.sides⟩ : Piece) [.bool τ.conf, .slice none 0 0, .slice Ab4 τ.base.length cb4, .slice As4 τ.sides.length cs4] (okO B g vt4 (.slice none 0 0) vp4) (okO B g (.slice Ao4 τ.out.length co4) vt4 vp4) ?hs ?hx ?aP ?aK ?aF ?aO ?aB ?aS ?aL ?_; (case hw => rfl); (case ho => rfl); (case hs => rfl); (case hx => first | rfl | (have z_ : (wc).heap.size = wc.heap.size := (by simp [World.setCell]); exact congrArg (fun n_ : Nat => (Value.slice (some ⟨n_, 0, none⟩) 1 1)) z_.symm)); (case aP => exact k36_mkF _ _ _ (Nat.le_refl _) (Kd.F_nil _ _ _) (Kd.V_reads' HS4.out.base).2.1 (Kd.V_F (Kd.V_mono (Kd.V_drew HS4.out.base) (fun k hk => ⟨hk.1, hk.2.1, hk.2.2.1, hk.2.2.2.1, hk.2.2.2.2.2⟩))) (Kd.N_reads' HS4.out.sides).2.1 (Kd.N_F (Kd.N_drew HS4.out.sides))); (case aK => exact fun k hk => ⟨⟨hk.1, hk.2.1, hk.2.2.2.1, isOwn_nil, hk.2.2.2.2⟩, hk.2.2.1⟩); (case aF => exact fun k hk => have z := HS4.out.apart; ⟨Nat.le_trans (show B ≤ (wc).heap.size by simpa [World.setCell] using hBw4) hk, fun e => by have z1 : (wc).heap.size ≤ k := hk; have z2 := z.1; omega, fun x => absurd (z.2.2.1 k x).2.1 (Nat.not_lt.2 hk), isOwn_nil, fun x => absurd (z.2.2.2.2 k x).2.1 (Nat.not_lt.2 hk)⟩); (case aO => exact Kd.N_mono (Kd.N_drew HS4.out.out) (fun k hk => ⟨hk.1, hk.2.1, hk.2.2.1, isOwn_nil, hk.2.2.2.2⟩)); (case aB => exact (HB4.out).drew); (case aS => show B ≤ (wc).heap.size; simpa [World.setCell] using hBw4); (case aL => omega); intro v5 w5 hO5 hB5 hg5 hat5; obtain ⟨A5, c5', e5⟩ := Kd.N_slice hO5; subst e5; have hbk := blk_grown (w := (wc).drew) HS4.out.blk hg5 (fun e => (HS4.out.apart.2.1 g e).2.2.1 rfl); obtain ⟨-, d1, -, d3, d4, d5, d6, -, -, -, d10, dz⟩ := cells_of hbk; have HG5 := Lib.hid hg5; have HAT5 := Lib.hid hat5; have HB5 := Lib.hid hB5; clear hbk hg5 hat5 hB5)
         all_goals
          go_wp2
          go_ret
          have hO2 := HS4.out.ended (w1 := w5) ⟨HG5.out.os, HG5.out.tape, HG5.out.output, HG5.out.size, HG5.out.block⟩ HAT5.out hO5
          simp only [List.length_append, List.length_cons, List.length_nil, Nat.zero_add] at hO2
          rw [HR.out, Option.map_some, HAF.out]
          exact ⟨rfl, below_cell (below_cell (below_cell (below_cell (below_cell (below_cell HB5.out hg _ _) hg _ _) hg _ _) hg _ _) hg _ _) hg _ _, fun σ' e => by obtain rfl := Option.some.inj e; exact ⟨_, _, _, _, _, hO2⟩⟩
  ·go_wp2_with (fail)
   refine (begin_calls B w0 w1 g σ (isOp σ s 124 baseL) H1.out HB1.out hBw1 HK.out).mono ?_
   rintro e w2 ⟨rfl, hb2, hr⟩
   have HR := Lib.hid (show insideP σ s true = beginP σ (isOp σ s 124 baseL) by rw [insideP, if_neg (by decide), if_pos HE1.out])
   have HB2 := Lib.hid hb2
   have HRR := Lib.hid hr
   clear hr hb2
   go_wp2
   go_ret
   rw [HR.out]
   exact ⟨rfl, HB2.out, HRR.out⟩
end Go.Proofs.YtcnjbmdnnhbfkaaGreatDoor.Unmark
