/- sennitref12.conflict: what it computes. -/
import Derived.Test.YtcnjbmdnnhbfkaaGreatDoorRefK
import Derived.Test.YtcnjbmdnnhbfkaaGreatDoorWPlus
namespace Go.Proofs.YtcnjbmdnnhbfkaaGreatDoor.Ref
open Go.RowKit Go.Proofs.YtcnjbmdnnhbfkaaGreatDoor.XD Go.Proofs.YtcnjbmdnnhbfkaaGreatDoor.Mark Go.Proofs.YtcnjbmdnnhbfkaaGreatDoorW.PrintWords Go.Proofs.YtcnjbmdnnhbfkaaGreatDoorW.PrintLast Go.Proofs.YtcnjbmdnnhbfkaaGreatDoorW.PrintMore

/-- What conflict asks of a piece. -/
structure Fit (p : Piece) : Prop where
  one : 0 < p.f3.length
  most : p.f3.length ≤ 16
  base : p.f2.length ≤ 100000 ∧ ∀ s ∈ p.f2, s.size ≤ 1000000
  sides : ∀ t ∈ p.f3, t.length ≤ 100000 ∧ ∀ s ∈ t, s.size ≤ 1000000
theorem Fit.small {p : Piece} (h : Fit p) (st : Int) (n k : Nat) (hk : k ≤ p.f3.length) : (sidesTo p st n [] k).2.length ≤ 2000000 := by
  have h1 := sidesTo_len p st n [] k hk
  have h2 : (p.f3.take k).flatten.length ≤ 100000 * k := by
    clear h1
    induction k with
    | zero => simp
    | succ k ih =>
      have ih := ih (by omega)
      have hx : p.f3[k]? = some (p.f3[k]'(by omega)) := List.getElem?_eq_getElem (by omega)
      rw [flat_snoc hx, List.length_append]
      have := (h.sides _ (List.getElem_mem (show k < p.f3.length by omega))).1
      omega
  have h3 := h.base.1
  have h4 := h.most
  rw [List.length_nil] at h1
  split at h1 <;> omega

set_option maxHeartbeats 8000000 in
set_option maxRecDepth 100000 in
theorem conflict_calls (w : World) (p : Piece) (A1 : Option Addr) (c1 : Nat) (A2 : Option Addr) (c2 : Nat) (A3 : Option Addr) (c3 : Nat) (st : Int) (n : Nat) (hp : PC w p A1 c1 A2 c2 A3 c3) (hF : Fit p) (hn : n ≤ 4096) :
    Calls Tryz.prog 35 #[pv p A1 c1 A2 c2 A3 c3, .int .i64 st, .int .i64 (n : Int)] w fun e w' => ∃ v, e = .returned v ∧ Kd.R Kd.string 9 w' w.heap.size (fun _ => True) v (conflictL p st n []) ∧ Below w.heap.size w w' := by
  have hu := Tryz.underlying36
  obtain ⟨ad, A0, c0, eA, -, -, -⟩ := elemL hp.g3 (head_get hF.one)
  subst eA
  have HF := Aside0.mk hF
  have HP := Aside0.mk (hp.below (below_alloc (Below.refl _ _) (.cells #[.bool p.f0, .slice A1 p.f1.length c1, .slice A2 p.f2.length c2, .slice (some ad) p.f3.length c3] 36)))
  have HX := Aside0.mk (boxed w (.bool p.f0) (.slice A1 p.f1.length c1) (.slice A2 p.f2.length c2) (.slice (some ad) p.f3.length c3) 36)
  have HW := Aside0.mk (show Below w.heap.size w (w.alloc (.cells #[.bool p.f0, .slice A1 p.f1.length c1, .slice A2 p.f2.length c2, .slice (some ad) p.f3.length c3] 36)) from below_alloc (Below.refl _ _) _)
  have hnz : (0 : Int) < (p.f3.length : Int) := by have := hF.one; omega
  have h16 : p.f3.length ≤ 16 := hF.most
  clear hp hF
  go_enter Tryz.func35, Tryz.ntmps35
  go_wp2_with (fail)
  generalize w.alloc (.cells #[.bool p.f0, .slice A1 p.f1.length c1, .slice A2 p.f2.length c2, .slice (some ad) p.f3.length c3] 36) = wa at HP HX HW ⊢
  have XX := Aside0.mk (fun W (hW : Below wa.heap.size wa W) => HX.out.below hW)
  have SID := Aside0.mk (show ∀ W, Below wa.heap.size wa W → ∀ (k : Nat) x, p.f3[k]? = some x → ∃ A c, W.cell? (ad.add k) = some (.slice A x.length c) ∧ x.length ≤ c ∧ Kd.string.C W A x.length x from fun W hW k x hx => by
    obtain ⟨ad', A, c, e, h1, h2, h3⟩ := elemL (Kd.C_below HP.out.g3 hW) hx
    injection e with e
    subst e
    exact ⟨A, c, h1, h2, h3⟩)
  have BAS := Aside0.mk (show ∀ W, Below wa.heap.size wa W → Kd.string.C W A2 p.f2.length p.f2 from fun W hW => Kd.C_below HP.out.g2 hW)
  have hnil : Kd.string.C wa none 0 [] := (Kd.R_reads' (Kd.R_nil Kd.string 9 wa 0 (fun _ => True))).2.2
  have HM := Aside0.mk (markc_calls wa 60 n none 0 [] ⟨#[32, 49]⟩ hn hnil (Nat.le_refl _) (fun s hs => by simp at hs) (by decide))
  obtain ⟨m1, hm1⟩ : ∃ m1, markS 60 n (openL []) ⟨#[32, 49]⟩ = m1 := ⟨_, rfl⟩
  rw [hm1] at HM
  refine HM.out.mono ?_
  rintro e w6 ⟨rfl, hd6⟩
  have B6 := Aside0.mk hd6.below
  clear HM hd6 hnil
  have B7 := Aside0.mk (B6.out.alloc B6.out.size (.cells #[.string m1] 9))
  have HO := Aside0.mk (R_one w6 wa.heap.size m1 B6.out.size)
  have HH := Aside0.mk (head_get HF.out.one)
  obtain ⟨s0, hs0⟩ : ∃ s0, p.f3.headD [] = s0 := ⟨_, rfl⟩
  rw [hs0] at HH
  have HS0 := Aside0.mk (HF.out.sides s0 (List.mem_of_getElem? HH.out))
  obtain ⟨A0', c0', hcell, hl0, hC0⟩ := SID.out _ B7.out 0 s0 HH.out
  have hcell2 : (w6.alloc (.cells #[.string m1] 9)).cell? ad = some (.slice A0' s0.length c0') := by
    have := hcell
    cases ad
    exact this
  have k3 := (XX.out _ B7.out).k3
  have HE := Aside0.mk (ended_calls _ A0' c0' s0 hC0 hl0 (by have := HS0.out.1; omega) HS0.out.2)
  clear hcell hC0
  go_wp2_with (fail)
  refine HE.out.mono ?_
  rintro e w8 ⟨v8, rfl, hR8, hb8⟩
  obtain ⟨A8, c8, e8⟩ := Kd.R_slice hR8
  subst e8
  have HR8 := Aside0.mk (Kd.R_reads' hR8).2.2
  have HO8 := Aside0.mk (Kd.R_below HO.out hb8)
  have B8 := Aside0.mk (B7.out.trans (hb8.mono B7.out.size))
  clear HE hR8 hb8 k3 hcell2 HO B7
  have hle : (ended s0).length ≤ 100000 := by rw [ended_len]; exact HS0.out.1
  go_upto_region 4 with (at_builtin; refine Kd.R_append_rows Kd.string (w0 := wa) wa.heap.size rfl (.tmp 13) (.tmp 18) 25 9 (.string ⟨#[]⟩) 16 rfl Tryz.underlying25 info9 rfl (by decide) (by omega) (.slice (some ⟨w6.heap.size, 0, none⟩) 1 1) [m1] (ended s0) A8 (ended s0).length c8 (fun _ => True) (fun _ => False) rfl rfl HO8.out HR8.out (fun _ _ h => h) (fun _ h => h.elim) (fun _ _ => trivial) B8.out B8.out.size (by simp; omega) ?_; intro v9 w9 hO9 hB9 _ _; have HO9 := Aside0.mk hO9; have B9 := Aside0.mk hB9; obtain ⟨A0, c0, hcell, hl0, hC0⟩ := SID.out _ hB9 0 s0 HH.out; have hcell2 : w9.cell? ad = some (.slice A0 s0.length c0) := (by have := hcell; cases ad; exact this); have k3 := (XX.out _ hB9).k3; have HC0 := Aside0.mk hC0; clear hO9 hB9 hcell hC0)
  have hd : p.f3.getD 0 [] = s0 := by rw [List.getD_eq_getElem?_getD, HH.out]; rfl
  have HQ1 := Aside0.mk (show sidesTo p st n [] 1 = if st ≠ 1 then (openL p.f2, [m1] ++ ended s0 ++ [markS 124 n (openL s0) ⟨#[32, 98, 97, 115, 101]⟩] ++ ended p.f2) else (openL s0, [m1] ++ ended s0) by
    have e : sidesTo p st n [] 1 = oneSide p st n (false, []) 0 := rfl
    have em : markS 60 n false (label 1) = m1 := by rw [← hm1, ← label_one]; rfl
    rw [e, oneSide, hd]
    by_cases hs : st = 1
    · rw [if_neg (fun h => h.2 hs), if_neg (fun h => h hs), sideA, if_pos rfl, em]; rfl
    · rw [if_pos ⟨rfl, hs⟩, if_pos hs, sideA, baseA, if_pos rfl, em]; rfl)
  clear hd hm1
  have HLP := Aside0.mk (show ∀ (vO : Value) (W : World) (Aa : Option Addr) (ca : Nat) (ah : List ByteArray), True from fun _ _ _ _ _ => trivial)
  clear HLP
  by_cases hst : st = 1
  · have hb1 : (st == 1) = true := by rw [hst]; rfl
    have hb2 : (st != 1) = false := by rw [bne, hb1]; rfl
    have HQ := Aside0.mk (HQ1.out.trans (if_neg (fun h => h hst)))
    clear HQ1 hcell2 k3
    have HST := Aside0.mk hst
    clear hst
    go_wp2_with (fail)
    go_loopg [7, 8, 9] p.f3.length (fun gg s7 s8 s9 wr => ∃ (kk : Nat) (ah : List ByteArray) (Aa : Option Addr) (ca : Nat), 1 ≤ kk ∧ kk ≤ p.f3.length ∧ p.f3.length - kk ≤ gg ∧ s9 = .int .i64 kk ∧ s8 = .slice Aa ah.length ca ∧ Aside0 (ah.length ≤ ca ∧ Kd.string.C wr Aa ah.length ah ∧ ∀ s ∈ ah, s.size ≤ 1000000) ∧ Aside0 (openL ah = (sidesTo p st n [] kk).1) ∧ Aside0 (Kd.R Kd.string 9 wr wa.heap.size (fun _ => True) s7 (sidesTo p st n [] kk).2) ∧ Aside0 (Below wa.heap.size wa wr))
    case atStart => exact ⟨1, s0, A0, c0, Nat.le_refl _, HF.out.one, by omega, rfl, rfl, ⟨⟨hl0, HC0.out, HS0.out.2⟩⟩, ⟨by rw [HQ.out]⟩, ⟨by rw [HQ.out]; exact HO9.out⟩, B9⟩
    case round =>
      obtain ⟨kk, ah, Aa, ca, h1, hkk, hg, rfl, rfl, HA, HOP, HO, HB⟩ := hrel
      have k3 := (XX.out _ HB.out).k3
      have hsm := HF.out.small st n kk hkk
      by_cases hlt : kk < p.f3.length
      · have hltz : (kk : Int) < (p.f3.length : Int) := by omega
        obtain ⟨x, hxk⟩ : ∃ x, p.f3[kk]? = some x := ⟨_, List.getElem?_eq_getElem hlt⟩
        have HXK := Aside0.mk hxk
        have HXS := Aside0.mk (HF.out.sides x (List.mem_of_getElem? hxk))
        have hwr : IntKind.i64.wrap ((kk : Int) + 1) = (kk : Int) + 1 := IntWalk.i64_in _ (by omega)
        have HN := Aside0.mk (number_calls wr (kk + 1) (by omega) (by omega))
        have hds := digits_size (kk + 1) (by omega)
        rw [show ((kk + 1 : Nat) : Int) = (kk : Int) + 1 by omega] at HN
        have HD := Aside0.mk (show sidesTo p st n [] (kk + 1) = (openL x, (sidesTo p st n [] kk).2 ++ [markS 61 n (openL ah) (⟨#[32]⟩ ++ digits (kk + 1))] ++ ended x) by
          have hd : p.f3.getD kk [] = x := by rw [List.getD_eq_getElem?_getD, hxk]; rfl
          rw [sidesTo_succ, oneSide, if_neg (fun h => by omega), hd, sideA, if_neg (by omega), HOP.out]; rfl)
        obtain ⟨dg, hdg⟩ : ∃ dg, digits (kk + 1) = dg := ⟨_, rfl⟩
        rw [hdg] at HN hds HD
        clear hxk hdg
        go_wp2_with (fail)
        refine HN.out.mono ?_
        rintro e w6_ ⟨rfl, hb6⟩
        have B6_ := Aside0.mk (HB.out.trans (hb6.mono HB.out.size))
        have HO6 := Aside0.mk (Kd.R_below HO.out hb6)
        have hc1 : (⟨#[32]⟩ : ByteArray).size = 1 := rfl
        have hcs : (⟨#[32]⟩ : ByteArray).size + dg.size ≤ 9223372036854775807 := by omega
        have HM := Aside0.mk (markc_calls w6_ 61 n Aa ca ah (⟨#[32]⟩ ++ dg) hn (Kd.C_below HA.out.2.1 hb6) HA.out.1 (fun s hs => by have := HA.out.2.2 s hs; unfold M; omega) (by rw [ByteArray.size_append]; omega))
        obtain ⟨mk, hmk⟩ : ∃ mk, markS 61 n (openL ah) (⟨#[32]⟩ ++ dg) = mk := ⟨_, rfl⟩
        rw [hmk] at HM HD
        clear hmk HN hb6 k3
        go_wp2_with (fail)
        refine HM.out.mono ?_
        rintro e w7_ ⟨rfl, hd7⟩
        have B7 := Aside0.mk (B6_.out.trans (hd7.below.mono B6_.out.size))
        have HO7 := Aside0.mk (Kd.R_below HO6.out hd7.below)
        clear HM hd7 HO6
        go_wp2_with (at_builtin; refine Kd.R_append Kd.string (w0 := wa) wa.heap.size rfl (.tmp 46) (.tmp 54) 25 9 (.string ⟨#[]⟩) 16 rfl Tryz.underlying25 info9 rfl (by decide) (by omega) u7 ((sidesTo p st n [] kk).2) mk [.string mk] (fun _ => True) (fun _ => False) rfl rfl rfl (fun _ h => h.elim) (fun _ _ => trivial) HO7.out B7.out (Below.size B7.out) (by omega) ?_; intro vb wb hOb hBb _ _; have HO8 := Aside0.mk hOb; have B8 := Aside0.mk hBb; obtain ⟨A5, c5, hcell, hl5, hC5⟩ := SID.out _ hBb kk x HXK.out; have k3 := (XX.out _ hBb).k3; have HE := Aside0.mk (ended_calls wb A5 c5 x hC5 hl5 (by have := HXS.out.1; omega) HXS.out.2); clear hOb hBb hC5)
        refine HE.out.mono ?_
        rintro e w9_ ⟨v9_, rfl, hR9, hb9⟩
        obtain ⟨A9, c9, e9⟩ := Kd.R_slice hR9
        subst e9
        have HR9 := Aside0.mk (Kd.R_reads' hR9).2.2
        have HO9_ := Aside0.mk (Kd.R_below HO8.out hb9)
        have B9_ := Aside0.mk (B8.out.trans (hb9.mono B8.out.size))
        clear HE hR9 hb9 HO8 B8 k3 hcell
        have hle3 : (ended x).length ≤ 100000 := by rw [ended_len]; exact HXS.out.1
        go_wp2_with (at_builtin; refine Kd.R_append_rows Kd.string (w0 := wa) wa.heap.size rfl (.tmp 56) (.tmp 62) 25 9 (.string ⟨#[]⟩) 16 rfl Tryz.underlying25 info9 rfl (by decide) (by omega) vb ((sidesTo p st n [] kk).2 ++ [mk]) (ended x) A9 (ended x).length c9 (fun _ => True) (fun _ => False) rfl rfl HO9_.out HR9.out (fun _ _ h => h) (fun _ h => h.elim) (fun _ _ => trivial) B9_.out (Below.size B9_.out) (by simp; omega) ?_; intro vb wb hOb hBb _ _; have HO10 := Aside0.mk hOb; have B10 := Aside0.mk hBb; obtain ⟨A6, c6, hcell6, hl6, hC6⟩ := SID.out _ hBb kk x HXK.out; have HC6 := Aside0.mk hC6; have k3 := (XX.out _ hBb).k3; clear hOb hBb hC6)
        go_roundg (p.f3.length - (kk + 1))
        case measure => omega
        case rel => exact ⟨kk + 1, x, A6, c6, by omega, by omega, by omega, by go_num, rfl, ⟨hl6, HC6.out, HXS.out.2⟩, ⟨by rw [HD.out]⟩, ⟨by rw [HD.out]; exact HO10.out⟩, B10⟩
      · have hltz : ¬ (kk : Int) < (p.f3.length : Int) := by omega
        have hkl : kk = p.f3.length := by omega
        subst hkl
        have HM := Aside0.mk (markc_calls wr 62 n Aa ca ah ⟨#[]⟩ hn HA.out.2.1 HA.out.1 (fun s hs => by have := HA.out.2.2 s hs; unfold M; omega) (by decide))
        have HD := Aside0.mk (show conflictL p st n [] = (sidesTo p st n [] p.f3.length).2 ++ [markS 62 n (openL ah) ⟨#[]⟩] by rw [conflictL, HOP.out])
        obtain ⟨m3, hm3⟩ : ∃ m3, markS 62 n (openL ah) ⟨#[]⟩ = m3 := ⟨_, rfl⟩
        rw [hm3] at HM HD
        clear hm3
        go_wp2_with (fail)
        refine HM.out.mono ?_
        rintro e w7_ ⟨rfl, hd7⟩
        have B7 := Aside0.mk (HB.out.trans (hd7.below.mono HB.out.size))
        have HO7 := Aside0.mk (Kd.R_below HO.out hd7.below)
        clear HM hd7
        go_wp2_with (at_builtin; refine Kd.R_append Kd.string (w0 := wa) wa.heap.size rfl (.tmp 69) (.tmp 73) 25 9 (.string ⟨#[]⟩) 16 rfl Tryz.underlying25 info9 rfl (by decide) (by omega) u7 ((sidesTo p st n [] p.f3.length).2) m3 [.string m3] (fun _ => True) (fun _ => False) rfl rfl rfl (fun _ h => h.elim) (fun _ _ => trivial) HO7.out B7.out (Below.size B7.out) (by omega) ?_; intro vb wb hOb hBb _ _; have HO8 := Aside0.mk hOb; have B8 := Aside0.mk hBb; clear hOb hBb)
        go_ret
        rw [HD.out]
        exact ⟨_, rfl, Kd.R_lower HO8.out HW.out.size, HW.out.trans (B8.out.mono HW.out.size)⟩
  · have hb1 : (st == 1) = false := beq_eq_false_iff_ne.2 hst
    have hb2 : (st != 1) = true := by rw [bne, hb1]; rfl
    have HQ := Aside0.mk (HQ1.out.trans (if_pos hst))
    clear HQ1 hcell2 k3
    have HST := Aside0.mk hst
    clear hst
    have HM := Aside0.mk (markc_calls w9 124 n A0 c0 s0 ⟨#[32, 98, 97, 115, 101]⟩ hn HC0.out hl0 (fun s hs => by have := HS0.out.2 s hs; unfold M; omega) (by decide))
    obtain ⟨m2, hm2⟩ : ∃ m2, markS 124 n (openL s0) ⟨#[32, 98, 97, 115, 101]⟩ = m2 := ⟨_, rfl⟩
    rw [hm2] at HM HQ
    clear hm2
    go_wp2_with (fail)
    refine HM.out.mono ?_
    rintro e w10 ⟨rfl, hd10⟩
    have B10 := Aside0.mk (B9.out.trans (hd10.below.mono B9.out.size))
    have HO10 := Aside0.mk (Kd.R_below HO9.out hd10.below)
    clear HM hd10 HO9 B9 HC0
    go_wp2_with (at_builtin; refine Kd.R_append Kd.string (w0 := wa) wa.heap.size rfl (.tmp 26) (.tmp 30) 25 9 (.string ⟨#[]⟩) 16 rfl Tryz.underlying25 info9 rfl (by decide) (by omega) v9 ([m1] ++ ended s0) m2 [.string m2] (fun _ => True) (fun _ => False) rfl rfl rfl (fun _ h => h.elim) (fun _ _ => trivial) HO10.out B10.out (Below.size B10.out) (by simp; omega) ?_; intro vb wb hOb hBb _ _; have HO11 := Aside0.mk hOb; have B11 := Aside0.mk hBb; have k2 := (XX.out _ hBb).k2; have HE2 := Aside0.mk (ended_calls wb A2 c2 p.f2 (BAS.out _ hBb) HP.out.l2 (by have := HF.out.base.1; omega) HF.out.base.2); clear hOb hBb)
    clear HO10 B10
    refine HE2.out.mono ?_
    rintro e w12 ⟨v12, rfl, hR12, hb12⟩
    obtain ⟨A12, c12, e12⟩ := Kd.R_slice hR12
    subst e12
    have HR12 := Aside0.mk (Kd.R_reads' hR12).2.2
    have HO12 := Aside0.mk (Kd.R_below HO11.out hb12)
    have B12 := Aside0.mk (B11.out.trans (hb12.mono B11.out.size))
    clear HE2 hR12 hb12 HO11 B11 k2
    have hle2 : (ended p.f2).length ≤ 100000 := by rw [ended_len]; exact HF.out.base.1
    go_wp2_with (at_builtin; refine Kd.R_append_rows Kd.string (w0 := wa) wa.heap.size rfl (.tmp 32) (.tmp 35) 25 9 (.string ⟨#[]⟩) 16 rfl Tryz.underlying25 info9 rfl (by decide) (by omega) vb ([m1] ++ ended s0 ++ [m2]) (ended p.f2) A12 (ended p.f2).length c12 (fun _ => True) (fun _ => False) rfl rfl HO12.out HR12.out (fun _ _ h => h) (fun _ h => h.elim) (fun _ _ => trivial) B12.out (Below.size B12.out) (by simp; omega) ?_; intro vb wb hOb hBb _ _; have HO13 := Aside0.mk hOb; have B13 := Aside0.mk hBb; have k2 := (XX.out _ hBb).k2; clear hOb hBb)
    clear HO12 HR12 B12
    go_loopg [7, 8, 9] p.f3.length (fun gg s7 s8 s9 wr => ∃ (kk : Nat) (ah : List ByteArray) (Aa : Option Addr) (ca : Nat), 1 ≤ kk ∧ kk ≤ p.f3.length ∧ p.f3.length - kk ≤ gg ∧ s9 = .int .i64 kk ∧ s8 = .slice Aa ah.length ca ∧ Aside0 (ah.length ≤ ca ∧ Kd.string.C wr Aa ah.length ah ∧ ∀ s ∈ ah, s.size ≤ 1000000) ∧ Aside0 (openL ah = (sidesTo p st n [] kk).1) ∧ Aside0 (Kd.R Kd.string 9 wr wa.heap.size (fun _ => True) s7 (sidesTo p st n [] kk).2) ∧ Aside0 (Below wa.heap.size wa wr))
    case atStart => exact ⟨1, p.f2, A2, c2, Nat.le_refl _, HF.out.one, by omega, rfl, rfl, ⟨⟨HP.out.l2, BAS.out _ B13.out, HF.out.base.2⟩⟩, ⟨by rw [HQ.out]⟩, ⟨by rw [HQ.out]; exact HO13.out⟩, B13⟩
    case round =>
      obtain ⟨kk, ah, Aa, ca, h1, hkk, hg, rfl, rfl, HA, HOP, HO, HB⟩ := hrel
      have k3 := (XX.out _ HB.out).k3
      have hsm := HF.out.small st n kk hkk
      by_cases hlt : kk < p.f3.length
      · have hltz : (kk : Int) < (p.f3.length : Int) := by omega
        obtain ⟨x, hxk⟩ : ∃ x, p.f3[kk]? = some x := ⟨_, List.getElem?_eq_getElem hlt⟩
        have HXK := Aside0.mk hxk
        have HXS := Aside0.mk (HF.out.sides x (List.mem_of_getElem? hxk))
        have hwr : IntKind.i64.wrap ((kk : Int) + 1) = (kk : Int) + 1 := IntWalk.i64_in _ (by omega)
        have HN := Aside0.mk (number_calls wr (kk + 1) (by omega) (by omega))
        have hds := digits_size (kk + 1) (by omega)
        rw [show ((kk + 1 : Nat) : Int) = (kk : Int) + 1 by omega] at HN
        have HD := Aside0.mk (show sidesTo p st n [] (kk + 1) = (openL x, (sidesTo p st n [] kk).2 ++ [markS 61 n (openL ah) (⟨#[32]⟩ ++ digits (kk + 1))] ++ ended x) by
          have hd : p.f3.getD kk [] = x := by rw [List.getD_eq_getElem?_getD, hxk]; rfl
          rw [sidesTo_succ, oneSide, if_neg (fun h => by omega), hd, sideA, if_neg (by omega), HOP.out]; rfl)
        obtain ⟨dg, hdg⟩ : ∃ dg, digits (kk + 1) = dg := ⟨_, rfl⟩
        rw [hdg] at HN hds HD
        clear hxk hdg
        go_wp2_with (fail)
        refine HN.out.mono ?_
        rintro e w6_ ⟨rfl, hb6⟩
        have B6_ := Aside0.mk (HB.out.trans (hb6.mono HB.out.size))
        have HO6 := Aside0.mk (Kd.R_below HO.out hb6)
        have hc1 : (⟨#[32]⟩ : ByteArray).size = 1 := rfl
        have hcs : (⟨#[32]⟩ : ByteArray).size + dg.size ≤ 9223372036854775807 := by omega
        have HM := Aside0.mk (markc_calls w6_ 61 n Aa ca ah (⟨#[32]⟩ ++ dg) hn (Kd.C_below HA.out.2.1 hb6) HA.out.1 (fun s hs => by have := HA.out.2.2 s hs; unfold M; omega) (by rw [ByteArray.size_append]; omega))
        obtain ⟨mk, hmk⟩ : ∃ mk, markS 61 n (openL ah) (⟨#[32]⟩ ++ dg) = mk := ⟨_, rfl⟩
        rw [hmk] at HM HD
        clear hmk HN hb6 k3
        go_wp2_with (fail)
        refine HM.out.mono ?_
        rintro e w7_ ⟨rfl, hd7⟩
        have B7 := Aside0.mk (B6_.out.trans (hd7.below.mono B6_.out.size))
        have HO7 := Aside0.mk (Kd.R_below HO6.out hd7.below)
        clear HM hd7 HO6
        go_wp2_with (at_builtin; refine Kd.R_append Kd.string (w0 := wa) wa.heap.size rfl (.tmp 46) (.tmp 54) 25 9 (.string ⟨#[]⟩) 16 rfl Tryz.underlying25 info9 rfl (by decide) (by omega) u7 ((sidesTo p st n [] kk).2) mk [.string mk] (fun _ => True) (fun _ => False) rfl rfl rfl (fun _ h => h.elim) (fun _ _ => trivial) HO7.out B7.out (Below.size B7.out) (by omega) ?_; intro vb wb hOb hBb _ _; have HO8 := Aside0.mk hOb; have B8 := Aside0.mk hBb; obtain ⟨A5, c5, hcell, hl5, hC5⟩ := SID.out _ hBb kk x HXK.out; have k3 := (XX.out _ hBb).k3; have HE := Aside0.mk (ended_calls wb A5 c5 x hC5 hl5 (by have := HXS.out.1; omega) HXS.out.2); clear hOb hBb hC5)
        refine HE.out.mono ?_
        rintro e w9_ ⟨v9_, rfl, hR9, hb9⟩
        obtain ⟨A9, c9, e9⟩ := Kd.R_slice hR9
        subst e9
        have HR9 := Aside0.mk (Kd.R_reads' hR9).2.2
        have HO9_ := Aside0.mk (Kd.R_below HO8.out hb9)
        have B9_ := Aside0.mk (B8.out.trans (hb9.mono B8.out.size))
        clear HE hR9 hb9 HO8 B8 k3 hcell
        have hle3 : (ended x).length ≤ 100000 := by rw [ended_len]; exact HXS.out.1
        go_wp2_with (at_builtin; refine Kd.R_append_rows Kd.string (w0 := wa) wa.heap.size rfl (.tmp 56) (.tmp 62) 25 9 (.string ⟨#[]⟩) 16 rfl Tryz.underlying25 info9 rfl (by decide) (by omega) vb ((sidesTo p st n [] kk).2 ++ [mk]) (ended x) A9 (ended x).length c9 (fun _ => True) (fun _ => False) rfl rfl HO9_.out HR9.out (fun _ _ h => h) (fun _ h => h.elim) (fun _ _ => trivial) B9_.out (Below.size B9_.out) (by simp; omega) ?_; intro vb wb hOb hBb _ _; have HO10 := Aside0.mk hOb; have B10 := Aside0.mk hBb; obtain ⟨A6, c6, hcell6, hl6, hC6⟩ := SID.out _ hBb kk x HXK.out; have HC6 := Aside0.mk hC6; have k3 := (XX.out _ hBb).k3; clear hOb hBb hC6)
        go_roundg (p.f3.length - (kk + 1))
        case measure => omega
        case rel => exact ⟨kk + 1, x, A6, c6, by omega, by omega, by omega, by go_num, rfl, ⟨hl6, HC6.out, HXS.out.2⟩, ⟨by rw [HD.out]⟩, ⟨by rw [HD.out]; exact HO10.out⟩, B10⟩
      · have hltz : ¬ (kk : Int) < (p.f3.length : Int) := by omega
        have hkl : kk = p.f3.length := by omega
        subst hkl
        have HM := Aside0.mk (markc_calls wr 62 n Aa ca ah ⟨#[]⟩ hn HA.out.2.1 HA.out.1 (fun s hs => by have := HA.out.2.2 s hs; unfold M; omega) (by decide))
        have HD := Aside0.mk (show conflictL p st n [] = (sidesTo p st n [] p.f3.length).2 ++ [markS 62 n (openL ah) ⟨#[]⟩] by rw [conflictL, HOP.out])
        obtain ⟨m3, hm3⟩ : ∃ m3, markS 62 n (openL ah) ⟨#[]⟩ = m3 := ⟨_, rfl⟩
        rw [hm3] at HM HD
        clear hm3
        go_wp2_with (fail)
        refine HM.out.mono ?_
        rintro e w7_ ⟨rfl, hd7⟩
        have B7 := Aside0.mk (HB.out.trans (hd7.below.mono HB.out.size))
        have HO7 := Aside0.mk (Kd.R_below HO.out hd7.below)
        clear HM hd7
        go_wp2_with (at_builtin; refine Kd.R_append Kd.string (w0 := wa) wa.heap.size rfl (.tmp 69) (.tmp 73) 25 9 (.string ⟨#[]⟩) 16 rfl Tryz.underlying25 info9 rfl (by decide) (by omega) u7 ((sidesTo p st n [] p.f3.length).2) m3 [.string m3] (fun _ => True) (fun _ => False) rfl rfl rfl (fun _ h => h.elim) (fun _ _ => trivial) HO7.out B7.out (Below.size B7.out) (by omega) ?_; intro vb wb hOb hBb _ _; have HO8 := Aside0.mk hOb; have B8 := Aside0.mk hBb; clear hOb hBb)
        go_ret
        rw [HD.out]
        exact ⟨_, rfl, Kd.R_lower HO8.out HW.out.size, HW.out.trans (B8.out.mono HW.out.size)⟩
/-- .. in the form of a printed contract. -/
def sennitref12_conflict.f (f0 : Bool) (f1 f2 : List ByteArray) (f3 : List (List ByteArray)) (a1 a2 : Int) : Option (List ByteArray) :=
  if ((0 < f3.length ∧ f3.length ≤ 16) ∧ 0 ≤ a2 ∧ a2 ≤ 4096) ∧ (f2.length ≤ 100000 ∧ ∀ s ∈ f2, s.size ≤ 1000000) ∧ ∀ t ∈ f3, t.length ≤ 100000 ∧ ∀ s ∈ t, s.size ≤ 1000000 then some (conflictL ⟨f0, f1, f2, f3⟩ a1 a2.toNat []) else none
theorem sennitref12_conflict.calls (f0 : Bool) (A1 : Option Addr) (c1 : Nat) (f1 : List ByteArray) (A2 : Option Addr) (c2 : Nat) (f2 : List ByteArray) (A3 : Option Addr) (c3 : Nat) (f3 : List (List ByteArray)) (a1 a2 : Int) (r : List ByteArray) (w : World)
    (hr1 : Kd.string.C w A1 f1.length f1) (hc1 : f1.length ≤ c1) (hr2 : Kd.string.C w A2 f2.length f2) (hc2 : f2.length ≤ c2) (hr3 : (Kd.slice 9 Kd.string).C w A3 f3.length f3) (hc3 : f3.length ≤ c3) (h : sennitref12_conflict.f f0 f1 f2 f3 a1 a2 = some r) :
    Calls Tryz.prog 35 #[.agg #[.bool f0, .slice A1 f1.length c1, .slice A2 f2.length c2, .slice A3 f3.length c3], .int .i64 a1, .int .i64 a2] w fun e w' => ∃ v0_ : Value, e = .returned (v0_) ∧ Kd.R Kd.string 9 w' w.heap.size (fun _ => True) v0_ r ∧ Below w.heap.size w w' := by
  unfold sennitref12_conflict.f at h
  split at h
  · rename_i hh
    injection h with h
    subst h
    obtain ⟨n, rfl⟩ : ∃ n : Nat, a2 = (n : Int) := ⟨a2.toNat, by omega⟩
    exact conflict_calls w ⟨f0, f1, f2, f3⟩ A1 c1 A2 c2 A3 c3 a1 n ⟨hc1, hr1, hc2, hr2, hc3, hr3⟩ ⟨hh.1.1.1, hh.1.1.2, hh.2.1, hh.2.2⟩ (by omega)
  · cases h
#print axioms sennitref12_conflict.calls
end Go.Proofs.YtcnjbmdnnhbfkaaGreatDoor.Ref
