import Derived.Test.YtcnjbmdnnhbfkaaGreatDoorRef1
/- sennitref10.Trim: what it computes. -/
namespace Go.Proofs.YtcnjbmdnnhbfkaaGreatDoor.Ref
open Go.RowKit Go.Proofs.YtcnjbmdnnhbfkaaGreatDoor.XD Go.Proofs.YtcnjbmdnnhbfkaaGreatDoor.XR Go.Proofs.YtcnjbmdnnhbfkaaGreatDoor.Mark Go.Proofs.YtcnjbmdnnhbfkaaGreatDoorW.PrintWords Go.Proofs.YtcnjbmdnnhbfkaaGreatDoorW.PrintLast Go.Proofs.YtcnjbmdnnhbfkaaGreatDoorW.PrintMore
theorem rnormal_calls (w : World) (P : Nat → Prop) (A : Option Addr) (n c : Nat) (xs : List Piece)
  (hx : Kd.V k36 36 w w.heap.size P (.slice A n c) xs) (hl : xs.length ≤ 1000000) (hm : wt xs ≤ 1000000) :
  Calls Tryz.prog 37 #[.slice A n c] w fun e w' => ∃ v, e = .returned v ∧ Kd.N k36 36 w' w.heap.size (fun k => P k ∨ w.heap.size ≤ k) v (norm xs) ∧ Below w.heap.size w w' := by
 obtain ⟨rfl, _, _⟩ := Kd.V_reads' hx
 obtain ⟨k, hk⟩ := normal_ev xs hl hm
 exact sennitref07_Normal.calls k P A c xs _ w hx (hk k (Nat.le_refl _))
theorem from_at (w : World) (P : Nat → Prop) (A : Option Addr) (c : Nat) (x : List ByteArray) (a : Nat) (hf : Kd.F Kd.string w P A x.length x) (hc : x.length ≤ c) (ha : a ≤ x.length) :
  ∃ A' c', (∀ W : World, (Instr.slice 25 (.slice A x.length c) (some (.int .i64 (a : Int))) none none).run Tryz.prog W = .ok (.slice A' (midL x a 0).length c') W) ∧ (midL x a 0).length ≤ c' ∧ Kd.F Kd.string w P A' (midL x a 0).length (midL x a 0) := by
 have h := Mark.drop_at w P A c x (x.length - a) hf hc (by omega)
 have e : x.drop (x.length - (x.length - a)) = midL x a 0 := by rw [midL, Nat.sub_zero, List.take_length, show x.length - (x.length - a) = a by omega]
 rw [e, show ((x.length : Int) - ((x.length - a : Nat) : Int)) = (a : Int) by omega] at h
 exact h
theorem to_at (w : World) (P : Nat → Prop) (A : Option Addr) (c : Nat) (x : List ByteArray) (b : Nat) (hf : Kd.F Kd.string w P A x.length x) (hc : x.length ≤ c) (hb : b ≤ x.length) :
  (∀ W : World, (Instr.slice 25 (.slice A x.length c) none (some (.int .i64 ((x.length : Int) - (b : Int)))) none).run Tryz.prog W = .ok (.slice A (midL x 0 b).length c) W) ∧ (midL x 0 b).length ≤ c ∧ Kd.F Kd.string w P A (midL x 0 b).length (midL x 0 b) := by
 have h := take_at w P A c x (x.length - b) hf hc (by omega)
 have e : x.take (x.length - b) = midL x 0 b := by rw [midL, List.drop_zero]
 rw [e, show ((x.length - b : Nat) : Int) = (x.length : Int) - (b : Int) by omega] at h
 exact h
set_option maxHeartbeats 1000000 in
set_option maxRecDepth 100000 in
theorem rtrim_plain (w : World) (P : Nat → Prop) (p : Piece) (A1 : Option Addr) (c1 : Nat) (A2 : Option Addr) (c2 : Nat) (A3 : Option Addr) (c3 : Nat) (hp : PV w P p A1 c1 A2 c2 A3 c3) (hw : wt [p] ≤ 1000000) (h : p.f0 = false ∨ p.f3.length = 0) :
  Calls Tryz.prog 36 #[pv p A1 c1 A2 c2 A3 c3] w (RowOut w P (norm [p])) := by
 have hu := Tryz.underlying36
 have hp := hp.bound
 have K : ∀ b, p.f0 = b → Aside0 (Calls Tryz.prog 37 #[.slice (some ⟨w.heap.size + 1, 0, none⟩) 1 1] ((w.alloc (.cells #[.bool b, .slice A1 p.f1.length c1, .slice A2 p.f2.length c2, .slice A3 p.f3.length c3] 36)).alloc (.cells #[.bool b, .slice A1 p.f1.length c1, .slice A2 p.f2.length c2, .slice A3 p.f3.length c3] 36)) (RowOut w P (norm [p]))) := fun b hb => ⟨by
  subst hb
  have hV := N_new k36 (W := w.alloc (.cells #[.bool p.f0, .slice A1 p.f1.length c1, .slice A2 p.f2.length c2, .slice A3 p.f3.length c3] 36)) (e := 36) (base := w.heap.size) (ok := fun k => P k ∨ w.heap.size ≤ k) (reps_one (hp.below (below_alloc (Below.refl _ _) _)).fk rfl) (fun k hk => .inl hk.1) (.inr (by simp)) (by simp) (by simp)
  have hs : (w.alloc (.cells #[.bool p.f0, .slice A1 p.f1.length c1, .slice A2 p.f2.length c2, .slice A3 p.f3.length c3] 36)).heap.size = w.heap.size + 1 := by simp
  rw [hs] at hV
  have hN := rnormal_calls _ _ _ _ 1 [p] (Kd.N_V hV) (by simp) hw
  refine hN.mono ?_
  rintro e w' ⟨v, rfl, hO, hb⟩
  exact ⟨v, rfl, Kd.N_mono (Kd.N_lower hO (by simp; omega)) (fun k hk => hk.elim (fun h => h) (fun h => .inr (Nat.le_trans (by simp; omega) h))), (below_alloc (below_alloc (Below.refl _ _) _) _).trans (hb.mono (by simp; omega))⟩⟩
 cases hf : p.f0 with
 | false =>
  have HN := K false hf
  clear K hp
  go_enter Tryz.func36, Tryz.ntmps36
  go_wp2_with (fail)
  refine HN.out.mono ?_
  rintro e w' ⟨v, rfl, hO, hb⟩
  have HO := Aside0.mk hO
  have HB := Aside0.mk hb
  clear hO hb
  go_wp2
  go_ret
  exact ⟨_, rfl, HO.out, HB.out⟩
 | true =>
  have h0 : p.f3.length = 0 := h.elim (fun h => by rw [hf] at h; cases h) id
  have t0 : ((p.f3.length : Int) == 0) = true := by simp [h0]
  have HN := K true hf
  clear K hp h0 h
  go_enter Tryz.func36, Tryz.ntmps36
  go_wp2_with (fail)
  refine HN.out.mono ?_
  rintro e w' ⟨v, rfl, hO, hb⟩
  have HO := Aside0.mk hO
  have HB := Aside0.mk hb
  clear hO hb
  go_wp2
  go_ret
  exact ⟨_, rfl, HO.out, HB.out⟩
theorem rest_any (p : Piece) : (rest p).any (fun k => decide (0 < k.length)) = !(p.f3.all fun k => decide (k.length = Mark.ahead p)) := by
 rw [rest, cutL, Bool.eq_iff_iff, List.any_map, List.any_eq_true, Bool.not_eq_true', List.all_eq_false]
 refine exists_congr fun x => and_congr_right fun hx => ?_
 have h : Mark.ahead p ≤ x.length := alike_fit atA hx
 have e : (midL x (Mark.ahead p) 0).length = x.length - Mark.ahead p := by rw [midL_length (by omega)]; omega
 simp only [Function.comp, e, decide_eq_true_eq]
 omega
theorem reps_three {α : Type} {R : α → List Value → Prop} {x y z : α} {a0 a1 a2 a3 b0 b1 b2 b3 d0 d1 d2 d3 : Value} (h : R x [a0, a1, a2, a3]) (h2 : R y [b0, b1, b2, b3]) (h3 : R z [d0, d1, d2, d3]) : Reps R 4 [x, y, z] [a0, a1, a2, a3, b0, b1, b2, b3, d0, d1, d2, d3] := by
 have := (reps_two h h2).snoc h3 rfl
 simpa using this
set_option maxHeartbeats 8000000 in
set_option maxRecDepth 100000 in
theorem rtrim_conflict (w : World) (P : Nat → Prop) (p : Piece) (A1 : Option Addr) (c1 : Nat) (A2 : Option Addr) (c2 : Nat) (A3 : Option Addr) (c3 : Nat) (hp : PV w P p A1 c1 A2 c2 A3 c3) (hf : p.f0 = true) (hn : 0 < p.f3.length) (hm : p.f3.length ≤ 1000000) (hw : wt [textA p, midP p, textB p] ≤ 1000000) :
  Calls Tryz.prog 36 #[pv p A1 c1 A2 c2 A3 c3] w (RowOut w P (trimC p)) := by
 have hu := Tryz.underlying36
 have hp := hp.bound
 have t0 : ((p.f3.length : Int) == 0) = false := beq_eq_false_iff_ne.2 (by omega)
 obtain ⟨ad, A0, c0, eA, hc0, hl0, hF0⟩ := elemV (Kd.V_mk (e := 25) (base := 0) hp.l3 hp.g3) (head_get hn)
 subst eA
 have hc1 : w.cell? ad = some (.slice A0 (p.f3.headD []).length c0) := by
  have := hc0
  cases ad
  exact this
 clear hc0
 have HFD := Aside0.mk (show p.f3.headD [] = first p from rfl)
 have HP := Aside0.mk (hp.below (below_alloc (Below.refl _ _) (.cells #[.bool true, .slice A1 p.f1.length c1, .slice A2 p.f2.length c2, .slice (some ad) p.f3.length c3] 36)))
 have HX := Aside0.mk (boxed w (.bool true) (.slice A1 p.f1.length c1) (.slice A2 p.f2.length c2) (.slice (some ad) p.f3.length c3) 36)
 have HW := Aside0.mk (show Below w.heap.size w (w.alloc (.cells #[.bool true, .slice A1 p.f1.length c1, .slice A2 p.f2.length c2, .slice (some ad) p.f3.length c3] 36)) from below_alloc (Below.refl _ _) _)
 rw [HFD.out] at hc1 hl0 hF0
 have HF0 := Aside0.mk (Kd.F_below hF0 HW.out)
 have ha1 := (HW.out.cell (World.block_lt_of_cell? w _ hc1)).trans hc1
 have hnz : (0 : Int) < (p.f3.length : Int) := by omega
 have hfm : (first p).length ≤ 9223372036854775807 := Kd.F_max hF0
 clear hp hF0
 go_enter Tryz.func36, Tryz.ntmps36
 go_wp2_with (fail)
 generalize w.alloc (.cells #[.bool true, .slice A1 p.f1.length c1, .slice A2 p.f2.length c2, .slice (some ad) p.f3.length c3] 36) = wa at HP HX HW HF0 ha1 ⊢
 have XX := Aside0.mk (fun W (hW : Below wa.heap.size wa W) => HX.out.below hW)
 have PP := Aside0.mk (fun W (hW : Below wa.heap.size wa W) => HP.out.below hW)
 go_loopg [4] (first p).length (fun gg s4 wr => ∃ a : Nat, a ≤ (first p).length ∧ (first p).length - a ≤ gg ∧ s4 = .int .i64 a ∧ Aside0 (beginsB p.f3 a = true) ∧ Aside0 (Below wa.heap.size wa wr))
 case atStart => exact ⟨0, Nat.zero_le _, by omega, rfl, ⟨begins_zero _⟩, ⟨Below.refl _ _⟩⟩
 case round =>
  obtain ⟨a, ha, hg, rfl, HG, HB⟩ := hrel
  clear ha1
  go_upto_region 5 with (fail)
  go_cut [37] (fun v37 wc => v37 = .bool (decide (a < (first p).length ∧ beginsB p.f3 (a + 1) = true)) ∧ Aside0 (Below wa.heap.size wa wc))
  case first =>
   obtain ⟨-, k1, k2, k3⟩ := XX.out wr HB.out
   by_cases hlt : a < (first p).length
   ·have hltz : (a : Int) < ((first p).length : Int) := by omega
    have HC := Aside0.mk (begins_calls wr (some ad) c3 p.f3 (a + 1) (Kd.F_now (PP.out wr HB.out).g3) (PP.out wr HB.out).l3)
    rw [show ((a + 1 : Nat) : Int) = (a : Int) + 1 by omega] at HC
    have hwr : IntKind.i64.wrap ((a : Int) + 1) = (a : Int) + 1 := IntWalk.i64_in _ (by omega)
    go_wp2_with (fail)
    refine HC.out.mono ?_
    rintro e w6 ⟨rfl, hb6⟩
    have B6 := Aside0.mk (HB.out.trans (hb6.mono HB.out.size))
    clear hb6 HC
    go_wp2
    go_meet
    case rel => exact ⟨by simp [hlt], B6⟩
   ·have hltz : ¬ (a : Int) < ((first p).length : Int) := by omega
    go_wp2_with (fail)
    go_meet
    case rel => exact ⟨by simp [hlt], HB⟩
  case rest =>
   clear HB
   obtain ⟨rfl, HB⟩ := hcut
   by_cases hgo : a < (first p).length ∧ beginsB p.f3 (a + 1) = true
   ·rw [decide_eq_true hgo]
    have hwr : IntKind.i64.wrap ((a : Int) + 1) = (a : Int) + 1 := IntWalk.i64_in _ (by omega)
    go_wp2_with (fail)
    go_roundg ((first p).length - (a + 1))
    case measure => omega
    case rel => exact ⟨a + 1, by omega, by omega, by go_num, ⟨hgo.2⟩, HB⟩
   ·rw [decide_eq_false hgo]
    have hA : a = Mark.ahead p := (begins_stop hn HG.out (by rw [HFD.out]; exact hgo)).symm
    clear hgo hg ha
    subst hA
    clear HG
    have HAF := Aside0.mk (show ∀ k ∈ p.f3, Mark.ahead p ≤ k.length from fun k hk => alike_fit atA hk)
    have hbc := Nat.le_trans HW.out.size HB.out.size
    go_wp2_with (fail)
    go_loopg [5, 6, 7] p.f3.length (fun gg s5 s6 s7 wr => ∃ kk : Nat, kk ≤ p.f3.length ∧ p.f3.length - kk ≤ gg ∧ s7 = .int .i64 kk ∧ s6 = .bool ((p.f3.take kk).all fun k => decide (k.length = Mark.ahead p)) ∧ Aside0 (Kd.N (Kd.slice 9 Kd.string) 25 wr wc.heap.size (fun k => (P k ∧ k < w.heap.size) ∨ wc.heap.size ≤ k) s5 (cutL (p.f3.take kk) (Mark.ahead p) 0)) ∧ Aside0 (Below wc.heap.size wc wr))
    case atStart => exact ⟨0, Nat.zero_le _, by omega, rfl, rfl, ⟨Kd.N_nil _ _ _ _ _⟩, ⟨Below.refl _ _⟩⟩
    case round =>
     obtain ⟨kk, hkk, hg, rfl, rfl, HN, HB2⟩ := hrel
     have BR := Aside0.mk (HB.out.trans (HB2.out.mono HB.out.size))
     obtain ⟨-, k1, k2, k3⟩ := XX.out _ BR.out
     by_cases hlt : kk < p.f3.length
     ·have hltz : (kk : Int) < (p.f3.length : Int) := by omega
      obtain ⟨x, hxk⟩ : ∃ x, p.f3[kk]? = some x := ⟨_, List.getElem?_eq_getElem hlt⟩
      obtain ⟨ad', A5, c5, eA, hcc, hl5, hF5⟩ := elemV (Kd.V_mk (e := 25) (base := 0) (PP.out wc HB.out).l3 (PP.out wc HB.out).g3) hxk
      injection eA with eA
      subst eA
      have hax := HAF.out x (List.mem_of_getElem? hxk)
      have hcr := (HB2.out.cell (World.block_lt_of_cell? wc _ hcc)).trans hcc
      obtain ⟨A', c', hsl, hlm, hFm⟩ := from_at _ _ A5 c5 x (Mark.ahead p) (Kd.F_below hF5 HB2.out) hl5 hax
      have hxm := Kd.F_max hF5
      have HK := Aside0.mk (cutL_snoc (Mark.ahead p) 0 hxk)
      have HAL := Aside0.mk (show (p.f3.take (kk + 1)).all (fun k => decide (k.length = Mark.ahead p)) = ((p.f3.take kk).all (fun k => decide (k.length = Mark.ahead p)) && decide (x.length = Mark.ahead p)) by rw [take_snoc hxk, List.all_append, List.all_cons, List.all_nil, Bool.and_true])
      have hlk : (cutL (p.f3.take kk) (Mark.ahead p) 0).length = kk := by rw [cutL, List.length_map, List.length_take]; omega
      have HLK := Aside0.mk hlk
      have HFM := Aside0.mk hFm
      have HCC := Aside0.mk hcc
      clear hF5 hxk hFm hlk hcc
      generalize midL x (Mark.ahead p) 0 = m at hsl hlm HFM HK
      obtain ⟨eb, heb⟩ : ∃ eb, (p.f3.take kk).all (fun k => decide (k.length = Mark.ahead p)) = eb := ⟨_, rfl⟩
      rw [heb] at HAL ⊢
      clear heb
      cases eb
      ·go_wp2_with (at_builtin; refine Kd.N_append (Kd.slice 9 Kd.string) (w0 := wc) wc.heap.size rfl (.tmp 47) (.tmp 55) 34 25 (.slice none 0 0) 24 rfl Tryz.underlying34 info25' rfl (by decide) (by decide) u5 (cutL (p.f3.take kk) (Mark.ahead p) 0) m [.slice A' m.length c'] (fun k => (P k ∧ k < w.heap.size) ∨ wc.heap.size ≤ k) (fun k => P k ∧ k < w.heap.size) rfl rfl (Kd.FK_slice_mk hlm HFM.out) (fun k hk => ⟨.inl hk, fun e => absurd (Kd.N_base HN.out k e.symm) (by have := hk.2; omega)⟩) (fun k hk => .inr (Nat.le_trans HB2.out.size hk)) HN.out HB2.out HB2.out.size (by rw [HLK.out]; omega) ?_; intro v1 w1 hT hB1 _ _; have HT := Aside0.mk hT; have HB1 := Aside0.mk hB1; have q3 := (XX.out w1 (HB.out.trans (HB1.out.mono HB.out.size))).k3; have q4 := (HB1.out.cell (World.block_lt_of_cell? wc _ HCC.out)).trans HCC.out; clear hT hB1)
       go_roundg (p.f3.length - (kk + 1))
       case measure => omega
       case rel => exact ⟨kk + 1, by omega, by omega, by go_num, by rw [HAL.out]; rfl, ⟨by rw [HK.out]; exact HT.out⟩, HB1⟩
      ·by_cases hxa : x.length = Mark.ahead p
       ·have hbe : ((x.length : Int) == (Mark.ahead p : Int)) = true := by rw [hxa]; exact beq_self_eq_true _
        have HXA := Aside0.mk hxa
        clear hxa
        go_wp2_with (at_builtin; refine Kd.N_append (Kd.slice 9 Kd.string) (w0 := wc) wc.heap.size rfl (.tmp 47) (.tmp 55) 34 25 (.slice none 0 0) 24 rfl Tryz.underlying34 info25' rfl (by decide) (by decide) u5 (cutL (p.f3.take kk) (Mark.ahead p) 0) m [.slice A' m.length c'] (fun k => (P k ∧ k < w.heap.size) ∨ wc.heap.size ≤ k) (fun k => P k ∧ k < w.heap.size) rfl rfl (Kd.FK_slice_mk hlm HFM.out) (fun k hk => ⟨.inl hk, fun e => absurd (Kd.N_base HN.out k e.symm) (by have := hk.2; omega)⟩) (fun k hk => .inr (Nat.le_trans HB2.out.size hk)) HN.out HB2.out HB2.out.size (by rw [HLK.out]; omega) ?_; intro v1 w1 hT hB1 _ _; have HT := Aside0.mk hT; have HB1 := Aside0.mk hB1; have q3 := (XX.out w1 (HB.out.trans (HB1.out.mono HB.out.size))).k3; have q4 := (HB1.out.cell (World.block_lt_of_cell? wc _ HCC.out)).trans HCC.out; clear hT hB1)
        go_roundg (p.f3.length - (kk + 1))
        case measure => omega
        case rel => exact ⟨kk + 1, by omega, by omega, by go_num, by rw [HAL.out, decide_eq_true HXA.out]; rfl, ⟨by rw [HK.out]; exact HT.out⟩, HB1⟩
       ·have hbe : ((x.length : Int) == (Mark.ahead p : Int)) = false := beq_eq_false_iff_ne.2 (by omega)
        have HXA := Aside0.mk hxa
        clear hxa
        go_wp2_with (at_builtin; refine Kd.N_append (Kd.slice 9 Kd.string) (w0 := wc) wc.heap.size rfl (.tmp 47) (.tmp 55) 34 25 (.slice none 0 0) 24 rfl Tryz.underlying34 info25' rfl (by decide) (by decide) u5 (cutL (p.f3.take kk) (Mark.ahead p) 0) m [.slice A' m.length c'] (fun k => (P k ∧ k < w.heap.size) ∨ wc.heap.size ≤ k) (fun k => P k ∧ k < w.heap.size) rfl rfl (Kd.FK_slice_mk hlm HFM.out) (fun k hk => ⟨.inl hk, fun e => absurd (Kd.N_base HN.out k e.symm) (by have := hk.2; omega)⟩) (fun k hk => .inr (Nat.le_trans HB2.out.size hk)) HN.out HB2.out HB2.out.size (by rw [HLK.out]; omega) ?_; intro v1 w1 hT hB1 _ _; have HT := Aside0.mk hT; have HB1 := Aside0.mk hB1; have q3 := (XX.out w1 (HB.out.trans (HB1.out.mono HB.out.size))).k3; have q4 := (HB1.out.cell (World.block_lt_of_cell? wc _ HCC.out)).trans HCC.out; clear hT hB1)
        go_roundg (p.f3.length - (kk + 1))
        case measure => omega
        case rel => exact ⟨kk + 1, by omega, by omega, by go_num, by rw [HAL.out, decide_eq_false HXA.out]; rfl, ⟨by rw [HK.out]; exact HT.out⟩, HB1⟩
     ·have hltz : ¬ (kk : Int) < (p.f3.length : Int) := by omega
      have hkl : kk = p.f3.length := by omega
      subst hkl
      rw [List.take_length] at HN ⊢
      rw [show cutL p.f3 (Mark.ahead p) 0 = rest p from rfl] at HN
      obtain ⟨A4, c4, e4⟩ := Kd.N_slice HN.out
      subst e4
      have HRL := Aside0.mk (show (rest p).length = p.f3.length from cutL_length _ _ _)
      have hbr := Nat.le_trans hbc HB2.out.size
      have N2 := Aside0.mk (Kd.N_mono (Kd.N_lower HN.out hbc) (ok' := fun k => (P k ∧ k < w.heap.size) ∨ w.heap.size ≤ k) (fun k hk => hk.imp_right (Nat.le_trans hbc)))
      clear HN HB HB2
      have HRA := rest_any p
      obtain ⟨bb, hbb⟩ : ∃ bb, p.f3.all (fun k => decide (k.length = Mark.ahead p)) = bb := ⟨_, rfl⟩
      rw [hbb] at HRA ⊢
      have HTC := Aside0.mk (show trimC p = if (!bb) = true then norm [textA p, midP p, textB p] else norm [textA p] by rw [trimC, HRA])
      have HBB := Aside0.mk hbb
      clear HRA hbb
      cases bb
      ·-- something is left in the middle
       obtain ⟨adr, Ar, cr, eA, hcr, hlr, -⟩ := elemV (Kd.N_V (base' := 0) N2.out) (head_get (l := rest p) (by rw [HRL.out]; exact hn))
       subst eA
       obtain ⟨r0, hr0⟩ : ∃ r0, (rest p).headD [] = r0 := ⟨_, rfl⟩
       rw [hr0] at hcr hlr
       have HR0 := Aside0.mk hr0
       have hcr0 : wr.cell? adr = some (.slice Ar r0.length cr) := by
        have := hcr
        cases adr
        exact this
       have HCR := Aside0.mk hcr0
       clear hcr hcr0
       have HRZ := Aside0.mk (show (0 : Int) < ((rest p).length : Int) by rw [HRL.out]; omega)
       have hrn : 0 < (rest p).length := by rw [HRL.out]; exact hn
       have hrm : r0.length ≤ 9223372036854775807 := by
        have := (Kd.C_max (elemL (Kd.N_reads' N2.out).2.2 (head_get hrn)).choose_spec.choose_spec.choose_spec.2.2.2)
        rw [hr0] at this
        exact this
       clear hr0
       have hrp : (rest p).length ≤ 1000000 := by rw [HRL.out]; exact hm
       go_wp2_with (fail)
       go_loopg [8] r0.length (fun gg s8 wq => ∃ b : Nat, b ≤ r0.length ∧ r0.length - b ≤ gg ∧ s8 = .int .i64 b ∧ Aside0 (endsB (rest p) b = true) ∧ Aside0 (Below wr.heap.size wr wq))
       case atStart => exact ⟨0, Nat.zero_le _, by omega, rfl, ⟨ends_zero _⟩, ⟨Below.refl _ _⟩⟩
       case round =>
        clear k1 k2 k3
        obtain ⟨b, hb, hg, rfl, HG, HB3⟩ := hrel
        go_upto_region 17 with (fail)
        go_cut [84] (fun v84 wd => v84 = .bool (decide (b < r0.length ∧ endsB (rest p) (b + 1) = true)) ∧ Aside0 (Below wr.heap.size wr wd))
        case first =>
         have hz := HRZ.out
         have q1 := (HB3.out.cell (World.block_lt_of_cell? _ _ HCR.out)).trans HCR.out
         have N3 := Aside0.mk (Kd.N_below N2.out HB3.out)
         by_cases hlt : b < r0.length
         ·have hltz : (b : Int) < (r0.length : Int) := by omega
          have HC := Aside0.mk (ends_calls _ (some adr) c4 (rest p) (b + 1) (Kd.N_reads' N3.out).2.2 (Kd.N_reads' N3.out).2.1)
          rw [show ((b + 1 : Nat) : Int) = (b : Int) + 1 by omega] at HC
          have hwr : IntKind.i64.wrap ((b : Int) + 1) = (b : Int) + 1 := IntWalk.i64_in _ (by omega)
          go_wp2_with (fail)
          refine HC.out.mono ?_
          rintro e w6 ⟨rfl, hb6⟩
          have B6 := Aside0.mk hb6
          clear hb6 HC
          go_wp2
          go_meet
          case rel => exact ⟨by simp [hlt], B6⟩
         ·have hltz : ¬ (b : Int) < (r0.length : Int) := by omega
          go_wp2_with (fail)
          go_meet
          case rel => exact ⟨by simp [hlt], ⟨Below.refl _ _⟩⟩
        case rest =>
         obtain ⟨rfl, HBd⟩ := hcut
         have HB3 := Aside0.mk (HB3.out.trans (HBd.out.mono HB3.out.size))
         clear HBd
         by_cases hgo : b < r0.length ∧ endsB (rest p) (b + 1) = true
         ·rw [decide_eq_true hgo]
          have hwr : IntKind.i64.wrap ((b : Int) + 1) = (b : Int) + 1 := IntWalk.i64_in _ (by omega)
          go_wp2_with (fail)
          go_roundg (r0.length - (b + 1))
          case measure => omega
          case rel => exact ⟨b + 1, by omega, by omega, by go_num, ⟨hgo.2⟩, HB3⟩
         ·rw [decide_eq_false hgo]
          have hA : b = Mark.behind p := (ends_stop hrn HG.out (by rw [HR0.out]; exact hgo)).symm
          clear hgo hg hb
          subst hA
          clear HG
          have HBF := Aside0.mk (show ∀ k ∈ rest p, Mark.behind p ≤ k.length from fun k hk => alike_fit atB hk)
          have hbq := Nat.le_trans hbr HB3.out.size
          have BQ := Aside0.mk (BR.out.trans (HB3.out.mono BR.out.size))
          have N3 := Aside0.mk (Kd.N_below N2.out HB3.out)
          have HV := Aside0.mk (Kd.V_bound (Kd.N_V (base' := 0) N3.out))
          go_wp2_with (fail)
          go_loopg [9, 10] (rest p).length (fun gg s9 s10 wz => ∃ kk : Nat, kk ≤ (rest p).length ∧ (rest p).length - kk ≤ gg ∧ s10 = .int .i64 kk ∧ Aside0 (Kd.N (Kd.slice 9 Kd.string) 25 wz wc.heap.size (fun k => (P k ∧ k < w.heap.size) ∨ w.heap.size ≤ k) s9 (cutL ((rest p).take kk) 0 (Mark.behind p))) ∧ Aside0 (Below wc.heap.size wc wz))
          case atStart => exact ⟨0, Nat.zero_le _, by omega, rfl, ⟨Kd.N_nil _ _ _ _ _⟩, ⟨Below.refl _ _⟩⟩
          case round =>
           obtain ⟨kk, hkk, hg, rfl, HN, HB4⟩ := hrel
           by_cases hlt : kk < (rest p).length
           ·have hltz : (kk : Int) < ((rest p).length : Int) := by omega
            obtain ⟨x, hxk⟩ : ∃ x, (rest p)[kk]? = some x := ⟨_, List.getElem?_eq_getElem hlt⟩
            obtain ⟨ad', A5, c5, eA, hcc, hl5, hF5⟩ := elemV (Kd.V_below HV.out HB4.out) hxk
            injection eA with eA
            subst eA
            have hbx := HBF.out x (List.mem_of_getElem? hxk)
            obtain ⟨hsl, hl6, hFm⟩ := to_at _ _ A5 c5 x (Mark.behind p) hF5 hl5 hbx
            have hxm := Kd.F_max hF5
            have hwr : IntKind.i64.wrap ((x.length : Int) - (Mark.behind p : Int)) = (x.length : Int) - (Mark.behind p : Int) := IntWalk.i64_in _ (by omega)
            have HK := Aside0.mk (cutL_snoc 0 (Mark.behind p) hxk)
            have hlk : (cutL ((rest p).take kk) 0 (Mark.behind p)).length = kk := by rw [cutL, List.length_map, List.length_take]; omega
            have HLK := Aside0.mk hlk
            have HFM := Aside0.mk hFm
            clear hF5 hxk hFm hlk
            generalize midL x 0 (Mark.behind p) = m at hsl hl6 HFM HK
            have hFMD := Aside0.mk (Kd.F_below HFM.out (below_drew (Below.refl _ wr)))
            go_wp2_with (fail)
            go_region_law (refine Kd.N_append_step (Kd.slice 9 Kd.string) (w0 := wc) (W := wr.drew) wc.heap.size ?hw (.tmp 93) (.tmp 106) 34 25 (.slice none 0 0) 24 ?ho Tryz.underlying34 info25' rfl (by decide) (by decide) u9 (cutL ((rest p).take kk) 0 (Mark.behind p)) m [.slice A5 m.length c5] (fun k => (P k ∧ k < w.heap.size) ∨ w.heap.size ≤ k) (fun k => ((P k ∧ k < w.heap.size) ∨ w.heap.size ≤ k) ∧ k < wc.heap.size) ?hs ?hx ?aP ?aK ?aF ?aO ?aB ?aS ?aL ?_; (case hw => rfl); (case ho => rfl); (case hs => rfl); (case hx => rfl); (case aP => exact Kd.FK_slice_mk hl6 hFMD.out); (case aK => exact fun k hk => ⟨hk.1, fun e => absurd (Kd.N_base HN.out k e.symm) (by have := hk.2; omega)⟩); (case aF => exact fun k hk => .inr (Nat.le_trans hbq (Nat.le_trans HB4.out.size hk))); (case aO => exact Kd.N_drew HN.out); (case aB => exact HB4.out.drew); (case aS => exact HB4.out.size); (case aL => rw [HLK.out]; omega); intro v1 w1 hT hB1 _ _; have HT := Aside0.mk hT; have HB1 := Aside0.mk hB1; clear hT hB1)
            all_goals
             go_wp2_with (fail)
             go_roundg ((rest p).length - (kk + 1))
             case measure => omega
             case rel => exact ⟨kk + 1, by omega, by omega, by go_num, ⟨by rw [HK.out]; exact HT.out⟩, HB1⟩
           ·have hltz : ¬ (kk : Int) < ((rest p).length : Int) := by omega
            have hkl : kk = (rest p).length := by omega
            subst hkl
            rw [List.take_length] at HN
            obtain ⟨md, hmd⟩ : ∃ md, cutL (rest p) 0 (Mark.behind p) = md := ⟨_, rfl⟩
            rw [hmd] at HN
            obtain ⟨A9, c9, e9⟩ := Kd.N_slice HN.out
            subst e9
            have HMD := Aside0.mk (show midP p = ⟨true, [], p.f2, md⟩ by rw [midP, hmd])
            clear hmd
            have BZ := Aside0.mk (BQ.out.trans (HB4.out.mono BQ.out.size))
            have hbz := Nat.le_trans HW.out.size BZ.out.size
            have D := Aside0.mk (BZ.out.trans ((below_drew (Below.refl _ wr)).mono BZ.out.size))
            obtain ⟨-, k1, k2, k3⟩ := XX.out _ BZ.out
            have PZ := Aside0.mk (PP.out _ D.out)
            have hfa : Mark.ahead p ≤ (first p).length := by have := HAF.out _ (headD_mem hn); rw [HFD.out] at this; exact this
            have hfb : Mark.behind p ≤ (first p).length := by
             have := HBF.out _ (headD_mem (l := rest p) hrn)
             rw [show (rest p).headD [] = midL (first p) (Mark.ahead p) 0 from cutL_head hn _ _, midL_length (by omega)] at this
             omega
            have hwr : IntKind.i64.wrap (((first p).length : Int) - (Mark.behind p : Int)) = ((first p).length : Int) - (Mark.behind p : Int) := IntWalk.i64_in _ (by omega)
            obtain ⟨hsl, hl6, hFt⟩ := take_at wr.drew _ A0 c0 (first p) (Mark.ahead p) (Kd.F_below HF0.out D.out) hl0 hfa
            obtain ⟨A7, c7, hsl7, hl7, hF7⟩ := Mark.drop_at wr.drew _ A0 c0 (first p) (Mark.behind p) (Kd.F_below HF0.out D.out) hl0 hfb
            obtain ⟨ta, hta⟩ : ∃ ta, (first p).take (Mark.ahead p) = ta := ⟨_, rfl⟩
            obtain ⟨tb, htb⟩ : ∃ tb, (first p).drop ((first p).length - Mark.behind p) = tb := ⟨_, rfl⟩
            have HTA := Aside0.mk (show textA p = ⟨false, ta, [], []⟩ by rw [textA, hta])
            have HTB := Aside0.mk (show textB p = ⟨false, tb, [], []⟩ by rw [textB, htb])
            rw [hta] at hsl hl6 hFt
            rw [htb] at hsl7 hl7 hF7
            clear hta htb
            have hmono : ∀ k, (P k ∧ k < w.heap.size) → ((P k ∧ k < w.heap.size) ∨ w.heap.size ≤ k) := fun _ h => .inl h
            have N5 := N_new k36 (W := wr.drew) (e := 36) (base := w.heap.size) (ok := fun k => (P k ∧ k < w.heap.size) ∨ w.heap.size ≤ k) (okp := fun k => (P k ∧ k < w.heap.size) ∨ w.heap.size ≤ k)
             (reps_three (PV.fk (x := ⟨false, ta, [], []⟩) ⟨hl6, Kd.F_mono hFt hmono, Nat.le_refl _, Kd.F_nil _ _ _, Nat.le_refl _, Kd.F_nil _ _ _⟩)
              (PV.fk (x := ⟨true, [], p.f2, md⟩) ⟨Nat.le_refl _, Kd.F_nil _ _ _, PZ.out.l2, Kd.F_mono PZ.out.g2 hmono, (Kd.N_reads' HN.out).2.1, Kd.F_below (Kd.N_F HN.out) (below_drew (Below.refl _ wr))⟩)
              (PV.fk (x := ⟨false, tb, [], []⟩) ⟨hl7, Kd.F_mono hF7 hmono, Nat.le_refl _, Kd.F_nil _ _ _, Nat.le_refl _, Kd.F_nil _ _ _⟩)) (fun _ hk => hk) (.inr hbz) hbz (by simp)
            have HNo := Aside0.mk (rnormal_calls (wr.drew.alloc (.cells #[.bool false, .slice A0 ta.length c0, .slice none 0 0, .slice none 0 0, .bool true, .slice none 0 0, .slice A2 p.f2.length c2, .slice A9 md.length c9, .bool false, .slice A7 tb.length c7, .slice none 0 0, .slice none 0 0] 36)) _ _ 3 3 [⟨false, ta, [], []⟩, ⟨true, [], p.f2, md⟩, ⟨false, tb, [], []⟩] (Kd.N_V N5) (by simp) (by rw [← HTA.out, ← HMD.out, ← HTB.out]; exact hw))
            have HWA := Aside0.mk (show Below w.heap.size w (wr.drew.alloc (.cells #[.bool false, .slice A0 ta.length c0, .slice none 0 0, .slice none 0 0, .bool true, .slice none 0 0, .slice A2 p.f2.length c2, .slice A9 md.length c9, .bool false, .slice A7 tb.length c7, .slice none 0 0, .slice none 0 0] 36)) from (HW.out.trans (D.out.mono HW.out.size)).alloc hbz _)
            clear N5 hFt hF7 hmono
            go_wp2_with (fail)
            go_region_law (go_simp; go_at_call 37; refine HNo.out.mono ?_; rintro e w8 ⟨v8, rfl, hN8, hb8⟩; have N8 := Aside0.mk hN8; have B8 := Aside0.mk hb8; clear hN8 hb8)
            all_goals
             go_wp2_with (fail)
             go_ret
             rw [HTC.out, if_pos (by decide), HTA.out, HMD.out, HTB.out]
             exact ⟨_, rfl, Kd.N_mono (Kd.N_lower N8.out HWA.out.size) (fun k hk => hk.elim (fun h => h.imp_left (·.1)) (fun h => .inr (Nat.le_trans HWA.out.size h))), HWA.out.trans (B8.out.mono HWA.out.size)⟩
      ·-- nothing is left in the middle
       have HTA := Aside0.mk (show textA p = ⟨false, first p, [], []⟩ by
        have h1 := List.all_eq_true.1 HBB.out _ (headD_mem hn)
        rw [decide_eq_true_eq, HFD.out] at h1
        rw [textA, List.take_of_length_le (by omega)])
       have N4 := N_new k36 (W := wr) (e := 36) (base := w.heap.size) (ok := fun k => (P k ∧ k < w.heap.size) ∨ w.heap.size ≤ k) (reps_one (PV.fk (x := ⟨false, first p, [], []⟩) ⟨hl0, Kd.F_below HF0.out BR.out, Nat.le_refl _, Kd.F_nil _ _ _, Nat.le_refl _, Kd.F_nil _ _ _⟩) rfl) (fun _ hk => .inl hk) (.inr hbr) hbr (by simp)
       have HNo := Aside0.mk (rnormal_calls (wr.alloc (.cells #[.bool false, .slice A0 (first p).length c0, .slice none 0 0, .slice none 0 0] 36)) _ _ 1 1 [⟨false, first p, [], []⟩] (Kd.N_V N4) (by simp) (by
        rw [← HTA.out]
        have : wt [textA p, midP p, textB p] = wt [textA p] + wt [midP p, textB p] := by simp [wt]
        omega))
       have HWA := Aside0.mk (show Below w.heap.size w (wr.alloc (.cells #[.bool false, .slice A0 (first p).length c0, .slice none 0 0, .slice none 0 0] 36)) from (HW.out.trans (BR.out.mono HW.out.size)).alloc hbr _)
       clear N4
       go_wp2_with (fail)
       refine HNo.out.mono ?_
       rintro e w8 ⟨v8, rfl, hN8, hb8⟩
       have N8 := Aside0.mk hN8
       have B8 := Aside0.mk hb8
       clear hN8 hb8 HNo
       go_wp2
       go_ret
       rw [HTC.out, if_neg (by decide), HTA.out]
       exact ⟨_, rfl, Kd.N_mono (Kd.N_lower N8.out HWA.out.size) (fun k hk => hk.elim (fun h => h.imp_left (·.1)) (fun h => .inr (Nat.le_trans HWA.out.size h))), HWA.out.trans (B8.out.mono HWA.out.size)⟩
theorem rtrim_calls (w : World) (P : Nat → Prop) (p : Piece) (A1 : Option Addr) (c1 : Nat) (A2 : Option Addr) (c2 : Nat) (A3 : Option Addr) (c3 : Nat) (hp : PV w P p A1 c1 A2 c2 A3 c3) (hm : p.f3.length ≤ 1000000) (hw1 : wt [p] ≤ 1000000) (hw : wt [textA p, midP p, textB p] ≤ 1000000) :
  Calls Tryz.prog 36 #[pv p A1 c1 A2 c2 A3 c3] w (RowOut w P (trim p)) := by
 by_cases h : p.f0 = false ∨ p.f3.length = 0
 ·rw [trim, if_pos h]; exact rtrim_plain w P p A1 c1 A2 c2 A3 c3 hp hw1 h
 ·rw [trim, if_neg h]; exact rtrim_conflict w P p A1 c1 A2 c2 A3 c3 hp (by cases hf : p.f0 with | true => rfl | false => exact absurd (.inl hf) h) (by have := fun e => h (.inr e); omega) hm hw
#print axioms rtrim_calls
end Go.Proofs.YtcnjbmdnnhbfkaaGreatDoor.Ref
/- sennitref10.Zeal: what it computes. -/
namespace Go.Proofs.YtcnjbmdnnhbfkaaGreatDoor.Ref
open Go.RowKit Go.Proofs.YtcnjbmdnnhbfkaaGreatDoor.XD Go.Proofs.YtcnjbmdnnhbfkaaGreatDoor.XR Go.Proofs.YtcnjbmdnnhbfkaaGreatDoor.Mark Go.Proofs.YtcnjbmdnnhbfkaaGreatDoorW.PrintWords Go.Proofs.YtcnjbmdnnhbfkaaGreatDoorW.PrintLast Go.Proofs.YtcnjbmdnnhbfkaaGreatDoorW.PrintMore
set_option maxHeartbeats 1000000 in
set_option maxRecDepth 100000 in
theorem rzeal_calls (w : World) (P : Nat → Prop) (A : Option Addr) (n c : Nat) (l : List Piece) (hx : Kd.V k36 36 w w.heap.size P (.slice A n c) l) (hl : l.length ≤ 100000) (ht : tot l ≤ 100000) :
  Calls Tryz.prog 16 #[.slice A n c] w (RowOut w P (zeal l)) := by
 have hu := Tryz.underlying36
 have hx := Kd.V_bound hx
 obtain ⟨rfl, hcc, _⟩ := Kd.V_reads' hx
 have HX := Aside0.mk hx
 clear hx
 go_enter Tryz.func16, Tryz.ntmps16
 go_wp2
 go_loopg [3, 4] l.length (fun gg s3 s4 wr => ∃ kk : Nat, kk ≤ l.length ∧ l.length - kk ≤ gg ∧ s4 = .int .i64 kk ∧ Aside0 (Kd.N k36 36 wr w.heap.size (fun k => (P k ∧ k < w.heap.size) ∨ w.heap.size ≤ k) s3 ((l.take kk).flatMap trim)) ∧ Aside0 (Below w.heap.size w wr))
 case atStart => exact ⟨0, Nat.zero_le _, by omega, rfl, ⟨Kd.N_nil _ _ _ _ _⟩, ⟨Below.refl _ _⟩⟩
 case round =>
  obtain ⟨kk, hkk, hg, rfl, HN, HB⟩ := hrel
  by_cases hlt : kk < l.length
  ·have hltz : (kk : Int) < (l.length : Int) := by omega
   obtain ⟨x, hxk⟩ : ∃ x, l[kk]? = some x := ⟨_, List.getElem?_eq_getElem hlt⟩
   obtain ⟨ad, A1, c1, A2, c2, A3, c3, rfl, ⟨h0, h1, h2, h3⟩, hpv⟩ := elemVP (Kd.V_below HX.out HB.out) hxk
   have hsz := tot_mem (List.mem_of_getElem? hxk)
   have h3z := trim_three x
   have hw1 : wt [x] ≤ szP x := by simp [wt, szP]; omega
   have hs3 : x.f3.length ≤ szP x := by simp [szP]; omega
   have HK := Aside0.mk (fm_snoc hxk)
   have HT := Aside0.mk (rtrim_calls wr _ x A1 c1 A2 c2 A3 c3 hpv (by omega) (by omega) (by omega))
   have HLn := Aside0.mk (show ((l.take kk).flatMap trim).length + (trim x).length ≤ 1000000 by
    have := (flat_trim (l.take kk)).1
    rw [List.length_take] at this
    have := trim_len x
    omega)
   clear hpv hxk hsz h3z hw1 hs3
   have hbs := HB.out.size
   go_wp2_with (first | (go_at_call 36; refine HT.out.mono ?_; rintro e w1 ⟨v1, rfl, hN1, hb1⟩; obtain ⟨A5, c5, e5⟩ := Kd.N_slice hN1; subst e5; have N1 := Aside0.mk hN1; have HO := Aside0.mk (Kd.N_below (Kd.N_bound HN.out) hb1); have HB1 := Aside0.mk (HB.out.trans (hb1.mono hbs)); have hz1 := hb1.size; clear hN1 hb1) | (at_builtin; refine Kd.N_append_rows k36 (w0 := w) w.heap.size rfl (.tmp 11) (.tmp 16) 22 36 (.agg #[(.bool false), (.slice none 0 0), (.slice none 0 0), (.slice none 0 0)]) 80 rfl Tryz.underlying22 info36 rfl (by decide) (by decide) u3 ((l.take kk).flatMap trim) (trim x) A5 (trim x).length c5 (fun k => (P k ∧ k < w.heap.size) ∨ w.heap.size ≤ k) (fun k => (P k ∧ k < w.heap.size) ∨ wr.heap.size ≤ k) rfl rfl (Kd.N_mono HO.out (fun _ h => h.1)) (Kd.F_mono (Kd.N_F N1.out) (fun k hk => hk.imp_right (fun h => h))) (fun k hk => ⟨hk.imp_right (Nat.le_trans hbs), fun e => by have h1 := Kd.N_base HO.out k e.symm; have h2 := (HO.out.1 k e.symm).2; rcases hk with hk | hk <;> omega⟩) (fun k hk => .inr (Nat.le_trans HB1.out.size hk)) HB1.out HB1.out.size (by have := HLn.out; omega) ?_; intro v1 w2 hT2 hB2 _ _; have HT2 := Aside0.mk hT2; have HB2 := Aside0.mk hB2; clear hT2 hB2))
   go_roundg (l.length - (kk + 1))
   case measure => omega
   case rel => exact ⟨kk + 1, by omega, by omega, by go_num, ⟨by rw [HK.out]; exact HT2.out⟩, HB2⟩
  ·have hltz : ¬ (kk : Int) < (l.length : Int) := by omega
   have hkl : kk = l.length := by omega
   subst hkl
   obtain ⟨A5, c5, e5⟩ := Kd.N_slice HN.out
   subst e5
   have hN := HN.out
   rw [List.take_length] at hN
   have h3 := flat_trim l
   have h4 := wt_le_tot (l.flatMap trim)
   have HNo := Aside0.mk (rnormal_calls wr _ A5 (l.flatMap trim).length c5 _ (Kd.N_V hN) (by omega) (by omega))
   have HLe := Aside0.mk (show ((l.take l.length).flatMap trim).length = (l.flatMap trim).length by rw [List.take_length])
   rw [HLe.out]
   have HZ := Aside0.mk (show zeal l = norm (l.flatMap trim) from rfl)
   clear hN h3 h4 HN HLe
   generalize l.flatMap trim = r at HNo HZ ⊢
   go_wp2_with (fail)
   refine HNo.out.mono ?_
   rintro e w8 ⟨v8, rfl, hN8, hb8⟩
   have N8 := Aside0.mk hN8
   have B8 := Aside0.mk hb8
   clear hN8 hb8 HNo
   go_wp2
   go_ret
   rw [HZ.out]
   exact ⟨_, rfl, Kd.N_mono (Kd.N_lower N8.out HB.out.size) (fun k hk => hk.elim (fun h => h.imp_left (·.1)) (fun h => .inr (Nat.le_trans HB.out.size h))), HB.out.trans (B8.out.mono HB.out.size)⟩
def sennitref10_Zeal.f (l : List Piece) : Option (List Piece) := if l.length ≤ 100000 ∧ tot l ≤ 100000 then some (zeal l) else none
theorem sennitref10_Zeal.calls (P0_ : Nat → Prop) (A0 : Option Addr) (c0 : Nat) (l0 : List Piece) (r : List Piece) (w : World) (hs0 : Kd.V k36 36 w w.heap.size (fun k_ => P0_ k_) (.slice A0 l0.length c0) l0) (h : sennitref10_Zeal.f l0 = some r) :
  Calls Tryz.prog 16 #[.slice A0 l0.length c0] w fun e w' => ∃ v0_ : Value, e = .returned (v0_) ∧ Kd.N k36 36 w' w.heap.size (fun k_ => (P0_ k_ ∨ w.heap.size ≤ k_)) v0_ r ∧ Below w.heap.size w w' := by
 unfold sennitref10_Zeal.f at h
 split at h
 ·rename_i hh
  injection h with h
  subst h
  exact rzeal_calls w P0_ A0 _ c0 l0 hs0 hh.1 hh.2
 ·cases h
#print axioms sennitref10_Zeal.calls
end Go.Proofs.YtcnjbmdnnhbfkaaGreatDoor.Ref
/- The reference's Normal and Same (of texts), in the form of printed contracts without rounds. -/
namespace Go.Proofs.YtcnjbmdnnhbfkaaGreatDoor.Ref
open Go.RowKit Go.Proofs.YtcnjbmdnnhbfkaaGreatDoor.XD Go.Proofs.YtcnjbmdnnhbfkaaGreatDoor.XR Go.Proofs.YtcnjbmdnnhbfkaaGreatDoor.Mark Go.Proofs.YtcnjbmdnnhbfkaaGreatDoorW.PrintWords Go.Proofs.YtcnjbmdnnhbfkaaGreatDoorW.PrintLast Go.Proofs.YtcnjbmdnnhbfkaaGreatDoorW.PrintMore
theorem samet_calls (w : World) (A1 A2 : Option Addr) (c1 c2 : Nat) (a b : List ByteArray) (h1 : Kd.C Kd.string w A1 a.length a) (l1 : a.length ≤ c1) (h2 : Kd.C Kd.string w A2 b.length b) (l2 : b.length ≤ c2) :
  Calls Tryz.prog 14 #[.slice A1 a.length c1, .slice A2 b.length c2] w fun e w' => e = .returned (.bool (decide (a = b))) ∧ Drawn0 w w' := by
 obtain ⟨k, hk⟩ := same_ev a b (by have := Kd.C_max h1; unfold M; omega)
 exact XR.sennitref01_Same.calls k A1 c1 a A2 c2 b _ w h1 l1 h2 l2 (hk k (Nat.le_refl _))
def sennitref01_Same.f (a b : List ByteArray) : Option Bool := some (decide (a = b))
theorem sennitref01_Same.calls (A0 : Option Addr) (c0 : Nat) (l0 : List ByteArray) (A1 : Option Addr) (c1 : Nat) (l1 : List ByteArray) (r : Bool) (w : World) (hr0 : Kd.string.C w A0 l0.length l0) (hc0 : l0.length ≤ c0) (hr1 : Kd.string.C w A1 l1.length l1) (hc1 : l1.length ≤ c1) (h : sennitref01_Same.f l0 l1 = some r) :
  Calls Tryz.prog 14 #[.slice A0 l0.length c0, .slice A1 l1.length c1] w fun e w' => e = .returned (.bool r) ∧ Drawn0 w w' := by
 unfold sennitref01_Same.f at h
 injection h with h
 subst h
 exact samet_calls w A0 A1 c0 c1 l0 l1 hr0 hc0 hr1 hc1
def sennitref07_Normal.f (l : List Piece) : Option (List Piece) := if l.length ≤ 1000000 ∧ wt l ≤ 1000000 then some (norm l) else none
theorem sennitref07_Normal.calls (P0_ : Nat → Prop) (A0 : Option Addr) (c0 : Nat) (l0 : List Piece) (r : List Piece) (w : World) (hs0 : Kd.V k36 36 w w.heap.size (fun k_ => P0_ k_) (.slice A0 l0.length c0) l0) (h : sennitref07_Normal.f l0 = some r) :
  Calls Tryz.prog 37 #[.slice A0 l0.length c0] w fun e w' => ∃ v0_ : Value, e = .returned (v0_) ∧ Kd.N k36 36 w' w.heap.size (fun k_ => (P0_ k_ ∨ w.heap.size ≤ k_)) v0_ r ∧ Below w.heap.size w w' := by
 unfold sennitref07_Normal.f at h
 split at h
 ·rename_i hh
  injection h with h
  subst h
  exact rnormal_calls w P0_ A0 _ c0 l0 hs0 hh.1 hh.2
 ·cases h
#print axioms sennitref07_Normal.calls
end Go.Proofs.YtcnjbmdnnhbfkaaGreatDoor.Ref
