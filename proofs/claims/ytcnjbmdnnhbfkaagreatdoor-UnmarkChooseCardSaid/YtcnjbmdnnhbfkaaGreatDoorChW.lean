/- The law UnmarkChoose: its walk: it tells true, where what it calls tells what the plain law says. -/
import Derived.Test.YtcnjbmdnnhbfkaaGreatDoorXD5
import Derived.Test.YtcnjbmdnnhbfkaaGreatDoorXD61
import Derived.Test.YtcnjbmdnnhbfkaaGreatDoorPick
namespace Go.Proofs.YtcnjbmdnnhbfkaaGreatDoor.XD
open Go.RowKit Go.Proofs.YtcnjbmdnnhbfkaaGreatDoor.Mark Go.Proofs.YtcnjbmdnnhbfkaaGreatDoor.Ref Go.Proofs.YtcnjbmdnnhbfkaaGreatDoor.Unmark Go.Proofs.YtcnjbmdnnhbfkaaGreatDoorW.PrintWords Go.Proofs.YtcnjbmdnnhbfkaaGreatDoorW.PrintLast Go.Proofs.YtcnjbmdnnhbfkaaGreatDoorW.PrintMore
set_option linter.unusedSimpArgs false
set_option linter.unusedVariables false

def manyB (side : Int) (l : List S36) : Bool := l.all fun p => !p.f0 || decide (side ≤ (p.f3.length : Int))

set_option maxHeartbeats 4000000 in
set_option maxRecDepth 100000 in
theorem choose_law (k : Nat) (A : Option Addr) (c : Nat) (l : List S36) (how n0 n1 : Int) (w : World) (hr0 : Kd.C k36 w A l.length l) (hc0 : l.length ≤ c) (h0 : 0 ≤ n0) (h0' : n0 ≤ 255) (h1 : 0 ≤ n1) (h1' : n1 ≤ 255) (m : Bool)
    (hM : sennitref12_May.f k l how (1 + n0 % 12) = some m)
    (hAll : m = true → manyB (1 + n1 % 6) l = true → ∃ (b : List ByteArray) (e0 : Int) (p : List S36) (s n : Int) (c1 : List ByteArray), mark_Print.f l how (1 + n0 % 12) = some (b, e0) ∧ unmark_Parse.f b (1 + n0 % 12) = some (p, s, n, 0) ∧ pick_Choose.f p (1 + n1 % 6) = some c1 ∧ sennitref07_Choose.f k l (1 + n1 % 6) = some c1) :
    Calls Tryz.prog 9 #[.slice A l.length c, .int .i64 how, .agg #[.int .u8 n0, .int .u8 n1]] w fun e w' => e = .returned (.bool true) ∧ Below w.heap.size w w' := by
  have hu36 := Tryz.underlying36
  have hu47 := Tryz.underlying47
  have HW := Aside0.mk (show Below w.heap.size w (w.alloc (.cells #[.int .u8 n0, .int .u8 n1] 47)) from below_alloc (Below.refl _ _) _)
  have HK := Aside0.mk (blk_new w (.cells #[.int .u8 n0, .int .u8 n1] 47))
  have HR := Aside0.mk (Kd.C_below hr0 HW.out)
  have HM := Aside0.mk hM
  have HAL := Aside0.mk hAll
  have hmx := Kd.C_max hr0
  clear hr0 hM hAll
  have HA := Aside0.mk (fun W => sennitlaw13_awake.calls true W sennitlaw13_awake_true)
  go_enter Tryz.func9, Tryz.ntmps9
  go_wp2_with (fail)
  generalize w.alloc (.cells #[.int .u8 n0, .int .u8 n1] 47) = wa at HW HK HR ⊢
  (with_reducible refine (HA.out _).mono ?_)
  rintro e w1 ⟨rfl, hb1⟩
  have K1 := Aside0.mk (blk_below HK.out hb1)
  have R1 := Aside0.mk (Kd.C_below HR.out hb1)
  have B1 := Aside0.mk (HW.out.trans (hb1.mono HW.out.size))
  clear HA HK HR HW hb1
  have q0 : w1.cell? ⟨w.heap.size, 0, none⟩ = some (.int .u8 n0) := (blk_cell K1.out 0).trans rfl
  have q1 : w1.cell? ⟨w.heap.size, 1, none⟩ = some (.int .u8 n1) := (blk_cell K1.out 1).trans rfl
  go_wp2_with (fail)
  have HM2 := Aside0.mk (sennitref12_May.calls k A c l how (1 + n0 % 12) m w1 R1.out hc0 HM.out)
  obtain ⟨lg, hlg⟩ : ∃ lg, 1 + n0 % 12 = lg := ⟨_, rfl⟩
  obtain ⟨sd, hsd⟩ : ∃ sd, 1 + n1 % 6 = sd := ⟨_, rfl⟩
  have hs1 : 1 ≤ sd := by omega
  have hs6 : sd ≤ 6 := by omega
  rw [hlg] at HM2 ⊢
  rw [hsd] at ⊢
  rw [hlg, hsd] at HAL
  clear hlg hsd HM q0 q1 K1
  (with_reducible refine HM2.out.mono ?_)
  rintro e w2 ⟨rfl, hb2⟩
  have R2 := Aside0.mk (Kd.C_below R1.out hb2)
  have B2 := Aside0.mk (B1.out.trans (hb2.mono B1.out.size))
  clear HM2 hb2 R1 B1
  cases m with
  | false =>
    go_wp2
    go_ret
    exact ⟨rfl, B2.out⟩
  | true =>
    go_wp2_with (fail)
    go_loopg [10] l.length (fun gg s10 wr => ∃ kk : Nat, kk ≤ l.length ∧ l.length - kk ≤ gg ∧ s10 = .int .i64 kk ∧ Aside0 (manyB sd (l.take kk) = true) ∧ w2 = wr)
    case atStart => exact ⟨0, Nat.zero_le _, by omega, rfl, ⟨rfl⟩, rfl⟩
    case round =>
      obtain ⟨kk, hkk, hg, rfl, HG, rfl⟩ := hrel
      by_cases hlt : kk < l.length
      · have hltz : (kk : Int) < (l.length : Int) := by omega
        obtain ⟨x, hxk⟩ : ∃ x, l[kk]? = some x := ⟨_, List.getElem?_eq_getElem hlt⟩
        obtain ⟨ad, A1, c1, A2, c2, A3, c3, rfl, ⟨h0, h1, h2, h3⟩, hpv⟩ := elemP R2.out hxk
        have HE := Aside0.mk (show manyB sd (l.take (kk + 1)) = (manyB sd (l.take kk) && (!x.f0 || decide (sd ≤ (x.f3.length : Int)))) by
          obtain ⟨hk2, rfl⟩ := List.getElem?_eq_some_iff.1 hxk
          unfold manyB
          rw [List.take_succ_eq_append_getElem hk2, List.all_append, List.all_cons, List.all_nil, Bool.and_true])
        have hz3 := Kd.C_max hpv.g3
        clear hpv hxk
        cases hf : x.f0
        · rw [hf] at h0 HE
          replace hf := Aside0.mk hf
          go_wp2_with (fail)
          go_roundg (l.length - (kk + 1))
          case measure => omega
          case rel => exact ⟨kk + 1, by omega, by omega, by go_num, ⟨by rw [HE.out, HG.out]; rfl⟩, rfl⟩
        · rw [hf] at h0 HE
          replace hf := Aside0.mk hf
          by_cases hlen : (x.f3.length : Int) < sd
          · go_wp2_with (fail)
            go_ret
            exact ⟨rfl, B2.out⟩
          · replace hlen : sd ≤ (x.f3.length : Int) := Int.not_lt.1 hlen
            go_wp2_with (fail)
            go_roundg (l.length - (kk + 1))
            case measure => omega
            case rel => exact ⟨kk + 1, by omega, by omega, by go_num, ⟨by rw [HE.out, HG.out, decide_eq_true hlen]; rfl⟩, rfl⟩
      · have hltz : ¬ (kk : Int) < (l.length : Int) := by omega
        have hkl : kk = l.length := by omega
        subst hkl
        have hg2 := HG.out
        rw [List.take_length] at hg2
        obtain ⟨b, e0, p, s, n, q, hP, hU, hC, hD⟩ := HAL.out (by first | trivial | rfl) hg2
        have HP := Aside0.mk (mark_Print.calls A c l how lg b e0 _ R2.out hc0 hP)
        replace hU := Aside0.mk hU
        replace hC := Aside0.mk hC
        replace hD := Aside0.mk hD
        clear hP hg2 HG HAL
        go_wp2_with (fail)
        (with_reducible refine HP.out.mono ?_)
        rintro e w3 ⟨v3, rfl, hV3, hb3⟩
        obtain ⟨A3, c3, e3⟩ := Kd.V_slice hV3
        subst e3
        have R3 := Aside0.mk (Kd.C_below R2.out hb3)
        have B3 := Aside0.mk (B2.out.trans (hb3.mono B2.out.size))
        have HU := Aside0.mk (unmark_Parse.calls A3 c3 b lg p s n 0 w3 (Kd.V_reads' hV3).2.2 (Kd.V_reads' hV3).2.1 hU.out)
        clear hU HP hV3 hb3 R2 B2
        go_wp2_with (fail)
        (with_reducible refine HU.out.mono ?_)
        rintro e w4 ⟨v4, rfl, hV4, hb4⟩
        obtain ⟨A4, c4, e4⟩ := Kd.V_slice hV4
        subst e4
        have R4 := Aside0.mk (Kd.C_below R3.out hb4)
        have B4 := Aside0.mk (B3.out.trans (hb4.mono B3.out.size))
        have HC := Aside0.mk (pick_Choose.calls A4 c4 p sd q w4 (Kd.V_reads' hV4).2.2 (Kd.V_reads' hV4).2.1 hC.out)
        clear hC HU hV4 hb4 R3 B3
        have h00 : ((0 : Int) == 0) = true := rfl
        go_wp2_with (fail)
        (with_reducible refine HC.out.mono ?_)
        rintro e w5 ⟨v5, rfl, hR5, hb5⟩
        obtain ⟨A5, c5, e5⟩ := Kd.R_slice hR5
        subst e5
        have R5 := Aside0.mk (Kd.C_below R4.out hb5)
        have B5 := Aside0.mk (B4.out.trans (hb5.mono B4.out.size))
        have V5 := Aside0.mk (Kd.R_reads' hR5)
        have HD := Aside0.mk (sennitref07_Choose.calls k A c l sd q w5 R5.out hc0 hD.out)
        clear hD HC hR5 hb5 R4 B4
        go_wp2_with (fail)
        (with_reducible refine HD.out.mono ?_)
        rintro e w6 ⟨v6, rfl, hR6, hb6⟩
        obtain ⟨A6, c6, e6⟩ := Kd.R_slice hR6
        subst e6
        have B6 := Aside0.mk (B5.out.trans (hb6.mono B5.out.size))
        have HS := Aside0.mk (sennitref01_Same.calls A5 c5 q A6 c6 q true w6 (Kd.C_below V5.out.2.2 hb6) V5.out.2.1 (Kd.R_reads' hR6).2.2 (Kd.R_reads' hR6).2.1 (by unfold sennitref01_Same.f; rw [decide_eq_true rfl]))
        clear HD hR6 hb6 R5 B5
        go_wp2_with (fail)
        (with_reducible refine HS.out.mono ?_)
        rintro e w7 ⟨rfl, hd7⟩
        have B7 := Aside0.mk (B6.out.trans (hd7.below.mono B6.out.size))
        clear HS hd7
        go_wp2
        go_ret
        exact ⟨rfl, B7.out⟩
end Go.Proofs.YtcnjbmdnnhbfkaaGreatDoor.XD
