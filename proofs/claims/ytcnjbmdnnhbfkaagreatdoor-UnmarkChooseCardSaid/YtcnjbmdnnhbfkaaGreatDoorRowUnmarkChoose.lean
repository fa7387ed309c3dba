/- The law UnmarkChoose holds: the row that was given, out of the printed contract and the plain law. -/
import Derived.Test.YtcnjbmdnnhbfkaaGreatDoorRows
import Derived.Test.YtcnjbmdnnhbfkaaGreatDoorCards
import Derived.Test.YtcnjbmdnnhbfkaaGreatDoorTie
import Derived.Test.YtcnjbmdnnhbfkaaGreatDoorLaid
import Derived.Test.YtcnjbmdnnhbfkaaGreatDoorChW
import Derived.Test.YtcnjbmdnnhbfkaaGreatDoorOpen
import Derived.Test.YtcnjbmdnnhbfkaaGreatDoorOpenP
import Derived.Test.YtcnjbmdnnhbfkaaGreatDoorPlCho
import Derived.WalkKit
import Derived.ProofKit
import Derived.OpenShut
import Derived.ShutString
import Derived.ChangeOld
import Derived.Below
import Derived.SizedLaws
import Derived.Carry
import Derived.Handed
import Derived.JoinedOf
import Derived.LaidLaws
import Derived.LaidHandle
import Derived.SevenTiedAt
namespace Go.Proofs.YtcnjbmdnnhbfkaaGreatDoor.unmarkChoose
open Go.ChangeShapes Go.WideShapes Go.ChangeAt Go.RowKit Go.Proofs.YtcnjbmdnnhbfkaaGreatDoorW.PrintWords
open Go.ChangeMaps (open_string shut_string)
theorem own : ownKnob Tryz.prog.godebug = none := by kernel_rfl
theorem laidOut : laidOutB Tryz.prog = true := by kernel_rfl
set_option maxRecDepth 100000 in
/-- Two numbers among the arguments. -/
theorem open_pair {H : Type} {enc : TypeId × Value → H} {W : World} {base : Nat} {v : Value} {d : DataW H} {p : List MemPlace} (hv : Value.okWide Tryz.prog W .any base 47 v) (h : DataW.Trod enc Tryz.prog W 0 (fun _ => true) true 47 v d p) :
    ∃ a b, v = .agg #[.int .u8 a, .int .u8 b] ∧ (Lit.int .u8 a).wf = true ∧ (Lit.int .u8 b).wf = true := by
  have e47 : Tryz.prog.cellsOf 47 = 2 := by kernel_rfl
  have e5 : Tryz.prog.cellsOf 5 = 1 := by kernel_rfl
  simp only [Value.okWide, Tryz.underlying47] at hv
  obtain ⟨cs, rfl, hs, -⟩ := hv
  rw [e47] at hs
  obtain ⟨l⟩ := cs
  obtain ⟨c0, c1, rfl⟩ : ∃ c0 c1, l = [c0, c1] := by
    match l, (show l.length = 2 from hs) with
    | [a, b], _ => exact ⟨a, b, rfl⟩
  obtain ⟨fuel, hf⟩ := h
  have hf2 : DataW.trod enc Tryz.prog W 0 (fun _ => true) true fuel 47 [c0, c1] = some (d, p) := hf
  obtain ⟨xs, n, -, -, -, hl, hx⟩ := DataW.trod_array Tryz.underlying47 hf2
  clear hf hf2
  rw [e5] at hx
  obtain ⟨y0, y1, rfl⟩ : ∃ y0 y1, xs = [y0, y1] := by
    match xs, hl with
    | [a, b], _ => exact ⟨a, b, rfl⟩
  have h0 : DataW.trod enc Tryz.prog W 0 (fun _ => true) true n 5 [c0] = some y0 := hx 0 (Nat.zero_lt_succ _)
  have h1 : DataW.trod enc Tryz.prog W 0 (fun _ => true) true n 5 [c1] = some y1 := hx 1 (Nat.lt_succ_self _)
  obtain ⟨a, ha, -, wa⟩ := DataW.trod_int Tryz.underlying5 h0
  obtain ⟨b, hb, -, wb⟩ := DataW.trod_int Tryz.underlying5 h1
  obtain rfl : c0 = .int .u8 a := (List.cons.inj ha).1
  obtain rfl : c1 = .int .u8 b := (List.cons.inj hb).1
  exact ⟨a, b, rfl, wa, wb⟩
set_option maxRecDepth 100000 in
theorem lifted (os : Os) (started : os.Started) (H : Type) (enc : TypeId × Value → H) :
    ReturnsInHanded {} Tryz.checked os 9 .any (fun w args => (Rows.unmarkChooseSpec.pre enc Tryz.prog Tryz.f9 [] false w args ∧ laidMetH Tryz.prog Laid.laid w) ∧ sizedMet enc Tryz.prog Tryz.f9 (OpenSpec.ofChange Rows.unmarkChooseSpec) false w args)
      (Rows.unmarkChooseSpec.post enc Tryz.prog Tryz.f9 false true false false) := by
  refine returnsInHanded_of_change_and (C := Tryz.checked) (X := fun w _ => laidMetH Tryz.prog Laid.laid w) (fun _ _ _ hh h => h.of_heap hh) own started (by kernel_rfl) Tryz.func9
    (ChangeSpec.witness_at (enc := enc) (C := Tryz.checked) (os := os) (X := fun w _ => laidMetH Tryz.prog Laid.laid w) false (Laid.world os) #[.slice none 0 0, .int .i64 0, .agg #[.int .u8 0, .int .u8 0]] 8 rfl (by kernel_rfl) (by kernel_rfl) (by kernel_rfl) (by kernel_rfl) (by kernel_rfl) (Laid.met os _)) ?_
  intro W base args ds gs before hval0 hW _ hsz0 _ _
  have hsz : (DataW.weightsEach Tryz.prog (Tryz.f9.params.toList ++ Rows.unmarkChooseSpec.plain.varTypes Tryz.prog) (ds ++ gs)).all (· ≤ reachBytes) = true := hsz0
  have hval : ∀ (j : Nat) t v, Tryz.f9.params[j]? = some t → args[j]? = some v → Value.okWide Tryz.prog W .any base t v := hval0
  have hW' := hW
  obtain ⟨p, q, hA0, hV, rfl, hfz, hnd⟩ := hW
  have hA : DataW.TrodAll enc Tryz.prog W 0 (fun _ => true) true Tryz.f9.params.toList args.toList ds p := hA0
  rw [Tryz.params9] at hA hval hsz
  obtain ⟨v0, vs0, d0, ds0, p0, q0, hargs, rfl, rfl, h0, r0⟩ := trodAll_cons hA
  obtain ⟨v1, vs1, d1, ds1, p1, q1, rfl, rfl, rfl, h1, r1⟩ := trodAll_cons r0
  obtain ⟨v2, vs2, d2, ds2, p2, q2, rfl, rfl, rfl, h2, r2⟩ := trodAll_cons r1
  obtain ⟨rfl, rfl, rfl⟩ := trodAll_nil r2
  obtain rfl : args = #[v0, v1, v2] := by cases args; simp_all
  obtain ⟨rfl, rfl⟩ := trodVars_none hV
  obtain ⟨a0, len0, cap0, rfl⟩ := okWide_slice Tryz.underlying22 (hval 0 22 v0 rfl rfl)
  have k0 := h0
  have lt0 : ∀ x ∈ p0, x.block < W.heap.size := by obtain ⟨m, hm⟩ := k0; exact DataW.trod_lt m _ _ _ hm
  obtain ⟨l0, rfl, hc0, hm0, hq0, hC0⟩ := Open.open_slice (d := XD.k36) Tryz.underlying22 (by kernel_rfl) XD.opened36 h0
  obtain ⟨a1, rfl, rfl, rfl, w1⟩ := open_int Tryz.underlying3 (hval 1 3 v1 rfl rfl) h1
  have k2 := h2
  have lt2 : ∀ x ∈ p2, x.block < W.heap.size := by obtain ⟨m, hm⟩ := k2; exact DataW.trod_lt m _ _ _ hm
  obtain ⟨a2, b2, rfl, w2, x2⟩ := open_pair (hval 2 47 v2 rfl rfl) h2
  clear hA0 hval0 hsz0 hsz
  have r2 : 0 ≤ a2 ∧ a2 ≤ 255 := by simpa [Lit.wf, show IntKind.u8.min = 0 from rfl, show IntKind.u8.max = 255 from rfl] using w2
  have s2 : 0 ≤ b2 ∧ b2 ≤ 255 := by simpa [Lit.wf, show IntKind.u8.min = 0 from rfl, show IntKind.u8.max = 255 from rfl] using x2
  obtain ⟨k, m, hm, hall⟩ := Plain.UnmarkChoose l0 a1 a2 b2 ⟨hm0, hq0⟩ r2.1 s2.1
  refine (XD.choose_law k a0 cap0 l0 a1 a2 b2 W (hC0 W (Open.Agree.refl W)) hc0 r2.1 r2.2 s2.1 s2.2 m hm hall).mono fun e W' ⟨he, bel⟩ => ?_
  subst he
  exact ⟨_, rfl, _, _, _, [], _, [], hW', trodAll_mk1 (shut_bool Tryz.underlying4 _), (trodAll_cons_mk (Below.trod laidOut (by kernel_rfl) (of_decide_eq_true (by kernel_rfl)) k0 bel lt0) (trodAll_cons_mk (shut_int Tryz.underlying3 w1) (trodAll_cons_mk (Below.trod laidOut (by kernel_rfl) (of_decide_eq_true (by kernel_rfl)) k2 bel lt2) trodAll_mk0))), rfl, bel.frame _, fun h => by cases h⟩
theorem over : Rows.unmarkChooseRow.holds Tryz.pinned (OpenSpec.ofChange Rows.unmarkChooseSpec) :=
  OpenClaim.holds_of_wide 9 Tryz.f9 rfl rfl rfl rfl rfl rfl rfl ⟨rfl, rfl, rfl, rfl, rfl⟩ rfl rfl rfl rfl rfl (by kernel_rfl) Tryz.func9 (by kernel_rfl)
    (of_decide_eq_true (by kernel_rfl)) (by unfold Func.isWrapper; first | (rw [if_pos (by decide +kernel)]; kernel_rfl) | (rw [if_neg (by decide +kernel)]; exact ⟨rfl, rfl⟩))
    (fun os started H enc _ => lifted os started H enc)
set_option maxRecDepth 100000 in
theorem proved : Rows.UnmarkChooseCardSaid :=
  Claim7.holds_tied_plain_at .later [] [.data, .data, .data] true (true, "de490700f05c68a0c0b4d4b413854a35d25a15764a0213633f8c358c273b21fb") false
    over (fun _ h => by cases h) (by kernel_rfl) (fun _ h => by cases h) unmarkChoose_row_tie rfl ⟨rfl, rfl⟩ (by kernel_rfl) rfl
    (fun f fn hf hfn => by
      obtain rfl : f = 9 := Option.some.inj ((show Tryz.prog.funcNamed "sennit/sennitlaw13.UnmarkChoose" = some 9 by kernel_rfl).symm.trans hf) |>.symm
      obtain rfl : fn = Tryz.f9 := (Option.some.inj (Tryz.func9.symm.trans hfn)).symm
      refine ⟨by kernel_rfl, fun j t ht => ?_⟩
      rw [Tryz.params9] at ht
      have hm : t ∈ [22, 3, 47] := by
        have := List.mem_of_getElem? (l := [22, 3, 47]) (i := j) (a := t) (by simpa using ht)
        exact this
      simp only [List.mem_cons, List.not_mem_nil, or_false] at hm
      rcases hm with rfl | rfl | rfl
      · exact (show Tryz.prog.wantsStandIn 22 = false by kernel_rfl)
      · exact (show Tryz.prog.wantsStandIn 3 = false by kernel_rfl)
      · exact (show Tryz.prog.wantsStandIn 47 = false by kernel_rfl))
    (by kernel_rfl)
#print axioms proved
end Go.Proofs.YtcnjbmdnnhbfkaaGreatDoor.unmarkChoose
