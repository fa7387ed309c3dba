/- The plain law of UnmarkWrong. -/
import Derived.Test.YtcnjbmdnnhbfkaaDoorPureBase
import Derived.Test.YtcnjbmdnnhbfkaaDoorXD11
namespace Go.Proofs.YtcnjbmdnnhbfkaaDoor.Plain
open Go.RowKit Go.Proofs.YtcnjbmdnnhbfkaaDoor.XD Go.Proofs.YtcnjbmdnnhbfkaaDoor.Size Go.Proofs.YtcnjbmdnnhbfkaaDoor.Unmark Go.Proofs.YtcnjbmdnnhbfkaaDoorW.PrintWords Go.Proofs.YtcnjbmdnnhbfkaaDoorW.PrintMore

theorem UnmarkWrong (l more : List ByteArray) (n : Int) (hl : Fine l) (hm : Fine more) (hn : (Lit.int .u8 n).wf = true) : ∃ k, sennitlaw13_UnmarkWrong.f k l more n = some true := by
  refine Ev.rounds (g := fun k => sennitlaw13_UnmarkWrong.f k l more n) ?_
  have hn2 : 0 ≤ n ∧ n ≤ 255 := by simpa [Lit.wf, show IntKind.u8.min = 0 from rfl, show IntKind.u8.max = 255 from rfl] using hn
  refine Ev.bind awake_ev ?_
  obtain ⟨b, hb, hq⟩ := few1_ev l 40 hl.1
  refine Ev.bind hb ?_
  have yes : ∀ x0 x1 x2, Ev (fun k => sennitlaw13_UnmarkWrong.j0 k x0 x1 x2 true true) true := fun _ _ _ => Ev.step (fun k => by simp only [sennitlaw13_UnmarkWrong.j0]; rw [if_pos trivial]) (Ev.now _)
  have yes1 : ∀ x0 x1 x2 x3, Ev (fun k => sennitlaw13_UnmarkWrong.j1 k x0 x1 true x2 x3 true) true := fun _ _ _ _ => Ev.step (fun k => by simp only [sennitlaw13_UnmarkWrong.j1]; rw [if_pos trivial]) (Ev.now _)
  cases b with
  | false => exact Ev.neg (by decide) (yes _ _ _)
  | true =>
    refine Ev.pos rfl ?_
    obtain ⟨b2, hb2, hq2⟩ := few1_ev more 10 hm.1
    refine Ev.bind hb2 ?_
    cases b2 with
    | false => exact yes _ _ _
    | true =>
      obtain ⟨hl1, hl2⟩ := hq rfl
      obtain ⟨hm1, hm2⟩ := hq2 rfl
      obtain ⟨ek, hk1, hk2⟩ := byte_long n hn2
      refine Ev.step (fun k => by simp only [sennitlaw13_UnmarkWrong.j0]; rw [if_neg (by decide)]) ?_
      rw [ek]
      generalize 1 + n % 40 = K at *
      refine Ev.bind (parse_ev l K (by omega) (fun s h => by have := hl2 s h; omega)) ?_
      by_cases h0 : (parseP l K).2.2.2 = 0
      · exact Ev.pos h0 (yes1 _ _ _ _)
      · refine Ev.neg h0 ?_
        by_cases h3 : (parseP l K).2.2.1 ≥ (l.length : Int)
        · rw [decide_eq_true h3]
          exact yes1 _ _ _ _
        · rw [decide_eq_false h3]
          obtain ⟨p1, p2, p3, p4⟩ := parse_wrong l more K hk1 (by omega) h0 (by omega)
          have eN : wrap64 ((parseP l K).2.2.1 - 1) = (parseP l K).2.2.1 - 1 := by unfold wrap64; omega
          refine Ev.step (fun k => by simp only [sennitlaw13_UnmarkWrong.j1]; rw [if_neg (by decide)]) ?_
          rw [eN]
          refine Ev.bind (Ev.now _) ?_
          refine Ev.pos (by simp; omega) ?_
          refine Ev.bind (Ev.now _) ?_
          refine Ev.pos (by simp; omega) ?_
          simp only [List.nil_append]
          refine Ev.bind (parse_ev (l ++ more) K (by simp; omega) (fun s h => by
            rcases List.mem_append.1 h with h | h
            · have := hl2 s h; omega
            · have := hm2 s h; omega)) ?_
          refine Ev.pos (by omega) (Ev.pos (by omega) ?_)
          refine Ev.bind (parse_ev (l.take ((parseP l K).2.2.1 - 1).toNat) K (by simp; omega) (fun s h => by have := hl2 s (List.mem_of_mem_take h); omega)) ?_
          refine Ev.pos trivial (Ev.pos p1 (Ev.pos p2 ?_))
          by_cases h4 : (parseP (l.take ((parseP l K).2.2.1 - 1).toNat) K).2.2.2 = 0
          · exact Ev.pos h4 (Ev.now _)
          · refine Ev.neg h4 ?_
            rw [beq_iff_eq.2 (p4.resolve_left h4)]
            exact Ev.now _
end Go.Proofs.YtcnjbmdnnhbfkaaDoor.Plain
