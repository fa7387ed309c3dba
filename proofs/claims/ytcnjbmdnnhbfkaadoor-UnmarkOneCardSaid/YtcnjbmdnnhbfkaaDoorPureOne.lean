/- The plain law of UnmarkOne. -/
import Derived.Test.YtcnjbmdnnhbfkaaDoorPureBase
import Derived.Test.YtcnjbmdnnhbfkaaDoorXD2
import Derived.Test.YtcnjbmdnnhbfkaaDoorBack
namespace Go.Proofs.YtcnjbmdnnhbfkaaDoor.Plain
open Go.RowKit Go.Proofs.YtcnjbmdnnhbfkaaDoor.XD Go.Proofs.YtcnjbmdnnhbfkaaDoor.Size Go.Proofs.YtcnjbmdnnhbfkaaDoor.Unmark Go.Proofs.YtcnjbmdnnhbfkaaDoorW.PrintWords Go.Proofs.YtcnjbmdnnhbfkaaDoorW.PrintMore

theorem same1_l0 (l : List ByteArray) (hl : l.length ≤ M) : ∀ (suf pre : List ByteArray), l = pre ++ suf → Ev (fun k => sennitref01_Same.l0 k l l (pre.length : Int)) true
  | [], pre, e => Ev.step (fun k => by simp only [sennitref01_Same.l0]; rw [if_neg (by subst e; simp)]) (Ev.now _)
  | s :: suf, pre, e => by
    have hlt : (pre.length : Int) < (l.length : Int) := by subst e; simp; omega
    refine Ev.step (fun k => by simp only [sennitref01_Same.l0]; rw [if_pos hlt, if_pos (by omega), if_pos hlt, if_pos trivial]) ?_
    rw [wrap_nat _ (by omega)]
    simpa using same1_l0 l hl suf (pre ++ [s]) (by simp [e])
theorem same1_ev (l : List ByteArray) (hl : l.length ≤ M) : Ev (fun k => sennitref01_Same.f k l l) true := Ev.pos rfl (same1_l0 l hl l [] rfl)

/-- Where a wrong line is. -/
theorem parse_bad (l : List ByteArray) (k : Int) (h1 : 1 ≤ k) (h2 : k ≤ 4096) (he : (parseP l k).2.2.2 ≠ 0) : (parseP l k).1 = [] ∧ (parseP l k).2.1 = 0 ∧ (parseP l k).2.2.2 = 2 ∧ 1 ≤ (parseP l k).2.2.1 ∧ (parseP l k).2.2.1 ≤ (l.length : Int) + 1 := by
  have hk : ¬ (k < 1 ∨ k > 4096) := by omega
  cases hg : goP l.length l 0 (Unmark.start k.toNat) with
  | error i =>
    rw [parse_error hk hg]
    obtain ⟨a, s, b, τ, rfl, hi, -, -⟩ := goP_error _ _ _ _ _ hg
    refine ⟨rfl, rfl, rfl, ?_, ?_⟩
    · show (1 : Int) ≤ (i : Int) + 1
      omega
    · show (i : Int) + 1 ≤ ((a ++ s :: b).length : Int) + 1
      simp
      omega
  | ok σ =>
    cases hc : σ.conf with
    | false => rw [parse_ok hk hg hc] at he; exact absurd rfl he
    | true =>
      rw [parse_open hk hg hc]
      refine ⟨rfl, rfl, rfl, ?_, ?_⟩
      · show (1 : Int) ≤ (l.length : Int) + 1
        omega
      · exact Int.le_refl _

theorem UnmarkOne (l : List ByteArray) (n : Int) (hl : Fine l) (hn : (Lit.int .u8 n).wf = true) : ∃ k, sennitlaw13_UnmarkOne.f k l n = some true := by
  refine Ev.rounds (g := fun k => sennitlaw13_UnmarkOne.f k l n) ?_
  have hn2 : 0 ≤ n ∧ n ≤ 255 := by simpa [Lit.wf, show IntKind.u8.min = 0 from rfl, show IntKind.u8.max = 255 from rfl] using hn
  refine Ev.bind awake_ev ?_
  obtain ⟨b, hb, hq⟩ := few1_ev l 40 hl.1
  refine Ev.bind hb ?_
  cases b with
  | false => exact Ev.neg (by decide) (Ev.now _)
  | true =>
    refine Ev.pos rfl ?_
    obtain ⟨hl1, hl2⟩ := hq rfl
    obtain ⟨ek, hk1, hk2⟩ := byte_long n hn2
    rw [ek]
    obtain ⟨K, hK⟩ : ∃ K : Nat, 1 + n % 40 = (K : Int) := ⟨(1 + n % 40).toNat, by omega⟩
    rw [hK] at hk1 hk2 ⊢
    refine Ev.bind (parse_ev l K (by omega) (fun s h => by have := hl2 s h; omega)) ?_
    by_cases h0 : (parseP l (K : Int)).2.2.2 = 0
    · obtain ⟨e1, e2, e3, e4, e5⟩ := Back.parse_back l K (by omega) (by omega) hl2 h0
      refine Ev.pos h0 ?_
      refine Ev.bind (a := (l, (0 : Int))) ⟨0, fun _ _ => ?_⟩ (Ev.pos rfl (Ev.pos e2 (Ev.pos rfl ?_)))
      · unfold Mark.mark_Print.f
        rw [if_pos ⟨⟨by omega, by omega⟩, e5⟩, e1]
      · exact Ev.bind (same1_ev l (by unfold M; omega)) (Ev.now _)
    · obtain ⟨e1, e2, e3, e4, e5⟩ := parse_bad l K hk1 (by omega) h0
      have hw : wrap64 ((l.length : Int) + 1) = (l.length : Int) + 1 := by unfold wrap64; omega
      refine Ev.neg h0 (Ev.pos rfl (Ev.pos e3 (Ev.pos e4 (Ev.pos (by rw [hw]; exact e5) (Ev.pos (by rw [e1]; rfl) ?_)))))
      rw [e2]
      exact Ev.now _
#print axioms UnmarkOne
end Go.Proofs.YtcnjbmdnnhbfkaaDoor.Plain
