/- The plain law of MarkZeal. -/
import Derived.Test.YtcnjbmdnnhbfkaaGreatDoorPl1
import Derived.Test.YtcnjbmdnnhbfkaaGreatDoorXD6
namespace Go.Proofs.YtcnjbmdnnhbfkaaGreatDoor.Plain
open Go.RowKit Go.Proofs.YtcnjbmdnnhbfkaaGreatDoor.XD Go.Proofs.YtcnjbmdnnhbfkaaGreatDoor.Mark Go.Proofs.YtcnjbmdnnhbfkaaGreatDoor.Ref Go.Proofs.YtcnjbmdnnhbfkaaGreatDoorW.PrintWords Go.Proofs.YtcnjbmdnnhbfkaaGreatDoorW.PrintMore

theorem MarkZeal (l : List Mark.Piece) (lg : Int) (h : l.length ≤ M ∧ ∀ p ∈ l, InP p) (_ : (Lit.int .i64 lg).wf = true) : ∃ k, sennitlaw12_MarkZeal.f k l lg = some true := by
  refine Ev.rounds (g := fun k => sennitlaw12_MarkZeal.f k l lg) ?_
  refine Ev.bind awake_ev ?_
  obtain ⟨b, hb, hq⟩ := may12_ev l 3 lg h.1 (len_in h.2)
  refine Ev.bind hb ?_
  cases b with
  | false => exact Ev.neg (by decide) (Ev.now _)
  | true =>
    refine Ev.pos rfl ?_
    obtain ⟨⟨f1, f2⟩, -, hw⟩ := hq rfl
    obtain ⟨o1, o2⟩ := few_okay f1 f2
    rw [show smallOf l 3 = zeal l from if_pos rfl] at hw
    obtain ⟨e1, e2⟩ := Law.zeal_print hw
    refine Ev.bind (print_ev l 3 lg o1) (Ev.bind (zeal_ev l o1) (Ev.bind (print_ev _ 2 lg o2) ?_))
    rw [e1, e2]
    refine Ev.pos rfl (Ev.pos rfl (Ev.bind (samet_ev _ _) ?_))
    rw [decide_eq_true rfl]
    exact Ev.now _
#print axioms MarkZeal
end Go.Proofs.YtcnjbmdnnhbfkaaGreatDoor.Plain
