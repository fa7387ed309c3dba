/- The plain law of UnmarkTells. -/
import Derived.Test.YtcnjbmdnnhbfkaaDoorPureBase
import Derived.Test.YtcnjbmdnnhbfkaaDoorXD2
namespace Go.Proofs.YtcnjbmdnnhbfkaaDoor.Plain
open Go.RowKit Go.Proofs.YtcnjbmdnnhbfkaaDoor.XD Go.Proofs.YtcnjbmdnnhbfkaaDoor.Size Go.Proofs.YtcnjbmdnnhbfkaaDoor.Unmark Go.Proofs.YtcnjbmdnnhbfkaaDoorW.PrintWords Go.Proofs.YtcnjbmdnnhbfkaaDoorW.PrintMore
theorem eqBy_self {α : Type} (q : α → α → Bool) (hq : ∀ x, q x x = true) : ∀ xs : List α, Mark.eqBy q xs xs = true := by
  intro xs
  unfold Mark.eqBy
  rw [decide_eq_true rfl, Bool.true_and, List.all_eq_true]
  intro p hp
  obtain ⟨i, hi, e⟩ := List.mem_iff_getElem.1 hp
  rw [List.getElem_zip] at e
  rw [← e]
  exact hq _
theorem same_self (l : List Piece) : Ref.sennitref07_Same.f l l = some true := by
  have hL : ∀ x : List ByteArray, Mark.eqL x x = true := fun x => eqBy_self _ (fun s => by simp) x
  unfold Ref.sennitref07_Same.f
  rw [eqBy_self Mark.sameB (fun x => by unfold Mark.sameB; rw [hL, hL, eqBy_self _ hL]; simp)]
theorem UnmarkTells (l : List ByteArray) (n : Int) (hl : Fine l) (_ : (Lit.int .i64 n).wf = true) : ∃ k, sennitlaw13_UnmarkTells.f k l n = some true := by
  refine Ev.rounds (g := fun k => sennitlaw13_UnmarkTells.f k l n) ?_
  refine Ev.bind awake_ev ?_
  obtain ⟨b, hb, hq⟩ := few1_ev l 40 hl.1
  refine Ev.bind hb ?_
  have yes : Ev (fun k => sennitlaw13_UnmarkTells.j0 k l n true true) true := Ev.step (fun k => by simp only [sennitlaw13_UnmarkTells.j0]; rw [if_pos trivial]) (Ev.now _)
  cases b with
  | false => exact Ev.neg (by decide) yes
  | true =>
    obtain ⟨hl1, hl2⟩ := hq rfl
    have no : Ev (fun k => sennitlaw13_UnmarkTells.j0 k l n true false) true := by
      refine Ev.step (fun k => by simp only [sennitlaw13_UnmarkTells.j0]; rw [if_neg (by decide)]) ?_
      refine Ev.bind (parse_ev l n (by omega) (fun s h => by have := hl2 s h; omega)) ?_
      refine Ev.bind (a := parseP l n) ⟨0, fun _ _ => by unfold Ref13.sennitref13_Parse.f; rw [if_pos ⟨by omega, fun s h => by have := hl2 s h; omega⟩]⟩ ?_
      refine Ev.pos trivial (Ev.pos (by first | trivial | rfl) (Ev.pos (by first | trivial | rfl) (Ev.pos (by first | trivial | rfl) ?_)))
      exact Ev.bind ⟨0, fun _ _ => same_self _⟩ (Ev.now _)
    refine Ev.pos rfl ?_
    by_cases h : n > 40
    · refine Ev.pos h ?_
      by_cases h2 : n ≤ 4096
      · rw [decide_eq_true h2]; exact yes
      · rw [decide_eq_false h2]; exact no
    · exact Ev.neg h no
#print axioms UnmarkTells
end Go.Proofs.YtcnjbmdnnhbfkaaDoor.Plain
