/- The reference's Bare and Clean, in plain Lean. -/
import Derived.Test.YtcnjbmdnnhbfkaaGreatDoorPl1
import Derived.Test.YtcnjbmdnnhbfkaaGreatDoorXD7
namespace Go.Proofs.YtcnjbmdnnhbfkaaGreatDoor.Plain
open Go.RowKit Go.Proofs.YtcnjbmdnnhbfkaaGreatDoor.XD Go.Proofs.YtcnjbmdnnhbfkaaGreatDoor.Mark Go.Proofs.YtcnjbmdnnhbfkaaGreatDoor.Ref Go.Proofs.YtcnjbmdnnhbfkaaGreatDoorW.PrintWords Go.Proofs.YtcnjbmdnnhbfkaaGreatDoorW.PrintMore
theorem bare_l (l : List Mark.Piece) (hl : l.length ≤ 20000) : ∀ (suf pre : List Mark.Piece), l = pre ++ suf → Ev (fun k => sennitref12_Bare.l0 k l (Law.bare pre) (pre.length : Int)) (Law.bare l)
 | [], pre, e => by
  subst e
  simp only [List.append_nil]
  exact Ev.step (fun k => by simp only [sennitref12_Bare.l0]; rw [if_neg (by simp)]) (Ev.now _)
 | p :: suf, pre, e => by
  have hlt : (pre.length : Int) < (l.length : Int) := by subst e; simp; omega
  have hrd : rd_T36 l (pre.length : Int) = p := by subst e; exact rdT_mid pre suf p
  have hb : (Law.bare pre).length = pre.length := by simp [Law.bare]
  have ih := bare_l l hl suf (pre ++ [p]) (by simp [e])
  refine Ev.step (fun k => by simp only [sennitref12_Bare.l0]; rw [if_pos hlt, if_pos (by omega), if_pos (by omega), hrd, wrap_nat _ (by unfold M; omega)]) ?_
  have e2 : Law.bare pre ++ [⟨p.f0, p.f1, [], p.f3⟩] = Law.bare (pre ++ [p]) := by simp [Law.bare, Law.bareP]
  rw [e2]
  simpa using ih
theorem bare_ev (l : List Mark.Piece) (hl : l.length ≤ 20000) : Ev (fun k => sennitref12_Bare.f k l) (Law.bare l) := bare_l l hl l [] rfl
theorem clean_l (l : List Mark.Piece) (hl : l.length ≤ 20000) : ∀ (suf pre : List Mark.Piece), l = pre ++ suf → ∃ b, Ev (fun k => sennitref07_Clean.l0 k l (pre.length : Int)) b ∧ (b = true ↔ ∀ p ∈ suf, p.f0 = false)
 | [], pre, e => by
  subst e
  simp only [List.append_nil]
  exact ⟨true, Ev.step (fun k => by simp only [sennitref07_Clean.l0]; rw [if_neg (by simp)]) (Ev.now _), by simp⟩
 | p :: suf, pre, e => by
  have hlt : (pre.length : Int) < (l.length : Int) := by subst e; simp; omega
  have hrd : rd_T36 l (pre.length : Int) = p := by subst e; exact rdT_mid pre suf p
  cases hf : p.f0 with
  | true =>
   refine ⟨false, ?_, ⟨fun h => (by cases h), fun h => ?_⟩⟩
   ·exact Ev.step (fun k => by simp only [sennitref07_Clean.l0]; rw [if_pos hlt, if_pos (by omega), hrd, if_pos hf]) (Ev.now _)
   ·have := h p (by simp)
    rw [hf] at this
    exact this.symm
  | false =>
   obtain ⟨b, hb, hq⟩ := clean_l l hl suf (pre ++ [p]) (by simp [e])
   refine ⟨b, ?_, hq.trans ⟨fun h q hm => ?_, fun h q hm => h q (by simp [hm])⟩⟩
   ·refine Ev.step (fun k => by simp only [sennitref07_Clean.l0]; rw [if_pos hlt, if_pos (by omega), hrd, if_neg (by rw [hf]; decide), wrap_nat _ (by unfold M; omega)]) ?_
    simpa using hb
   ·rcases List.mem_cons.1 hm with rfl | hm
    ·exact hf
    ·exact h q hm
theorem clean_ev (l : List Mark.Piece) (hl : l.length ≤ 20000) : ∃ b, Ev (fun k => sennitref07_Clean.f k l) b ∧ (b = true ↔ ∀ p ∈ l, p.f0 = false) := clean_l l hl l [] rfl
end Go.Proofs.YtcnjbmdnnhbfkaaGreatDoor.Plain
