/- The reader in plain Lean: lines read one behind the other. -/
import Derived.Test.YtcnjbmdnnhbfkaaGreatDoorUnmark5
namespace Go.Proofs.YtcnjbmdnnhbfkaaGreatDoor.Unmark
open Go.RowKit Go.Proofs.YtcnjbmdnnhbfkaaGreatDoorW.PrintWords Go.Proofs.YtcnjbmdnnhbfkaaGreatDoorW.PrintLast Go.Proofs.YtcnjbmdnnhbfkaaGreatDoor.XD Go.Proofs.YtcnjbmdnnhbfkaaGreatDoor.Size
theorem goP_append (N : Nat) : ∀ (a b : List ByteArray) (i : Nat) (σ : Rd), goP N (a ++ b) i σ = match goP N a i σ with | .ok τ => goP N b (i + a.length) τ | .error j => .error j
 | [], b, i, σ => by simp [goP]
 | s :: a, b, i, σ => by
  simp only [List.cons_append, goP]
  cases feed1 N i σ s with
  | none => rfl
  | some τ =>
   simp only [goP_append N a b (i + 1) τ, List.length_cons]
   rw [show i + 1 + a.length = i + (a.length + 1) by omega]
theorem parse_ok {l : List ByteArray} {k : Int} {σ : Rd} (hk : ¬ (k < 1 ∨ k > 4096)) (h : goP l.length l 0 (start k.toNat) = .ok σ) (hc : σ.conf = false) : parseP l k = ((flush σ).out, max σ.style 1, 0, 0) := by
 rw [parseP, if_neg hk, h]
 simp [hc]
end Go.Proofs.YtcnjbmdnnhbfkaaGreatDoor.Unmark
