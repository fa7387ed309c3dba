/- How pieces among the arguments are read. -/
import Derived.Test.YtcnjbmdnnhbfkaaGreatDoorOpen
import Derived.Test.YtcnjbmdnnhbfkaaGreatDoorXD0
namespace Go.Proofs.YtcnjbmdnnhbfkaaGreatDoor.XD
open Go.RowKit Go.Proofs.YtcnjbmdnnhbfkaaGreatDoorW.PrintWords
def InP (p : S36) : Prop := (p.f1.length ≤ 9223372036854775807 ∧ ∀ s ∈ p.f1, s.size ≤ 9223372036854775807) ∧ (p.f2.length ≤ 9223372036854775807 ∧ ∀ s ∈ p.f2, s.size ≤ 9223372036854775807) ∧ p.f3.length ≤ 9223372036854775807 ∧ ∀ t ∈ p.f3, t.length ≤ 9223372036854775807 ∧ ∀ s ∈ t, s.size ≤ 9223372036854775807
theorem four {α : Type} {l : List α} (h : l.length = 4) : ∃ a b c d, l = [a, b, c, d] := by
 match l, h with
 | [a, b, c, d], _ => exact ⟨a, b, c, d, rfl⟩
theorem opened36 : Open.Opened Tryz.prog k36 InP 36 := by
 intro H enc w base sp held fuel cs x h
 obtain ⟨xs, n, -, -, hlen, hlx, hf⟩ := DataW.trod_struct Tryz.underlying36 h
 have e36 : Tryz.prog.cellsOf 36 = 4 := by kernel_rfl
 have hc := hlen
 rw [e36] at hc
 obtain ⟨c0, c1, c2, c3, rfl⟩ := four hc
 obtain ⟨x0, x1, x2, x3, rfl⟩ := four hlx
 have e4 : Tryz.prog.cellsOf 4 = 1 := by kernel_rfl
 have e25 : Tryz.prog.cellsOf 25 = 1 := by kernel_rfl
 have e34 : Tryz.prog.cellsOf 34 = 1 := by kernel_rfl
 have h0 : DataW.trod enc Tryz.prog w base sp held n 4 ((([c0, c1, c2, c3] : List Value).drop 0).take (Tryz.prog.cellsOf 4)) = some x0 := hf 0 _ rfl
 have h1 : DataW.trod enc Tryz.prog w base sp held n 25 ((([c0, c1, c2, c3] : List Value).drop 1).take (Tryz.prog.cellsOf 25)) = some x1 := hf 1 _ rfl
 have h2 : DataW.trod enc Tryz.prog w base sp held n 25 ((([c0, c1, c2, c3] : List Value).drop 2).take (Tryz.prog.cellsOf 25)) = some x2 := hf 2 _ rfl
 have h3 : DataW.trod enc Tryz.prog w base sp held n 34 ((([c0, c1, c2, c3] : List Value).drop 3).take (Tryz.prog.cellsOf 34)) = some x3 := hf 3 _ rfl
 rw [e4] at h0
 rw [e25] at h1 h2
 rw [e34] at h3
 obtain ⟨y0, -, -, k0⟩ := Open.opened_bool Tryz.underlying4 H enc w base sp held n [c0] x0 h0
 obtain ⟨y1, q1, -, k1⟩ := Open.opened_slice Tryz.underlying25 (by kernel_rfl) (Open.opened_string Tryz.underlying9) H enc w base sp held n [c1] x1 h1
 obtain ⟨y2, q2, -, k2⟩ := Open.opened_slice Tryz.underlying25 (by kernel_rfl) (Open.opened_string Tryz.underlying9) H enc w base sp held n [c2] x2 h2
 obtain ⟨y3, q3, -, k3⟩ := Open.opened_slice Tryz.underlying34 (by kernel_rfl) (Open.opened_slice Tryz.underlying25 (by kernel_rfl) (Open.opened_string Tryz.underlying9)) H enc w base sp held n [c3] x3 h3
 exact ⟨⟨y0, y1, y2, y3⟩, ⟨q1, q2, q3⟩, rfl, fun w' hw => ⟨[c0], [c1, c2, c3], rfl, k0 w' hw, ⟨[c1], [c2, c3], rfl, k1 w' hw, ⟨[c2], [c3], rfl, k2 w' hw, k3 w' hw⟩⟩⟩⟩
#print axioms opened36
end Go.Proofs.YtcnjbmdnnhbfkaaGreatDoor.XD
