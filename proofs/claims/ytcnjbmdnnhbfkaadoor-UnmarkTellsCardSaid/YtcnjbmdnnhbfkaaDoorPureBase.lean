/- The plain laws of the layer unmark: what all of them use. -/
import Derived.Test.YtcnjbmdnnhbfkaaDoorXD1
import Derived.Test.YtcnjbmdnnhbfkaaDoorReader
namespace Go.Proofs.YtcnjbmdnnhbfkaaDoor.Plain
open Go.RowKit Go.Proofs.YtcnjbmdnnhbfkaaDoor.XD Go.Proofs.YtcnjbmdnnhbfkaaDoor.Size Go.Proofs.YtcnjbmdnnhbfkaaDoor.Unmark Go.Proofs.YtcnjbmdnnhbfkaaDoorW.PrintWords Go.Proofs.YtcnjbmdnnhbfkaaDoorW.PrintMore
abbrev M : Nat := 9223372036854775807
theorem wrap_nat (i : Nat) (h : i + 1 ≤ M) : wrap64 ((i : Int) + 1) = ((i + 1 : Nat) : Int) := by
  unfold M at h
  unfold wrap64
  omega
theorem rdOf_mid (pre suf : List ByteArray) (s : ByteArray) : rdOf ByteArray.empty (pre ++ s :: suf) (pre.length : Int) = s := by simp [rdOf]
def Fine (l : List ByteArray) : Prop := l.length ≤ M ∧ ∀ s ∈ l, s.size ≤ M
theorem Ev.pos {α : Type} {c : Prop} [Decidable c] {f g : Nat → Option α} {r : α} (hc : c) (h : Ev f r) : Ev (fun k => if c then f k else g k) r := Ev.congr (fun _ => if_pos hc) h
theorem Ev.neg {α : Type} {c : Prop} [Decidable c] {f g : Nat → Option α} {r : α} (hc : ¬ c) (h : Ev g r) : Ev (fun k => if c then f k else g k) r := Ev.congr (fun _ => if_neg hc) h
theorem few1_l0 (a : Int) (l : List ByteArray) (hl : l.length ≤ M) : ∀ (suf pre : List ByteArray), l = pre ++ suf → (∀ s ∈ pre, s.size ≤ 100) →
    ∃ b, Ev (fun k => sennitref01_Few.l0 k l a (pre.length : Int)) b ∧ (b = true → (l.length : Int) ≤ a ∧ ∀ s ∈ l, s.size ≤ 100)
  | [], pre, e, hp => by
    subst e
    simp only [List.append_nil] at hl ⊢
    refine ⟨_, Ev.step (fun k => by simp only [sennitref01_Few.l0]; rw [if_neg (by simp)]) (Ev.step (fun k => by simp only [sennitref01_Few.j1]; rw [if_neg (by decide)]) (Ev.now _)), fun h => ⟨by simpa using h, hp⟩⟩
  | s :: suf, pre, e, hp => by
    have hlt : (pre.length : Int) < (l.length : Int) := by subst e; simp; omega
    have hrd : rdOf ByteArray.empty l (pre.length : Int) = s := by subst e; exact rdOf_mid pre suf s
    by_cases h1 : (pre.length : Int) ≤ a
    · by_cases h2 : (s.size : Int) > 100
      · refine ⟨false, Ev.step (fun k => by simp only [sennitref01_Few.l0]; rw [if_pos hlt]) (Ev.step (fun k => by simp only [sennitref01_Few.j1]; rw [if_pos (by simpa using h1), if_pos (by omega), if_pos hlt, hrd, if_pos h2]) (Ev.now _)), fun h => by cases h⟩
      · obtain ⟨b, hb, hq⟩ := few1_l0 a l hl suf (pre ++ [s]) (by simp [e]) (fun x hx => by
          simp at hx
          rcases hx with hx | rfl
          · exact hp x hx
          · omega)
        refine ⟨b, Ev.step (fun k => by simp only [sennitref01_Few.l0]; rw [if_pos hlt]) (Ev.step (fun k => by simp only [sennitref01_Few.j1]; rw [if_pos (by simpa using h1), if_pos (by omega), if_pos hlt, hrd, if_neg h2]) ?_), hq⟩
        rw [wrap_nat _ (by omega)]
        simpa using hb
    · refine ⟨false, Ev.step (fun k => by simp only [sennitref01_Few.l0]; rw [if_pos hlt]) (Ev.step (fun k => by simp only [sennitref01_Few.j1]; rw [if_neg (by simpa using h1)]) ?_), fun h => by cases h⟩
      have : decide ((l.length : Int) ≤ a) = false := by simp; omega
      rw [this]
      exact Ev.now _
theorem few1_ev (l : List ByteArray) (a : Int) (hl : l.length ≤ M) : ∃ b, Ev (fun k => sennitref01_Few.f k l a) b ∧ (b = true → (l.length : Int) ≤ a ∧ ∀ s ∈ l, s.size ≤ 100) := few1_l0 a l hl l [] rfl (by simp)
theorem awake_true : sennitlaw13_awake.f = some true := by decide +kernel
theorem awake_ev : Ev (fun _ => sennitlaw13_awake.f) true := ⟨0, fun _ _ => awake_true⟩
theorem parse_ev (l : List ByteArray) (k : Int) (h1 : l.length ≤ 100000) (h2 : ∀ s ∈ l, s.size ≤ 1000000) : Ev (fun _ => unmark_Parse.f l k) (parseP l k) := ⟨0, fun _ _ => by unfold unmark_Parse.f; rw [if_pos ⟨h1, h2⟩]⟩
end Go.Proofs.YtcnjbmdnnhbfkaaDoor.Plain
