/- The reader in plain Lean: lines read one behind the other. -/
import Derived.Test.YtcnjbmdnnhbfkaaDoorUnmark5
namespace Go.Proofs.YtcnjbmdnnhbfkaaDoor.Unmark
open Go.RowKit Go.Proofs.YtcnjbmdnnhbfkaaDoorW.PrintWords Go.Proofs.YtcnjbmdnnhbfkaaDoorW.PrintLast Go.Proofs.YtcnjbmdnnhbfkaaDoor.XD Go.Proofs.YtcnjbmdnnhbfkaaDoor.Size

theorem goP_append (N : Nat) : ∀ (a b : List ByteArray) (i : Nat) (σ : Rd), goP N (a ++ b) i σ = match goP N a i σ with | .ok τ => goP N b (i + a.length) τ | .error j => .error j
  | [], b, i, σ => by simp [goP]
  | s :: a, b, i, σ => by
    simp only [List.cons_append, goP]
    cases feed1 N i σ s with
    | none => rfl
    | some τ =>
      simp only [goP_append N a b (i + 1) τ, List.length_cons]
      rw [show i + 1 + a.length = i + (a.length + 1) by omega]
theorem goP_congr (N N' : Nat) : ∀ (l : List ByteArray) (i : Nat) (σ τ : Rd), (∀ j σ s, i ≤ j → j < i + l.length → lineOk N j σ s = true → lineOk N' j σ s = true) → goP N l i σ = .ok τ → goP N' l i σ = .ok τ
  | [], _, _, _, _, h => h
  | s :: l, i, σ, τ, hc, h => by
    simp only [goP] at h ⊢
    cases hf : feed1 N i σ s with
    | none => rw [hf] at h; cases h
    | some ρ =>
      rw [hf] at h
      have : feed1 N' i σ s = some ρ := by
        unfold feed1 at hf ⊢
        split at hf
        · rename_i hl
          rw [if_pos (hc i σ s (Nat.le_refl _) (by simp) hl)]
          exact hf
        · cases hf
      rw [this]
      exact goP_congr N N' l (i + 1) ρ τ (fun j σ s h1 h2 => hc j σ s (by omega) (by simp; omega)) h
theorem goP_error (N : Nat) : ∀ (l : List ByteArray) (i : Nat) (σ : Rd) (j : Nat), goP N l i σ = .error j → ∃ a s b τ, l = a ++ s :: b ∧ j = i + a.length ∧ goP N a i σ = .ok τ ∧ feed1 N j τ s = none
  | [], _, _, _, h => by cases h
  | s :: l, i, σ, j, h => by
    simp only [goP] at h
    cases hf : feed1 N i σ s with
    | none =>
      rw [hf] at h
      have hj : i = j := Except.error.inj h
      subst hj
      exact ⟨[], s, l, σ, rfl, rfl, rfl, hf⟩
    | some ρ =>
      rw [hf] at h
      obtain ⟨a, t, b, τ, rfl, e, h1, h2⟩ := goP_error N l (i + 1) ρ j h
      refine ⟨s :: a, t, b, τ, rfl, by simp; omega, ?_, h2⟩
      simp only [goP, hf]
      exact h1
/-- Not the last line: how many there are makes no difference. -/
theorem lineOk_inner (N N' i : Nat) (σ : Rd) (s : ByteArray) (h : i + 1 < N) (h' : i + 1 < N') : lineOk N i σ s = lineOk N' i σ s := by
  unfold lineOk
  rw [decide_eq_false (show ¬ ((i : Int) = (N : Int) - 1) by omega), decide_eq_false (show ¬ ((i : Int) = (N' : Int) - 1) by omega)]
theorem feed1_inner (N N' i : Nat) (σ : Rd) (s : ByteArray) (h : i + 1 < N) (h' : i + 1 < N') : feed1 N i σ s = feed1 N' i σ s := by
  unfold feed1
  rw [lineOk_inner N N' i σ s h h']
/-- A line that may stand anywhere may stand last. -/
theorem lineOk_any (N N' i : Nat) (σ : Rd) (s : ByteArray) (h : i + 1 < N) (hl : lineOk N i σ s = true) : lineOk N' i σ s = true := by
  unfold lineOk at *
  rw [decide_eq_false (show ¬ ((i : Int) = (N : Int) - 1) by omega)] at hl
  simp only [Bool.false_and, Bool.or_false, Bool.and_eq_true] at hl
  simp [hl.1, hl.2]

theorem parse_error {l : List ByteArray} {k : Int} {i : Nat} (hk : ¬ (k < 1 ∨ k > 4096)) (h : goP l.length l 0 (start k.toNat) = .error i) : parseP l k = ([], 0, (i : Int) + 1, 2) := by
  rw [parseP, if_neg hk, h]
theorem parse_open {l : List ByteArray} {k : Int} {σ : Rd} (hk : ¬ (k < 1 ∨ k > 4096)) (h : goP l.length l 0 (start k.toNat) = .ok σ) (hc : σ.conf = true) : parseP l k = ([], 0, (l.length : Int) + 1, 2) := by
  rw [parseP, if_neg hk, h]
  simp [hc]
theorem parse_ok {l : List ByteArray} {k : Int} {σ : Rd} (hk : ¬ (k < 1 ∨ k > 4096)) (h : goP l.length l 0 (start k.toNat) = .ok σ) (hc : σ.conf = false) : parseP l k = ((flush σ).out, max σ.style 1, 0, 0) := by
  rw [parseP, if_neg hk, h]
  simp [hc]

/-- What is wrong in the midst stays so, whatever stands behind; what is ahead of it is read, or ends in a conflict. -/
theorem parse_wrong (l more : List ByteArray) (k : Int) (h1 : 1 ≤ k) (h2 : k ≤ 4096) (he : (parseP l k).2.2.2 ≠ 0) (hn : (parseP l k).2.2.1 < (l.length : Int)) :
    (parseP (l ++ more) k).2.2.2 = 2 ∧ (parseP (l ++ more) k).2.2.1 = (parseP l k).2.2.1 ∧ 1 ≤ (parseP l k).2.2.1 ∧
      ((parseP (l.take ((parseP l k).2.2.1 - 1).toNat) k).2.2.2 = 0 ∨ (parseP (l.take ((parseP l k).2.2.1 - 1).toNat) k).2.2.1 = (parseP l k).2.2.1) := by
  have hk : ¬ (k < 1 ∨ k > 4096) := by omega
  cases hg : goP l.length l 0 (start k.toNat) with
  | ok σ =>
    exfalso
    cases hc : σ.conf
    · rw [parse_ok hk hg hc] at he; exact he rfl
    · rw [parse_open hk hg hc] at hn
      replace hn : (l.length : Int) + 1 < l.length := hn
      omega
  | error i =>
    rw [parse_error hk hg] at hn ⊢
    replace hn : (i : Int) + 1 < l.length := hn
    obtain ⟨a, s, b, τ, rfl, hi, ha, hf⟩ := goP_error _ _ _ _ _ hg
    obtain rfl : i = a.length := by omega
    have hl : a.length + 1 < (a ++ s :: b).length := by omega
    have hl2 : a.length + 1 < (a ++ s :: (b ++ more)).length := by simp at hl ⊢; omega
    have f1 : parseP ((a ++ s :: b) ++ more) k = ([], 0, (a.length : Int) + 1, 2) := by
      refine parse_error hk ?_
      rw [show (a ++ s :: b) ++ more = a ++ (s :: (b ++ more)) by simp, goP_append, goP_congr _ (a ++ s :: (b ++ more)).length a 0 _ τ (fun j σ t _ h2 h => lineOk_any _ _ j σ t (by omega) h) ha]
      simp only [goP, Nat.zero_add]
      rw [feed1_inner _ (a ++ s :: b).length a.length τ s hl2 hl, hf]
    have f2 : goP a.length a 0 (start k.toNat) = .ok τ := goP_congr _ a.length a 0 _ τ (fun j σ t _ h2 h => lineOk_any _ _ j σ t (by omega) h) ha
    refine ⟨by rw [f1], by rw [f1], by show (1 : Int) ≤ (a.length : Int) + 1; omega, ?_⟩
    simp only [Int.add_sub_cancel, Int.toNat_natCast]
    rw [List.take_left]
    cases hc : τ.conf
    · left; rw [parse_ok hk f2 hc]
    · right; rw [parse_open hk f2 hc]
end Go.Proofs.YtcnjbmdnnhbfkaaDoor.Unmark
