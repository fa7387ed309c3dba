/- The plain laws of the layer size: what the printed functions come to, without Go and memory. -/
import Derived.Test.YthdehnegfgkljaaXSize1
import Derived.Test.YthdehnegfgkljaaXSize2
import Derived.Test.YthdehnegfgkljaaXSize3
import Derived.Test.YthdehnegfgkljaaXSize4
namespace Go.Proofs.Ythdehnegfgkljaa.Plain
open Go.RowKit Go.Proofs.Ythdehnegfgkljaa.XSize Go.Proofs.Ythdehnegfgkljaa.Size Go.Proofs.YthdehnegfgkljaaW.PrintWords Go.Proofs.YthdehnegfgkljaaW.PrintMore

/-- Lengths that Go's int holds. -/
abbrev M : Nat := 9223372036854775807
theorem wrap_nat (i : Nat) (h : i + 1 ≤ M) : wrap64 ((i : Int) + 1) = ((i + 1 : Nat) : Int) := by
  unfold M at h
  unfold wrap64
  omega
theorem mx_nat (a b : Nat) : mx (a : Int) (b : Int) = ((max a b : Nat) : Int) := by
  unfold mx
  split <;> omega
theorem rdOf_mid (pre suf : List ByteArray) (s : ByteArray) : rdOf ByteArray.empty (pre ++ s :: suf) (pre.length : Int) = s := by simp [rdOf]
theorem rd_mid (pre suf : List (List ByteArray)) (s : List ByteArray) : rd_L2 (pre ++ s :: suf) (pre.length : Int) = s := by simp [rd_L2]

/-- All texts are of a size that Go's int holds. -/
def Fine (l : List ByteArray) : Prop := l.length ≤ M ∧ ∀ s ∈ l, s.size ≤ M
def Fines (l : List (List ByteArray)) : Prop := l.length ≤ M ∧ ∀ x ∈ l, Fine x
def lgs : List ByteArray → Nat
  | [] => 0
  | s :: t => max (Size.runN s) (lgs t)
def lg (l : List (List ByteArray)) : Nat := lgs l.flatten
theorem lgs_append (a b : List ByteArray) : lgs (a ++ b) = max (lgs a) (lgs b) := by
  induction a with
  | nil => simp [lgs]
  | cons s a ih => simp only [List.cons_append, lgs, ih]; omega
theorem lg_append (a b : List (List ByteArray)) : lg (a ++ b) = max (lg a) (lg b) := by simp [lg, lgs_append]
theorem lg_cons (x : List ByteArray) (l : List (List ByteArray)) : lg (x :: l) = max (lgs x) (lg l) := by simp [lg, lgs_append]

theorem run_ev (s : ByteArray) (h : s.size ≤ M) : Ev (fun _ => size_Run.f s) (Size.runN s : Int) := ⟨0, fun _ _ => by unfold size_Run.f; rw [if_pos h]⟩

theorem longest_l1 (files : List (List ByteArray)) (n i : Int) (r : Int) : ∀ (suf pre : List ByteArray) (m : Nat), Fine (pre ++ suf) →
    Ev (fun k => size_longest.l0 k ((max m (lgs suf) : Nat) : Int) files n (wrap64 (i + 1))) r →
    Ev (fun k => size_longest.l1 k (m : Int) files n i (pre ++ suf) ((pre ++ suf).length : Int) (pre.length : Int)) r
  | [], pre, m, hf, h => by
    refine Ev.step (fun k => by simp only [size_longest.l1]; rw [if_neg (by simp)]) ?_
    simpa [lgs] using h
  | s :: suf, pre, m, hf, h => by
    have hl := hf.1
    refine Ev.step (fun k => by simp only [size_longest.l1]; rw [if_pos (by simp; omega), if_pos (by simp), if_pos (by simp; omega), rdOf_mid]) ?_
    refine Ev.bind (run_ev s (hf.2 s (by simp))) ?_
    rw [wrap_nat _ (by simp at hl; omega)]
    simp only [mx_nat]
    have := longest_l1 files n i r suf (pre ++ [s]) (max m (Size.runN s)) (by simpa using hf) (by rw [lgs] at h; rwa [Nat.max_assoc])
    simpa using this

theorem longest_l0 : ∀ (suf pre : List (List ByteArray)) (m : Nat), Fines (pre ++ suf) →
    Ev (fun k => size_longest.l0 k (m : Int) (pre ++ suf) ((pre ++ suf).length : Int) (pre.length : Int)) ((max m (lg suf) : Nat) : Int)
  | [], pre, m, hf => by
    refine Ev.step (fun k => by simp only [size_longest.l0]; rw [if_neg (by simp)]) ?_
    simpa [lg, lgs] using Ev.now _
  | x :: suf, pre, m, hf => by
    have hl := hf.1
    refine Ev.step (fun k => by simp only [size_longest.l0]; rw [if_pos (by simp; omega), if_pos (by simp), if_pos (by simp; omega), rd_mid]) ?_
    refine longest_l1 _ _ _ _ x [] m (hf.2 x (by simp)) ?_
    rw [wrap_nat _ (by simp at hl; omega)]
    have := longest_l0 suf (pre ++ [x]) (max m (lgs x)) (by simpa using hf)
    rw [lg_cons, ← Nat.max_assoc]
    simpa using this

theorem longest_ev (l : List (List ByteArray)) (h : Fines l) : Ev (fun k => size_longest.f k l) (lg l : Int) := by
  have := longest_l0 l [] 0 h
  simpa [size_longest.f] using this

theorem Ev.pos {α : Type} {c : Prop} [Decidable c] {f g : Nat → Option α} {r : α} (hc : c) (h : Ev f r) : Ev (fun k => if c then f k else g k) r := Ev.congr (fun _ => if_pos hc) h
theorem Ev.neg {α : Type} {c : Prop} [Decidable c] {f g : Nat → Option α} {r : α} (hc : ¬ c) (h : Ev g r) : Ev (fun k => if c then f k else g k) r := Ev.congr (fun _ => if_neg hc) h

theorem auto_ev (l : List (List ByteArray)) (h : Fines l) (hm : lg l < M) : Ev (fun k => size_Auto.f k l) ((max 7 (lg l + 1) : Nat) : Int) := by
  refine Ev.bind (longest_ev l h) ?_
  rw [wrap_nat _ (by omega)]
  have := mx_nat 7 (lg l + 1)
  rw [show ((7 : Nat) : Int) = 7 from rfl] at this
  rw [this]
  exact Ev.now _

def fitsB (n : Int) (l : List (List ByteArray)) : Bool := decide (1 ≤ n) && decide ((lg l : Int) < n)
theorem fits_ev (n : Int) (l : List (List ByteArray)) (h : Fines l) : Ev (fun k => size_Fits.f k n l) (fitsB n l) := by
  by_cases h1 : n ≥ 1
  · refine Ev.congr (fun k => by unfold size_Fits.f; rw [if_pos h1]) ?_
    refine Ev.bind (longest_ev l h) ?_
    have : decide (n > (lg l : Int)) = fitsB n l := by simp [fitsB, h1]
    rw [this]
    exact Ev.now _
  · refine Ev.congr (fun k => by unfold size_Fits.f; rw [if_neg h1]) ?_
    have : false = fitsB n l := by simp [fitsB, h1]
    rw [this]
    exact Ev.now _

theorem fine_mk (l : List ByteArray) (h1 : l.length ≤ 1000) (h : ∀ s ∈ l, s.size ≤ 1000) : Fine l := ⟨by unfold M; omega, fun s hs => by have := h s hs; unfold M; omega⟩
theorem fines_nil : Fines [] := ⟨by simp, by simp⟩
theorem fines_one (s : ByteArray) (h : s.size ≤ 1000) : Fines [[s]] := ⟨by simp [M], by intro x hx; simp at hx; subst hx; exact fine_mk _ (by simp) (by simpa using h)⟩

theorem awake_ev : Ev (fun k => sennitlaw11_awake.f k) true := by
  unfold sennitlaw11_awake.f
  refine Ev.bind (run_ev _ (by decide)) (Ev.pos (by decide) ?_)
  refine Ev.bind (run_ev _ (by decide)) (Ev.pos (by decide) ?_)
  refine Ev.bind (run_ev _ (by decide)) (Ev.pos (by decide) ?_)
  refine Ev.bind (auto_ev _ (fines_one _ (by decide)) (by decide)) (Ev.pos (by decide) ?_)
  refine Ev.bind (auto_ev _ fines_nil (by decide)) (Ev.pos (by decide) ?_)
  refine Ev.bind (fits_ev _ _ (fines_one _ (by decide))) (Ev.pos (by decide) ?_)
  refine Ev.bind (fits_ev _ _ (fines_one _ (by decide))) (Ev.neg (by decide) ?_)
  refine Ev.bind (fits_ev _ _ fines_nil) ?_
  exact Ev.now true

/-! ### the reference -/
theorem lead_bt (s : ByteArray) (i : Nat) (h : i < s.size) (c : UInt8) : bt s (i : Int) = (c.toNat : Int) ↔ s[i] = c := by
  unfold bt
  simp only [Int.toNat_natCast, h, dif_pos]
  exact ⟨fun e => UInt8.toNat_inj.1 (by omega), fun e => by rw [e]⟩
theorem refrun_l0 (s : ByteArray) (c : UInt8) (h0 : 0 < s.size) (hc : s[0] = c) (hm : s.size ≤ M) : ∀ (d i : Nat), i + d = lead c s → Ev (fun k => sennitref11_Run.l0 k s (i : Int)) (lead c s : Int)
  | 0, i, h => by
    have hle := lead_le c s
    obtain rfl : i = lead c s := by omega
    by_cases hi : lead c s < s.size
    · have hst := lead_stop c s hi
      refine Ev.step (fun k => by simp only [sennitref11_Run.l0]; rw [if_pos (by omega), if_pos (by omega), if_pos (by omega), if_neg]; intro e; have e0 := (lead_bt s 0 h0 c).2 hc; rw [show ((0 : Nat) : Int) = 0 from rfl] at e0; rw [e0] at e; exact hst ((lead_bt s _ hi c).1 e)) ?_
      exact Ev.now _
    · refine Ev.step (fun k => by simp only [sennitref11_Run.l0]; rw [if_neg (by omega)]) ?_
      exact Ev.now _
  | d + 1, i, h => by
    have hle := lead_le c s
    have hi : i < s.size := by omega
    refine Ev.step (fun k => by simp only [sennitref11_Run.l0]; rw [if_pos (by omega), if_pos (by omega), if_pos (by omega), if_pos]; have e0 := (lead_bt s 0 h0 c).2 hc; rw [show ((0 : Nat) : Int) = 0 from rfl] at e0; rw [e0]; exact (lead_bt s _ hi c).2 (lead_at c s i (by omega) hi)) ?_
    rw [wrap_nat _ (by omega)]
    exact refrun_l0 s c h0 hc hm d (i + 1) (by omega)

theorem lead_pos (c : UInt8) (s : ByteArray) (h : 0 < s.size) (hc : s[0] = c) : 0 < lead c s := by
  have hle := lead_le c s
  by_cases h1 : 0 < lead c s
  · exact h1
  · have e : lead c s = 0 := by omega
    have := lead_stop c s (by omega)
    simp only [e] at this
    exact absurd hc this
theorem lead_zero (c : UInt8) (s : ByteArray) (h : 0 < s.size) (hc : s[0] ≠ c) : lead c s = 0 := by
  by_cases h1 : 0 < lead c s
  · exact absurd (lead_at c s 0 h1 h) hc
  · omega
def isSign (c : UInt8) : Bool := c == 60 || c == 124 || c == 61 || c == 62
theorem runN_sign (s : ByteArray) (h : 0 < s.size) : Size.runN s = if isSign s[0] then lead s[0] s else 0 := by
  by_cases h1 : s[0] = 60
  · simp [Size.runN, isSign, h1, lead_pos 60 s h h1]
  by_cases h2 : s[0] = 124
  · simp [Size.runN, isSign, h2, lead_zero 60 s h h1, lead_pos 124 s h h2]
  by_cases h3 : s[0] = 61
  · simp [Size.runN, isSign, h3, lead_zero 60 s h h1, lead_zero 124 s h h2, lead_pos 61 s h h3]
  by_cases h4 : s[0] = 62
  · simp [Size.runN, isSign, h4, lead_zero 60 s h h1, lead_zero 124 s h h2, lead_zero 61 s h h3]
  · simp [Size.runN, isSign, h1, h2, h3, h4, lead_zero 60 s h h1, lead_zero 124 s h h2, lead_zero 61 s h h3, lead_zero 62 s h h4]
theorem runN_le (s : ByteArray) : Size.runN s ≤ s.size := by
  unfold Size.runN
  have h1 := lead_le 60 s; have h2 := lead_le 124 s; have h3 := lead_le 61 s; have h4 := lead_le 62 s
  repeat' split
  all_goals assumption

theorem sign_ev (c : UInt8) : sennitref11_sign.f (c.toNat : Int) = some (isSign c) := by
  unfold sennitref11_sign.f isSign
  have e : ∀ n : Nat, n < 256 → (((c.toNat : Int) = (n : Int)) ↔ c = UInt8.ofNat n) := fun n hn => by
    rw [← UInt8.toNat_inj]
    simp
    omega
  have e1 : (c.toNat : Int) = 60 ↔ c = 60 := e 60 (by omega)
  have e2 : (c.toNat : Int) = 124 ↔ c = 124 := e 124 (by omega)
  have e3 : (c.toNat : Int) = 61 ↔ c = 61 := e 61 (by omega)
  have e4 : (c.toNat : Int) = 62 ↔ c = 62 := e 62 (by omega)
  by_cases h1 : c = 60
  · simp [h1]
  by_cases h2 : c = 124
  · simp [h2]
  by_cases h3 : c = 61
  · simp [h3]
  by_cases h4 : c = 62
  · simp [h4]
  · rw [if_neg (fun h => h1 (e1.1 h)), if_neg (fun h => h2 (e2.1 h)), if_neg (fun h => h3 (e3.1 h))]
    have : ((c.toNat : Int) == 62) = false := by rw [beq_eq_false_iff_ne]; exact fun h => h4 (e4.1 h)
    rw [this]
    simp [h1, h2, h3, h4]

theorem refrun_ev (s : ByteArray) (hm : s.size ≤ M) : Ev (fun k => sennitref11_Run.f k s) (Size.runN s : Int) := by
  by_cases h : 0 < s.size
  · refine Ev.congr (fun k => by unfold sennitref11_Run.f; rw [if_neg (by omega), if_pos (by omega)]) ?_
    have e0 := (lead_bt s 0 h s[0]).2 rfl
    rw [show ((0 : Nat) : Int) = 0 from rfl] at e0
    rw [e0, sign_ev]
    simp only [Option.bind_some]
    rw [runN_sign s h]
    cases hs : isSign s[0] with
    | true =>
      refine Ev.step (fun k => by simp only [sennitref11_Run.j0]; rw [if_neg (by decide)]) ?_
      have hp := lead_pos s[0] s h rfl
      have := refrun_l0 s s[0] h rfl hm (lead s[0] s - 1) 1 (by omega)
      simpa using this
    | false =>
      refine Ev.step (fun k => by simp only [sennitref11_Run.j0]; rw [if_pos (by decide)]) ?_
      exact Ev.now _
  · have h0 : s.size = 0 := by omega
    have hr : Size.runN s = 0 := by have := runN_le s; omega
    rw [hr]
    refine Ev.congr (fun k => by unfold sennitref11_Run.f; rw [if_pos (by omega)]) ?_
    refine Ev.step (fun k => by simp only [sennitref11_Run.j0]; rw [if_pos (by decide)]) ?_
    exact Ev.now _

theorem SizeRuns (s : ByteArray) (h : s.size ≤ 140737488351232) : ∃ k, sennitlaw11_SizeRuns.f k s = some true := by
  refine Ev.rounds (g := fun k => sennitlaw11_SizeRuns.f k s) ?_
  refine Ev.bind awake_ev ?_
  by_cases h2 : (s.size : Int) > 200
  · exact Ev.pos h2 (Ev.now _)
  · refine Ev.neg h2 (Ev.pos rfl ?_)
    refine Ev.bind (run_ev s (by unfold M; omega)) (Ev.bind (refrun_ev s (by unfold M; omega)) ?_)
    simpa using Ev.now true

/-! ### few -/
theorem few1_l0 (a : Int) (l : List ByteArray) (hl : l.length ≤ M) : ∀ (suf pre : List ByteArray), l = pre ++ suf → (∀ s ∈ pre, s.size ≤ 100) →
    ∃ b, Ev (fun k => sennitref01_Few.l0 k l a (pre.length : Int)) b ∧ (b = true → (l.length : Int) ≤ a ∧ ∀ s ∈ l, s.size ≤ 100)
  | [], pre, e, hp => by
    subst e
    simp only [List.append_nil] at hl ⊢
    refine ⟨_, Ev.step (fun k => by simp only [sennitref01_Few.l0]; rw [if_neg (by simp)]) (Ev.step (fun k => by simp only [sennitref01_Few.j1]; rw [if_neg (by decide)]) (Ev.now _)), fun h => ⟨by simpa using h, hp⟩⟩
  | s :: suf, pre, e, hp => by
    have hlt : (pre.length : Int) < (l.length : Int) := by subst e; simp; omega
    have hrd : rdOf ByteArray.empty l (pre.length : Int) = s := by subst e; exact rdOf_mid pre suf s
    by_cases h1 : (pre.length : Int) ≤ a
    · by_cases h2 : (s.size : Int) > 100
      · refine ⟨false, Ev.step (fun k => by simp only [sennitref01_Few.l0]; rw [if_pos hlt]) (Ev.step (fun k => by simp only [sennitref01_Few.j1]; rw [if_pos (by simpa using h1), if_pos (by omega), if_pos hlt, hrd, if_pos h2]) (Ev.now _)), fun h => by cases h⟩
      · obtain ⟨b, hb, hq⟩ := few1_l0 a l hl suf (pre ++ [s]) (by simp [e]) (fun x hx => by
          simp at hx
          rcases hx with hx | rfl
          · exact hp x hx
          · omega)
        refine ⟨b, Ev.step (fun k => by simp only [sennitref01_Few.l0]; rw [if_pos hlt]) (Ev.step (fun k => by simp only [sennitref01_Few.j1]; rw [if_pos (by simpa using h1), if_pos (by omega), if_pos hlt, hrd, if_neg h2]) ?_), hq⟩
        rw [wrap_nat _ (by omega)]
        simpa using hb
    · refine ⟨false, Ev.step (fun k => by simp only [sennitref01_Few.l0]; rw [if_pos hlt]) (Ev.step (fun k => by simp only [sennitref01_Few.j1]; rw [if_neg (by simpa using h1)]) ?_), fun h => by cases h⟩
      have : decide ((l.length : Int) ≤ a) = false := by simp; omega
      rw [this]
      exact Ev.now _
theorem few1_ev (l : List ByteArray) (a : Int) (hl : l.length ≤ M) : ∃ b, Ev (fun k => sennitref01_Few.f k l a) b ∧ (b = true → (l.length : Int) ≤ a ∧ ∀ s ∈ l, s.size ≤ 100) := few1_l0 a l hl l [] rfl (by simp)
theorem few1_nil (a : Int) (ha : 0 ≤ a) : Ev (fun k => sennitref01_Few.f k [] a) true := by
  refine Ev.step (g := fun k => sennitref01_Few.l0 k [] a 0) (fun k => by simp only [sennitref01_Few.l0]; rw [if_neg (by simp)]) (Ev.step (fun k => by simp only [sennitref01_Few.j1]; rw [if_neg (by decide)]) ?_)
  have : decide ((([] : List ByteArray).length : Int) ≤ a) = true := by simpa using ha
  rw [this]
  exact Ev.now _

/-- 6 lists of 20 texts of 100 bytes at most. -/
def Small (l : List (List ByteArray)) : Prop := l.length ≤ 6 ∧ ∀ x ∈ l, x.length ≤ 20 ∧ ∀ s ∈ x, s.size ≤ 100
theorem few6_l0 (l : List (List ByteArray)) (hl : l.length ≤ M) (hx : ∀ x ∈ l, x.length ≤ M) : ∀ (suf pre : List (List ByteArray)), l = pre ++ suf → (∀ x ∈ pre, x.length ≤ 20 ∧ ∀ s ∈ x, s.size ≤ 100) →
    ∃ b, Ev (fun k => sennitref06_Few.l0 k [] l (pre.length : Int)) b ∧ (b = true → Small l)
  | [], pre, e, hp => by
    subst e
    simp only [List.append_nil] at hl ⊢
    by_cases h6 : pre.length ≤ 6
    · refine ⟨true, Ev.step (fun k => by simp only [sennitref06_Few.l0]; rw [if_neg (by simp)]) (Ev.step (fun k => by simp only [sennitref06_Few.j1]; rw [if_neg (by decide)]) (Ev.bind (few1_nil 20 (by omega)) (Ev.pos rfl ?_))), fun _ => ⟨h6, hp⟩⟩
      have : decide ((pre.length : Int) ≤ 6) = true := by simp; omega
      rw [this]
      exact Ev.now _
    · refine ⟨false, Ev.step (fun k => by simp only [sennitref06_Few.l0]; rw [if_neg (by simp)]) (Ev.step (fun k => by simp only [sennitref06_Few.j1]; rw [if_neg (by decide)]) (Ev.bind (few1_nil 20 (by omega)) (Ev.pos rfl ?_))), fun h => by cases h⟩
      have : decide ((pre.length : Int) ≤ 6) = false := by simp; omega
      rw [this]
      exact Ev.now _
  | s :: suf, pre, e, hp => by
    have hlt : (pre.length : Int) < (l.length : Int) := by subst e; simp; omega
    have hrd : rd_L2 l (pre.length : Int) = s := by subst e; exact rd_mid pre suf s
    by_cases h1 : (pre.length : Int) < 7
    · obtain ⟨b1, hb1, hq1⟩ := few1_ev s 20 (hx s (by subst e; simp))
      cases b1 with
      | false =>
        refine ⟨false, Ev.step (fun k => by simp only [sennitref06_Few.l0]; rw [if_pos hlt]) (Ev.step (fun k => by simp only [sennitref06_Few.j1]; rw [if_pos (by simpa using h1), if_pos (by omega), if_pos hlt, hrd]) ?_), fun h => by cases h⟩
        exact Ev.bind hb1 (Ev.neg (by decide) (Ev.now _))
      | true =>
        have hq2 := hq1 rfl
        obtain ⟨b, hb, hq⟩ := few6_l0 l hl hx suf (pre ++ [s]) (by simp [e]) (fun x hx => by
          simp at hx
          rcases hx with hx | rfl
          · exact hp x hx
          · exact ⟨by omega, hq2.2⟩)
        refine ⟨b, Ev.step (fun k => by simp only [sennitref06_Few.l0]; rw [if_pos hlt]) (Ev.step (fun k => by simp only [sennitref06_Few.j1]; rw [if_pos (by simpa using h1), if_pos (by omega), if_pos hlt, hrd]) (Ev.bind hb1 (Ev.pos rfl ?_))), hq⟩
        rw [wrap_nat _ (by omega)]
        simpa using hb
    · refine ⟨false, Ev.step (fun k => by simp only [sennitref06_Few.l0]; rw [if_pos hlt]) (Ev.step (fun k => by simp only [sennitref06_Few.j1]; rw [if_neg (by simpa using h1)]) (Ev.bind (few1_nil 20 (by omega)) (Ev.pos rfl ?_))), fun h => by cases h⟩
      have : decide ((l.length : Int) ≤ 6) = false := by simp; omega
      rw [this]
      exact Ev.now _
theorem few6_ev (l : List (List ByteArray)) (h : Fines l) : ∃ b, Ev (fun k => sennitref06_Few.f k [] l) b ∧ (b = true → Small l) := few6_l0 l h.1 (fun x hx => (h.2 x hx).1) l [] rfl (by simp)

theorem lgs_le (n : Nat) : ∀ l : List ByteArray, (∀ s ∈ l, s.size ≤ n) → lgs l ≤ n
  | [], _ => by simp [lgs]
  | s :: l, h => by
    have h1 := runN_le s
    have h2 := h s (by simp)
    have := lgs_le n l (fun x hx => h x (by simp [hx]))
    simp only [lgs]
    omega
theorem lg_le (n : Nat) (l : List (List ByteArray)) (h : ∀ x ∈ l, ∀ s ∈ x, s.size ≤ n) : lg l ≤ n := lgs_le n _ (fun s hs => by
  obtain ⟨x, hx, hs⟩ := List.mem_flatten.1 hs
  exact h x hx s hs)
theorem Small.lg {l : List (List ByteArray)} (h : Small l) : lg l ≤ 100 := lg_le 100 l (fun x hx => (h.2 x hx).2)

theorem refauto_l1 (l : List (List ByteArray)) (hl : l.length ≤ M) (i : Int) (hi0 : 0 ≤ i) (hil : i < (l.length : Int)) (x : List ByteArray) (hrd : rd_L2 l i = x) (r : Int) : ∀ (suf pre : List ByteArray) (m : Nat), x = pre ++ suf → Fine x → (∀ s ∈ x, Size.runN s < M) →
    Ev (fun k => sennitref11_Auto.l0 k l ((max m (lgs suf + 1) : Nat) : Int) (wrap64 (i + 1))) r → 1 ≤ m →
    Ev (fun k => sennitref11_Auto.l1 k l (m : Int) i (pre.length : Int)) r
  | [], pre, m, e, hf, hr, h, h1 => by
    refine Ev.step (fun k => by simp only [sennitref11_Auto.l1]; rw [if_pos hi0, if_pos hil, hrd, if_neg (by subst e; simp)]) ?_
    have : max m (lgs [] + 1) = m := by simp [lgs]; omega
    rw [this] at h
    exact h
  | s :: suf, pre, m, e, hf, hr, h, h1 => by
    have hll := hf.1
    have hr1 := hr s (by subst e; simp)
    refine Ev.step (fun k => by simp only [sennitref11_Auto.l1]; rw [if_pos hi0, if_pos hil, hrd, if_pos (by subst e; simp; omega), if_pos (by omega)]) ?_
    rw [show rdOf ByteArray.empty x (pre.length : Int) = s by subst e; exact rdOf_mid pre suf s]
    refine Ev.bind (refrun_ev s (hf.2 s (by subst e; simp))) ?_
    rw [wrap_nat _ (show Size.runN s + 1 ≤ M by omega), wrap_nat _ (show pre.length + 1 ≤ M by subst e; simp at hll; omega), mx_nat]
    have := refauto_l1 l hl i hi0 hil x hrd r suf (pre ++ [s]) (max m (Size.runN s + 1)) (by simp [e]) hf hr (by
      rw [show max (max m (Size.runN s + 1)) (lgs suf + 1) = max m (lgs (s :: suf) + 1) by simp only [lgs]; omega]
      exact h) (by omega)
    simpa using this
theorem refauto_l0 (l : List (List ByteArray)) (hf : Fines l) (hr : ∀ x ∈ l, ∀ s ∈ x, Size.runN s < M) : ∀ (suf pre : List (List ByteArray)) (m : Nat), l = pre ++ suf → 1 ≤ m →
    Ev (fun k => sennitref11_Auto.l0 k l (m : Int) (pre.length : Int)) ((max m (lg suf + 1) : Nat) : Int)
  | [], pre, m, e, h1 => by
    refine Ev.step (fun k => by simp only [sennitref11_Auto.l0]; rw [if_neg (by subst e; simp)]) ?_
    have : max m (lg [] + 1) = m := by simp [lg, lgs]; omega
    rw [this]
    exact Ev.now _
  | x :: suf, pre, m, e, h1 => by
    have hl := hf.1
    refine Ev.step (fun k => by simp only [sennitref11_Auto.l0]; rw [if_pos (by subst e; simp; omega)]) ?_
    refine refauto_l1 l hl _ (by omega) (by subst e; simp; omega) x (by subst e; exact rd_mid pre suf x) _ x [] m rfl (hf.2 x (by subst e; simp)) (hr x (by subst e; simp)) ?_ h1
    rw [wrap_nat _ (by subst e; simp at hl; omega)]
    have := refauto_l0 l hf hr suf (pre ++ [x]) (max m (lgs x + 1)) (by simp [e]) (by omega)
    rw [show max m (lg (x :: suf) + 1) = max (max m (lgs x + 1)) (lg suf + 1) by rw [lg_cons]; omega]
    simpa using this
theorem refauto_ev (l : List (List ByteArray)) (hf : Fines l) (hr : ∀ x ∈ l, ∀ s ∈ x, Size.runN s < M) : Ev (fun k => sennitref11_Auto.f k l) ((max 7 (lg l + 1) : Nat) : Int) := refauto_l0 l hf hr l [] 7 rfl (by omega)

theorem reffits_l1 (l : List (List ByteArray)) (n i : Int) (hi0 : 0 ≤ i) (hil : i < (l.length : Int)) (x : List ByteArray) (hrd : rd_L2 l i = x) (r : Bool) : ∀ (suf pre : List ByteArray), x = pre ++ suf → Fine x →
    (if (∃ s ∈ suf, (Size.runN s : Int) ≥ n) then r = false else Ev (fun k => sennitref11_Fits.l0 k n l (wrap64 (i + 1))) r) →
    Ev (fun k => sennitref11_Fits.l1 k n l i (pre.length : Int)) r
  | [], pre, e, hf, h => by
    refine Ev.step (fun k => by simp only [sennitref11_Fits.l1]; rw [if_pos hi0, if_pos hil, hrd, if_neg (by subst e; simp)]) ?_
    simpa using h
  | s :: suf, pre, e, hf, h => by
    have hll := hf.1
    refine Ev.step (fun k => by simp only [sennitref11_Fits.l1]; rw [if_pos hi0, if_pos hil, hrd, if_pos (by subst e; simp; omega), if_pos (by omega)]) ?_
    rw [show rdOf ByteArray.empty x (pre.length : Int) = s by subst e; exact rdOf_mid pre suf s]
    refine Ev.bind (refrun_ev s (hf.2 s (by subst e; simp))) ?_
    by_cases h2 : (Size.runN s : Int) ≥ n
    · refine Ev.pos h2 ?_
      rw [if_pos ⟨s, by simp, h2⟩] at h
      subst h
      exact Ev.now _
    · refine Ev.neg h2 ?_
      rw [wrap_nat _ (by subst e; simp at hll; omega)]
      have := reffits_l1 l n i hi0 hil x hrd r suf (pre ++ [s]) (by simp [e]) hf (by
        by_cases h3 : ∃ s ∈ suf, (Size.runN s : Int) ≥ n
        · rw [if_pos h3]
          obtain ⟨y, hy, h4⟩ := h3
          rw [if_pos ⟨y, by simp [hy], h4⟩] at h
          exact h
        · rw [if_neg h3]
          rw [if_neg (fun ⟨y, hy, h4⟩ => by
            simp at hy
            rcases hy with rfl | hy
            · exact h2 h4
            · exact h3 ⟨y, hy, h4⟩)] at h
          exact h)
      simpa using this
theorem lgs_ge (n : Int) (hn : 1 ≤ n) : ∀ l : List ByteArray, (∃ s ∈ l, (Size.runN s : Int) ≥ n) ↔ n ≤ (lgs l : Int)
  | [] => by simp [lgs]; omega
  | s :: l => by
    have := lgs_ge n hn l
    simp only [List.mem_cons, exists_eq_or_imp, this, lgs]
    omega
theorem reffits_l0 (l : List (List ByteArray)) (n : Int) (hf : Fines l) : ∀ (suf pre : List (List ByteArray)), l = pre ++ suf →
    Ev (fun k => sennitref11_Fits.l0 k n l (pre.length : Int)) (decide (1 ≤ n) && decide ((lg suf : Int) < n))
  | [], pre, e => by
    refine Ev.step (fun k => by simp only [sennitref11_Fits.l0]; rw [if_neg (by subst e; simp)]) ?_
    have : (decide (1 ≤ n) && decide ((lg [] : Int) < n)) = decide (n ≥ 1) := by
      rw [Bool.eq_iff_iff]
      simp [lg, lgs]
      omega
    rw [this]
    exact Ev.now _
  | x :: suf, pre, e => by
    have hl := hf.1
    refine Ev.step (fun k => by simp only [sennitref11_Fits.l0]; rw [if_pos (by subst e; simp; omega)]) ?_
    refine reffits_l1 l n _ (by omega) (by subst e; simp; omega) x (by subst e; exact rd_mid pre suf x) _ x [] rfl (hf.2 x (by subst e; simp)) ?_
    have ih := reffits_l0 l n hf suf (pre ++ [x]) (by simp [e])
    rw [wrap_nat _ (by subst e; simp at hl; omega)]
    by_cases h3 : ∃ s ∈ x, (Size.runN s : Int) ≥ n
    · rw [if_pos h3]
      by_cases hn : 1 ≤ n
      · have := (lgs_ge n hn x).1 h3
        rw [lg_cons]
        simp
        omega
      · simp [hn]
    · rw [if_neg h3]
      have : (decide (1 ≤ n) && decide ((lg (x :: suf) : Int) < n)) = (decide (1 ≤ n) && decide ((lg suf : Int) < n)) := by
        by_cases hn : 1 ≤ n
        · have h4 : ¬ n ≤ (lgs x : Int) := fun h => h3 ((lgs_ge n hn x).2 h)
          rw [lg_cons, Bool.eq_iff_iff]
          simp
          omega
        · simp [hn]
      rw [this]
      simpa using ih
theorem reffits_ev (l : List (List ByteArray)) (n : Int) (hf : Fines l) : Ev (fun k => sennitref11_Fits.f k n l) (fitsB n l) := reffits_l0 l n hf l [] rfl

theorem Small.run {l : List (List ByteArray)} (h : Small l) : ∀ x ∈ l, ∀ s ∈ x, Size.runN s < M := fun x hx s hs => by
  have h1 := runN_le s
  have h2 := (h.2 x hx).2 s hs
  unfold M
  omega

theorem SizeTells (l : List (List ByteArray)) (n : Int) (hf : Fines l) (_ : (Lit.int .i64 n).wf = true) : ∃ k, sennitlaw11_SizeTells.f k l n = some true := by
  refine Ev.rounds (g := fun k => sennitlaw11_SizeTells.f k l n) ?_
  refine Ev.bind awake_ev ?_
  obtain ⟨b, hb, hq⟩ := few6_ev l hf
  refine Ev.bind hb ?_
  cases b with
  | false => exact Ev.neg (by decide) (Ev.now _)
  | true =>
    have hs := hq rfl
    have hg := hs.lg
    refine Ev.pos rfl (Ev.pos rfl ?_)
    refine Ev.bind (auto_ev l hf (by unfold M; omega)) (Ev.bind (refauto_ev l hf hs.run) (Ev.pos rfl ?_))
    refine Ev.bind (fits_ev n l hf) (Ev.bind (reffits_ev l n hf) ?_)
    simpa using Ev.now true

theorem SizeFits (l : List (List ByteArray)) (n : Int) (hf : Fines l) (hn : (Lit.int .u16 n).wf = true) : ∃ k, sennitlaw11_SizeFits.f k l n = some true := by
  refine Ev.rounds (g := fun k => sennitlaw11_SizeFits.f k l n) ?_
  have hn2 : 0 ≤ n ∧ n ≤ 65535 := by simpa [Lit.wf, show IntKind.u16.min = 0 from rfl, show IntKind.u16.max = 65535 from rfl] using hn
  refine Ev.bind awake_ev ?_
  obtain ⟨b, hb, hq⟩ := few6_ev l hf
  refine Ev.bind hb ?_
  cases b with
  | false => exact Ev.neg (by decide) (Ev.now _)
  | true =>
    have hs := hq rfl
    have hg := hs.lg
    refine Ev.pos rfl ?_
    refine Ev.bind (auto_ev l hf (by unfold M; omega)) (Ev.pos rfl (Ev.pos (by omega) ?_))
    have f1 : fitsB ((max 7 (lg l + 1) : Nat) : Int) l = true := by simp [fitsB]; omega
    have f2 : fitsB (wrap64 (((max 7 (lg l + 1) : Nat) : Int) + wrap64 n)) l = true := by unfold wrap64; simp [fitsB]; omega
    refine Ev.bind (fits_ev _ l hf) (Ev.pos f1 ?_)
    refine Ev.bind (fits_ev _ l hf) (Ev.pos f2 ?_)
    by_cases h7 : ((max 7 (lg l + 1) : Nat) : Int) = 7
    · exact Ev.pos h7 (Ev.now _)
    · have f3 : fitsB (wrap64 (((max 7 (lg l + 1) : Nat) : Int) - 1)) l = false := by unfold wrap64; simp [fitsB]; omega
      refine Ev.neg h7 (Ev.bind (fits_ev _ l hf) ?_)
      rw [f3]
      exact Ev.now _

theorem Fines.append {a b : List (List ByteArray)} (ha : Fines a) (hb : Fines b) (h : a.length + b.length ≤ M) : Fines (a ++ b) := ⟨by simpa using h, fun x hx => by
  rcases List.mem_append.1 hx with hx | hx
  · exact ha.2 x hx
  · exact hb.2 x hx⟩

theorem SizeMore (a b : List (List ByteArray)) (ha : Fines a) (hb : Fines b) : ∃ k, sennitlaw11_SizeMore.f k a b = some true := by
  refine Ev.rounds (g := fun k => sennitlaw11_SizeMore.f k a b) ?_
  refine Ev.bind awake_ev ?_
  obtain ⟨b1, hb1, hq1⟩ := few6_ev a ha
  refine Ev.bind hb1 ?_
  cases b1 with
  | false => exact Ev.neg (by decide) (Ev.step (fun k => by simp only [sennitlaw11_SizeMore.j0]; rw [if_pos trivial]) (Ev.now _))
  | true =>
    have hs1 := hq1 rfl
    have hg1 := hs1.lg
    refine Ev.pos rfl ?_
    obtain ⟨b2, hb2, hq2⟩ := few6_ev b hb
    refine Ev.bind hb2 ?_
    cases b2 with
    | false => exact Ev.step (fun k => by simp only [sennitlaw11_SizeMore.j0]; rw [if_pos (by decide)]) (Ev.now _)
    | true =>
      have hs2 := hq2 rfl
      have hg2 := hs2.lg
      have h6 := hs1.1
      have h7 := hs2.1
      refine Ev.step (fun k => by simp only [sennitlaw11_SizeMore.j0, Option.bind_some]; rw [if_neg (by decide), if_pos (by simp; omega), if_pos (by simp; omega), if_pos trivial]) ?_
      have hab : lg (a ++ b) = max (lg a) (lg b) := lg_append a b
      rw [List.nil_append]
      refine Ev.bind (auto_ev _ (Fines.append ha hb (by unfold M; omega)) (by unfold M; omega)) ?_
      refine Ev.bind (auto_ev _ ha (by unfold M; omega)) (Ev.bind (auto_ev _ hb (by unfold M; omega)) ?_)
      have : (((max 7 (lg (a ++ b) + 1) : Nat) : Int) == mx ((max 7 (lg a + 1) : Nat) : Int) ((max 7 (lg b + 1) : Nat) : Int)) = true := by
        rw [mx_nat, hab, beq_iff_eq]
        omega
      rw [this]
      exact Ev.now _

theorem lead_take (c : UInt8) (s : ByteArray) (k : Nat) : lead c (s.extract 0 k) ≤ lead c s := by
  have e : (s.extract 0 k).data.toList = s.data.toList.take k := by simp
  unfold lead
  rw [e]
  generalize s.data.toList = l
  induction l generalizing k with
  | nil => simp
  | cons a l ih =>
    cases k with
    | zero => simp
    | succ k =>
      simp only [List.take_succ_cons, List.takeWhile_cons]
      split
      · simpa using ih k
      · simp
theorem lead_size (c : UInt8) (s : ByteArray) (k : Nat) (h : (s.extract 0 k).size = 0) : lead c (s.extract 0 k) = 0 := by
  have := lead_le c (s.extract 0 k)
  omega
theorem runN_lead (s : ByteArray) : ∃ c, Size.runN s = lead c s := by
  unfold Size.runN
  repeat' split
  all_goals exact ⟨_, rfl⟩
theorem lead_run (c : UInt8) (hc : isSign c = true) (s : ByteArray) (h : 0 < lead c s) : Size.runN s = lead c s := by
  have hl := lead_le c s
  have h0 : 0 < s.size := by omega
  have := lead_at c s 0 h h0
  rw [runN_sign s h0, this, if_pos hc]
theorem runN_pos_sign (s : ByteArray) (h : 0 < Size.runN s) : ∃ c, isSign c = true ∧ Size.runN s = lead c s := by
  have h0 : 0 < s.size := by have := runN_le s; omega
  have e := runN_sign s h0
  by_cases hs : isSign s[0] = true
  · rw [if_pos hs] at e
    exact ⟨_, hs, e⟩
  · rw [if_neg hs] at e
    omega
theorem run_take (s : ByteArray) (k : Nat) (h : Size.runN (s.extract 0 k) = k) : k ≤ Size.runN s := by
  by_cases hk : 0 < k
  · obtain ⟨c, hc, e⟩ := runN_pos_sign (s.extract 0 k) (by omega)
    have h1 := lead_take c s k
    have h2 := lead_run c hc s (by omega)
    omega
  · omega

theorem lead_eqs (k : Nat) (t : List UInt8) : k ≤ ((List.replicate k (61 : UInt8) ++ t).takeWhile (· == 61)).length := by
  induction k with
  | zero => simp
  | succ k ih => simp [List.replicate_succ]
def mark12 : ByteArray := ⟨#[61, 61, 61, 61, 61, 61, 61, 61, 61, 61, 61, 61]⟩
theorem mark_take (k : Nat) (hk : k ≤ 12) : (mark12.extract 0 k).data.toList = List.replicate k 61 := by
  have e : (mark12.extract 0 k).data.toList = (List.replicate 12 (61 : UInt8)).take k := by simp [mark12]
  rw [e, List.take_replicate]
  congr 1
  omega
theorem run_mark (k : Nat) (hk : k ≤ 12) (s : ByteArray) : k ≤ Size.runN ((mark12.extract 0 k) ++ s) := by
  have h : k ≤ lead 61 ((mark12.extract 0 k) ++ s) := by
    unfold lead
    rw [ByteArray.data_append, Array.toList_append, mark_take k hk]
    exact lead_eqs k _
  by_cases h0 : 0 < k
  · rw [lead_run 61 (by decide) _ (by omega)]
    exact h
  · omega
theorem size_mark (k : Nat) (hk : k ≤ 12) : (mark12.extract 0 k).size = k := by
  simp [mark12, ByteArray.size]
  omega

section
variable (l : List (List ByteArray)) (s : ByteArray) (K : Nat) (hK : 1 ≤ K ∧ K ≤ 12) (hf : Fines l) (hs : Small l) (hsz : s.size ≤ 100)
include hK hf in
theorem marks_l1 (i : Nat) (hi : i < l.length) (x : List ByteArray) (hrd : rd_L2 l (i : Int) = x) (hxl : x ∈ l) : ∀ (suf pre : List ByteArray), x = pre ++ suf →
    Ev (fun k => sennitlaw11_SizeMarks.l0 k l s true (K : Int) ((i + 1 : Nat) : Int)) true →
    Ev (fun k => sennitlaw11_SizeMarks.l1 k l s true (K : Int) (i : Int) (pre.length : Int)) true
  | [], pre, e, h => by
    refine Ev.step (fun k => by simp only [sennitlaw11_SizeMarks.l1]; rw [if_pos (by omega), if_pos (by omega), hrd, if_neg (by subst e; simp)]) ?_
    have := hf.1
    rw [wrap_nat _ (by omega)]
    exact h
  | t :: suf, pre, e, h => by
    have hx := hf.2 x hxl
    have hl := hx.1
    have htx : t ∈ x := by subst e; simp
    have ht := hx.2 t htx
    have hnext : Ev (fun k => sennitlaw11_SizeMarks.l1 k l s true (K : Int) (i : Int) (wrap64 ((pre.length : Int) + 1))) true := by
      rw [wrap_nat _ (by subst e; simp at hl; omega)]
      have := marks_l1 i hi x hrd hxl suf (pre ++ [t]) (by simp [e]) h
      simpa using this
    refine Ev.step (fun k => by simp only [sennitlaw11_SizeMarks.l1]; rw [if_pos (by omega), if_pos (by omega), hrd, if_pos (by subst e; simp; omega), if_pos (by omega), show rdOf ByteArray.empty x (pre.length : Int) = t by subst e; exact rdOf_mid pre suf t]) ?_
    refine Ev.bind (fits_ev _ l hf) ?_
    by_cases hb : fitsB (K : Int) l = true
    · refine Ev.pos hb ?_
      by_cases h1 : (t.size : Int) ≥ (K : Int)
      · refine Ev.pos h1 (Ev.pos (by omega) (Ev.pos (by omega) ?_))
        simp only [Int.toNat_natCast]
        refine Ev.bind (run_ev _ (by simp; omega)) ?_
        refine Ev.neg (fun h2 => ?_) hnext
        have h3 := run_take t K (by omega)
        have h4 : (K : Int) ≤ (lg l : Int) := by
          refine (lgs_ge (K : Int) (by omega) l.flatten).1 ⟨t, List.mem_flatten.2 ⟨x, hxl, htx⟩, by omega⟩
        simp [fitsB] at hb
        omega
      · exact Ev.neg h1 hnext
    · exact Ev.neg hb hnext
include hK hf hs hsz
theorem marks_l0_end (h : ¬ ((l.length : Int) < (l.length : Int))) : Ev (fun k => sennitlaw11_SizeMarks.l0 k l s true (K : Int) (l.length : Int)) true := by
  have hm := size_mark K hK.2
  have e12 : (⟨#[61, 61, 61, 61, 61, 61, 61, 61, 61, 61, 61, 61]⟩ : ByteArray) = mark12 := rfl
  have hsz2 : ((mark12.extract 0 K) ++ s).size = K + s.size := by rw [ByteArray.size_append, hm]
  have h6 := hs.1
  refine Ev.step (fun k => by
    simp only [sennitlaw11_SizeMarks.l0, Option.bind_some, e12, Int.toNat_natCast]
    rw [if_neg h, if_pos (by omega), if_pos (by omega), if_pos trivial, if_pos (by rw [hm]; omega)]) ?_
  have hr := run_mark K hK.2 s
  refine Ev.bind (run_ev _ (by rw [hsz2]; unfold M; omega)) (Ev.pos (by omega) (Ev.pos (by simp; omega) (Ev.pos (by simp; omega) ?_)))
  have hff : Fines ([] ++ l ++ [[(mark12.extract 0 K) ++ s]]) := Fines.append (by simpa using hf) (fines_one _ (by rw [hsz2]; omega)) (by simp; unfold M; omega)
  refine Ev.bind (fits_ev _ _ hff) ?_
  have hfb : fitsB (K : Int) ([] ++ l ++ [[(mark12.extract 0 K) ++ s]]) = false := by
    have : lg ([] ++ l ++ [[(mark12.extract 0 K) ++ s]]) ≥ K := by rw [lg_append, lg_cons]; simp only [lgs]; omega
    have h2 : ¬ ((lg ([] ++ l ++ [[(mark12.extract 0 K) ++ s]]) : Int) < (K : Int)) := by omega
    unfold fitsB
    rw [decide_eq_false h2, Bool.and_false]
  rw [hfb]
  exact Ev.now _

theorem marks_l0 : ∀ (suf pre : List (List ByteArray)), l = pre ++ suf → Ev (fun k => sennitlaw11_SizeMarks.l0 k l s true (K : Int) (pre.length : Int)) true
  | [], pre, e => by
    have : pre = l := by simp [e]
    rw [this]
    exact marks_l0_end l s K hK hf hs hsz (by omega)
  | x :: suf, pre, e => by
    refine Ev.step (fun k => by simp only [sennitlaw11_SizeMarks.l0]; rw [if_pos (by subst e; simp; omega)]) ?_
    have ih := marks_l0 suf (pre ++ [x]) (by simp [e])
    exact marks_l1 l s K hK hf pre.length (by subst e; simp) x (by subst e; exact rd_mid pre suf x) (by subst e; simp) x [] rfl (by simpa using ih)
end

theorem SizeMarks (l : List (List ByteArray)) (s : ByteArray) (n : Int) (hf : Fines l) (_ : s.size ≤ 140737488351232) (hn : (Lit.int .u8 n).wf = true) : ∃ k, sennitlaw11_SizeMarks.f k l s n = some true := by
  refine Ev.rounds (g := fun k => sennitlaw11_SizeMarks.f k l s n) ?_
  have hn2 : 0 ≤ n ∧ n ≤ 255 := by simpa [Lit.wf, show IntKind.u8.min = 0 from rfl, show IntKind.u8.max = 255 from rfl] using hn
  refine Ev.bind awake_ev ?_
  obtain ⟨b, hb, hq⟩ := few6_ev l hf
  refine Ev.bind hb ?_
  cases b with
  | false => exact Ev.neg (by decide) (Ev.step (fun k => by simp only [sennitlaw11_SizeMarks.j0]; rw [if_pos trivial]) (Ev.now _))
  | true =>
    have hs := hq rfl
    refine Ev.pos rfl ?_
    by_cases h100 : (s.size : Int) > 100
    · rw [decide_eq_true h100]
      exact Ev.step (fun k => by simp only [sennitlaw11_SizeMarks.j0]; rw [if_pos trivial]) (Ev.now _)
    · rw [decide_eq_false h100]
      refine Ev.step (fun k => by simp only [sennitlaw11_SizeMarks.j0]; rw [if_neg (by decide)]) ?_
      obtain ⟨K, hK, hK1⟩ : ∃ K : Nat, wrap64 (1 + (Int.tmod (wrap64 n) 12)) = (K : Int) ∧ 1 ≤ K ∧ K ≤ 12 := by
        have e1 : wrap64 n = n := by unfold wrap64; omega
        have e2 : Int.tmod n 12 = n % 12 := Int.tmod_eq_emod_of_nonneg hn2.1
        refine ⟨(1 + n % 12).toNat, ?_, ?_⟩
        · rw [e1, e2]
          unfold wrap64
          omega
        · omega
      rw [hK]
      exact marks_l0 l s K hK1 hf hs (by omega) l [] rfl

end Go.Proofs.Ythdehnegfgkljaa.Plain
