/- The reference's small functions: what they come to, in plain Lean. -/
import Derived.Test.YtcnjbmdnnhbfkaaDoorPureBase
import Derived.Test.YtcnjbmdnnhbfkaaDoorXQs
namespace Go.Proofs.YtcnjbmdnnhbfkaaDoor.Plain
open Go.RowKit Go.Proofs.YtcnjbmdnnhbfkaaDoor.XQ Go.Proofs.YtcnjbmdnnhbfkaaDoor.Size Go.Proofs.YtcnjbmdnnhbfkaaDoor.Unmark Go.Proofs.YtcnjbmdnnhbfkaaDoorW.PrintWords Go.Proofs.YtcnjbmdnnhbfkaaDoorW.PrintMore
theorem lead_bt (s : ByteArray) (i : Nat) (h : i < s.size) (c : UInt8) : bt s (i : Int) = (c.toNat : Int) ↔ s[i] = c := by
  unfold bt
  simp only [Int.toNat_natCast, h, dif_pos]
  exact ⟨fun e => UInt8.toNat_inj.1 (by omega), fun e => by rw [e]⟩
theorem refrun_l0 (s : ByteArray) (c : UInt8) (h0 : 0 < s.size) (hc : s[0] = c) (hm : s.size ≤ M) : ∀ (d i : Nat), i + d = lead c s → Ev (fun k => sennitref11_Run.l0 k s (i : Int)) (lead c s : Int)
  | 0, i, h => by
    have hle := lead_le c s
    obtain rfl : i = lead c s := by omega
    by_cases hi : lead c s < s.size
    · have hst := lead_stop c s hi
      refine Ev.step (fun k => by simp only [sennitref11_Run.l0]; rw [if_pos (by omega), if_pos (by omega), if_pos (by omega)]) ?_
      have hb : (bt s (lead c s : Int) == bt s 0) = false := by
        rw [beq_eq_false_iff_ne]
        intro e; have e0 := (lead_bt s 0 h0 c).2 hc; rw [show ((0 : Nat) : Int) = 0 from rfl] at e0; rw [e0] at e; exact hst ((lead_bt s _ hi c).1 e)
      rw [hb]
      exact Ev.step (fun k => by simp only [sennitref11_Run.j2]; rw [if_neg (by decide)]) (Ev.now _)
    · refine Ev.step (fun k => by simp only [sennitref11_Run.l0]; rw [if_neg (by omega)]) ?_
      exact Ev.step (fun k => by simp only [sennitref11_Run.j2]; rw [if_neg (by decide)]) (Ev.now _)
  | d + 1, i, h => by
    have hle := lead_le c s
    have hi : i < s.size := by omega
    refine Ev.step (fun k => by simp only [sennitref11_Run.l0]; rw [if_pos (by omega), if_pos (by omega), if_pos (by omega)]) ?_
    have hb : (bt s (i : Int) == bt s 0) = true := by
      rw [beq_iff_eq]
      have e0 := (lead_bt s 0 h0 c).2 hc; rw [show ((0 : Nat) : Int) = 0 from rfl] at e0; rw [e0]; exact (lead_bt s _ hi c).2 (lead_at c s i (by omega) hi)
    rw [hb]
    refine Ev.step (fun k => by simp only [sennitref11_Run.j2]; rw [if_pos trivial]) ?_
    rw [wrap_nat _ (by omega)]
    exact refrun_l0 s c h0 hc hm d (i + 1) (by omega)
theorem bt_ten (s : ByteArray) (i : Nat) (h : i < s.size) : bt s (i : Int) = 10 ↔ s[i] = 10 := lead_bt s i h 10
theorem lead_pos (c : UInt8) (s : ByteArray) (h : 0 < s.size) (hc : s[0] = c) : 0 < lead c s := by
  have hle := lead_le c s
  by_cases h1 : 0 < lead c s
  · exact h1
  · have e : lead c s = 0 := by omega
    have := lead_stop c s (by omega)
    simp only [e] at this
    exact absurd hc this
theorem lead_zero (c : UInt8) (s : ByteArray) (h : 0 < s.size) (hc : s[0] ≠ c) : lead c s = 0 := by
  by_cases h1 : 0 < lead c s
  · exact absurd (lead_at c s 0 h1 h) hc
  · omega
def isSign (c : UInt8) : Bool := c == 60 || c == 124 || c == 61 || c == 62
theorem runN_sign (s : ByteArray) (h : 0 < s.size) : Size.runN s = if isSign s[0] then lead s[0] s else 0 := by
  by_cases h1 : s[0] = 60
  · simp [Size.runN, isSign, h1, lead_pos 60 s h h1]
  by_cases h2 : s[0] = 124
  · simp [Size.runN, isSign, h2, lead_zero 60 s h h1, lead_pos 124 s h h2]
  by_cases h3 : s[0] = 61
  · simp [Size.runN, isSign, h3, lead_zero 60 s h h1, lead_zero 124 s h h2, lead_pos 61 s h h3]
  by_cases h4 : s[0] = 62
  · simp [Size.runN, isSign, h4, lead_zero 60 s h h1, lead_zero 124 s h h2, lead_zero 61 s h h3]
  · simp [Size.runN, isSign, h1, h2, h3, h4, lead_zero 60 s h h1, lead_zero 124 s h h2, lead_zero 61 s h h3, lead_zero 62 s h h4]
theorem runN_le (s : ByteArray) : Size.runN s ≤ s.size := by
  unfold Size.runN
  have h1 := lead_le 60 s; have h2 := lead_le 124 s; have h3 := lead_le 61 s; have h4 := lead_le 62 s
  repeat' split
  all_goals assumption
theorem sign_ev (c : UInt8) : sennitref11_sign.f (c.toNat : Int) = some (isSign c) := by
  unfold sennitref11_sign.f isSign
  have e : ∀ n : Nat, n < 256 → (((c.toNat : Int) = (n : Int)) ↔ c = UInt8.ofNat n) := fun n hn => by
    rw [← UInt8.toNat_inj]
    simp
    omega
  have e1 : (c.toNat : Int) = 60 ↔ c = 60 := e 60 (by omega)
  have e2 : (c.toNat : Int) = 124 ↔ c = 124 := e 124 (by omega)
  have e3 : (c.toNat : Int) = 61 ↔ c = 61 := e 61 (by omega)
  have e4 : (c.toNat : Int) = 62 ↔ c = 62 := e 62 (by omega)
  by_cases h1 : c = 60
  · simp [h1]
  by_cases h2 : c = 124
  · simp [h2]
  by_cases h3 : c = 61
  · simp [h3]
  by_cases h4 : c = 62
  · simp [h4]
  · rw [if_neg (fun h => h1 (e1.1 h)), if_neg (fun h => h2 (e2.1 h)), if_neg (fun h => h3 (e3.1 h))]
    have : ((c.toNat : Int) == 62) = false := by rw [beq_eq_false_iff_ne]; exact fun h => h4 (e4.1 h)
    rw [this]
    simp [h1, h2, h3, h4]
theorem refrun_ev (s : ByteArray) (hm : s.size ≤ M) : Ev (fun k => sennitref11_Run.f k s) (Size.runN s : Int) := by
  by_cases h : 0 < s.size
  · refine Ev.congr (fun k => by unfold sennitref11_Run.f; rw [if_neg (by omega), if_pos (by omega)]) ?_
    have e0 := (lead_bt s 0 h s[0]).2 rfl
    rw [show ((0 : Nat) : Int) = 0 from rfl] at e0
    rw [e0, sign_ev]
    simp only [Option.bind_some]
    rw [runN_sign s h]
    cases hs : isSign s[0] with
    | true =>
      refine Ev.step (fun k => by simp only [sennitref11_Run.j0]; rw [if_neg (by decide)]) ?_
      have hp := lead_pos s[0] s h rfl
      have := refrun_l0 s s[0] h rfl hm (lead s[0] s - 1) 1 (by omega)
      simpa using this
    | false =>
      refine Ev.step (fun k => by simp only [sennitref11_Run.j0]; rw [if_pos (by decide)]) ?_
      exact Ev.now _
  · have h0 : s.size = 0 := by omega
    have hr : Size.runN s = 0 := by have := runN_le s; omega
    rw [hr]
    refine Ev.congr (fun k => by unfold sennitref11_Run.f; rw [if_pos (by omega)]) ?_
    refine Ev.step (fun k => by simp only [sennitref11_Run.j0]; rw [if_pos (by decide)]) ?_
    exact Ev.now _
/-! ### lines -/
def cnt (s : ByteArray) : Nat := s.data.toList.count 10
theorem drop_at (s : ByteArray) (i : Nat) (h : i < s.size) : s.data.toList.drop i = s[i] :: s.data.toList.drop (i + 1) := by
  have h2 : i < s.data.toList.length := by simpa using h
  rw [List.drop_eq_getElem_cons h2]
  simp
  rfl
theorem feeds_l0 (s : ByteArray) (hm : s.size ≤ M) : ∀ (d i n : Nat), i + d = s.size → n ≤ i → Ev (fun k => sennitref01_feeds.l0 k s (n : Int) (i : Int)) ((n + (s.data.toList.drop i).count 10 : Nat) : Int)
  | 0, i, n, h, hn => by
    refine Ev.step (fun k => by simp only [sennitref01_feeds.l0]; rw [if_neg (by omega)]) ?_
    have : s.data.toList.drop i = [] := List.drop_eq_nil_of_le (by have e : s.data.toList.length = s.size := rfl; omega)
    rw [this]
    simpa using Ev.now (n : Int)
  | d + 1, i, n, h, hn => by
    have hi : i < s.size := by omega
    rw [drop_at s i hi, List.count_cons]
    by_cases hb : s[i] = 10
    · refine Ev.step (fun k => by simp only [sennitref01_feeds.l0]; rw [if_pos (by omega), if_pos (by omega), if_pos ((bt_ten s i hi).2 hb)]) ?_
      rw [wrap_nat n (by omega), wrap_nat i (by omega)]
      have := feeds_l0 s hm d (i + 1) (n + 1) (by omega) (by omega)
      simp only [hb, beq_self_eq_true, if_true]
      rw [show n + (List.count 10 (List.drop (i + 1) s.data.toList) + 1) = n + 1 + List.count 10 (List.drop (i + 1) s.data.toList) by omega]
      exact this
    · refine Ev.step (fun k => by simp only [sennitref01_feeds.l0]; rw [if_pos (by omega), if_pos (by omega), if_neg (fun e => hb ((bt_ten s i hi).1 e))]) ?_
      rw [wrap_nat i (by omega)]
      have := feeds_l0 s hm d (i + 1) n (by omega) (by omega)
      rw [show (s[i] == 10) = false by simpa using hb]
      simpa using this
theorem feeds_ev (s : ByteArray) (hm : s.size ≤ M) : Ev (fun k => sennitref01_feeds.f k s) (cnt s : Int) := by
  have := feeds_l0 s hm s.size 0 0 (by omega) (by omega)
  simp only [Nat.zero_add, List.drop_zero] at this
  exact this
def lineB (s : ByteArray) : Bool := decide (cnt s = 1) && (bt s ((s.size : Int) - 1) == 10)
theorem cnt_le (s : ByteArray) : cnt s ≤ s.size := by
  exact List.count_le_length (a := (10 : UInt8)) (l := s.data.toList)
theorem line_ev (s : ByteArray) (hm : s.size ≤ M) : Ev (fun k => sennitref01_Line.f k s) (lineB s) := by
  refine Ev.bind (feeds_ev s hm) ?_
  have hw : wrap64 ((s.size : Int) - 1) = (s.size : Int) - 1 := by unfold wrap64; unfold M at hm; omega
  rw [hw]
  by_cases h : cnt s = 1
  · have := cnt_le s
    refine Ev.pos (by omega) (Ev.pos (by omega) (Ev.pos (by omega) ?_))
    simp only [lineB, h, decide_true, Bool.true_and]
    exact Ev.now _
  · refine Ev.neg (by omega) ?_
    simp only [lineB, h, decide_false, Bool.false_and]
    exact Ev.now _
def openB (s : ByteArray) : Bool := decide (0 < s.size) && decide (cnt s = 0)
def mayB : List ByteArray → Bool
  | [] => true
  | s :: l => (lineB s || (l.isEmpty && openB s)) && mayB l
theorem may_l0 (l : List ByteArray) (hf : Fine l) : ∀ (suf pre : List ByteArray), l = pre ++ suf → Ev (fun k => sennitref01_May.l0 k l (pre.length : Int)) (mayB suf)
  | [], pre, e => by
    refine Ev.step (fun k => by simp only [sennitref01_May.l0]; rw [if_neg (by subst e; simp)]) ?_
    exact Ev.now _
  | s :: suf, pre, e => by
    have hlen := hf.1
    have hlt : (pre.length : Int) < (l.length : Int) := by subst e; simp; omega
    have hrd : rdOf ByteArray.empty l (pre.length : Int) = s := by subst e; exact rdOf_mid pre suf s
    have hs : s.size ≤ M := hf.2 s (by subst e; simp)
    have hw : wrap64 ((l.length : Int) - 1) = (l.length : Int) - 1 := by unfold wrap64; unfold M at hlen; omega
    have ih : Ev (fun k => sennitref01_May.j2 k l (pre.length : Int) false) (mayB suf) := by
      refine Ev.step (fun k => by simp only [sennitref01_May.j2]; rw [if_neg (by decide)]) ?_
      rw [wrap_nat _ (by omega)]
      simpa using may_l0 l hf suf (pre ++ [s]) (by simp [e])
    have no : Ev (fun k => sennitref01_May.j2 k l (pre.length : Int) true) false := Ev.step (fun k => by simp only [sennitref01_May.j2]; rw [if_pos trivial]) (Ev.now _)
    have j1t : Ev (fun k => sennitref01_May.j1 k l (pre.length : Int) true) (mayB suf) := Ev.step (fun k => by simp only [sennitref01_May.j1]; rw [if_pos trivial]) ih
    have j1f : Ev (fun k => sennitref01_May.j1 k l (pre.length : Int) false) (lineB s && mayB suf) := by
      refine Ev.step (fun k => by simp only [sennitref01_May.j1]; rw [if_neg (by decide), if_pos (by omega), if_pos hlt, hrd]) ?_
      refine Ev.bind (line_ev s hs) ?_
      cases lineB s
      · exact no
      · exact ih
    simp only [mayB]
    by_cases hl : suf = []
    · subst hl
      have hi : (pre.length : Int) = wrap64 ((l.length : Int) - 1) := by rw [hw]; subst e; simp
      by_cases hz : 0 < s.size
      · refine Ev.step (fun k => by simp only [sennitref01_May.l0]; rw [if_pos hlt, if_pos hi, if_pos (by omega), hrd, if_pos (by omega)]) ?_
        refine Ev.bind (feeds_ev s hs) ?_
        by_cases hc : cnt s = 0
        · rw [show ((cnt s : Int) == 0) = true by simp [hc], show (lineB s || (List.isEmpty ([] : List ByteArray) && openB s)) = true by simp [openB, hz, hc]]
          simpa using j1t
        · rw [show ((cnt s : Int) == 0) = false by simp [hc], show (lineB s || (List.isEmpty ([] : List ByteArray) && openB s)) = lineB s by simp [openB, hc]]
          exact j1f
      · refine Ev.step (fun k => by simp only [sennitref01_May.l0]; rw [if_pos hlt, if_pos hi, if_pos (by omega), hrd, if_neg (by omega)]) ?_
        rw [show (lineB s || (List.isEmpty ([] : List ByteArray) && openB s)) = lineB s by simp [openB, hz]]
        exact j1f
    · have hi : ¬ (pre.length : Int) = wrap64 ((l.length : Int) - 1) := by
        rw [hw]
        subst e
        cases suf with
        | nil => exact absurd rfl hl
        | cons => simp; omega
      refine Ev.step (fun k => by simp only [sennitref01_May.l0]; rw [if_pos hlt, if_neg hi]) ?_
      rw [show (lineB s || (suf.isEmpty && openB s)) = lineB s by cases suf <;> simp_all]
      exact j1f
theorem may_ev (l : List ByteArray) (hf : Fine l) : Ev (fun k => sennitref01_May.f k l) (mayB l) := may_l0 l hf l [] rfl
end Go.Proofs.YtcnjbmdnnhbfkaaDoor.Plain
