import Derived.Test.YtcnjbmdnnhbfkaaGreatDoorXD4
import Derived.Test.YtcnjbmdnnhbfkaaGreatDoorLaw2
import Derived.Test.YtcnjbmdnnhbfkaaGreatDoorXD5
import Derived.Test.YtcnjbmdnnhbfkaaGreatDoorOpenP
/- The reference's small functions (GreatDoor): what they come to, in plain Lean. -/
namespace Go.Proofs.YtcnjbmdnnhbfkaaGreatDoor.Plain
open Go.RowKit Go.Proofs.YtcnjbmdnnhbfkaaGreatDoor.XD Go.Proofs.YtcnjbmdnnhbfkaaGreatDoor.Size Go.Proofs.YtcnjbmdnnhbfkaaGreatDoorW.PrintWords Go.Proofs.YtcnjbmdnnhbfkaaGreatDoorW.PrintMore
abbrev M : Nat := 9223372036854775807
theorem wrap_nat (i : Nat) (h : i + 1 ≤ M) : wrap64 ((i : Int) + 1) = ((i + 1 : Nat) : Int) := by
 unfold M at h
 unfold wrap64
 omega
theorem rdOf_mid (pre suf : List ByteArray) (s : ByteArray) : rdOf ByteArray.empty (pre ++ s :: suf) (pre.length : Int) = s := by simp [rdOf]
def Fine (l : List ByteArray) : Prop := l.length ≤ M ∧ ∀ s ∈ l, s.size ≤ M
theorem Ev.pos {α : Type} {c : Prop} [Decidable c] {f g : Nat → Option α} {r : α} (hc : c) (h : Ev f r) : Ev (fun k => if c then f k else g k) r := Ev.congr (fun _ => if_pos hc) h
theorem Ev.neg {α : Type} {c : Prop} [Decidable c] {f g : Nat → Option α} {r : α} (hc : ¬ c) (h : Ev g r) : Ev (fun k => if c then f k else g k) r := Ev.congr (fun _ => if_neg hc) h
theorem few1_l0 (a : Int) (l : List ByteArray) (hl : l.length ≤ M) : ∀ (suf pre : List ByteArray), l = pre ++ suf → (∀ s ∈ pre, s.size ≤ 100) →
  ∃ b, Ev (fun k => sennitref01_Few.l0 k l a (pre.length : Int)) b ∧ (b = true → (l.length : Int) ≤ a ∧ ∀ s ∈ l, s.size ≤ 100)
 | [], pre, e, hp => by
  subst e
  simp only [List.append_nil] at hl ⊢
  refine ⟨_, Ev.step (fun k => by simp only [sennitref01_Few.l0]; rw [if_neg (by simp)]) (Ev.step (fun k => by simp only [sennitref01_Few.j1]; rw [if_neg (by decide)]) (Ev.now _)), fun h => ⟨by simpa using h, hp⟩⟩
 | s :: suf, pre, e, hp => by
  have hlt : (pre.length : Int) < (l.length : Int) := by subst e; simp; omega
  have hrd : rdOf ByteArray.empty l (pre.length : Int) = s := by subst e; exact rdOf_mid pre suf s
  by_cases h1 : (pre.length : Int) ≤ a
  ·by_cases h2 : (s.size : Int) > 100
   ·refine ⟨false, Ev.step (fun k => by simp only [sennitref01_Few.l0]; rw [if_pos hlt]) (Ev.step (fun k => by simp only [sennitref01_Few.j1]; rw [if_pos (by simpa using h1), if_pos (by omega), if_pos hlt, hrd, if_pos h2]) (Ev.now _)), fun h => by cases h⟩
   ·obtain ⟨b, hb, hq⟩ := few1_l0 a l hl suf (pre ++ [s]) (by simp [e]) (fun x hx => by
     simp at hx
     rcases hx with hx | rfl
     ·exact hp x hx
     ·omega)
    refine ⟨b, Ev.step (fun k => by simp only [sennitref01_Few.l0]; rw [if_pos hlt]) (Ev.step (fun k => by simp only [sennitref01_Few.j1]; rw [if_pos (by simpa using h1), if_pos (by omega), if_pos hlt, hrd, if_neg h2]) ?_), hq⟩
    rw [wrap_nat _ (by omega)]
    simpa using hb
  ·refine ⟨false, Ev.step (fun k => by simp only [sennitref01_Few.l0]; rw [if_pos hlt]) (Ev.step (fun k => by simp only [sennitref01_Few.j1]; rw [if_neg (by simpa using h1)]) ?_), fun h => by cases h⟩
   have : decide ((l.length : Int) ≤ a) = false := by simp; omega
   rw [this]
   exact Ev.now _
theorem few1_ev (l : List ByteArray) (a : Int) (hl : l.length ≤ M) : ∃ b, Ev (fun k => sennitref01_Few.f k l a) b ∧ (b = true → (l.length : Int) ≤ a ∧ ∀ s ∈ l, s.size ≤ 100) := few1_l0 a l hl l [] rfl (by simp)
theorem lead_bt (s : ByteArray) (i : Nat) (h : i < s.size) (c : UInt8) : bt s (i : Int) = (c.toNat : Int) ↔ s[i] = c := by
 unfold bt
 simp only [Int.toNat_natCast, h, dif_pos]
 exact ⟨fun e => UInt8.toNat_inj.1 (by omega), fun e => by rw [e]⟩
theorem refrun_l0 (s : ByteArray) (c : UInt8) (h0 : 0 < s.size) (hc : s[0] = c) (hm : s.size ≤ M) : ∀ (d i : Nat), i + d = lead c s → Ev (fun k => sennitref11_Run.l0 k s (i : Int)) (lead c s : Int)
 | 0, i, h => by
  have hle := lead_le c s
  obtain rfl : i = lead c s := by omega
  by_cases hi : lead c s < s.size
  ·have hst := lead_stop c s hi
   refine Ev.step (fun k => by simp only [sennitref11_Run.l0]; rw [if_pos (by omega), if_pos (by omega), if_pos (by omega)]) ?_
   have hb : (bt s (lead c s : Int) == bt s 0) = false := by
    rw [beq_eq_false_iff_ne]
    intro e; have e0 := (lead_bt s 0 h0 c).2 hc; rw [show ((0 : Nat) : Int) = 0 from rfl] at e0; rw [e0] at e; exact hst ((lead_bt s _ hi c).1 e)
   rw [hb]
   exact Ev.step (fun k => by simp only [sennitref11_Run.j2]; rw [if_neg (by decide)]) (Ev.now _)
  ·refine Ev.step (fun k => by simp only [sennitref11_Run.l0]; rw [if_neg (by omega)]) ?_
   exact Ev.step (fun k => by simp only [sennitref11_Run.j2]; rw [if_neg (by decide)]) (Ev.now _)
 | d + 1, i, h => by
  have hle := lead_le c s
  have hi : i < s.size := by omega
  refine Ev.step (fun k => by simp only [sennitref11_Run.l0]; rw [if_pos (by omega), if_pos (by omega), if_pos (by omega)]) ?_
  have hb : (bt s (i : Int) == bt s 0) = true := by
   rw [beq_iff_eq]
   have e0 := (lead_bt s 0 h0 c).2 hc; rw [show ((0 : Nat) : Int) = 0 from rfl] at e0; rw [e0]; exact (lead_bt s _ hi c).2 (lead_at c s i (by omega) hi)
  rw [hb]
  refine Ev.step (fun k => by simp only [sennitref11_Run.j2]; rw [if_pos trivial]) ?_
  rw [wrap_nat _ (by omega)]
  exact refrun_l0 s c h0 hc hm d (i + 1) (by omega)
theorem bt_ten (s : ByteArray) (i : Nat) (h : i < s.size) : bt s (i : Int) = 10 ↔ s[i] = 10 := lead_bt s i h 10
theorem lead_pos (c : UInt8) (s : ByteArray) (h : 0 < s.size) (hc : s[0] = c) : 0 < lead c s := by
 have hle := lead_le c s
 by_cases h1 : 0 < lead c s
 ·exact h1
 ·have e : lead c s = 0 := by omega
  have := lead_stop c s (by omega)
  simp only [e] at this
  exact absurd hc this
theorem lead_zero (c : UInt8) (s : ByteArray) (h : 0 < s.size) (hc : s[0] ≠ c) : lead c s = 0 := by
 by_cases h1 : 0 < lead c s
 ·exact absurd (lead_at c s 0 h1 h) hc
 ·omega
def isSign (c : UInt8) : Bool := c == 60 || c == 124 || c == 61 || c == 62
theorem runN_sign (s : ByteArray) (h : 0 < s.size) : Size.runN s = if isSign s[0] then lead s[0] s else 0 := by
 by_cases h1 : s[0] = 60
 ·simp [Size.runN, isSign, h1, lead_pos 60 s h h1]
 by_cases h2 : s[0] = 124
 ·simp [Size.runN, isSign, h2, lead_zero 60 s h h1, lead_pos 124 s h h2]
 by_cases h3 : s[0] = 61
 ·simp [Size.runN, isSign, h3, lead_zero 60 s h h1, lead_zero 124 s h h2, lead_pos 61 s h h3]
 by_cases h4 : s[0] = 62
 ·simp [Size.runN, isSign, h4, lead_zero 60 s h h1, lead_zero 124 s h h2, lead_zero 61 s h h3]
 ·simp [Size.runN, isSign, h1, h2, h3, h4, lead_zero 60 s h h1, lead_zero 124 s h h2, lead_zero 61 s h h3, lead_zero 62 s h h4]
theorem runN_le (s : ByteArray) : Size.runN s ≤ s.size := by
 unfold Size.runN
 have h1 := lead_le 60 s; have h2 := lead_le 124 s; have h3 := lead_le 61 s; have h4 := lead_le 62 s
 repeat' split
 all_goals assumption
theorem sign_ev (c : UInt8) : sennitref11_sign.f (c.toNat : Int) = some (isSign c) := by
 unfold sennitref11_sign.f isSign
 have e : ∀ n : Nat, n < 256 → (((c.toNat : Int) = (n : Int)) ↔ c = UInt8.ofNat n) := fun n hn => by
  rw [← UInt8.toNat_inj]
  simp
  omega
 have e1 : (c.toNat : Int) = 60 ↔ c = 60 := e 60 (by omega)
 have e2 : (c.toNat : Int) = 124 ↔ c = 124 := e 124 (by omega)
 have e3 : (c.toNat : Int) = 61 ↔ c = 61 := e 61 (by omega)
 have e4 : (c.toNat : Int) = 62 ↔ c = 62 := e 62 (by omega)
 by_cases h1 : c = 60
 ·simp [h1]
 by_cases h2 : c = 124
 ·simp [h2]
 by_cases h3 : c = 61
 ·simp [h3]
 by_cases h4 : c = 62
 ·simp [h4]
 ·rw [if_neg (fun h => h1 (e1.1 h)), if_neg (fun h => h2 (e2.1 h)), if_neg (fun h => h3 (e3.1 h))]
  have : ((c.toNat : Int) == 62) = false := by rw [beq_eq_false_iff_ne]; exact fun h => h4 (e4.1 h)
  rw [this]
  simp [h1, h2, h3, h4]
theorem refrun_ev (s : ByteArray) (hm : s.size ≤ M) : Ev (fun k => sennitref11_Run.f k s) (Size.runN s : Int) := by
 by_cases h : 0 < s.size
 ·refine Ev.congr (fun k => by unfold sennitref11_Run.f; rw [if_neg (by omega), if_pos (by omega)]) ?_
  have e0 := (lead_bt s 0 h s[0]).2 rfl
  rw [show ((0 : Nat) : Int) = 0 from rfl] at e0
  rw [e0, sign_ev]
  simp only [Option.bind_some]
  rw [runN_sign s h]
  cases hs : isSign s[0] with
  | true =>
   refine Ev.step (fun k => by simp only [sennitref11_Run.j0]; rw [if_neg (by decide)]) ?_
   have hp := lead_pos s[0] s h rfl
   have := refrun_l0 s s[0] h rfl hm (lead s[0] s - 1) 1 (by omega)
   simpa using this
  | false =>
   refine Ev.step (fun k => by simp only [sennitref11_Run.j0]; rw [if_pos (by decide)]) ?_
   exact Ev.now _
 ·have h0 : s.size = 0 := by omega
  have hr : Size.runN s = 0 := by have := runN_le s; omega
  rw [hr]
  refine Ev.congr (fun k => by unfold sennitref11_Run.f; rw [if_pos (by omega)]) ?_
  refine Ev.step (fun k => by simp only [sennitref11_Run.j0]; rw [if_pos (by decide)]) ?_
  exact Ev.now _
/-! ### lines -/
def cnt (s : ByteArray) : Nat := s.data.toList.count 10
theorem drop_at (s : ByteArray) (i : Nat) (h : i < s.size) : s.data.toList.drop i = s[i] :: s.data.toList.drop (i + 1) := by
 have h2 : i < s.data.toList.length := by simpa using h
 rw [List.drop_eq_getElem_cons h2]
 simp
 rfl
theorem feeds_l0 (s : ByteArray) (hm : s.size ≤ M) : ∀ (d i n : Nat), i + d = s.size → n ≤ i → Ev (fun k => sennitref01_feeds.l0 k s (n : Int) (i : Int)) ((n + (s.data.toList.drop i).count 10 : Nat) : Int)
 | 0, i, n, h, hn => by
  refine Ev.step (fun k => by simp only [sennitref01_feeds.l0]; rw [if_neg (by omega)]) ?_
  have : s.data.toList.drop i = [] := List.drop_eq_nil_of_le (by have e : s.data.toList.length = s.size := rfl; omega)
  rw [this]
  simpa using Ev.now (n : Int)
 | d + 1, i, n, h, hn => by
  have hi : i < s.size := by omega
  rw [drop_at s i hi, List.count_cons]
  by_cases hb : s[i] = 10
  ·refine Ev.step (fun k => by simp only [sennitref01_feeds.l0]; rw [if_pos (by omega), if_pos (by omega), if_pos ((bt_ten s i hi).2 hb)]) ?_
   rw [wrap_nat n (by omega), wrap_nat i (by omega)]
   have := feeds_l0 s hm d (i + 1) (n + 1) (by omega) (by omega)
   simp only [hb, beq_self_eq_true, if_true]
   rw [show n + (List.count 10 (List.drop (i + 1) s.data.toList) + 1) = n + 1 + List.count 10 (List.drop (i + 1) s.data.toList) by omega]
   exact this
  ·refine Ev.step (fun k => by simp only [sennitref01_feeds.l0]; rw [if_pos (by omega), if_pos (by omega), if_neg (fun e => hb ((bt_ten s i hi).1 e))]) ?_
   rw [wrap_nat i (by omega)]
   have := feeds_l0 s hm d (i + 1) n (by omega) (by omega)
   rw [show (s[i] == 10) = false by simpa using hb]
   simpa using this
theorem feeds_ev (s : ByteArray) (hm : s.size ≤ M) : Ev (fun k => sennitref01_feeds.f k s) (cnt s : Int) := by
 have := feeds_l0 s hm s.size 0 0 (by omega) (by omega)
 simp only [Nat.zero_add, List.drop_zero] at this
 exact this
def lineB (s : ByteArray) : Bool := decide (cnt s = 1) && (bt s ((s.size : Int) - 1) == 10)
theorem cnt_le (s : ByteArray) : cnt s ≤ s.size := by
 exact List.count_le_length (a := (10 : UInt8)) (l := s.data.toList)
theorem line_ev (s : ByteArray) (hm : s.size ≤ M) : Ev (fun k => sennitref01_Line.f k s) (lineB s) := by
 refine Ev.bind (feeds_ev s hm) ?_
 have hw : wrap64 ((s.size : Int) - 1) = (s.size : Int) - 1 := by unfold wrap64; unfold M at hm; omega
 rw [hw]
 by_cases h : cnt s = 1
 ·have := cnt_le s
  refine Ev.pos (by omega) (Ev.pos (by omega) (Ev.pos (by omega) ?_))
  simp only [lineB, h, decide_true, Bool.true_and]
  exact Ev.now _
 ·refine Ev.neg (by omega) ?_
  simp only [lineB, h, decide_false, Bool.false_and]
  exact Ev.now _
def openB (s : ByteArray) : Bool := decide (0 < s.size) && decide (cnt s = 0)
def mayB : List ByteArray → Bool
 | [] => true
 | s :: l => (lineB s || (l.isEmpty && openB s)) && mayB l
theorem may_l0 (l : List ByteArray) (hf : Fine l) : ∀ (suf pre : List ByteArray), l = pre ++ suf → Ev (fun k => sennitref01_May.l0 k l (pre.length : Int)) (mayB suf)
 | [], pre, e => by
  refine Ev.step (fun k => by simp only [sennitref01_May.l0]; rw [if_neg (by subst e; simp)]) ?_
  exact Ev.now _
 | s :: suf, pre, e => by
  have hlen := hf.1
  have hlt : (pre.length : Int) < (l.length : Int) := by subst e; simp; omega
  have hrd : rdOf ByteArray.empty l (pre.length : Int) = s := by subst e; exact rdOf_mid pre suf s
  have hs : s.size ≤ M := hf.2 s (by subst e; simp)
  have hw : wrap64 ((l.length : Int) - 1) = (l.length : Int) - 1 := by unfold wrap64; unfold M at hlen; omega
  have ih : Ev (fun k => sennitref01_May.j2 k l (pre.length : Int) false) (mayB suf) := by
   refine Ev.step (fun k => by simp only [sennitref01_May.j2]; rw [if_neg (by decide)]) ?_
   rw [wrap_nat _ (by omega)]
   simpa using may_l0 l hf suf (pre ++ [s]) (by simp [e])
  have no : Ev (fun k => sennitref01_May.j2 k l (pre.length : Int) true) false := Ev.step (fun k => by simp only [sennitref01_May.j2]; rw [if_pos trivial]) (Ev.now _)
  have j1t : Ev (fun k => sennitref01_May.j1 k l (pre.length : Int) true) (mayB suf) := Ev.step (fun k => by simp only [sennitref01_May.j1]; rw [if_pos trivial]) ih
  have j1f : Ev (fun k => sennitref01_May.j1 k l (pre.length : Int) false) (lineB s && mayB suf) := by
   refine Ev.step (fun k => by simp only [sennitref01_May.j1]; rw [if_neg (by decide), if_pos (by omega), if_pos hlt, hrd]) ?_
   refine Ev.bind (line_ev s hs) ?_
   cases lineB s
   ·exact no
   ·exact ih
  simp only [mayB]
  by_cases hl : suf = []
  ·subst hl
   have hi : (pre.length : Int) = wrap64 ((l.length : Int) - 1) := by rw [hw]; subst e; simp
   by_cases hz : 0 < s.size
   ·refine Ev.step (fun k => by simp only [sennitref01_May.l0]; rw [if_pos hlt, if_pos hi, if_pos (by omega), hrd, if_pos (by omega)]) ?_
    refine Ev.bind (feeds_ev s hs) ?_
    by_cases hc : cnt s = 0
    ·rw [show ((cnt s : Int) == 0) = true by simp [hc], show (lineB s || (List.isEmpty ([] : List ByteArray) && openB s)) = true by simp [openB, hz, hc]]
     simpa using j1t
    ·rw [show ((cnt s : Int) == 0) = false by simp [hc], show (lineB s || (List.isEmpty ([] : List ByteArray) && openB s)) = lineB s by simp [openB, hc]]
     exact j1f
   ·refine Ev.step (fun k => by simp only [sennitref01_May.l0]; rw [if_pos hlt, if_pos hi, if_pos (by omega), hrd, if_neg (by omega)]) ?_
    rw [show (lineB s || (List.isEmpty ([] : List ByteArray) && openB s)) = lineB s by simp [openB, hz]]
    exact j1f
  ·have hi : ¬ (pre.length : Int) = wrap64 ((l.length : Int) - 1) := by
    rw [hw]
    subst e
    cases suf with
    | nil => exact absurd rfl hl
    | cons => simp; omega
   refine Ev.step (fun k => by simp only [sennitref01_May.l0]; rw [if_pos hlt, if_neg hi]) ?_
   rw [show (lineB s || (suf.isEmpty && openB s)) = lineB s by cases suf <;> simp_all]
   exact j1f
theorem may_ev (l : List ByteArray) (hf : Fine l) : Ev (fun k => sennitref01_May.f k l) (mayB l) := may_l0 l hf l [] rfl
end Go.Proofs.YtcnjbmdnnhbfkaaGreatDoor.Plain
/- Few, Lists, May, Open, Form of the reference (GreatDoor), in plain Lean. -/
namespace Go.Proofs.YtcnjbmdnnhbfkaaGreatDoor.Plain
open Go.RowKit Go.Proofs.YtcnjbmdnnhbfkaaGreatDoor.XD Go.Proofs.YtcnjbmdnnhbfkaaGreatDoor.Size Go.Proofs.YtcnjbmdnnhbfkaaGreatDoor.Mark Go.Proofs.YtcnjbmdnnhbfkaaGreatDoor.Ref Go.Proofs.YtcnjbmdnnhbfkaaGreatDoorW.PrintWords Go.Proofs.YtcnjbmdnnhbfkaaGreatDoorW.PrintMore
/-! ### Few -/
def FewS (l : List ByteArray) (n : Nat) : Prop := l.length ≤ n ∧ ∀ s ∈ l, s.size ≤ 100
theorem rd_mid (pre suf : List (List ByteArray)) (t : List ByteArray) : rd_L2 (pre ++ t :: suf) (pre.length : Int) = t := by simp [rd_L2]
theorem rdT_mid (pre suf : List S36) (t : S36) : rd_T36 (pre ++ t :: suf) (pre.length : Int) = t := by simp [rd_T36]
theorem fews_ev (l : List ByteArray) (hl : l.length ≤ M) : ∃ b, Ev (fun k => sennitref01_Few.f k l 20) b ∧ (b = true → FewS l 20) := by
 obtain ⟨b, hb, hq⟩ := few1_ev l 20 hl
 exact ⟨b, hb, fun h => ⟨by have := (hq h).1; omega, (hq h).2⟩⟩
theorem few6_l0 (base : List ByteArray) (parts : List (List ByteArray)) (hb : base.length ≤ M) (hp : parts.length ≤ M) (ht : ∀ t ∈ parts, t.length ≤ M) : ∀ (suf pre : List (List ByteArray)), parts = pre ++ suf → (∀ t ∈ pre, FewS t 20) →
  ∃ b, Ev (fun k => sennitref06_Few.l0 k base parts (pre.length : Int)) b ∧ (b = true → FewS base 20 ∧ parts.length ≤ 6 ∧ ∀ t ∈ parts, FewS t 20)
 | [], pre, e, hpre => by
  subst e
  simp only [List.append_nil] at hp ht ⊢
  obtain ⟨b, hb1, hq⟩ := fews_ev base hb
  cases b with
  | false =>
   refine ⟨false, ?_, fun h => by cases h⟩
   refine Ev.step (fun k => by simp only [sennitref06_Few.l0]; rw [if_neg (by simp)]) ?_
   refine Ev.step (fun k => by simp only [sennitref06_Few.j1]; rw [if_neg (by decide)]) ?_
   exact Ev.bind hb1 (Ev.neg (by decide) (Ev.now _))
  | true => exact ⟨_, Ev.step (fun k => by simp only [sennitref06_Few.l0]; rw [if_neg (by simp)]) (Ev.step (fun k => by simp only [sennitref06_Few.j1]; rw [if_neg (by decide)]) (Ev.bind hb1 (Ev.pos rfl (Ev.now _)))), fun h => ⟨hq rfl, by have := of_decide_eq_true h; omega, hpre⟩⟩
 | t :: suf, pre, e, hpre => by
  have hlt : (pre.length : Int) < (parts.length : Int) := by subst e; simp; omega
  have hrd : rd_L2 parts (pre.length : Int) = t := by subst e; exact rd_mid pre suf t
  by_cases h7 : (pre.length : Int) < 7
  ·obtain ⟨b, hb1, hq⟩ := fews_ev t (ht t (by subst e; simp))
   cases b with
   | false =>
    refine ⟨false, ?_, fun h => by cases h⟩
    refine Ev.step (fun k => by simp only [sennitref06_Few.l0]; rw [if_pos hlt]) ?_
    refine Ev.step (fun k => by simp only [sennitref06_Few.j1]; rw [if_pos (by simpa using h7), if_pos (by omega), if_pos hlt, hrd]) ?_
    exact Ev.bind hb1 (Ev.neg (by decide) (Ev.now _))
   | true =>
    obtain ⟨b2, hb2, hq2⟩ := few6_l0 base parts hb hp ht suf (pre ++ [t]) (by simp [e]) (fun x hx => by
     simp at hx
     rcases hx with hx | rfl
     ·exact hpre x hx
     ·exact hq rfl)
    refine ⟨b2, Ev.step (fun k => by simp only [sennitref06_Few.l0]; rw [if_pos hlt]) (Ev.step (fun k => by simp only [sennitref06_Few.j1]; rw [if_pos (by simpa using h7), if_pos (by omega), if_pos hlt, hrd]) (Ev.bind hb1 (Ev.pos rfl ?_))), hq2⟩
    rw [wrap_nat _ (by omega)]
    simpa using hb2
  ·obtain ⟨b, hb1, -⟩ := fews_ev base hb
   have hd : decide ((parts.length : Int) ≤ 6) = false := by simp; omega
   refine ⟨false, Ev.step (fun k => by simp only [sennitref06_Few.l0]; rw [if_pos hlt]) (Ev.step (fun k => by simp only [sennitref06_Few.j1]; rw [if_neg (by simpa using h7)]) (Ev.bind hb1 ?_)), fun h => by cases h⟩
   cases b with
   | false => exact Ev.neg (by decide) (Ev.now _)
   | true => rw [hd]; exact Ev.pos rfl (Ev.now _)
theorem few6_ev (base : List ByteArray) (parts : List (List ByteArray)) (hb : base.length ≤ M) (hp : parts.length ≤ M) (ht : ∀ t ∈ parts, t.length ≤ M) : ∃ b, Ev (fun k => sennitref06_Few.f k base parts) b ∧ (b = true → FewS base 20 ∧ parts.length ≤ 6 ∧ ∀ t ∈ parts, FewS t 20) := few6_l0 base parts hb hp ht parts [] rfl (by simp)
def LenP (p : Mark.Piece) : Prop := p.f1.length ≤ M ∧ p.f2.length ≤ M ∧ p.f3.length ≤ M ∧ ∀ t ∈ p.f3, t.length ≤ M
def FewP (p : Mark.Piece) : Prop := FewS p.f1 20 ∧ FewS p.f2 20 ∧ p.f3.length ≤ 6 ∧ ∀ t ∈ p.f3, FewS t 20
theorem few7_l0 (l : List Mark.Piece) (hl : l.length ≤ M) (hp : ∀ p ∈ l, LenP p) : ∀ (suf pre : List Mark.Piece), l = pre ++ suf → (∀ p ∈ pre, FewP p) →
  ∃ b, Ev (fun k => sennitref07_Few.l0 k l (pre.length : Int)) b ∧ (b = true → l.length ≤ 12 ∧ ∀ p ∈ l, FewP p)
 | [], pre, e, hpre => by
  subst e
  simp only [List.append_nil] at hl hp ⊢
  exact ⟨_, Ev.step (fun k => by simp only [sennitref07_Few.l0]; rw [if_neg (by simp)]) (Ev.step (fun k => by simp only [sennitref07_Few.j1]; rw [if_neg (by decide)]) (Ev.now _)), fun h => ⟨by have := of_decide_eq_true h; omega, hpre⟩⟩
 | p :: suf, pre, e, hpre => by
  have hlt : (pre.length : Int) < (l.length : Int) := by subst e; simp; omega
  have hrd : rd_T36 l (pre.length : Int) = p := by subst e; exact rdT_mid pre suf p
  obtain ⟨l1, l2, l3, l4⟩ := hp p (by subst e; simp)
  by_cases h13 : (pre.length : Int) < 13
  ·have st : ∀ r, Ev (fun k => (sennitref01_Few.f k p.f1 20).bind fun t141 => (if t141 = true then ((sennitref06_Few.f k p.f2 p.f3).bind fun t144 => (sennitref07_Few.j2 k l (pre.length : Int) (!t144))) else (sennitref07_Few.j2 k l (pre.length : Int) true))) r → Ev (fun k => sennitref07_Few.l0 k l (pre.length : Int)) r := fun r hr =>
    Ev.step (fun k => by simp only [sennitref07_Few.l0]; rw [if_pos hlt]) (Ev.step (fun k => by simp only [sennitref07_Few.j1]; rw [if_pos (by simpa using h13), if_pos (by omega), if_pos hlt, hrd]) hr)
   have no : Ev (fun k => sennitref07_Few.j2 k l (pre.length : Int) true) false := Ev.step (fun k => by simp only [sennitref07_Few.j2]; rw [if_pos trivial]) (Ev.now _)
   obtain ⟨b, hb1, hq⟩ := fews_ev p.f1 l1
   cases b with
   | false => exact ⟨false, st _ (Ev.bind hb1 (Ev.neg (by decide) no)), fun h => by cases h⟩
   | true =>
    obtain ⟨b2, hb2, hq2⟩ := few6_ev p.f2 p.f3 l2 l3 l4
    cases b2 with
    | false => exact ⟨false, st _ (Ev.bind hb1 (Ev.pos rfl (Ev.bind hb2 no))), fun h => by cases h⟩
    | true =>
     obtain ⟨b3, hb3, hq3⟩ := few7_l0 l hl hp suf (pre ++ [p]) (by simp [e]) (fun x hx => by
      simp at hx
      rcases hx with hx | rfl
      ·exact hpre x hx
      ·exact ⟨hq rfl, hq2 rfl⟩)
     refine ⟨b3, st _ (Ev.bind hb1 (Ev.pos rfl (Ev.bind hb2 (Ev.step (fun k => by simp only [sennitref07_Few.j2]; rw [if_neg (by decide)]) ?_)))), hq3⟩
     rw [wrap_nat _ (by omega)]
     simpa using hb3
  ·have hd : decide ((l.length : Int) ≤ 12) = false := by simp; omega
   refine ⟨false, Ev.step (fun k => by simp only [sennitref07_Few.l0]; rw [if_pos hlt]) (Ev.step (fun k => by simp only [sennitref07_Few.j1]; rw [if_neg (by simpa using h13)]) ?_), fun h => by cases h⟩
   rw [hd]; exact Ev.now _
theorem few7_ev (l : List Mark.Piece) (hl : l.length ≤ M) (hp : ∀ p ∈ l, LenP p) : ∃ b, Ev (fun k => sennitref07_Few.f k l) b ∧ (b = true → l.length ≤ 12 ∧ ∀ p ∈ l, FewP p) := few7_l0 l hl hp l [] rfl (by simp)
def Okay (l : List Mark.Piece) : Prop := (l.length ≤ 20000 ∧ tot l ≤ 20000) ∧ ∀ p ∈ l, ∀ t ∈ textsL p, ∀ s ∈ t, s.size ≤ 1000000
theorem flat_few {l : List (List ByteArray)} (h : ∀ t ∈ l, FewS t 20) : l.flatten.length ≤ 20 * l.length := by
 induction l with
 | nil => simp
 | cons x l ih =>
  have h1 := ih (fun t ht => h t (by simp [ht]))
  have h2 := (h x (by simp)).1
  simp only [List.flatten_cons, List.length_append, List.length_cons]
  omega
theorem few_sz {p : Mark.Piece} (h : FewP p) : szP p ≤ 166 := by
 have := flat_few h.2.2.2
 have h1 := h.1.1; have h2 := h.2.1.1; have h3 := h.2.2.1
 simp only [szP]
 omega
theorem few_tot {l : List Mark.Piece} (h : ∀ p ∈ l, FewP p) : tot l ≤ 166 * l.length := by
 induction l with
 | nil => simp [tot]
 | cons p l ih =>
  have h1 := ih (fun q hq => h q (by simp [hq]))
  have h2 := few_sz (h p (by simp))
  simp only [tot, List.map_cons, List.sum_cons, List.length_cons] at h1 ⊢
  omega
theorem few_texts {l : List Mark.Piece} (h : ∀ p ∈ l, FewP p) : ∀ p ∈ l, ∀ t ∈ textsL p, ∀ s ∈ t, s.size ≤ 100 := fun p hp => Law.texts_ok.2 ⟨(h p hp).1.2, (h p hp).2.1.2, fun t ht => ((h p hp).2.2.2 t ht).2⟩
theorem few_okay {l : List Mark.Piece} (hl : l.length ≤ 12) (h : ∀ p ∈ l, FewP p) : Okay l ∧ Okay (zeal l) := by
 have h1 := few_tot h
 have h2 := zeal_tot l
 have h3 := zeal_len l
 refine ⟨⟨⟨by omega, by omega⟩, fun p hp t ht s hs => ?_⟩, ⟨⟨by omega, by omega⟩, fun p hp t ht s hs => ?_⟩⟩
 ·have := few_texts h p hp t ht s hs; omega
 ·have := Law.zeal_all (few_texts h) p hp t ht s hs; omega
/-! ### Lists -/
theorem lists_l0 (l : List Mark.Piece) (hl : l.length ≤ 20000) (ht : tot l ≤ 20000) : ∀ (suf pre : List Mark.Piece), l = pre ++ suf → Ev (fun k => sennitref12_Lists.l0 k l (lists pre) (pre.length : Int)) (lists l)
 | [], pre, e => by
  subst e
  simp only [List.append_nil]
  exact Ev.step (fun k => by simp only [sennitref12_Lists.l0]; rw [if_neg (by simp)]) (Ev.now _)
 | p :: suf, pre, e => by
  have hlt : (pre.length : Int) < (l.length : Int) := by subst e; simp; omega
  have hrd : rd_T36 l (pre.length : Int) = p := by subst e; exact rdT_mid pre suf p
  have hb := lists_len l
  have hsum : (lists pre).length + (textsL p).length ≤ (lists l).length := by
   subst e
   simp only [lists, List.flatMap_append, List.flatMap_cons, List.length_append]
   omega
  have h2 : (textsL p).length = 2 + p.f3.length := by simp [textsL]; omega
  have ih := lists_l0 l hl ht suf (pre ++ [p]) (by simp [e])
  refine Ev.step (fun k => by simp only [sennitref12_Lists.l0]; rw [if_pos hlt, if_pos (by omega), if_pos (by omega), hrd]) ?_
  refine Ev.bind (a := lists pre ++ [p.f1]) ⟨0, fun _ _ => rfl⟩ (Ev.pos (by simp; omega) (Ev.bind (a := lists pre ++ [p.f1] ++ [p.f2]) ⟨0, fun _ _ => rfl⟩ (Ev.pos (by simp; omega) ?_)))
  rw [wrap_nat _ (by unfold M; omega)]
  have e2 : lists pre ++ [p.f1] ++ [p.f2] ++ p.f3 = lists (pre ++ [p]) := by simp [lists, textsL]
  rw [e2]
  simpa using ih
theorem lists_ev (l : List Mark.Piece) (hl : l.length ≤ 20000) (ht : tot l ≤ 20000) : Ev (fun k => sennitref12_Lists.f k l) (lists l) := lists_l0 l hl ht l [] rfl
#print axioms few7_ev
#print axioms lists_ev
end Go.Proofs.YtcnjbmdnnhbfkaaGreatDoor.Plain
/- Form, Fits, wrong, May of the reference (GreatDoor), in plain Lean. -/
namespace Go.Proofs.YtcnjbmdnnhbfkaaGreatDoor.Plain
open Go.RowKit Go.Proofs.YtcnjbmdnnhbfkaaGreatDoor.XD Go.Proofs.YtcnjbmdnnhbfkaaGreatDoor.Size Go.Proofs.YtcnjbmdnnhbfkaaGreatDoor.Mark Go.Proofs.YtcnjbmdnnhbfkaaGreatDoor.Ref Go.Proofs.YtcnjbmdnnhbfkaaGreatDoorW.PrintWords Go.Proofs.YtcnjbmdnnhbfkaaGreatDoorW.PrintMore
/-! ### may, open -/
theorem indexByte_none (a : List UInt8) (h : (10 : UInt8) ∉ a) : Lib.indexByte a 10 = -1 := by
 induction a with
 | nil => rfl
 | cons b a ih =>
  simp only [List.mem_cons, not_or] at h
  rw [Lib.indexByte, ih h.2]
  have : (b == 10) = false := by simpa using fun e => h.1 e.symm
  simp [this]
theorem indexByte_mid (a b : List UInt8) (h : (10 : UInt8) ∉ a) : Lib.indexByte (a ++ 10 :: b) 10 = a.length := by
 induction a with
 | nil => rfl
 | cons x a ih =>
  simp only [List.mem_cons, not_or] at h
  rw [List.cons_append, Lib.indexByte, ih h.2]
  have : (x == 10) = false := by simpa using fun e => h.1 e.symm
  rw [this]
  have h2 : ((a.length : Int) == -1) = false := by rw [beq_eq_false_iff_ne]; omega
  simp [h2]
theorem split_ten (l : List UInt8) (h : (10 : UInt8) ∈ l) : ∃ a b, l = a ++ 10 :: b ∧ (10 : UInt8) ∉ a := by
 induction l with
 | nil => cases h
 | cons x l ih =>
  by_cases hx : x = 10
  ·exact ⟨[], l, by rw [hx]; rfl, by simp⟩
  ·obtain ⟨a, b, e, hn⟩ := ih ((List.mem_cons.1 h).resolve_left (fun e => hx e.symm))
   refine ⟨x :: a, b, by rw [e]; rfl, ?_⟩
   rw [List.mem_cons, not_or]
   exact ⟨fun e => hx e.symm, hn⟩
theorem last_bt (s : ByteArray) (h : 0 < s.size) : bt s ((s.size : Int) - 1) = 10 ↔ s.data.toList.getLast? = some 10 := by
 have hl : s.data.toList.length = s.size := rfl
 have e := bt_ten s (s.size - 1) (by omega)
 rw [show ((s.size - 1 : Nat) : Int) = (s.size : Int) - 1 by omega] at e
 rw [e, List.getLast?_eq_getElem?, hl, List.getElem?_eq_getElem (by omega), Option.some.injEq]
 exact Iff.rfl
theorem mayAt_eq (s : ByteArray) (last : Bool) : mayAt s last = (lineB s || (last && openB s)) := by
 have hl : s.data.toList.length = s.size := rfl
 unfold mayAt ix lineB openB
 by_cases h : (10 : UInt8) ∈ s.data.toList
 ·obtain ⟨a, b, e, hn⟩ := split_ten _ h
  have hc : cnt s = 1 + b.count 10 := by rw [cnt, e, List.count_append, List.count_eq_zero.2 hn, List.count_cons]; simp; omega
  have hi : Lib.indexByte s.data.toList 10 = a.length := by rw [e]; exact indexByte_mid a b hn
  have hz : s.size = a.length + 1 + b.length := by rw [← hl, e]; simp; omega
  rw [hi, if_neg (by omega), show decide (cnt s = 0) = false by simp; omega, Bool.and_false, Bool.and_false, Bool.or_false]
  have hlast := last_bt s (by omega)
  rw [Bool.eq_iff_iff, decide_eq_true_eq, Bool.and_eq_true, decide_eq_true_eq, beq_iff_eq, hlast, e]
  cases hb : b with
  | nil => subst hb; simp at hc hz ⊢; omega
  | cons y b' =>
   rw [← hb]
   have hbl : 0 < b.length := by rw [hb]; simp
   constructor
   ·intro h1; omega
   ·rintro ⟨h1, h2⟩
    exfalso
    rw [show a ++ 10 :: b = (a ++ [10]) ++ b by simp, List.getLast?_append] at h2
    have h3 : (10 : UInt8) ∈ b := by
     cases hz2 : b.getLast? with
     | none => rw [List.getLast?_eq_none_iff] at hz2; rw [hz2] at hbl; simp at hbl
     | some z =>
      rw [hz2, Option.some_or] at h2
      injection h2 with h2
      rw [← h2]
      exact List.mem_of_getLast? hz2
    have := List.count_pos_iff.2 h3
    omega
 ·have hc : cnt s = 0 := List.count_eq_zero.2 h
  rw [indexByte_none _ h, if_pos (by omega), hc]
  simp [Bool.and_comm]
theorem mayL_cons (s : ByteArray) (l : List ByteArray) : mayL (s :: l) = (mayAt s l.isEmpty && mayL l) := by
 unfold mayL
 rw [List.length_cons, List.range_succ_eq_map, List.all_cons, List.all_map]
 congr 1
 ·cases l with
  | nil => rfl
  | cons x l => simp
 ·refine List.all_congr rfl fun j => ?_
  simp
theorem mayL_eq (l : List ByteArray) : mayL l = mayB l := by
 induction l with
 | nil => rfl
 | cons s l ih => rw [mayL_cons, mayB, mayAt_eq, ih]
theorem openS_eq (s : ByteArray) : openS s = !decide (s.data.toList.getLast? = some 10) := by
 unfold openS Lib.hasSuffix
 congr 1
 rw [Bool.eq_iff_iff, List.isSuffixOf_iff_suffix, decide_eq_true_eq]
 constructor
 ·rintro ⟨t, e⟩; rw [← e]; simp
 ·intro h
  obtain ⟨a, e⟩ := List.getLast?_eq_some_iff.1 h
  exact ⟨a, e.symm⟩
theorem open_ev (l : List ByteArray) (hl : l.length ≤ M) (hs : ∀ s ∈ l, s.size ≤ M) : sennitref01_Open.f l = some (openL l) := by
 unfold sennitref01_Open.f openL
 by_cases h0 : l.length = 0
 ·rw [if_pos (by omega), decide_eq_false (by omega), Bool.false_and]
 ·obtain ⟨a, s, rfl⟩ : ∃ a s, l = a ++ [s] := ⟨l.dropLast, l.getLast (by intro e; rw [e] at h0; simp at h0), (List.dropLast_concat_getLast _).symm⟩
  have hw : wrap64 (((a ++ [s]).length : Int) - 1) = (a.length : Int) := by unfold wrap64; unfold M at hl; simp at hl ⊢; omega
  have hrd : rdOf ByteArray.empty (a ++ [s]) (a.length : Int) = s := rdOf_mid a [] s
  have hss : s.size ≤ M := hs s (by simp)
  have hws : wrap64 ((s.size : Int) - 1) = (s.size : Int) - 1 ∨ s.size = 0 := by unfold wrap64; unfold M at hss; omega
  have hlast : lastS (a ++ [s]) = s := by simp [lastS]
  rw [hlast, openS_eq, decide_eq_true (by omega), Bool.true_and]
  simp only [hw, hrd]
  rw [if_neg (by omega), if_pos (by omega), if_pos (by simp; omega)]
  by_cases hz : s.size = 0
  ·rw [if_pos (by omega)]
   have : s.data.toList = [] := List.length_eq_zero_iff.1 hz
   rw [this]; rfl
  ·have hws : wrap64 ((s.size : Int) - 1) = (s.size : Int) - 1 := hws.resolve_right hz
   simp only [hws]
   rw [if_neg (by omega), if_pos (by omega), if_pos (by omega)]
   have := last_bt s (by omega)
   congr 1
   by_cases hb : bt s ((s.size : Int) - 1) = 10
   ·rw [hb, decide_eq_true (this.1 hb)]; rfl
   ·rw [decide_eq_false (fun e => hb (this.2 e)), bne, beq_eq_false_iff_ne.2 hb]
/-! ### Form -/
theorem okay_len {l : List Mark.Piece} (h : Okay l) : ∀ p ∈ l, ∀ t ∈ textsL p, Fine t := by
 intro p hp t ht
 have h1 := tot_mem hp
 refine ⟨?_, fun s hs => by have := h.2 p hp t ht s hs; unfold M; omega⟩
 have h2 := h.1.2
 have : t.length ≤ szP p := by
  simp only [textsL, List.mem_append, List.mem_cons, List.not_mem_nil, or_false] at ht
  simp only [szP]
  rcases ht with (rfl | rfl) | ht
  ·omega
  ·omega
  ·have := mem_flat_le ht; omega
 unfold M; omega
theorem form_l1 (l : List Mark.Piece) (h : Okay l) : ∀ (d i : Nat), i + d = l.length → ∃ b, Ev (fun k => sennitref12_Form.l1 k l (i : Int)) b ∧ (b = true ↔ ∀ (j : Nat) p, i ≤ j → j + 1 < l.length → l[j]? = some p → openL p.f1 = false)
 | 0, i, hd => by
  have hl := h.1.1
  exact ⟨true, Ev.step (fun k => by simp only [sennitref12_Form.l1]; rw [wrap_nat _ (by unfold M; omega), if_neg (by omega)]) (Ev.now _), ⟨fun _ j p h1 h2 _ => by omega, fun _ => rfl⟩⟩
 | d + 1, i, hd => by
  have hl := h.1.1
  by_cases h1 : i + 1 < l.length
  ·have hx : l[i]? = some l[i] := List.getElem?_eq_getElem (by omega)
   have hf := okay_len h _ (List.getElem_mem (show i < l.length by omega)) l[i].f1 (by simp [textsL])
   have hrd : rd_T36 l (i : Int) = l[i] := by simp [rd_T36, List.getD_eq_getElem?_getD, show i < l.length by omega]
   obtain ⟨b, hb, hq⟩ := form_l1 l h d (i + 1) (by omega)
   generalize l[i] = p at hx hf hrd
   cases ho : openL p.f1 with
   | true =>
    refine ⟨false, Ev.step (fun k => by simp only [sennitref12_Form.l1]; rw [wrap_nat _ (by unfold M; omega), if_pos (by omega), if_pos (by omega), if_pos (by omega), hrd, open_ev _ hf.1 hf.2, ho]) (Ev.bind (a := true) ⟨0, fun _ _ => rfl⟩ (Ev.pos rfl (Ev.now _))), ⟨fun e => (by cases e), fun hh => ?_⟩⟩
    have := hh i p (Nat.le_refl _) h1 hx
    rw [ho] at this
    exact this.symm
   | false =>
    refine ⟨b, ?_, hq.trans ⟨fun hh j q h2 h3 h4 => ?_, fun hh j q h2 h3 h4 => hh j q (by omega) h3 h4⟩⟩
    ·refine Ev.step (fun k => by simp only [sennitref12_Form.l1]; rw [wrap_nat _ (by unfold M; omega), if_pos (by omega), if_pos (by omega), if_pos (by omega), hrd, open_ev _ hf.1 hf.2, ho]) ?_
     exact Ev.bind (a := false) ⟨0, fun _ _ => rfl⟩ (Ev.neg (by decide) hb)
    rcases Nat.eq_or_lt_of_le h2 with rfl | h2
    ·rw [hx] at h4
     injection h4 with h4
     rw [← h4]; exact ho
    ·exact hh j q h2 h3 h4
  ·exact ⟨true, Ev.step (fun k => by simp only [sennitref12_Form.l1]; rw [wrap_nat _ (by unfold M; omega), if_neg (by omega)]) (Ev.now _), ⟨fun _ j p h2 h3 _ => by omega, fun _ => rfl⟩⟩
theorem form_l0 (l : List Mark.Piece) (ls : List (List ByteArray)) (hls : ls.length ≤ M) (hf : ∀ t ∈ ls, Fine t) (R : Bool) (hR : Ev (fun k => sennitref12_Form.l1 k l 0) R) : ∀ (suf pre : List (List ByteArray)), ls = pre ++ suf →
  Ev (fun k => sennitref12_Form.l0 k l ls (pre.length : Int)) (suf.all mayB && R)
 | [], pre, e => by
  subst e
  rw [List.all_nil, Bool.true_and]
  exact Ev.step (fun k => by simp only [sennitref12_Form.l0]; rw [if_neg (by simp)]) hR
 | t :: suf, pre, e => by
  have hlt : (pre.length : Int) < (ls.length : Int) := by subst e; simp; omega
  have hrd : rd_L2 ls (pre.length : Int) = t := by subst e; exact rd_mid pre suf t
  have ih := form_l0 l ls hls hf R hR suf (pre ++ [t]) (by simp [e])
  rw [List.all_cons]
  refine Ev.step (fun k => by simp only [sennitref12_Form.l0]; rw [if_pos hlt, if_pos (by omega), hrd]) (Ev.bind (may_ev t (hf t (by subst e; simp))) ?_)
  cases mayB t with
  | false => rw [Bool.false_and, Bool.false_and]; exact Ev.neg (by decide) (Ev.now _)
  | true =>
   rw [Bool.true_and]
   refine Ev.pos rfl ?_
   rw [wrap_nat _ (by omega)]
   simpa using ih
theorem odd_iff (l : List Mark.Piece) : oddB l = false ↔ norm l = l ∧ (∀ t ∈ lists l, mayL t = true) ∧ ∀ (j : Nat) p, j + 1 < l.length → l[j]? = some p → openL p.f1 = false := by
 rw [oddB, Bool.or_eq_false_iff, Bool.not_eq_false', Law.samesB_iff, badTo, List.any_eq_false]
 refine and_congr ⟨fun e => e.symm, fun e => e.symm⟩ ?_
 constructor
 ·intro h
  have h2 : ∀ (j : Nat) p, l[j]? = some p → (∀ t ∈ textsL p, mayL t = true) ∧ (j + 1 < l.length → openL p.f1 = false) := by
   intro j p hp
   have hj := (List.getElem?_eq_some_iff.1 hp).1
   have := h j (List.mem_range.2 hj)
   rw [List.getD_eq_getElem?_getD, hp] at this
   simp only [Option.getD_some, badAt, Bool.or_eq_true, not_or, List.any_eq_true, not_exists, not_and, Bool.not_eq_true', Bool.and_eq_true, decide_eq_true_eq, Bool.not_eq_true, Bool.not_eq_false] at this
   exact ⟨this.1, this.2⟩
  refine ⟨fun t ht => ?_, fun j p hj hp => (h2 j p hp).2 hj⟩
  rw [lists, List.mem_flatMap] at ht
  obtain ⟨p, hp, ht⟩ := ht
  obtain ⟨j, hj, e⟩ := List.mem_iff_getElem.1 hp
  exact (h2 j p (by rw [List.getElem?_eq_getElem hj, e])).1 t ht
 ·rintro ⟨h1, h2⟩ j hj
  rw [List.mem_range] at hj
  have hp : l[j]? = some l[j] := List.getElem?_eq_getElem hj
  rw [List.getD_eq_getElem?_getD, hp]
  simp only [Option.getD_some, badAt, Bool.or_eq_true, not_or, List.any_eq_true, not_exists, not_and, Bool.not_eq_true', Bool.and_eq_true, decide_eq_true_eq, Bool.not_eq_true, Bool.not_eq_false]
  exact ⟨fun t ht => h1 t (by rw [lists, List.mem_flatMap]; exact ⟨_, List.getElem_mem hj, ht⟩), fun h3 => h2 j _ h3 hp⟩
theorem form_ev (l : List Mark.Piece) (h : Okay l) : Ev (fun k => sennitref12_Form.f k l) (!oddB l) := by
 have hn : sennitref07_Normal.f l = some (norm l) := by
  unfold sennitref07_Normal.f
  rw [if_pos ⟨by have := h.1.1; omega, by have := wt_le_tot l; have := h.1.2; omega⟩]
 have step : ∀ r, Ev (fun k => if eqBy sameB l (norm l) = true then ((sennitref12_Lists.f k l).bind fun t168 => (sennitref12_Form.l0 k l t168 0)) else (some false)) r → Ev (fun k => sennitref12_Form.f k l) r := fun r hr => Ev.congr (fun k => by unfold sennitref12_Form.f; rw [hn]; rfl) hr
 refine step _ ?_
 by_cases hs : eqBy sameB l (norm l) = true
 ·refine Ev.pos hs (Ev.bind (lists_ev l h.1.1 h.1.2) ?_)
  obtain ⟨R, hR, hq⟩ := form_l1 l h l.length 0 (by omega)
  have := form_l0 l (lists l) (by have := lists_len l; have := h.1.1; have := h.1.2; unfold M; omega) (fun t ht => by
   rw [lists, List.mem_flatMap] at ht
   obtain ⟨p, hp, ht⟩ := ht
   exact okay_len h p hp t ht) R hR (lists l) [] rfl
  have e : (!oddB l) = ((lists l).all mayB && R) := by
   rw [Bool.eq_iff_iff, Bool.not_eq_true', odd_iff, Bool.and_eq_true, List.all_eq_true, hq]
   constructor
   ·rintro ⟨_, h2, h3⟩; exact ⟨fun t ht => by rw [← mayL_eq]; exact h2 t ht, fun j p _ hj hp => h3 j p hj hp⟩
   ·rintro ⟨h2, h3⟩; exact ⟨((Law.samesB_iff _ _).1 hs).symm, fun t ht => by rw [mayL_eq]; exact h2 t ht, fun j p hj hp => h3 j p (Nat.zero_le _) hj hp⟩
  rw [e]
  exact this
 ·have e : (!oddB l) = false := by
   have hs2 : eqBy sameB l (norm l) = false := by simpa using hs
   rw [oddB, hs2]
   simp
  rw [e]
  exact Ev.neg hs (Ev.now _)
#print axioms form_ev
/-! ### Fits, wrong, May -/
theorem fits_l (n : Int) (ls : List (List ByteArray)) (hls : ls.length ≤ M) (hf : ∀ t ∈ ls, Fine t) : ∀ (suf pre : List (List ByteArray)), ls = pre ++ suf →
  (∃ b, Ev (fun k => sennitref11_Fits.l0 k n ls (pre.length : Int)) b ∧ (b = true ↔ 1 ≤ n ∧ ∀ t ∈ suf, ∀ s ∈ t, (Size.runN s : Int) < n))
 | [], pre, e => by
  subst e
  refine ⟨decide (n ≥ 1), ?_, by simp⟩
  exact Ev.step (fun k => by simp only [sennitref11_Fits.l0]; rw [if_neg (by simp)]) (Ev.now _)
 | t :: suf, pre, e => by
  have hlt : (pre.length : Int) < (ls.length : Int) := by subst e; simp; omega
  have hrd : rd_L2 ls (pre.length : Int) = t := by subst e; exact rd_mid pre suf t
  have hft := hf t (by subst e; simp)
  obtain ⟨b, hb, hq⟩ := fits_l n ls hls hf suf (pre ++ [t]) (by simp [e])
  have inner : ∀ (ss ps : List ByteArray), t = ps ++ ss → ∃ b, Ev (fun k => sennitref11_Fits.l1 k n ls (pre.length : Int) (ps.length : Int)) b ∧ (b = true ↔ (1 ≤ n ∧ ∀ t ∈ suf, ∀ s ∈ t, (Size.runN s : Int) < n) ∧ ∀ s ∈ ss, (Size.runN s : Int) < n) := by
   intro ss
   induction ss with
   | nil =>
    intro ps es
    refine ⟨b, ?_, by rw [hq]; simp⟩
    refine Ev.step (fun k => by simp only [sennitref11_Fits.l1]; rw [if_pos (by omega), if_pos hlt, hrd, if_neg (by subst es; simp), wrap_nat _ (by omega)]) ?_
    simpa using hb
   | cons s ss ih =>
    intro ps es
    have hl2 : (ps.length : Int) < (t.length : Int) := by subst es; simp; omega
    have hr2 : rdOf ByteArray.empty t (ps.length : Int) = s := by subst es; exact rdOf_mid ps ss s
    have hss := hft.2 s (by subst es; simp)
    have hlm := hft.1
    by_cases h : (Size.runN s : Int) ≥ n
    ·refine ⟨false, ?_, ⟨fun e => (by cases e), fun hh => by have := hh.2 s (by simp); omega⟩⟩
     refine Ev.step (fun k => by simp only [sennitref11_Fits.l1]; rw [if_pos (by omega), if_pos hlt, hrd, if_pos hl2, if_pos (by omega), hr2]) ?_
     exact Ev.bind (refrun_ev s hss) (Ev.pos h (Ev.now _))
    ·obtain ⟨b2, hb2, hq2⟩ := ih (ps ++ [s]) (by simp [es])
     refine ⟨b2, ?_, hq2.trans ⟨fun hh => ⟨hh.1, fun x hx => ?_⟩, fun hh => ⟨hh.1, fun x hx => hh.2 x (by simp [hx])⟩⟩⟩
     ·refine Ev.step (fun k => by simp only [sennitref11_Fits.l1]; rw [if_pos (by omega), if_pos hlt, hrd, if_pos hl2, if_pos (by omega), hr2]) ?_
      refine Ev.bind (refrun_ev s hss) (Ev.neg h ?_)
      rw [wrap_nat _ (by omega)]
      simpa using hb2
     ·rcases List.mem_cons.1 hx with rfl | hx
      ·omega
      ·exact hh.2 x hx
  obtain ⟨b2, hb2, hq2⟩ := inner t [] rfl
  have hb2 : Ev (fun k => sennitref11_Fits.l1 k n ls (pre.length : Int) 0) b2 := hb2
  refine ⟨b2, Ev.step (fun k => by simp only [sennitref11_Fits.l0]; rw [if_pos hlt]) hb2, hq2.trans ⟨fun hh => ⟨hh.1.1, fun x hx => ?_⟩, fun hh => ⟨⟨hh.1, fun x hx => hh.2 x (by simp [hx])⟩, hh.2 t (by simp)⟩⟩⟩
  rcases List.mem_cons.1 hx with rfl | hx
  ·exact hh.2
  ·exact hh.1.2 x hx
theorem fits_ev (n : Int) (ls : List (List ByteArray)) (hls : ls.length ≤ M) (hf : ∀ t ∈ ls, Fine t) : Ev (fun k => sennitref11_Fits.f k n ls) (fitsB n ls) := by
 obtain ⟨b, hb, hq⟩ := fits_l n ls hls hf ls [] rfl
 have e : b = fitsB n ls := by
  rw [Bool.eq_iff_iff, hq, Law.fits_iff]
  refine and_congr_right fun _ => ⟨fun h s hs => ?_, fun h t ht s hs => h s (List.mem_flatten.2 ⟨t, ht, hs⟩)⟩
  obtain ⟨t, ht, hst⟩ := List.mem_flatten.1 hs
  exact h t ht s hst
 rw [← e]
 exact hb
theorem wrong_l0 (l : List Mark.Piece) (st lg : Int) (h : Okay l) (hz : st = 3 → Okay (zeal l)) (h1 : 1 ≤ st) (h2 : st ≤ 3) (h3 : 1 ≤ lg) (h4 : lg ≤ 4096) : ∀ (suf pre : List Mark.Piece), l = pre ++ suf → pre.any crowd = false →
  Ev (fun k => sennitref12_wrong.l0 k l st lg (pre.length : Int)) (wrongN l (smallOf l st) st lg)
 | [], pre, e, hp => by
  have hc : l.any crowd = false := by rw [e, List.append_nil]; exact hp
  have hw : wrongN l (smallOf l st) st lg = if (oddB l || oddB (smallOf l st)) = true then 2 else if fitsB lg (lists l) = true then 0 else 6 := by
   unfold wrongN
   rw [if_neg]
   simp only [not_or]
   exact ⟨by omega, by omega, by omega, by omega, by rw [hc]; decide⟩
  have end3 : Ev (fun k => sennitref12_wrong.j3 k l lg false) (if fitsB lg (lists l) = true then 0 else 6) := by
   refine Ev.step (fun k => by simp only [sennitref12_wrong.j3]; rw [if_neg (by decide)]) ?_
   refine Ev.bind (lists_ev l h.1.1 h.1.2) (Ev.bind (fits_ev lg (lists l) (by have := lists_len l; have := h.1.1; have := h.1.2; unfold M; omega) (fun t ht => by
    rw [lists, List.mem_flatMap] at ht
    obtain ⟨p, hp, ht⟩ := ht
    exact okay_len h p hp t ht)) ?_)
   cases fitsB lg (lists l) with
   | true => exact Ev.pos rfl (Ev.now _)
   | false => exact Ev.neg (by decide) (Ev.now _)
  have bad3 : Ev (fun k => sennitref12_wrong.j3 k l lg true) 2 := Ev.step (fun k => by simp only [sennitref12_wrong.j3]; rw [if_pos trivial]) (Ev.now _)
  rw [hw]
  refine Ev.step (fun k => by simp only [sennitref12_wrong.l0]; rw [if_neg (by rw [e]; simp)]) ?_
  refine Ev.bind (form_ev l h) ?_
  cases ho : oddB l with
  | true => exact Ev.neg (by decide) bad3
  | false =>
   refine Ev.pos rfl ?_
   by_cases h5 : st = 3
   ·refine Ev.pos h5 (Ev.bind (a := zeal l) ⟨0, fun _ _ => ?_⟩ (Ev.bind (form_ev (zeal l) (hz h5)) ?_))
    ·unfold sennitref10_Zeal.f
     rw [if_pos ⟨by have := h.1.1; omega, by have := h.1.2; omega⟩]
    ·rw [smallOf, if_pos h5, Bool.not_not]
     cases oddB (zeal l) with
     | true => exact bad3
     | false => exact end3
   ·refine Ev.neg h5 ?_
    rw [smallOf, if_neg h5, ho]
    exact end3
 | p :: suf, pre, e, hp => by
  have hll := h.1.1
  have hlt : (pre.length : Int) < (l.length : Int) := by subst e; simp; omega
  have hrd : rd_T36 l (pre.length : Int) = p := by subst e; exact rdT_mid pre suf p
  have bad : crowd p = true → Ev (fun k => sennitref12_wrong.j2 k l st lg (pre.length : Int) true) (wrongN l (smallOf l st) st lg) := fun hc => by
   have hw : wrongN l (smallOf l st) st lg = 1 := by
    unfold wrongN
    rw [if_pos]
    refine .inr (.inr (.inr (.inr ?_)))
    rw [List.any_eq_true]
    exact ⟨p, by rw [e]; simp, hc⟩
   rw [hw]
   exact Ev.step (fun k => by simp only [sennitref12_wrong.j2]; rw [if_pos trivial]) (Ev.now _)
  have good : crowd p = false → Ev (fun k => sennitref12_wrong.j2 k l st lg (pre.length : Int) false) (wrongN l (smallOf l st) st lg) := fun hc => by
   have ih := wrong_l0 l st lg h hz h1 h2 h3 h4 suf (pre ++ [p]) (by simp [e]) (by rw [List.any_append, hp]; simp [hc])
   refine Ev.step (fun k => by simp only [sennitref12_wrong.j2]; rw [if_neg (by decide), wrap_nat _ (by unfold M; omega)]) ?_
   simpa using ih
  refine Ev.step (fun k => by simp only [sennitref12_wrong.l0]; rw [if_pos hlt, if_pos (by omega), hrd]) ?_
  cases hf : p.f0 with
  | false => exact Ev.neg (by decide) (good (by rw [crowd, hf, Bool.false_and]))
  | true =>
   refine Ev.pos rfl ?_
   by_cases h0 : p.f3.length = 0
   ·exact Ev.pos (by omega) (bad (by rw [crowd, hf, Bool.true_and, decide_eq_true (by omega), Bool.true_or]))
   ·refine Ev.neg (by omega) ?_
    by_cases h16 : (p.f3.length : Int) > 16
    ·rw [decide_eq_true h16]
     exact bad (by rw [crowd, hf, Bool.true_and, decide_eq_true (p := 16 < p.f3.length) (by omega), Bool.or_true])
    ·rw [decide_eq_false h16]
     exact good (by rw [crowd, hf, Bool.true_and, decide_eq_false (p := p.f3.length < 1) (by omega), decide_eq_false (p := 16 < p.f3.length) (by omega)]; rfl)
theorem wrong_ev (l : List Mark.Piece) (st lg : Int) (h : Okay l) (hz : st = 3 → Okay (zeal l)) : Ev (fun k => sennitref12_wrong.f k l st lg) (wrongN l (smallOf l st) st lg) := by
 have bad : (st < 1 ∨ 3 < st ∨ lg < 1 ∨ 4096 < lg) → Ev (fun k => sennitref12_wrong.j0 k l st lg true) (wrongN l (smallOf l st) st lg) := fun hc => by
  have hw : wrongN l (smallOf l st) st lg = 1 := by
   unfold wrongN
   rw [if_pos]
   rcases hc with hc | hc | hc | hc
   ·exact .inl hc
   ·exact .inr (.inl hc)
   ·exact .inr (.inr (.inl hc))
   ·exact .inr (.inr (.inr (.inl hc)))
  rw [hw]
  exact Ev.step (fun k => by simp only [sennitref12_wrong.j0]; rw [if_pos trivial]) (Ev.now _)
 by_cases h1 : st < 1
 ·exact Ev.pos h1 (bad (.inl h1))
 ·refine Ev.neg h1 ?_
  by_cases h2 : st > 3
  ·exact Ev.pos h2 (bad (.inr (.inl h2)))
  ·refine Ev.neg h2 ?_
   by_cases h3 : lg < 1
   ·exact Ev.pos h3 (bad (.inr (.inr (.inl h3))))
   ·refine Ev.neg h3 ?_
    by_cases h4 : lg > 4096
    ·rw [decide_eq_true h4]
     exact bad (.inr (.inr (.inr h4)))
    ·rw [decide_eq_false h4]
     refine Ev.step (fun k => by simp only [sennitref12_wrong.j0]; rw [if_neg (by decide)]) ?_
     exact wrong_l0 l st lg h hz (by omega) (by omega) (by omega) (by omega) l [] rfl rfl
theorem may12_ev (l : List Mark.Piece) (st lg : Int) (hl : l.length ≤ M) (hp : ∀ p ∈ l, LenP p) : ∃ b, Ev (fun k => sennitref12_May.f k l st lg) b ∧ (b = true → (l.length ≤ 12 ∧ ∀ p ∈ l, FewP p) ∧ lg ≤ 40 ∧ wrongN l (smallOf l st) st lg = 0) := by
 obtain ⟨b, hb, hq⟩ := few7_ev l hl hp
 cases b with
 | false => exact ⟨false, Ev.bind hb (Ev.neg (by decide) (Ev.now _)), fun h => by cases h⟩
 | true =>
  obtain ⟨f1, f2⟩ := hq rfl
  obtain ⟨o1, o2⟩ := few_okay f1 f2
  by_cases h40 : lg ≤ 40
  ·refine ⟨wrongN l (smallOf l st) st lg == 0, Ev.bind hb (Ev.pos rfl (Ev.pos h40 (Ev.bind (wrong_ev l st lg o1 (fun _ => o2)) (Ev.now _)))), fun h => ⟨⟨f1, f2⟩, h40, by simpa using h⟩⟩
  ·refine ⟨false, Ev.bind hb (Ev.pos rfl (Ev.neg h40 (Ev.now _))), fun h => by cases h⟩
theorem print_f (l : List Mark.Piece) (st lg : Int) (h : Okay l) : mark_Print.f l st lg = some (printL l st lg) := by
 exact if_pos h
theorem len_in {l : List Mark.Piece} (h : ∀ p ∈ l, InP p) : ∀ p ∈ l, LenP p := fun p hp => ⟨(h p hp).1.1, (h p hp).2.1.1, (h p hp).2.2.1, fun t ht => ((h p hp).2.2.2 t ht).1⟩
theorem print_ev (l : List Mark.Piece) (st lg : Int) (h : Okay l) : Ev (fun _ => mark_Print.f l st lg) (printL l st lg) := ⟨0, fun _ _ => print_f l st lg h⟩
theorem zeal_ev (l : List Mark.Piece) (h : Okay l) : Ev (fun _ => sennitref10_Zeal.f l) (zeal l) := ⟨0, fun _ _ => by
 unfold sennitref10_Zeal.f
 rw [if_pos ⟨by have := h.1.1; omega, by have := h.1.2; omega⟩]⟩
#print axioms may12_ev
end Go.Proofs.YtcnjbmdnnhbfkaaGreatDoor.Plain
