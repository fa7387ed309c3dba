/- What sennitref13.Parse tells is what the program's reader tells: the reference's small functions, in plain Lean. -/
import Derived.Test.YtcnjbmdnnhbfkaaDoorPureRef
import Derived.Test.YtcnjbmdnnhbfkaaDoorR13C
namespace Go.Proofs.YtcnjbmdnnhbfkaaDoor.Plain
open Go.RowKit Go.Proofs.YtcnjbmdnnhbfkaaDoor.XQ Go.Proofs.YtcnjbmdnnhbfkaaDoor.Size Go.Proofs.YtcnjbmdnnhbfkaaDoor.Unmark Go.Proofs.YtcnjbmdnnhbfkaaDoor.Ref13 Go.Proofs.YtcnjbmdnnhbfkaaDoorW.PrintWords Go.Proofs.YtcnjbmdnnhbfkaaDoorW.PrintMore
theorem indexByte_none (a : List UInt8) (h : (10 : UInt8) ∉ a) : Lib.indexByte a 10 = -1 := by
  induction a with
  | nil => rfl
  | cons b a ih =>
    simp only [List.mem_cons, not_or] at h
    rw [Lib.indexByte, ih h.2]
    have : (b == 10) = false := by simpa using fun e => h.1 e.symm
    simp [this]
theorem indexByte_end (a : List UInt8) (h : (10 : UInt8) ∉ a) : Lib.indexByte (a ++ [10]) 10 = a.length := by
  induction a with
  | nil => rfl
  | cons b a ih =>
    simp only [List.mem_cons, not_or] at h
    rw [List.cons_append, Lib.indexByte, ih h.2]
    have : (b == 10) = false := by simpa using fun e => h.1 e.symm
    rw [this]
    simp
theorem suffix_end (a : List UInt8) : Lib.hasSuffix (a ++ [10]) [10] = true := by
  unfold Lib.hasSuffix
  rw [List.isSuffixOf_iff_suffix]
  exact ⟨a, rfl⟩
theorem suffix_none (a : List UInt8) (h : (10 : UInt8) ∉ a) : Lib.hasSuffix a [10] = false := by
  unfold Lib.hasSuffix
  rw [Bool.eq_false_iff]
  intro e
  rw [List.isSuffixOf_iff_suffix] at e
  obtain ⟨t, rfl⟩ := e
  exact h (by simp)
def Ended (s : ByteArray) : Prop := ∃ a : List UInt8, s.data.toList = a ++ [10] ∧ (10 : UInt8) ∉ a
theorem Ended.may {s : ByteArray} (h : Ended s) : oneMay s = true ∧ oneOpen s = false := by
  obtain ⟨a, e, hn⟩ := h
  have hl : s.size = a.length + 1 := by have z : s.data.toList.length = s.size := rfl; rw [← z, e]; simp
  unfold oneMay oneOpen
  rw [e, indexByte_end a hn, suffix_end]
  rw [if_neg (by omega)]
  simp
  omega
theorem openB_may {s : ByteArray} (h : openB s = true) : oneMay s = true ∧ oneOpen s = true := by
  unfold openB at h
  simp only [Bool.and_eq_true, decide_eq_true_eq] at h
  have hn : (10 : UInt8) ∉ s.data.toList := List.count_eq_zero.1 h.2
  unfold oneMay oneOpen
  rw [indexByte_none _ hn, suffix_none _ hn, if_pos (by decide)]
  simpa using h.1
theorem lineB_ended {s : ByteArray} (h : lineB s = true) : Ended s := by
  unfold lineB at h
  simp only [Bool.and_eq_true, decide_eq_true_eq, beq_iff_eq] at h
  obtain ⟨h1, h2⟩ := h
  have hc := cnt_le s
  have hs : 0 < s.size := by omega
  have h3 : s[s.size - 1] = 10 := by
    refine (bt_ten s (s.size - 1) (by omega)).1 ?_
    rw [show ((s.size - 1 : Nat) : Int) = (s.size : Int) - 1 by omega]
    exact h2
  have hz : s.data.toList.length = s.size := rfl
  have hd : s.data.toList = s.data.toList.take (s.size - 1) ++ [10] := by
    conv => lhs; rw [← List.take_append_drop (s.size - 1) s.data.toList]
    rw [drop_at s (s.size - 1) (by omega), h3, List.drop_eq_nil_of_le (by omega)]
  refine ⟨s.data.toList.take (s.size - 1), hd, ?_⟩
  rw [cnt, hd, List.count_append] at h1
  simp at h1
  simpa using List.count_eq_zero.1 (by simpa using h1)
theorem rep_list (c : UInt8) (n : Nat) : (repB ⟨#[c]⟩ n).data.toList = List.replicate n c := by
  show Lib.repeatL [c] n = _
  induction n with
  | zero => rfl
  | succ n ih => rw [Lib.repeatL, ih]; rfl
theorem rep_succ (c : UInt8) (n : Nat) : repB ⟨#[c]⟩ n ++ ⟨#[c]⟩ = repB ⟨#[c]⟩ (n + 1) := by
  apply ByteArray.ext
  apply Array.ext'
  rw [ByteArray.data_append, Array.toList_append, rep_list, rep_list, List.replicate_succ']
def FL (l : List ByteArray) : Prop := l.length ≤ 100000 ∧ ∀ s ∈ l, s.size ≤ 1000000
def mk (K : Int) (s : ByteArray) : Bool := decide ((Size.runN s : Int) ≥ K)
theorem mk_ev (l : List ByteArray) (K i st wr : Int) (s : ByteArray) (h : s.size ≤ 1000000) : Ev (fun k => sennitref13_mark.f k l K i st wr s) (mk K s) :=
  Ev.bind (refrun_ev s (by unfold M; omega)) (Ev.now _)
theorem rd_mid (pre suf : List ByteArray) (s : ByteArray) (l : List ByteArray) (e : l = pre ++ s :: suf) : rdOf ByteArray.empty l (pre.length : Int) = s := by subst e; exact rdOf_mid pre suf s
theorem getD_mid (pre suf : List ByteArray) (s : ByteArray) (l : List ByteArray) (e : l = pre ++ s :: suf) : l.getD pre.length ByteArray.empty = s := by subst e; simp
/-! ### part -/
def stopN (K : Int) : List ByteArray → Nat
  | [] => 0
  | s :: t => if lineB s && !mk K s then stopN K t + 1 else 0
theorem stopN_le (K : Int) : ∀ l, stopN K l ≤ l.length
  | [] => Nat.le_refl _
  | s :: t => by
    unfold stopN
    have := stopN_le K t
    split <;> simp <;> omega
abbrev PRes := List ByteArray × Int × Int × Int × Int × List ByteArray
def partR (K : Int) (l : List ByteArray) (st wr : Int) (a e : Nat) : PRes :=
  if e = l.length ∨ lineB (l.getD e ByteArray.empty) = false then (l, K, (e : Int), st, (e : Int) + 1, []) else (l, K, (e : Int), st, wr, (l.take e).drop a)
theorem part_stop (K : Int) (l : List ByteArray) (hl : FL l) (st wr : Int) (a : Nat) (suf pre : List ByteArray) (e : l = pre ++ suf) (ha : a ≤ pre.length) : Ev (fun k => sennitref13_part.j1 k (a : Int) false l K (pre.length : Int) st wr) (partR K l st wr a pre.length) := by
  have hle : pre.length ≤ l.length := by subst e; simp
  have hm := hl.1
  have bad : Ev (fun k => sennitref13_part.j2 k ((l.take pre.length).drop a) true l K (pre.length : Int) st wr) (l, K, (pre.length : Int), st, (pre.length : Int) + 1, []) := by
    refine Ev.step (fun k => by simp only [sennitref13_part.j2]; rw [if_pos trivial]) ?_
    refine Ev.bind (a := (l, K, (pre.length : Int), st, (pre.length : Int) + 1)) ⟨0, fun _ _ => by unfold sennitref13_bad.f; rw [wrap_nat _ (by unfold M; omega)]; rfl⟩ (Ev.now _)
  refine Ev.step (fun k => by simp only [sennitref13_part.j1]; rw [if_neg (by decide), if_pos (by omega), if_pos (by omega), if_pos (by omega)]) ?_
  refine Ev.bind (Ev.now _) ?_
  simp only [Int.toNat_natCast]
  by_cases h1 : pre.length = l.length
  · rw [partR, if_pos (.inl h1)]
    exact Ev.pos (by omega) bad
  · refine Ev.neg (by omega) (Ev.pos (by omega) (Ev.pos (by omega) ?_))
    cases suf with
    | nil => subst e; simp at h1
    | cons s t =>
      rw [rd_mid pre t s l e]
      have hs : s.size ≤ M := by have := hl.2 s (by subst e; simp); unfold M; omega
      refine Ev.bind (line_ev s hs) ?_
      rw [partR, getD_mid pre t s l e]
      cases hb : lineB s
      · rw [if_pos (.inr rfl)]
        exact bad
      · rw [if_neg (by simp [h1])]
        exact Ev.step (fun k => by simp only [sennitref13_part.j2]; rw [if_neg (by decide)]) (Ev.now _)
theorem part_l0 (K : Int) (l : List ByteArray) (hl : FL l) (st wr : Int) (a : Nat) : ∀ (suf pre : List ByteArray), l = pre ++ suf → a ≤ pre.length → Ev (fun k => sennitref13_part.l0 k (a : Int) l K (pre.length : Int) st wr) (partR K l st wr a (pre.length + stopN K suf))
  | [], pre, e, ha => by
    refine Ev.step (fun k => by simp only [sennitref13_part.l0]; rw [if_neg (by subst e; simp)]) ?_
    exact part_stop K l hl st wr a [] pre e ha
  | s :: t, pre, e, ha => by
    have hlt : (pre.length : Int) < (l.length : Int) := by subst e; simp; omega
    have hs : s.size ≤ 1000000 := hl.2 s (by subst e; simp)
    have hm := hl.1
    refine Ev.step (fun k => by simp only [sennitref13_part.l0]; rw [if_pos hlt, if_pos (by omega), rd_mid pre t s l e]) ?_
    refine Ev.bind (line_ev s (by unfold M; omega)) ?_
    have st0 := part_stop K l hl st wr a (s :: t) pre e ha
    cases hb : lineB s
    · rw [stopN, hb, Bool.false_and, if_neg (by decide)]
      exact Ev.neg (by decide) st0
    · refine Ev.pos rfl (Ev.bind (mk_ev l K _ st wr s hs) ?_)
      rw [stopN, hb, Bool.true_and]
      cases hk : mk K s
      · rw [Bool.not_false, if_pos rfl]
        refine Ev.step (fun k => by simp only [sennitref13_part.j1]; rw [if_pos trivial]) ?_
        rw [wrap_nat _ (by unfold M; omega), show pre.length + (stopN K t + 1) = (pre ++ [s]).length + stopN K t by simp; omega]
        have := part_l0 K l hl st wr a t (pre ++ [s]) (by simp [e]) (by simp; omega)
        simpa using this
      · rw [Bool.not_true, if_neg (by decide)]
        exact st0
theorem part_ev (K : Int) (l : List ByteArray) (hl : FL l) (st wr : Int) (suf pre : List ByteArray) (e : l = pre ++ suf) : Ev (fun k => sennitref13_part.f k l K (pre.length : Int) st wr) (partR K l st wr pre.length (pre.length + stopN K suf)) := part_l0 K l hl st wr pre.length suf pre e (Nat.le_refl _)
/-! ### outside -/
def outN (K : Int) : List ByteArray → Nat × Bool
  | [] => (0, false)
  | s :: t => if mk K s then (0, false) else if (t.isEmpty && openB s) || lineB s then ((outN K t).1 + 1, (outN K t).2) else (0, true)
theorem outN_le (K : Int) : ∀ l, (outN K l).1 ≤ l.length
  | [] => Nat.le_refl _
  | s :: t => by
    unfold outN
    have := outN_le K t
    split
    · exact Nat.zero_le _
    · split
      · simp; omega
      · exact Nat.zero_le _
def outR (K : Int) (l : List ByteArray) (st wr : Int) (a e : Nat) (bad : Bool) : PRes :=
  if bad = true then (l, K, (e : Int), st, (e : Int) + 1, []) else (l, K, (e : Int), st, wr, (l.take e).drop a)
theorem out_l0 (K : Int) (l : List ByteArray) (hl : FL l) (st wr : Int) (a : Nat) : ∀ (suf pre : List ByteArray), l = pre ++ suf → a ≤ pre.length → Ev (fun k => sennitref13_outside.l0 k (a : Int) l K (pre.length : Int) st wr) (outR K l st wr a (pre.length + (outN K suf).1) (outN K suf).2)
  | [], pre, e, ha => by
    have hle : pre.length = l.length := by subst e; simp
    refine Ev.step (fun k => by simp only [sennitref13_outside.l0]; rw [if_neg (by omega)]) ?_
    refine Ev.step (fun k => by simp only [sennitref13_outside.j1]; rw [if_neg (by decide), if_pos (by omega), if_pos (by omega), if_pos (by omega)]) ?_
    exact Ev.now _
  | s :: t, pre, e, ha => by
    have hlt : (pre.length : Int) < (l.length : Int) := by subst e; simp; omega
    have hs : s.size ≤ 1000000 := hl.2 s (by subst e; simp)
    have hm := hl.1
    have hw : wrap64 ((l.length : Int) - 1) = (l.length : Int) - 1 := by unfold wrap64; omega
    refine Ev.step (fun k => by simp only [sennitref13_outside.l0]; rw [if_pos hlt, if_pos (by omega), rd_mid pre t s l e]) ?_
    refine Ev.bind (mk_ev l K _ st wr s hs) ?_
    rw [outN]
    cases hk : mk K s
    · rw [if_neg (by decide), Bool.not_false]
      -- what follows the test of the line
      have go : Ev (fun k => sennitref13_outside.j3 k (a : Int) false l K (pre.length : Int) st wr) (outR K l st wr a (pre.length + ((outN K t).1 + 1)) (outN K t).2) := by
        refine Ev.step (fun k => by simp only [sennitref13_outside.j3]; rw [if_neg (by decide)]) ?_
        rw [wrap_nat _ (by unfold M; omega), show pre.length + ((outN K t).1 + 1) = (pre ++ [s]).length + (outN K t).1 by simp; omega]
        have := out_l0 K l hl st wr a t (pre ++ [s]) (by simp [e]) (by simp; omega)
        simpa using this
      have no : Ev (fun k => sennitref13_outside.j3 k (a : Int) true l K (pre.length : Int) st wr) (outR K l st wr a (pre.length + 0) true) := by
        refine Ev.step (fun k => by simp only [sennitref13_outside.j3]; rw [if_pos trivial]) ?_
        refine Ev.bind (a := (l, K, (pre.length : Int), st, (pre.length : Int) + 1)) ⟨0, fun _ _ => by unfold sennitref13_bad.f; rw [wrap_nat _ (by unfold M; omega)]; rfl⟩ (Ev.now _)
      have j2f : Ev (fun k => sennitref13_outside.j2 k (a : Int) false l K (pre.length : Int) st wr) (if lineB s = true then outR K l st wr a (pre.length + ((outN K t).1 + 1)) (outN K t).2 else outR K l st wr a (pre.length + 0) true) := by
        refine Ev.step (fun k => by simp only [sennitref13_outside.j2]; rw [if_neg (by decide), if_pos (by omega), if_pos hlt, rd_mid pre t s l e]) ?_
        refine Ev.bind (line_ev s (by unfold M; omega)) ?_
        cases lineB s
        · exact no
        · exact go
      cases t with
      | nil =>
        have hlast : (pre.length : Int) = (l.length : Int) - 1 := by subst e; simp
        refine Ev.step (fun k => by simp only [sennitref13_outside.j1]; rw [if_pos trivial, hw, if_pos hlast, if_pos (by omega), if_pos (by omega)]) ?_
        rw [Int.toNat_natCast, show l.drop pre.length = [s] by subst e; simp]
        refine Ev.bind (may_ev [s] ⟨by simp [M], fun x hx => by obtain rfl := List.mem_singleton.1 hx; unfold M; omega⟩) ?_
        rw [show mayB [s] = (lineB s || openB s) by simp [mayB]]
        cases ho : openB s
        · rw [Bool.or_false, List.isEmpty_nil, Bool.true_and, Bool.false_or]
          cases hb : lineB s
          · rw [hb] at j2f; exact j2f
          · exact Ev.step (fun k => by simp only [sennitref13_outside.j2]; rw [if_pos trivial]) go
        · rw [Bool.or_true, List.isEmpty_nil, Bool.true_and, Bool.true_or, if_pos rfl]
          exact Ev.step (fun k => by simp only [sennitref13_outside.j2]; rw [if_pos trivial]) go
      | cons s2 t2 =>
        have hlast : ¬ (pre.length : Int) = (l.length : Int) - 1 := by subst e; simp; omega
        refine Ev.step (fun k => by simp only [sennitref13_outside.j1]; rw [if_pos trivial, hw, if_neg hlast]) ?_
        rw [List.isEmpty_cons, Bool.false_and, Bool.false_or]
        by_cases hb : lineB s = true
        · rw [if_pos hb] at j2f ⊢; exact j2f
        · rw [if_neg hb] at j2f ⊢; exact j2f
    · rw [if_pos rfl, Bool.not_true]
      refine Ev.step (fun k => by simp only [sennitref13_outside.j1]; rw [if_neg (by decide), if_pos (by omega), if_pos (by omega), if_pos (by omega)]) ?_
      exact Ev.now _
theorem out_ev (K : Int) (l : List ByteArray) (hl : FL l) (st wr : Int) (suf pre : List ByteArray) (e : l = pre ++ suf) : Ev (fun k => sennitref13_outside.f k l K (pre.length : Int) st wr) (outR K l st wr pre.length (pre.length + (outN K suf).1) (outN K suf).2) := out_l0 K l hl st wr pre.length suf pre e (Nat.le_refl _)
/-! ### marks -/
theorem app_empty (b : ByteArray) : b ++ ⟨#[]⟩ = b := ByteArray.ext (by rw [ByteArray.data_append]; simp)
theorem mark_gen (c : UInt8) (L : Nat) (hL : L ≤ 4096) (more : List ByteArray) (m label : ByteArray) (hlab : label.size ≤ 1000) (ho : ∃ b, sennitref01_Open.f more = some b ∧ m = if b = true then bang else ⟨#[]⟩) : ∀ (d i : Nat), i + d = L → Ev (fun k => sennitref12_Mark.l0 k ⟨#[c]⟩ (L : Int) more label (repB ⟨#[c]⟩ i) (i : Int)) (mkM ⟨#[c]⟩ L m label)
  | 0, i, h => by
    obtain rfl : i = L := by omega
    obtain ⟨b, hb, rfl⟩ := ho
    have hs := repB_size c i
    have h33 : (⟨#[33]⟩ : ByteArray).size = 1 := rfl
    refine Ev.step (fun k => by simp only [sennitref12_Mark.l0]; rw [if_neg (by omega)]) ?_
    refine Ev.bind (a := b) ⟨0, fun _ _ => hb⟩ ?_
    cases b
    · refine Ev.neg (by decide) (Ev.pos (by rw [hs]; omega) (Ev.pos (by rw [ByteArray.size_append, hs]; omega) ?_))
      rw [mkM, if_neg (by decide), app_empty]
      exact Ev.now _
    · refine Ev.pos rfl (Ev.pos (by rw [hs]; omega) (Ev.pos (by rw [ByteArray.size_append, hs, h33]; omega) (Ev.pos (by rw [ByteArray.size_append, ByteArray.size_append, hs, h33]; omega) ?_)))
      exact Ev.now _
  | d + 1, i, h => by
    have hs := repB_size c i
    have h1 : (⟨#[c]⟩ : ByteArray).size = 1 := rfl
    refine Ev.step (fun k => by simp only [sennitref12_Mark.l0]; rw [if_pos (by omega), if_pos (by rw [hs, h1]; omega), rep_succ]) ?_
    rw [wrap_nat i (by unfold M; omega)]
    exact mark_gen c L hL more m label hlab ho d (i + 1) (by omega)
def fitC (s : ByteArray) (L : Nat) (c : UInt8) (label : ByteArray) : Int := if eqS s (mkM ⟨#[c]⟩ L ⟨#[]⟩ label) = true then 1 else if eqS s (mkM ⟨#[c]⟩ L bang label) = true then 2 else 0
theorem fits_ev (L : Nat) (hL : L ≤ 4096) (l : List ByteArray) (st wr : Int) (c : UInt8) (label : ByteArray) (hlab : label.size ≤ 1000) (s : ByteArray) (suf pre : List ByteArray) (e : l = pre ++ s :: suf) :
    Ev (fun k => sennitref13_fits.f k l (L : Int) (pre.length : Int) st wr ⟨#[c]⟩ label) (fitC s L c label) := by
  have hlt : (pre.length : Int) < (l.length : Int) := by subst e; simp; omega
  have m1 : Ev (fun k => sennitref12_Mark.f k ⟨#[c]⟩ (L : Int) [] label) (mkM ⟨#[c]⟩ L ⟨#[]⟩ label) := mark_gen c L hL [] ⟨#[]⟩ label hlab ⟨false, rfl, rfl⟩ L 0 (by omega)
  have m2 : Ev (fun k => sennitref12_Mark.f k ⟨#[c]⟩ (L : Int) [⟨#[120]⟩] label) (mkM ⟨#[c]⟩ L bang label) := mark_gen c L hL [⟨#[120]⟩] bang label hlab ⟨true, by decide +kernel, rfl⟩ L 0 (by omega)
  refine Ev.pos (by omega) (Ev.pos hlt (Ev.bind m1 ?_))
  rw [rd_mid pre suf s l e, fitC]
  have q : ∀ m : ByteArray, eqS s m = true ↔ s.toList = m.toList := fun m => by unfold eqS; exact beq_iff_eq
  by_cases h1 : s.toList = (mkM ⟨#[c]⟩ L ⟨#[]⟩ label).toList
  · rw [if_pos ((q _).2 h1)]
    exact Ev.pos h1 (Ev.now _)
  · rw [if_neg (fun h => h1 ((q _).1 h))]
    refine Ev.neg h1 (Ev.bind m2 ?_)
    by_cases h2 : s.toList = (mkM ⟨#[c]⟩ L bang label).toList
    · rw [if_pos ((q _).2 h2)]
      exact Ev.pos h2 (Ev.now _)
    · rw [if_neg (fun h => h2 ((q _).1 h))]
      exact Ev.neg h2 (Ev.now _)
theorem number_eq : ∀ n : Fin 17, 1 ≤ n.val → sennitref12_Number.f (n.val : Int) = some ⟨(Lib.decDigits n.val).toArray⟩ := by decide +kernel
theorem number_ev (n : Nat) (h1 : 1 ≤ n) (h2 : n ≤ 16) : Ev (fun _ => sennitref12_Number.f (n : Int)) ⟨(Lib.decDigits n).toArray⟩ := ⟨0, fun _ _ => number_eq ⟨n, by omega⟩ h1⟩
/-! ### opened -/
def lastR (p : List ByteArray) : ByteArray := p.getD (p.length - 1) ByteArray.empty
def openedR (p : List ByteArray) (how : Int) : List ByteArray × Bool :=
  if how < 2 then (p, true) else if p.length = 0 then ([], false) else if (lastR p).size < 2 then ([], false) else (p.set (p.length - 1) ((lastR p).extract 0 ((lastR p).size - 1)), true)
theorem opened_ev (p : List ByteArray) (hp : FL p) (how : Int) : Ev (fun k => sennitref13_opened.f k p how) (openedR p how) := by
  have hm := hp.1
  unfold openedR
  by_cases h : how < 2
  · rw [if_pos h]; exact Ev.pos h (Ev.now _)
  · rw [if_neg h]
    refine Ev.neg h ?_
    have no : Ev (fun k => sennitref13_opened.j0 k p true) ([], false) := Ev.step (fun k => by simp only [sennitref13_opened.j0]; rw [if_pos trivial]) (Ev.now _)
    by_cases h0 : p.length = 0
    · rw [if_pos h0]; exact Ev.pos (by omega) no
    · rw [if_neg h0]
      have hw : wrap64 ((p.length : Int) - 1) = (p.length : Int) - 1 := by unfold wrap64; omega
      have hr : rdOf ByteArray.empty p ((p.length : Int) - 1) = lastR p := by
        rw [rdOf, lastR, show ((p.length : Int) - 1).toNat = p.length - 1 by omega]
      have hls : (lastR p).size ≤ 1000000 := by
        unfold lastR
        rw [List.getD_eq_getElem?_getD, List.getElem?_eq_getElem (by omega)]
        exact hp.2 _ (List.getElem_mem _)
      refine Ev.neg (by omega) (Ev.pos (by omega) (Ev.pos (by omega) ?_))
      rw [hw, hr]
      by_cases h2 : (lastR p).size < 2
      · rw [if_pos h2, decide_eq_true (show ((lastR p).size : Int) < 2 by omega)]
        exact no
      · rw [if_neg h2, decide_eq_false (show ¬ ((lastR p).size : Int) < 2 by omega)]
        have hw2 : wrap64 (((lastR p).size : Int) - 1) = ((lastR p).size : Int) - 1 := by unfold wrap64; omega
        refine Ev.step (fun k => by simp only [sennitref13_opened.j0]; rw [if_neg (by decide)]) ?_
        refine Ev.bind (Ev.now _) (Ev.pos (by simp; omega) (Ev.bind (Ev.now _) ?_))
        simp only [List.nil_append]
        rw [hw, hr, hw2, show ((p.length : Int) - 1).toNat = p.length - 1 by omega, show (((lastR p).size : Int) - 1).toNat = (lastR p).size - 1 by omega]
        exact Ev.pos (by omega) (Ev.pos (by omega) (Ev.pos (by omega) (Ev.pos (by omega) (Ev.now _))))
end Go.Proofs.YtcnjbmdnnhbfkaaDoor.Plain
