/- The plain law of UnmarkPlain. -/
import Derived.Test.YtcnjbmdnnhbfkaaDoorPureRef
import Derived.Test.YtcnjbmdnnhbfkaaDoorXD10
namespace Go.Proofs.YtcnjbmdnnhbfkaaDoor.Plain
open Go.RowKit Go.Proofs.YtcnjbmdnnhbfkaaDoor.XD Go.Proofs.YtcnjbmdnnhbfkaaDoor.Size Go.Proofs.YtcnjbmdnnhbfkaaDoor.Unmark Go.Proofs.YtcnjbmdnnhbfkaaDoorW.PrintWords Go.Proofs.YtcnjbmdnnhbfkaaDoorW.PrintMore

theorem indexByte_none (a : List UInt8) (h : (10 : UInt8) ∉ a) : Lib.indexByte a 10 = -1 := by
  induction a with
  | nil => rfl
  | cons b a ih =>
    simp only [List.mem_cons, not_or] at h
    rw [Lib.indexByte, ih h.2]
    have : (b == 10) = false := by simpa using fun e => h.1 e.symm
    simp [this]
theorem indexByte_end (a : List UInt8) (h : (10 : UInt8) ∉ a) : Lib.indexByte (a ++ [10]) 10 = a.length := by
  induction a with
  | nil => rfl
  | cons b a ih =>
    simp only [List.mem_cons, not_or] at h
    rw [List.cons_append, Lib.indexByte, ih h.2]
    have : (b == 10) = false := by simpa using fun e => h.1 e.symm
    rw [this]
    simp
theorem suffix_end (a : List UInt8) : Lib.hasSuffix (a ++ [10]) [10] = true := by
  unfold Lib.hasSuffix
  rw [List.isSuffixOf_iff_suffix]
  exact ⟨a, rfl⟩
theorem suffix_none (a : List UInt8) (h : (10 : UInt8) ∉ a) : Lib.hasSuffix a [10] = false := by
  unfold Lib.hasSuffix
  rw [Bool.eq_false_iff]
  intro e
  rw [List.isSuffixOf_iff_suffix] at e
  obtain ⟨t, rfl⟩ := e
  exact h (by simp)
/-- A text that ends in its one line feed. -/
def Ended (s : ByteArray) : Prop := ∃ a : List UInt8, s.data.toList = a ++ [10] ∧ (10 : UInt8) ∉ a
theorem Ended.may {s : ByteArray} (h : Ended s) : oneMay s = true ∧ oneOpen s = false := by
  obtain ⟨a, e, hn⟩ := h
  have hl : s.size = a.length + 1 := by have z : s.data.toList.length = s.size := rfl; rw [← z, e]; simp
  unfold oneMay oneOpen
  rw [e, indexByte_end a hn, suffix_end]
  rw [if_neg (by omega)]
  simp
  omega
theorem openB_may {s : ByteArray} (h : openB s = true) : oneMay s = true ∧ oneOpen s = true := by
  unfold openB at h
  simp only [Bool.and_eq_true, decide_eq_true_eq] at h
  have hn : (10 : UInt8) ∉ s.data.toList := List.count_eq_zero.1 h.2
  unfold oneMay oneOpen
  rw [indexByte_none _ hn, suffix_none _ hn, if_pos (by decide)]
  simpa using h.1
theorem lineB_ended {s : ByteArray} (h : lineB s = true) : Ended s := by
  unfold lineB at h
  simp only [Bool.and_eq_true, decide_eq_true_eq, beq_iff_eq] at h
  obtain ⟨h1, h2⟩ := h
  have hc := cnt_le s
  have hs : 0 < s.size := by omega
  have h3 : s[s.size - 1] = 10 := by
    refine (bt_ten s (s.size - 1) (by omega)).1 ?_
    rw [show ((s.size - 1 : Nat) : Int) = (s.size : Int) - 1 by omega]
    exact h2
  have hz : s.data.toList.length = s.size := rfl
  have hd : s.data.toList = s.data.toList.take (s.size - 1) ++ [10] := by
    conv => lhs; rw [← List.take_append_drop (s.size - 1) s.data.toList]
    rw [drop_at s (s.size - 1) (by omega), h3, List.drop_eq_nil_of_le (by omega)]
  refine ⟨s.data.toList.take (s.size - 1), hd, ?_⟩
  rw [cnt, hd, List.count_append] at h1
  simp at h1
  simpa using List.count_eq_zero.1 (by simpa using h1)

/-! ### lines without a mark -/
theorem goP_text (N : Nat) : ∀ (l : List ByteArray) (i : Nat) (σ : Rd), σ.inn = false → σ.conf = false → (∀ s ∈ l, markOf σ s = false) → i + l.length = N → mayB l = true → goP N l i σ = .ok { σ with text := σ.text ++ l }
  | [], _, σ, _, _, _, _, _ => by simp [goP]
  | s :: l, i, σ, h1, h2, h3, h4, h5 => by
    simp only [mayB, Bool.and_eq_true, Bool.or_eq_true] at h5
    simp only [List.length_cons] at h4
    have hok : lineOk N i σ s = true := by
      rcases h5.1 with h | h
      · have := (lineB_ended h).may
        simp [lineOk, this.1, this.2]
      · have := openB_may h.2
        have hl : l = [] := by simpa using h.1
        subst hl
        simp at h4
        have e : (i : Int) = (N : Int) - 1 := by omega
        simp [lineOk, this.1, e, h2]
    have hf : feed1 N i σ s = some { σ with text := σ.text ++ [s] } := by
      unfold feed1
      rw [if_pos hok, if_neg (by rw [h1]; decide), h3 s (by simp)]
      rfl
    simp only [goP, hf]
    rw [goP_text N l (i + 1) { σ with text := σ.text ++ [s] } h1 h2 (fun t ht => h3 t (by simp [ht])) (by omega) h5.2]
    simp
/-- .. in a conflict: all of them, or up to the open one. -/
theorem goP_part (N : Nat) : ∀ (l : List ByteArray) (i : Nat) (σ : Rd), σ.inn = true → σ.conf = true → (∀ s ∈ l, markOf σ s = false) → i + l.length = N → mayB l = true →
    (∃ τ, goP N l i σ = .ok τ ∧ τ.conf = true ∧ (∀ s, l.getLast? = some s → lineB s = true)) ∨ (goP N l i σ = .error (N - 1) ∧ ∃ s, l.getLast? = some s ∧ openB s = true)
  | [], _, σ, _, h2, _, _, _ => .inl ⟨σ, rfl, h2, fun s h => by simp at h⟩
  | s :: l, i, σ, h1, h2, h3, h4, h5 => by
    simp only [mayB, Bool.and_eq_true, Bool.or_eq_true] at h5
    simp only [List.length_cons] at h4
    by_cases hb : lineB s = true
    · have hm := (lineB_ended hb).may
      have hok : lineOk N i σ s = true := by simp [lineOk, hm.1, hm.2]
      have hf : feed1 N i σ s = some { σ with part := σ.part ++ [s] } := by
        unfold feed1
        rw [if_pos hok, if_pos h1, h3 s (by simp)]
        rfl
      simp only [goP, hf]
      rcases goP_part N l (i + 1) { σ with part := σ.part ++ [s] } h1 h2 (fun t ht => h3 t (by simp [ht])) (by omega) h5.2 with ⟨τ, e, hc, hl⟩ | ⟨e, t, ht, ho⟩
      · refine .inl ⟨τ, e, hc, fun t ht => ?_⟩
        cases l with
        | nil => simp at ht; subst ht; exact hb
        | cons u l => exact hl t (by simpa using ht)
      · refine .inr ⟨e, t, ?_, ho⟩
        cases l with
        | nil => simp at ht
        | cons u l => simpa using ht
    · have h6 := h5.1.resolve_left hb
      have hm := openB_may h6.2
      have hl : l = [] := by simpa using h6.1
      subst hl
      have hok : lineOk N i σ s = false := by simp [lineOk, hm.1, hm.2, h2]
      have hf : feed1 N i σ s = none := by unfold feed1; rw [hok]; rfl
      refine .inr ⟨?_, s, rfl, h6.2⟩
      simp only [goP, hf]
      simp at h4
      rw [show i = N - 1 by omega]

/-! ### the mark ahead -/
theorem rep_list (c : UInt8) (n : Nat) : (repB ⟨#[c]⟩ n).data.toList = List.replicate n c := by
  show Lib.repeatL [c] n = _
  induction n with
  | zero => rfl
  | succ n ih => rw [Lib.repeatL, ih]; rfl
theorem rep_succ (c : UInt8) (n : Nat) : repB ⟨#[c]⟩ n ++ ⟨#[c]⟩ = repB ⟨#[c]⟩ (n + 1) := by
  apply ByteArray.ext
  apply Array.ext'
  rw [ByteArray.data_append, Array.toList_append, rep_list, rep_list, List.replicate_succ']
def markP (K : Nat) : ByteArray := (repB ⟨#[60]⟩ K ++ ⟨#[32, 49]⟩) ++ ⟨#[10]⟩
theorem markP_list (K : Nat) : (markP K).data.toList = (List.replicate K 60 ++ [32, 49]) ++ [10] := by
  unfold markP
  rw [ByteArray.data_append, Array.toList_append, ByteArray.data_append, Array.toList_append, rep_list]
theorem markP_size (K : Nat) : (markP K).size = K + 3 := by
  have z : (markP K).data.toList.length = (markP K).size := rfl
  rw [← z, markP_list]
  simp
theorem markP_eqs (K : Nat) : eqS (markP K) (repB ⟨#[60]⟩ K ++ ⟨#[32, 49, 10]⟩) = true := by
  have : markP K = repB ⟨#[60]⟩ K ++ ⟨#[32, 49, 10]⟩ := by
    apply ByteArray.ext
    apply Array.ext'
    rw [markP_list, ByteArray.data_append, Array.toList_append, rep_list]
    simp
  rw [this, eqS]
  simp
theorem markP_ended (K : Nat) : Ended (markP K) := ⟨_, markP_list K, by simp [List.mem_replicate]⟩
theorem markP_run (K : Nat) (h : 1 ≤ K) : K ≤ Size.runN (markP K) := by
  have hl : K ≤ lead 60 (markP K) := by
    unfold lead
    rw [markP_list]
    clear h
    induction K with
    | zero => exact Nat.zero_le _
    | succ K ih =>
      simp only [List.replicate_succ, List.cons_append, List.takeWhile_cons, beq_self_eq_true, if_true, List.length_cons]
      omega
  unfold Size.runN
  rw [if_pos (by omega)]
  exact hl
theorem mark_l0 (K : Nat) (hK : K ≤ 4096) : ∀ (d i : Nat), i + d = K → Ev (fun k => sennitref12_Mark.l0 k ⟨#[60]⟩ (K : Int) [] ⟨#[32, 49]⟩ (repB ⟨#[60]⟩ i) (i : Int)) (markP K)
  | 0, i, h => by
    obtain rfl : i = K := by omega
    have hs := repB_size 60 i
    refine Ev.step (fun k => by simp only [sennitref12_Mark.l0]; rw [if_neg (by omega)]) ?_
    refine Ev.bind (a := false) ⟨0, fun _ _ => rfl⟩ ?_
    refine Ev.neg (by decide) (Ev.pos (by rw [hs]; have : (⟨#[32, 49]⟩ : ByteArray).size = 2 := rfl; omega) (Ev.pos (by rw [ByteArray.size_append, hs]; have : (⟨#[32, 49]⟩ : ByteArray).size = 2 := rfl; omega) ?_))
    exact Ev.now _
  | d + 1, i, h => by
    have hs := repB_size 60 i
    refine Ev.step (fun k => by simp only [sennitref12_Mark.l0]; rw [if_pos (by omega), if_pos (by rw [hs]; have : (⟨#[60]⟩ : ByteArray).size = 1 := rfl; omega), rep_succ]) ?_
    rw [wrap_nat i (by unfold M; omega)]
    exact mark_l0 K hK d (i + 1) (by omega)
theorem mark_ev (K : Nat) (hK : K ≤ 4096) : Ev (fun k => sennitref12_Mark.f k ⟨#[60]⟩ (K : Int) [] ⟨#[32, 49]⟩) (markP K) := mark_l0 K hK K 0 (by omega)

/-! ### Fits, Normal, Same, Open -/
theorem fits1_l1 (l : List ByteArray) (n : Int) (hf : Fine l) : ∀ (suf pre : List ByteArray), l = pre ++ suf → (∀ s ∈ pre, (Size.runN s : Int) < n) →
    ∃ b, Ev (fun k => sennitref11_Fits.l1 k n [l] 0 (pre.length : Int)) b ∧ (b = true → 1 ≤ n ∧ ∀ s ∈ l, (Size.runN s : Int) < n)
  | [], pre, e, hp => by
    refine ⟨decide (n ≥ 1), Ev.step (fun k => by simp only [sennitref11_Fits.l1]; rw [if_pos (by omega), if_pos (by simp), show rd_L1 [l] 0 = l from rfl, if_neg (by subst e; simp)]) ?_, fun h => ⟨by simpa using h, by subst e; simpa using hp⟩⟩
    have : wrap64 (0 + 1) = 1 := by unfold wrap64; rfl
    rw [this]
    exact Ev.step (fun k => by simp only [sennitref11_Fits.l0]; rw [if_neg (by simp)]) (Ev.now _)
  | s :: suf, pre, e, hp => by
    have hlen := hf.1
    have hlt : (pre.length : Int) < (l.length : Int) := by subst e; simp; omega
    have hrd : rdOf ByteArray.empty l (pre.length : Int) = s := by subst e; exact rdOf_mid pre suf s
    have hs : s.size ≤ M := hf.2 s (by subst e; simp)
    by_cases h : (Size.runN s : Int) ≥ n
    · refine ⟨false, Ev.step (fun k => by simp only [sennitref11_Fits.l1]; rw [if_pos (by omega), if_pos (by simp), show rd_L1 [l] 0 = l from rfl, if_pos hlt, if_pos (by omega), hrd]) (Ev.bind (refrun_ev s hs) (Ev.pos h (Ev.now _))), fun h => by cases h⟩
    · obtain ⟨b, hb, hq⟩ := fits1_l1 l n hf suf (pre ++ [s]) (by simp [e]) (fun t ht => by
        rcases List.mem_append.1 ht with ht | ht
        · exact hp t ht
        · obtain rfl := List.mem_singleton.1 ht; omega)
      refine ⟨b, Ev.step (fun k => by simp only [sennitref11_Fits.l1]; rw [if_pos (by omega), if_pos (by simp), show rd_L1 [l] 0 = l from rfl, if_pos hlt, if_pos (by omega), hrd]) (Ev.bind (refrun_ev s hs) (Ev.neg h ?_)), hq⟩
      rw [wrap_nat _ (by omega)]
      simpa using hb
theorem fits1_ev (l : List ByteArray) (n : Int) (hf : Fine l) : ∃ b, Ev (fun k => sennitref11_Fits.f k n [l]) b ∧ (b = true → 1 ≤ n ∧ ∀ s ∈ l, (Size.runN s : Int) < n) := by
  obtain ⟨b, hb, hq⟩ := fits1_l1 l n hf l [] rfl (by simp)
  refine ⟨b, Ev.step (g := fun k => sennitref11_Fits.l0 k n [l] 0) (fun k => by simp only [sennitref11_Fits.l0]; rw [if_pos (by simp)]) ?_, hq⟩
  exact hb
/-- The pieces of one text. -/
def oneP (l : List ByteArray) : List Piece := if 0 < l.length then [⟨false, l, [], []⟩] else []
theorem normal_ev (l : List ByteArray) (hl : l.length ≤ 1000) : Ev (fun k => sennitref07_Normal.f k [⟨false, l, [], []⟩]) (oneP l) := by
  have w1 : wrap64 (0 + 1) = 1 := by unfold wrap64; rfl
  have e0 : rd_T37 [(⟨false, l, [], []⟩ : S37)] 0 = ⟨false, l, [], []⟩ := rfl
  refine Ev.step (g := fun k => sennitref07_Normal.l0 k [⟨false, l, [], []⟩] [] 0) (fun k => by simp only [sennitref07_Normal.l0, e0]; rw [if_pos (by simp), if_pos (by omega), if_neg (by decide)]) ?_
  refine Ev.step (fun k => by simp only [sennitref07_Normal.l1, e0]; rw [if_pos (by simp), if_pos (by omega)]) ?_
  refine Ev.step (fun k => by simp only [sennitref07_Normal.j2, e0]; rw [if_pos (by decide), if_pos (by omega), if_pos (by simp), if_pos (by simp; omega), w1, List.nil_append]) ?_
  refine Ev.step (fun k => by simp only [sennitref07_Normal.l1]; rw [if_neg (by simp)]) ?_
  by_cases h : 0 < l.length
  · refine Ev.step (fun k => by simp only [sennitref07_Normal.j2]; rw [if_neg (by decide), if_pos (by omega), if_pos (by simp), List.nil_append]) ?_
    refine Ev.step (fun k => by simp only [sennitref07_Normal.l0]; rw [if_neg (by simp)]) ?_
    rw [oneP, if_pos h]
    exact Ev.now _
  · refine Ev.step (fun k => by simp only [sennitref07_Normal.j2]; rw [if_neg (by decide), if_neg (by omega)]) ?_
    refine Ev.step (fun k => by simp only [sennitref07_Normal.l0]; rw [if_neg (by simp)]) ?_
    rw [oneP, if_neg h]
    exact Ev.now _
theorem same_l0 (l : List ByteArray) (hl : l.length ≤ M) : ∀ (suf pre : List ByteArray), l = pre ++ suf → Ev (fun k => sennitref01_Same.l0 k l l (pre.length : Int)) true
  | [], pre, e => Ev.step (fun k => by simp only [sennitref01_Same.l0]; rw [if_neg (by subst e; simp)]) (Ev.now _)
  | s :: suf, pre, e => by
    have hlt : (pre.length : Int) < (l.length : Int) := by subst e; simp; omega
    refine Ev.step (fun k => by simp only [sennitref01_Same.l0]; rw [if_pos hlt, if_pos (by omega), if_pos hlt, if_pos trivial]) ?_
    rw [wrap_nat _ (by omega)]
    simpa using same_l0 l hl suf (pre ++ [s]) (by simp [e])
theorem same_ev (l : List ByteArray) (hl : l.length ≤ M) : Ev (fun k => sennitref01_Same.f k l l) true := Ev.pos rfl (same_l0 l hl l [] rfl)
theorem all_nil : Ev (fun k => sennitref06_All.f k [] []) true := Ev.pos rfl (Ev.step (g := fun k => sennitref06_All.l0 k [] [] 0) (fun k => by simp only [sennitref06_All.l0]; rw [if_neg (by simp)]) (Ev.now _))
theorem samep_ev (l : List ByteArray) (hl : l.length ≤ 1000) : Ev (fun k => sennitref07_Same.f k (oneP l) (oneP l)) true := by
  have w1 : wrap64 (0 + 1) = 1 := by unfold wrap64; rfl
  refine Ev.pos rfl ?_
  unfold oneP
  by_cases h : 0 < l.length
  · rw [if_pos h]
    have e0 : rd_T37 [(⟨false, l, [], []⟩ : S37)] 0 = ⟨false, l, [], []⟩ := rfl
    refine Ev.step (fun k => by simp only [sennitref07_Same.l0, e0]; rw [if_pos (by simp), if_pos (by omega), if_pos (by simp), if_neg (by decide)]) ?_
    refine Ev.bind (same_ev l (by unfold M; omega)) (Ev.pos rfl (Ev.bind (same_ev [] (by simp)) (Ev.pos rfl (Ev.bind all_nil ?_))))
    refine Ev.step (fun k => by simp only [sennitref07_Same.j1]; rw [if_neg (by decide), w1]) ?_
    exact Ev.step (fun k => by simp only [sennitref07_Same.l0]; rw [if_neg (by simp)]) (Ev.now _)
  · rw [if_neg h]
    exact Ev.step (fun k => by simp only [sennitref07_Same.l0]; rw [if_neg (by simp)]) (Ev.now _)

theorem open_ev (l : List ByteArray) (hf : Fine l) (s : ByteArray) (h : l.getLast? = some s) (b : Bool) (hb : b = true ∧ openB s = true ∨ b = false ∧ lineB s = true) : sennitref01_Open.f l = some b := by
  obtain ⟨a, rfl⟩ : ∃ a, l = a ++ [s] := List.getLast?_eq_some_iff.1 h
  have hlen := hf.1
  have hs : s.size ≤ M := hf.2 s (by simp)
  have hw : wrap64 (((a ++ [s]).length : Int) - 1) = (a.length : Int) := by unfold wrap64; unfold M at hlen; simp at hlen ⊢; omega
  have hrd : rdOf ByteArray.empty (a ++ [s]) (a.length : Int) = s := rdOf_mid a [] s
  have hws : wrap64 ((s.size : Int) - 1) = (s.size : Int) - 1 := by unfold wrap64; unfold M at hs; omega
  have hz : 0 < s.size := by
    rcases hb with ⟨-, h⟩ | ⟨-, h⟩
    · simp [openB] at h; exact h.1
    · have := cnt_le s
      simp [lineB] at h
      omega
  unfold sennitref01_Open.f
  simp only [hw, hrd, hws]
  rw [if_neg (by simp; omega), if_pos (by omega), if_pos (by simp; omega), if_neg (by omega), if_pos (by omega), if_pos (by omega)]
  rcases hb with ⟨rfl, h⟩ | ⟨rfl, h⟩
  · simp only [openB, Bool.and_eq_true, decide_eq_true_eq] at h
    have hn : (10 : UInt8) ∉ s.data.toList := List.count_eq_zero.1 h.2
    have hne : ¬ bt s ((s.size : Int) - 1) = 10 := fun e => by
      have e2 := (bt_ten s (s.size - 1) (by omega)).1 (by rw [show ((s.size - 1 : Nat) : Int) = (s.size : Int) - 1 by omega]; exact e)
      refine hn ?_
      rw [← e2]
      have hlt : s.size - 1 < s.data.toList.length := by have z : s.data.toList.length = s.size := rfl; omega
      exact List.mem_iff_getElem.2 ⟨s.size - 1, hlt, rfl⟩
    simpa using hne
  · simp only [lineB, Bool.and_eq_true, beq_iff_eq] at h
    simp [h.2]

theorem parse_text (l : List ByteArray) (K : Nat) (h1 : 1 ≤ K) (h2 : K ≤ 4096) (hr : ∀ s ∈ l, Size.runN s < K) (hm : mayB l = true) : parseP l (K : Int) = (oneP l, 1, 0, 0) := by
  have hg := goP_text l.length l 0 (Unmark.start K) rfl rfl (fun s hs => by have := hr s hs; simp [markOf, Unmark.start]; omega) (by omega) hm
  rw [parse_ok (by omega) (show goP l.length l 0 (Unmark.start (K : Int).toNat) = _ from hg) rfl]
  unfold flush oneP
  by_cases h : 0 < l.length
  · rw [if_pos (by simpa [Unmark.start] using h), if_pos h]
    simp [Unmark.start]
    rfl
  · rw [if_neg (by simpa [Unmark.start] using h), if_neg h]
    simp [Unmark.start]
    rfl
theorem parse_cut (l : List ByteArray) (K : Nat) (h1 : 1 ≤ K) (h2 : K ≤ 4096) (hr : ∀ s ∈ l, Size.runN s < K) (hm : mayB l = true) :
    ((parseP (markP K :: l) (K : Int)) = ([], 0, (l.length : Int) + 2, 2) ∧ (∀ s, l.getLast? = some s → lineB s = true)) ∨ ((parseP (markP K :: l) (K : Int)) = ([], 0, (l.length : Int) + 1, 2) ∧ ∃ s, l.getLast? = some s ∧ openB s = true) := by
  have hm0 := (markP_ended K).may
  have hrun := markP_run K h1
  have hf : feed1 (markP K :: l).length 0 (Unmark.start K) (markP K) = some { flush (Unmark.start K) with conf := true, base := [], sides := [], inn := true } := by
    have hok : lineOk (markP K :: l).length 0 (Unmark.start K) (markP K) = true := by simp [lineOk, hm0.1, hm0.2]
    have hmk : markOf (Unmark.start K) (markP K) = true := by simp [markOf, Unmark.start]; omega
    unfold feed1
    rw [if_pos hok, if_neg (show ¬ (Unmark.start K).inn = true from by intro h; cases h), hmk]
    unfold outside
    rw [if_neg (by decide), if_neg (by rw [show (Unmark.start K).long = K from rfl, markP_eqs]; decide)]
  have hg := goP_part (markP K :: l).length l 1 { flush (Unmark.start K) with conf := true, base := [], sides := [], inn := true } rfl rfl (fun s hs => by have := hr s hs; simp [markOf, Unmark.start, flush]; omega) (by simp; omega) hm
  have hgo : goP (markP K :: l).length (markP K :: l) 0 (Unmark.start (K : Int).toNat) = goP (markP K :: l).length l 1 { flush (Unmark.start K) with conf := true, base := [], sides := [], inn := true } := by
    rw [Int.toNat_natCast]
    simp only [goP, hf]
  rcases hg with ⟨τ, e, hc, hl⟩ | ⟨e, hl⟩
  · refine .inl ⟨?_, hl⟩
    rw [parse_open (by omega) (hgo.trans e) hc]
    simp
    omega
  · refine .inr ⟨?_, hl⟩
    rw [parse_error (by omega) (hgo.trans e)]
    simp

theorem UnmarkPlain (l : List ByteArray) (n : Int) (hl : Fine l) (hn : (Lit.int .u8 n).wf = true) : ∃ k, sennitlaw13_UnmarkPlain.f k l n = some true := by
  refine Ev.rounds (g := fun k => sennitlaw13_UnmarkPlain.f k l n) ?_
  have hn2 : 0 ≤ n ∧ n ≤ 255 := by simpa [Lit.wf, show IntKind.u8.min = 0 from rfl, show IntKind.u8.max = 255 from rfl] using hn
  refine Ev.bind awake_ev ?_
  obtain ⟨b, hb, hq⟩ := few1_ev l 30 hl.1
  refine Ev.bind hb ?_
  have yes : ∀ x0 x1, Ev (fun k => sennitlaw13_UnmarkPlain.j0 k x0 true x1 true) true := fun _ _ => Ev.step (fun k => by simp only [sennitlaw13_UnmarkPlain.j0]; rw [if_pos trivial]) (Ev.now _)
  obtain ⟨ek, hk1, hk2⟩ := byte_long n hn2
  rw [ek]
  cases b with
  | false => exact Ev.neg (by decide) (yes _ _)
  | true =>
    refine Ev.pos rfl ?_
    refine Ev.bind (may_ev l hl) ?_
    cases hm : mayB l with
    | false => exact Ev.neg (by decide) (yes _ _)
    | true =>
      refine Ev.pos rfl ?_
      obtain ⟨b2, hb2, hq2⟩ := fits1_ev l (1 + n % 40) hl
      refine Ev.bind hb2 ?_
      cases b2 with
      | false => exact yes _ _
      | true =>
        obtain ⟨hl1, hl2⟩ := hq rfl
        obtain ⟨-, hrn⟩ := hq2 rfl
        obtain ⟨K, hK⟩ : ∃ K : Nat, 1 + n % 40 = (K : Int) := ⟨(1 + n % 40).toNat, by omega⟩
        rw [hK] at hk1 hk2 hrn ⊢
        have hr : ∀ s ∈ l, Size.runN s < K := fun s hs => by have := hrn s hs; omega
        refine Ev.step (fun k => by simp only [sennitlaw13_UnmarkPlain.j0]; rw [if_neg (by decide)]) ?_
        refine Ev.bind (parse_ev l K (by omega) (fun s h => by have := hl2 s h; omega)) ?_
        refine Ev.bind (normal_ev l (by omega)) ?_
        refine Ev.bind (mark_ev K (by omega)) (Ev.bind (Ev.now _) (Ev.pos (by simp; omega) (Ev.bind (Ev.now _) ?_)))
        refine Ev.bind (parse_ev (markP K :: l) K (by simp; omega) (fun s h => by
          rcases List.mem_cons.1 h with rfl | h
          · rw [markP_size]; omega
          · have := hl2 s h; omega)) ?_
        rw [parse_text l K (by omega) (by omega) hr hm]
        have fin : ∀ a b : Int, a = b → Ev (fun k => sennitlaw13_UnmarkPlain.j1 k true (oneP l) 1 0 (oneP l) a 2 b) true := fun a b e => by
          subst e
          refine Ev.step (fun k => by simp only [sennitlaw13_UnmarkPlain.j1]; rw [if_pos trivial, if_pos trivial, if_pos trivial]) ?_
          refine Ev.bind (samep_ev l (by omega)) (Ev.pos rfl (Ev.pos trivial ?_))
          simpa using Ev.now true
        have wa : wrap64 ((([markP K] ++ l).length : Int) + 1) = (l.length : Int) + 2 := by unfold wrap64; simp; omega
        have wb : wrap64 (((l.length : Int) + 2) - 1) = (l.length : Int) + 1 := by unfold wrap64; omega
        rw [wa, wb]
        rcases parse_cut l K (by omega) (by omega) hr hm with ⟨e, hlast⟩ | ⟨e, s, hs, ho⟩
        · rw [e]
          refine Ev.bind (a := false) ⟨0, fun _ _ => ?_⟩ (Ev.neg (by decide) (fin _ _ rfl))
          cases hg : l.getLast? with
          | none =>
            obtain rfl := List.getLast?_eq_none_iff.1 hg
            rfl
          | some s => exact open_ev l hl s hg false (.inr ⟨rfl, hlast s hg⟩)
        · rw [e]
          exact Ev.bind (a := true) ⟨0, fun _ _ => open_ev l hl s hs true (.inl ⟨rfl, ho⟩)⟩ (Ev.pos rfl (fin _ _ rfl))
end Go.Proofs.YtcnjbmdnnhbfkaaDoor.Plain
