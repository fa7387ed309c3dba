/- The plain law of MarkLines. -/
import Derived.Test.YtcnjbmdnnhbfkaaGreatDoorPlLin
import Derived.Test.YtcnjbmdnnhbfkaaGreatDoorXD12
namespace Go.Proofs.YtcnjbmdnnhbfkaaGreatDoor.Plain
open Go.RowKit Go.Proofs.YtcnjbmdnnhbfkaaGreatDoor.XD Go.Proofs.YtcnjbmdnnhbfkaaGreatDoor.Size Go.Proofs.YtcnjbmdnnhbfkaaGreatDoor.Mark Go.Proofs.YtcnjbmdnnhbfkaaGreatDoor.Ref Go.Proofs.YtcnjbmdnnhbfkaaGreatDoorW.PrintWords Go.Proofs.YtcnjbmdnnhbfkaaGreatDoorW.PrintMore

/-- What normal pieces are like. -/
def Shape (p : Mark.Piece) : Prop := (p.f0 = true → p.f1 = []) ∧ (p.f0 = false → p.f2 = [] ∧ p.f3 = [])
theorem putR_shape {out : List Mark.Piece} {x : Mark.Piece} (h : ∀ p ∈ out, Shape p) : ∀ p ∈ putR out x, Shape p := by
  have text : ∀ t : List ByteArray, ∀ p ∈ out ++ [(⟨false, t, [], []⟩ : Mark.Piece)], Shape p := fun t p hp => by
    rcases List.mem_append.1 hp with hp | hp
    · exact h p hp
    · rw [List.mem_singleton] at hp
      subst hp
      exact ⟨fun e => (by cases e), fun _ => ⟨rfl, rfl⟩⟩
  unfold putR
  split
  · intro p hp
    rcases List.mem_append.1 hp with hp | hp
    · exact h p hp
    · rw [List.mem_singleton] at hp
      subst hp
      exact ⟨fun _ => rfl, fun e => (by cases e)⟩
  · split
    · exact h
    · split
      · exact text _
      · rename_i y hy
        have hyo := h y (List.mem_of_getLast? hy)
        split
        · exact text _
        · rename_i hyf
          intro p hp
          rcases List.mem_or_eq_of_mem_set hp with hp | rfl
          · exact h p hp
          · exact ⟨fun e => absurd e hyf, hyo.2⟩
theorem norm_shape (xs : List Mark.Piece) : ∀ p ∈ norm xs, Shape p := by
  have : ∀ (ys : List Mark.Piece) out, (∀ p ∈ out, Shape p) → ∀ p ∈ ys.foldl putR out, Shape p := by
    intro ys
    induction ys with
    | nil => intro out h; exact h
    | cons x xs ih => intro out h; exact ih _ (putR_shape h)
  exact this xs [] (fun p hp => by simp at hp)
theorem wrap_add (a b : Nat) (h : a + b ≤ M) : wrap64 ((a : Int) + (b : Int)) = ((a + b : Nat) : Int) := by
  unfold M at h
  unfold wrap64
  omega
def wantOf (st : Int) (p : Mark.Piece) : Nat := p.f1.length + (if p.f0 = true ∧ st ≠ 1 then p.f2.length else 0) + p.f3.flatten.length
def wants (st : Int) (l : List Mark.Piece) : Nat := (l.map (wantOf st)).sum
def markss (st : Int) (l : List Mark.Piece) : Nat := (l.map (marksOf st)).sum
theorem want_le (st : Int) (p : Mark.Piece) : wantOf st p ≤ szP p ∧ marksOf st p ≤ szP p + 2 := by
  have h1 : (if p.f0 = true ∧ st ≠ 1 then p.f2.length else 0) ≤ p.f2.length := by split <;> omega
  have h2 : (if st ≠ 1 then 1 else 0) ≤ 1 := by split <;> omega
  have h3 : marksOf st p ≤ p.f3.length + 1 + (if st ≠ 1 then 1 else 0) := by unfold marksOf; split <;> omega
  unfold wantOf
  simp only [szP]
  generalize (if p.f0 = true ∧ st ≠ 1 then p.f2.length else 0) = z at h1 ⊢
  generalize (if st ≠ 1 then 1 else 0) = y at h2 h3
  generalize p.f3.flatten.length = x
  omega
theorem wants_le (st : Int) (l : List Mark.Piece) : wants st l ≤ tot l ∧ markss st l ≤ tot l + 2 * l.length := by
  induction l with
  | nil => simp [wants, markss, tot]
  | cons p l ih =>
    have h := want_le st p
    simp only [wants, markss, tot, List.map_cons, List.sum_cons, List.length_cons] at ih ⊢
    omega
theorem lines_l1 (st lg : Int) (a : List ByteArray) (ks pre suf : List Mark.Piece) (p : Mark.Piece) (e : ks = pre ++ p :: suf) (hl : ks.length ≤ 20000) (W : Nat) (mk : Int) (hW : W + p.f3.flatten.length ≤ 1000000) (h3 : p.f3.length ≤ 1000000) (r : Bool)
    (hr : Ev (fun k => sennitlaw12_MarkLines.l0 k st lg true a 0 ((W + p.f3.flatten.length : Nat) : Int) mk ks ((pre.length + 1 : Nat) : Int)) r) :
    ∀ (ss ps : List (List ByteArray)), p.f3 = ps ++ ss → Ev (fun k => sennitlaw12_MarkLines.l1 k st lg true a 0 ((W + ps.flatten.length : Nat) : Int) mk ks (pre.length : Int) (ps.length : Int)) r
  | [], ps, es => by
    have hlt : (pre.length : Int) < (ks.length : Int) := by subst e; simp; omega
    have hrd : rd_T36 ks (pre.length : Int) = p := by subst e; exact rdT_mid pre suf p
    rw [List.append_nil] at es
    refine Ev.step (fun k => by simp only [sennitlaw12_MarkLines.l1]; rw [if_pos (by omega), if_pos hlt, hrd, if_neg (by rw [es]; omega), wrap_nat _ (by unfold M; omega)]) ?_
    rw [← es]
    exact hr
  | s :: ss, ps, es => by
    have hlt : (pre.length : Int) < (ks.length : Int) := by subst e; simp; omega
    have hrd : rd_T36 ks (pre.length : Int) = p := by subst e; exact rdT_mid pre suf p
    have hl2 : (ps.length : Int) < (p.f3.length : Int) := by rw [es]; simp; omega
    have hr2 : rd_L2 p.f3 (ps.length : Int) = s := by rw [es]; exact rd_mid ps ss s
    have hb : ps.flatten.length + s.length ≤ p.f3.flatten.length := by rw [es, List.flatten_append, List.length_append, List.flatten_cons, List.length_append]; omega
    have ih := lines_l1 st lg a ks pre suf p e hl W mk hW h3 r hr ss (ps ++ [s]) (by simp [es])
    refine Ev.step (fun k => by simp only [sennitlaw12_MarkLines.l1]; rw [if_pos (by omega), if_pos hlt, hrd, if_pos hl2, if_pos (by omega), hr2, wrap_add _ _ (by unfold M; omega), wrap_nat _ (by unfold M; omega)]) ?_
    have e2 : W + ps.flatten.length + s.length = W + (ps ++ [s]).flatten.length := by rw [List.flatten_append, List.length_append, List.flatten_cons, List.flatten_nil, List.append_nil]; omega
    rw [e2]
    rw [show (ps ++ [s]).length = ps.length + 1 by simp] at ih
    exact ih
theorem bounds_aux (W K T S A L B f1 f2 f3 fl wo mo : Nat) (hw : W ≤ T ∧ K ≤ T + 2 * L) (_ : wo ≤ S ∧ mo ≤ S + 2) (htt : T + S ≤ A) (ht : A ≤ 20000) (hll : L + 1 ≤ B) (hl : B ≤ 20000) (hsz : f1 ≤ S ∧ f2 ≤ S ∧ f3 ≤ S ∧ fl ≤ S) : W + f1 + f2 + fl + 10 ≤ 1000000 ∧ K + f3 + 10 ≤ 1000000 := by omega
theorem lines_step (st lg : Int) (a : List ByteArray) (ks pre suf : List Mark.Piece) (p : Mark.Piece) (e : ks = pre ++ p :: suf) (hl : ks.length ≤ 20000) (W K : Nat) (bw : W + p.f1.length + p.f2.length + p.f3.flatten.length + 10 ≤ 1000000) (bm : K + p.f3.length + 10 ≤ 1000000) (r : Bool)
    (ih : Ev (fun k => sennitlaw12_MarkLines.l0 k st lg true a 0 ((W + wantOf st p : Nat) : Int) ((K + marksOf st p : Nat) : Int) ks ((pre.length + 1 : Nat) : Int)) r) :
    Ev (fun k => sennitlaw12_MarkLines.l0 k st lg true a 0 (W : Int) (K : Int) ks (pre.length : Int)) r := by
  have hlt : (pre.length : Int) < (ks.length : Int) := by subst e; simp; omega
  have hrd : rd_T36 ks (pre.length : Int) = p := by subst e; exact rdT_mid pre suf p
  have k1 : W + p.f1.length ≤ M := by unfold M; omega
  have k2 : K + p.f3.length ≤ M := by unfold M; omega
  have k3 : K + p.f3.length + 1 ≤ M := by unfold M; omega
  have k4 : K + p.f3.length + 1 + 1 ≤ M := by unfold M; omega
  have k5 : W + p.f1.length + p.f2.length ≤ M := by unfold M; omega
  have k6 : p.f3.length ≤ 1000000 := by omega
  have q1 : W + p.f1.length + p.f3.flatten.length ≤ 1000000 := by omega
  have q2 : W + p.f1.length + p.f2.length + p.f3.flatten.length ≤ 1000000 := by omega
  have q3 : W + (p.f1.length + p.f2.length + p.f3.flatten.length) = W + p.f1.length + p.f2.length + p.f3.flatten.length := by omega
  have q4 : K + (p.f3.length + 1 + 1) = K + p.f3.length + 1 + 1 := by omega
  have h0 : (0 : Int) ≤ (pre.length : Int) := by omega
  have w1 : wrap64 ((W : Int) + (p.f1.length : Int)) = ((W + p.f1.length : Nat) : Int) := wrap_add _ _ k1
  have w2 : wrap64 ((K : Int) + (p.f3.length : Int)) = ((K + p.f3.length : Nat) : Int) := wrap_add _ _ k2
  have w3 : wrap64 (((K + p.f3.length : Nat) : Int) + 1) = ((K + p.f3.length + 1 : Nat) : Int) := wrap_nat _ k3
  have w4 : wrap64 (((K + p.f3.length + 1 : Nat) : Int) + 1) = ((K + p.f3.length + 1 + 1 : Nat) : Int) := wrap_nat _ k4
  have w5 : wrap64 (((W + p.f1.length : Nat) : Int) + (p.f2.length : Int)) = ((W + p.f1.length + p.f2.length : Nat) : Int) := wrap_add _ _ k5
  have go : ∀ (W' K' : Nat), W' + p.f3.flatten.length ≤ 1000000 → Ev (fun k => sennitlaw12_MarkLines.l0 k st lg true a 0 ((W' + p.f3.flatten.length : Nat) : Int) (K' : Int) ks ((pre.length + 1 : Nat) : Int)) r → Ev (fun k => sennitlaw12_MarkLines.j2 k st lg true a 0 (W' : Int) (K' : Int) ks (pre.length : Int)) r := fun W' K' h1 h2 => by
    have := lines_l1 st lg a ks pre suf p e hl W' K' h1 k6 r h2 p.f3 [] rfl
    refine Ev.step (f := fun k => sennitlaw12_MarkLines.l1 k st lg true a 0 (W' : Int) (K' : Int) ks (pre.length : Int) 0) (fun k => by simp only [sennitlaw12_MarkLines.j2]) ?_
    exact this
  by_cases hf : p.f0 = true
  · by_cases hs : st = 1
    · have e1 : wantOf st p = p.f1.length + p.f3.flatten.length := by unfold wantOf; rw [if_neg (fun h => h.2 hs)]; rfl
      have e2 : marksOf st p = p.f3.length + 1 := by unfold marksOf; rw [if_pos hf, if_neg (fun h => h hs)]
      rw [e1, e2, ← Nat.add_assoc, ← Nat.add_assoc] at ih
      have g := go (W + p.f1.length) (K + p.f3.length + 1) q1 ih
      exact Ev.step (fun k => by simp only [sennitlaw12_MarkLines.l0]; rw [if_pos hlt, if_pos h0, hrd, if_pos hf, if_pos hs, w1, w2, w3]) g
    · have e1 : wantOf st p = p.f1.length + p.f2.length + p.f3.flatten.length := by unfold wantOf; rw [if_pos ⟨hf, hs⟩]
      have e2 : marksOf st p = p.f3.length + 1 + 1 := by unfold marksOf; rw [if_pos hf, if_pos hs]
      rw [e1, e2, q3, q4] at ih
      have g := go (W + p.f1.length + p.f2.length) (K + p.f3.length + 1 + 1) q2 ih
      exact Ev.step (fun k => by simp only [sennitlaw12_MarkLines.l0]; rw [if_pos hlt, if_pos h0, hrd, if_pos hf, if_neg hs, w1, w2, w3, w4, w5]) g
  · have e1 : wantOf st p = p.f1.length + p.f3.flatten.length := by unfold wantOf; rw [if_neg (fun h => hf h.1)]; rfl
    have e2 : marksOf st p = 0 := by unfold marksOf; rw [if_neg hf]
    rw [e1, e2, ← Nat.add_assoc, Nat.add_zero] at ih
    have g := go (W + p.f1.length) K q1 ih
    exact Ev.step (fun k => by simp only [sennitlaw12_MarkLines.l0]; rw [if_pos hlt, if_pos h0, hrd, if_neg hf, w1]) g
theorem lines_l0 (st lg : Int) (a : List ByteArray) (ks : List Mark.Piece) (hl : ks.length ≤ 20000) (ht : tot ks ≤ 20000) (r : Bool)
    (hr : Ev (fun k => sennitlaw12_MarkLines.l2 k lg true a 0 (wants st ks : Int) (markss st ks : Int) 0 0) r) :
    ∀ (suf pre : List Mark.Piece), ks = pre ++ suf → Ev (fun k => sennitlaw12_MarkLines.l0 k st lg true a 0 (wants st pre : Int) (markss st pre : Int) ks (pre.length : Int)) r
  | [], pre, e => by
    rw [List.append_nil] at e
    have hn : ¬ (pre.length : Int) < (ks.length : Int) := by rw [e]; exact Int.lt_irrefl _
    refine Ev.step (fun k => by simp only [sennitlaw12_MarkLines.l0]; rw [if_neg hn]) ?_
    rw [← e]
    exact hr
  | p :: suf, pre, e => by
    have htt : tot pre + szP p ≤ tot ks := by
      have h1 : tot ks = tot pre + tot (p :: suf) := by rw [e, tot_append]
      have h2 : tot (p :: suf) = szP p + tot suf := by simp [tot]
      rw [h1, h2, ← Nat.add_assoc]
      exact Nat.le_add_right _ _
    have hll : pre.length + 1 ≤ ks.length := by rw [e, List.length_append, List.length_cons]; exact Nat.add_le_add_left (Nat.succ_le_succ (Nat.zero_le _)) _
    have hsz : p.f1.length ≤ szP p ∧ p.f2.length ≤ szP p ∧ p.f3.length ≤ szP p ∧ p.f3.flatten.length ≤ szP p := by simp only [szP]; omega
    have ih := lines_l0 st lg a ks hl ht r hr suf (pre ++ [p]) (by rw [e, List.append_assoc]; rfl)
    have ew : wants st (pre ++ [p]) = wants st pre + wantOf st p := by simp [wants]
    have em : markss st (pre ++ [p]) = markss st pre + marksOf st p := by simp [markss]
    rw [ew, em, show (pre ++ [p]).length = pre.length + 1 by simp] at ih
    obtain ⟨bw, bm⟩ := bounds_aux (wants st pre) (markss st pre) (tot pre) (szP p) (tot ks) pre.length ks.length p.f1.length p.f2.length p.f3.length p.f3.flatten.length (wantOf st p) (marksOf st p) (wants_le st pre) (want_le st p) htt ht hll hl hsz
    exact lines_step st lg a ks pre suf p e hl _ _ bw bm r ih
theorem lines_l2 (lg : Int) (a : List ByteArray) (W mk : Nat) (hf : Fine a) (hm : mayL a = true) (hc : a.countP (isMark lg) = mk) (hlen : a.length = W + mk) : ∀ (suf pre : List ByteArray), a = pre ++ suf →
    Ev (fun k => sennitlaw12_MarkLines.l2 k lg true a 0 (W : Int) (mk : Int) ((pre.countP (isMark lg) : Nat) : Int) (pre.length : Int)) true
  | [], pre, e => by
    rw [List.append_nil] at e
    have hM := hf.1
    refine Ev.step (fun k => by simp only [sennitlaw12_MarkLines.l2]; rw [if_neg (by rw [e]; omega), if_pos trivial, if_pos trivial]) ?_
    refine Ev.bind (may_ev a hf) ?_
    rw [← mayL_eq, hm, wrap_add _ _ (by omega)]
    refine Ev.pos rfl (Ev.pos (by rw [← e, hc]) ?_)
    rw [hlen, beq_self_eq_true]
    exact Ev.now _
  | s :: suf, pre, e => by
    have hM := hf.1
    have hlt : (pre.length : Int) < (a.length : Int) := by subst e; simp; omega
    have hrd : rdOf ByteArray.empty a (pre.length : Int) = s := by subst e; exact rdOf_mid pre suf s
    have hs : s.size ≤ M := hf.2 s (by subst e; simp)
    have hcl : pre.countP (isMark lg) ≤ pre.length := List.countP_le_length
    have ih := lines_l2 lg a W mk hf hm hc hlen suf (pre ++ [s]) (by simp [e])
    rw [List.countP_append] at ih
    refine Ev.step (fun k => by simp only [sennitlaw12_MarkLines.l2]; rw [if_pos hlt, if_pos (by omega), hrd]) (Ev.bind (refrun_ev s hs) ?_)
    by_cases h : (Size.runN s : Int) ≥ lg
    · refine Ev.pos h ?_
      have hi : isMark lg s = true := by rw [isMark, decide_eq_true_eq]; exact h
      rw [wrap_nat _ (by omega), wrap_nat _ (by omega)]
      simpa [hi] using ih
    · refine Ev.neg h ?_
      have hi : isMark lg s = false := by rw [isMark, decide_eq_false_iff_not]; exact h
      rw [wrap_nat _ (by omega)]
      simpa [hi] using ih
theorem lens_is {st : Int} {l : List Mark.Piece} (h : ∀ p ∈ l, Shape p ∧ Law.Conf Law.FewSides p) : Law.lens st l = wants st l + markss st l := by
  induction l with
  | nil => simp [Law.lens, wants, markss]
  | cons p l ih =>
    have ih := ih (fun q hq => h q (by simp [hq]))
    have hp : Law.lenOne st p = wantOf st p + marksOf st p := by
      obtain ⟨⟨s1, s2⟩, hc⟩ := h p (by simp)
      unfold Law.lenOne Law.baseN wantOf marksOf
      cases hf : p.f0 with
      | true =>
        have h1 := (hc hf).1
        rw [s1 hf]
        by_cases hs : st = 1
        · simp [hs]; omega
        · simp [hs, show 0 < p.f3.length by omega]; omega
      | false =>
        obtain ⟨-, e3⟩ := s2 hf
        simp [e3]
    simp only [Law.lens, wants, markss, List.map_cons, List.sum_cons] at ih ⊢
    omega
theorem MarkLines (l : List Mark.Piece) (st lg : Int) (h : l.length ≤ M ∧ ∀ p ∈ l, InP p) (_ : (Lit.int .i64 st).wf = true) (_ : (Lit.int .i64 lg).wf = true) : ∃ k, sennitlaw12_MarkLines.f k l st lg = some true := by
  refine Ev.rounds (g := fun k => sennitlaw12_MarkLines.f k l st lg) ?_
  refine Ev.bind awake_ev ?_
  obtain ⟨b, hb, hq⟩ := may12_ev l st lg h.1 (len_in h.2)
  refine Ev.bind hb ?_
  cases b with
  | false => exact Ev.neg (by decide) (Ev.now _)
  | true =>
    refine Ev.pos rfl ?_
    obtain ⟨⟨f1, f2⟩, h40, hw⟩ := hq rfl
    obtain ⟨o1, o2⟩ := few_okay f1 f2
    obtain ⟨⟨h1, h2, h3, h4, h5⟩, ⟨h6, h7⟩, h8⟩ := (Law.wrong_iff _ _ _ _).1 hw
    have hsm : smallOf l st = l ∨ smallOf l st = zeal l := by
      unfold smallOf
      split
      · exact .inr rfl
      · exact .inl rfl
    have hfit := (Law.fits_ok h3).1 h8
    have hcr := (Law.crowd_iff _).1 h5
    have facts : Okay (smallOf l st) ∧ (∀ p ∈ smallOf l st, Law.Conf Law.FewSides p) ∧ (∀ p ∈ smallOf l st, ∀ t ∈ textsL p, ∀ s ∈ t, (Size.runN s : Int) < lg) ∧ (∀ p ∈ smallOf l st, ∀ t ∈ textsL p, ∀ s ∈ t, s.size ≤ 100) := by
      rcases hsm with e | e <;> rw [e]
      · exact ⟨o1, hcr, hfit, few_texts f2⟩
      · exact ⟨o2, Law.zeal_conf hcr, Law.zeal_all hfit, Law.zeal_all (few_texts f2)⟩
    obtain ⟨oS, cS, rS, zS⟩ := facts
    obtain ⟨n1, n2, n3⟩ := (odd_iff _).1 h7
    have shape : ∀ p ∈ smallOf l st, Shape p := by rw [← n1]; exact norm_shape _
    have tx : ∀ p ∈ smallOf l st, Tx lg p := fun p hp => ⟨fun t ht => n2 t (by rw [lists, List.mem_flatMap]; exact ⟨p, hp, ht⟩), rS p hp, zS p hp⟩
    have hlg : lg = (lg.toNat : Int) := by omega
    obtain ⟨g1, g2, g3⟩ := page_news (st := st) (n := lg.toNat) ⟨by omega, by omega⟩ hlg (smallOf l st) [] (fun p hp => ⟨tx p hp, cS p hp⟩) n3 (fun s hs => by simp at hs)
    have hlen := Law.page_is st lg.toNat (smallOf l st)
    rw [lens_is (fun p hp => ⟨shape p hp, cS p hp⟩)] at hlen
    have hpr : printL l st lg = (pageTo st lg.toNat (smallOf l st), 0) := by rw [printL, if_pos hw]
    refine Ev.bind (print_ev l st lg o1) ?_
    rw [hpr]
    have hwb := wants_le st (smallOf l st)
    have hoS := oS.1
    have fine : Fine (pageTo st lg.toNat (smallOf l st)) := by
      refine ⟨by rw [hlen]; unfold M; omega, fun s hs => ?_⟩
      have := g3 s hs
      unfold M; omega
    have main : Ev (fun k => sennitlaw12_MarkLines.j0 k st lg true (pageTo st lg.toNat (smallOf l st)) 0 0 0 (smallOf l st)) true := by
      refine Ev.step (f := fun k => sennitlaw12_MarkLines.l0 k st lg true (pageTo st lg.toNat (smallOf l st)) 0 0 0 (smallOf l st) 0) (fun k => by simp only [sennitlaw12_MarkLines.j0]) ?_
      have l2 := lines_l2 lg (pageTo st lg.toNat (smallOf l st)) (wants st (smallOf l st)) (markss st (smallOf l st)) fine g1 (by rw [show pageTo st lg.toNat (smallOf l st) = (smallOf l st).foldl (pageOne st lg.toNat) [] from rfl, g2]; simp [markss]) hlen _ [] rfl
      exact lines_l0 st lg _ (smallOf l st) hoS.1 hoS.2 true l2 (smallOf l st) [] rfl
    by_cases h3' : st = 3
    · refine Ev.pos h3' (Ev.bind (zeal_ev l o1) ?_)
      rw [show smallOf l st = zeal l from if_pos h3'] at main ⊢
      exact main
    · refine Ev.neg h3' ?_
      rw [show smallOf l st = l from if_neg h3'] at main ⊢
      exact main
#print axioms MarkLines
end Go.Proofs.YtcnjbmdnnhbfkaaGreatDoor.Plain
