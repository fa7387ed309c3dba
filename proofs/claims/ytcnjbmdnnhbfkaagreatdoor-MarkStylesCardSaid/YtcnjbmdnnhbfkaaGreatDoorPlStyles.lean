/- The plain law of MarkStyles. -/
import Derived.Test.YtcnjbmdnnhbfkaaGreatDoorPl1
import Derived.Test.YtcnjbmdnnhbfkaaGreatDoorXD9
namespace Go.Proofs.YtcnjbmdnnhbfkaaGreatDoor.Plain
open Go.RowKit Go.Proofs.YtcnjbmdnnhbfkaaGreatDoor.XD Go.Proofs.YtcnjbmdnnhbfkaaGreatDoor.Mark Go.Proofs.YtcnjbmdnnhbfkaaGreatDoor.Ref Go.Proofs.YtcnjbmdnnhbfkaaGreatDoorW.PrintWords Go.Proofs.YtcnjbmdnnhbfkaaGreatDoorW.PrintMore

theorem bare_l (l : List Mark.Piece) (hl : l.length ≤ 20000) : ∀ (suf pre : List Mark.Piece), l = pre ++ suf → Ev (fun k => sennitref12_Bare.l0 k l (Law.bare pre) (pre.length : Int)) (Law.bare l)
  | [], pre, e => by
    subst e
    simp only [List.append_nil]
    exact Ev.step (fun k => by simp only [sennitref12_Bare.l0]; rw [if_neg (by simp)]) (Ev.now _)
  | p :: suf, pre, e => by
    have hlt : (pre.length : Int) < (l.length : Int) := by subst e; simp; omega
    have hrd : rd_T36 l (pre.length : Int) = p := by subst e; exact rdT_mid pre suf p
    have hb : (Law.bare pre).length = pre.length := by simp [Law.bare]
    have ih := bare_l l hl suf (pre ++ [p]) (by simp [e])
    refine Ev.step (fun k => by simp only [sennitref12_Bare.l0]; rw [if_pos hlt, if_pos (by omega), if_pos (by omega), hrd, wrap_nat _ (by unfold M; omega)]) ?_
    have e2 : Law.bare pre ++ [⟨p.f0, p.f1, [], p.f3⟩] = Law.bare (pre ++ [p]) := by simp [Law.bare, Law.bareP]
    rw [e2]
    simpa using ih
theorem bare_ev (l : List Mark.Piece) (hl : l.length ≤ 20000) : Ev (fun k => sennitref12_Bare.f k l) (Law.bare l) := bare_l l hl l [] rfl
theorem clean_l (l : List Mark.Piece) (hl : l.length ≤ 20000) : ∀ (suf pre : List Mark.Piece), l = pre ++ suf → ∃ b, Ev (fun k => sennitref07_Clean.l0 k l (pre.length : Int)) b ∧ (b = true ↔ ∀ p ∈ suf, p.f0 = false)
  | [], pre, e => by
    subst e
    simp only [List.append_nil]
    exact ⟨true, Ev.step (fun k => by simp only [sennitref07_Clean.l0]; rw [if_neg (by simp)]) (Ev.now _), by simp⟩
  | p :: suf, pre, e => by
    have hlt : (pre.length : Int) < (l.length : Int) := by subst e; simp; omega
    have hrd : rd_T36 l (pre.length : Int) = p := by subst e; exact rdT_mid pre suf p
    cases hf : p.f0 with
    | true =>
      refine ⟨false, ?_, ⟨fun h => (by cases h), fun h => ?_⟩⟩
      · exact Ev.step (fun k => by simp only [sennitref07_Clean.l0]; rw [if_pos hlt, if_pos (by omega), hrd, if_pos hf]) (Ev.now _)
      · have := h p (by simp)
        rw [hf] at this
        exact this.symm
    | false =>
      obtain ⟨b, hb, hq⟩ := clean_l l hl suf (pre ++ [p]) (by simp [e])
      refine ⟨b, ?_, hq.trans ⟨fun h q hm => ?_, fun h q hm => h q (by simp [hm])⟩⟩
      · refine Ev.step (fun k => by simp only [sennitref07_Clean.l0]; rw [if_pos hlt, if_pos (by omega), hrd, if_neg (by rw [hf]; decide), wrap_nat _ (by unfold M; omega)]) ?_
        simpa using hb
      · rcases List.mem_cons.1 hm with rfl | hm
        · exact hf
        · exact h q hm
theorem clean_ev (l : List Mark.Piece) (hl : l.length ≤ 20000) : ∃ b, Ev (fun k => sennitref07_Clean.f k l) b ∧ (b = true ↔ ∀ p ∈ l, p.f0 = false) := clean_l l hl l [] rfl
theorem choose_l (l : List Mark.Piece) (hl : l.length ≤ 20000) (ht : tot l ≤ 20000) (hc : ∀ p ∈ l, p.f0 = false) : ∀ (suf pre : List Mark.Piece), l = pre ++ suf → Ev (fun k => sennitref07_Choose.l0 k l 0 (Law.texts pre) (pre.length : Int)) (Law.texts l)
  | [], pre, e => by
    subst e
    simp only [List.append_nil]
    exact Ev.step (fun k => by simp only [sennitref07_Choose.l0]; rw [if_neg (by simp)]) (Ev.now _)
  | p :: suf, pre, e => by
    have hlt : (pre.length : Int) < (l.length : Int) := by subst e; simp; omega
    have hrd : rd_T36 l (pre.length : Int) = p := by subst e; exact rdT_mid pre suf p
    have hf : ¬ p.f0 = true := by rw [hc p (by subst e; simp)]; decide
    have ih := choose_l l hl ht hc suf (pre ++ [p]) (by simp [e])
    have hlen : ∀ xs : List Mark.Piece, (Law.texts xs).length ≤ tot xs := by
      intro xs
      induction xs with
      | nil => simp [Law.texts]
      | cons x xs ih =>
        simp only [Law.texts, tot, szP, List.map_cons, List.flatten_cons, List.length_append, List.sum_cons] at ih ⊢
        omega
    have h1 := hlen pre
    have h2 : tot pre + szP p ≤ tot l := by
      subst e
      simp only [tot_append]
      simp only [tot, List.map_cons, List.sum_cons]
      omega
    have h3 : p.f1.length ≤ szP p := by simp only [szP]; omega
    refine Ev.step (fun k => by simp only [sennitref07_Choose.l0]; rw [if_pos hlt, if_pos (by omega), hrd, if_neg hf, if_pos (by omega)]) ?_
    refine Ev.step (f := fun k => sennitref07_Choose.l1 k l 0 (Law.texts pre ++ p.f1) (pre.length : Int) 0) (fun k => by simp only [sennitref07_Choose.j1]) ?_
    refine Ev.step (fun k => by simp only [sennitref07_Choose.l1]; rw [if_pos (by omega), if_pos hlt, hrd, if_neg hf]) ?_
    refine Ev.step (fun k => by simp only [sennitref07_Choose.j3]; rw [if_neg (by decide), wrap_nat _ (by unfold M; omega)]) ?_
    have e2 : Law.texts pre ++ p.f1 = Law.texts (pre ++ [p]) := by simp [Law.texts]
    rw [e2]
    simpa using ih
theorem bare_okay {l : List Mark.Piece} (h : Okay l) : Okay (Law.bare l) := by
  have ht : ∀ xs : List Mark.Piece, tot (Law.bare xs) ≤ tot xs := by
    intro xs
    induction xs with
    | nil => simp [Law.bare]
    | cons x xs ih =>
      simp only [Law.bare, Law.bareP, tot, szP, List.map_cons, List.sum_cons, List.length_nil] at ih ⊢
      omega
  have h1 := ht l
  refine ⟨⟨by have := h.1.1; simpa [Law.bare] using this, by have := h.1.2; omega⟩, fun p hp => ?_⟩
  obtain ⟨q, hq, rfl⟩ := List.mem_map.1 hp
  have := Law.texts_ok.1 (h.2 q hq)
  exact Law.texts_ok.2 ⟨this.1, fun s hs => by simp [Law.bareP] at hs, this.2.2⟩
theorem MarkStyles (l : List Mark.Piece) (lg : Int) (h : l.length ≤ M ∧ ∀ p ∈ l, InP p) (_ : (Lit.int .i64 lg).wf = true) : ∃ k, sennitlaw12_MarkStyles.f k l lg = some true := by
  refine Ev.rounds (g := fun k => sennitlaw12_MarkStyles.f k l lg) ?_
  refine Ev.bind awake_ev ?_
  obtain ⟨b, hb, hq⟩ := may12_ev l 1 lg h.1 (len_in h.2)
  refine Ev.bind hb ?_
  cases b with
  | false => exact Ev.neg (by decide) (Ev.now _)
  | true =>
    refine Ev.pos rfl ?_
    obtain ⟨⟨f1, f2⟩, -, hw⟩ := hq rfl
    obtain ⟨o1, -⟩ := few_okay f1 f2
    rw [show smallOf l 1 = l from if_neg (by decide)] at hw
    obtain ⟨c, hc, hcq⟩ := clean_ev l o1.1.1
    refine Ev.bind (print_ev l 1 lg o1) (Ev.bind (print_ev l 2 lg o1) (Ev.bind (print_ev l 3 lg o1) (Ev.bind (bare_ev l o1.1.1) (Ev.bind (print_ev (Law.bare l) 1 lg (bare_okay o1)) (Ev.bind hc ?_)))))
    cases c with
    | true =>
      have hcl := hcq.1 rfl
      obtain ⟨e1, e2, e3⟩ := Law.styles_clean hw hcl
      rw [e1, e2, e3]
      refine Ev.pos rfl (Ev.pos rfl (Ev.bind (samet_ev _ _) (Ev.pos (decide_eq_true rfl) (Ev.bind (samet_ev _ _) (Ev.pos (decide_eq_true rfl) (Ev.bind (choose_l l o1.1.1 o1.1.2 hcl l [] rfl) (Ev.bind (samet_ev _ _) ?_)))))))
      rw [decide_eq_true rfl]
      exact Ev.now _
    | false =>
      have hnc : ∃ p ∈ l, p.f0 = true := by
        refine Classical.byContradiction fun hn => ?_
        have : ∀ p ∈ l, p.f0 = false := fun p hp => by
          cases hf : p.f0 with
          | false => rfl
          | true => exact absurd ⟨p, hp, hf⟩ hn
        exact absurd (hcq.2 this) (by decide)
      obtain ⟨e1, e2, e3⟩ := Law.styles_bare hw hnc
      rw [e2]
      rw [e1] at e3 ⊢
      refine Ev.neg (by decide) (Ev.pos rfl (Ev.pos rfl (Ev.bind (samet_ev _ _) (Ev.pos (decide_eq_true rfl) ?_))))
      rw [decide_eq_true (by omega)]
      exact Ev.now _
#print axioms MarkStyles
end Go.Proofs.YtcnjbmdnnhbfkaaGreatDoor.Plain
