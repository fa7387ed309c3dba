/- The plain law of MarkPrints. -/
import Derived.Test.YtcnjbmdnnhbfkaaGreatDoorPl1
import Derived.Test.YtcnjbmdnnhbfkaaGreatDoorXD22
namespace Go.Proofs.YtcnjbmdnnhbfkaaGreatDoor.Plain
open Go.RowKit Go.Proofs.YtcnjbmdnnhbfkaaGreatDoor.XD Go.Proofs.YtcnjbmdnnhbfkaaGreatDoor.Mark Go.Proofs.YtcnjbmdnnhbfkaaGreatDoor.Ref Go.Proofs.YtcnjbmdnnhbfkaaGreatDoorW.PrintWords Go.Proofs.YtcnjbmdnnhbfkaaGreatDoorW.PrintMore

theorem sides_out (p : Mark.Piece) (st : Int) (n : Nat) (out : List ByteArray) (k : Nat) : sidesTo p st n out k = ((sidesTo p st n [] k).1, out ++ (sidesTo p st n [] k).2) := by
  induction k with
  | zero => simp [sidesTo]
  | succ k ih =>
    rw [sidesTo_succ, sidesTo_succ, ih]
    generalize sidesTo p st n [] k = q
    unfold oneSide
    split
    · simp [baseA, sideA]
    · simp [sideA]
theorem conflict_out (p : Mark.Piece) (st : Int) (n : Nat) (out : List ByteArray) : conflictL p st n out = out ++ conflictL p st n [] := by
  rw [conflictL, conflictL, sides_out p st n out]
  simp
theorem page_l (ks : List Mark.Piece) (st lg : Int) (h : Okay ks) (hc : ∀ p ∈ ks, Law.Conf Law.FewSides p) (h1 : 1 ≤ lg) (h2 : lg ≤ 4096) : ∀ (suf pre : List Mark.Piece), ks = pre ++ suf →
    Ev (fun k => sennitref12_Print.l0 k ks st lg (pageTo st lg.toNat pre) (pre.length : Int)) (pageTo st lg.toNat ks, (0 : Int))
  | [], pre, e => by
    rw [List.append_nil] at e
    have hn : ¬ (pre.length : Int) < (ks.length : Int) := by rw [e]; exact Int.lt_irrefl _
    refine Ev.step (fun k => by simp only [sennitref12_Print.l0]; rw [if_neg hn]) ?_
    rw [e]
    exact Ev.now _
  | p :: suf, pre, e => by
    have hlt : (pre.length : Int) < (ks.length : Int) := by subst e; simp; omega
    have h0 : (0 : Int) ≤ (pre.length : Int) := by omega
    have hrd : rd_T36 ks (pre.length : Int) = p := by subst e; exact rdT_mid pre suf p
    have hmem : p ∈ ks := by rw [e]; simp
    have ih := page_l ks st lg h hc h1 h2 suf (pre ++ [p]) (by rw [e, List.append_assoc]; rfl)
    have hpg : pageTo st lg.toNat (pre ++ [p]) = pageOne st lg.toNat (pageTo st lg.toNat pre) p := by rw [pageTo, pageTo, List.foldl_append]; rfl
    have hb1 : (pageTo st lg.toNat (pre ++ [p])).length ≤ 1000000 := by
      have q1 := pageTo_len st lg.toNat ks (pre.length + 1)
      have q2 : ks.take (pre.length + 1) = pre ++ [p] := by rw [show ks = (pre ++ [p]) ++ suf by rw [e, List.append_assoc]; rfl, show pre.length + 1 = (pre ++ [p]).length by rw [List.length_append]; rfl, List.take_left]
      rw [q2] at q1
      have := h.1
      omega
    have hwr : wrap64 ((pre.length : Int) + 1) = ((pre.length + 1 : Nat) : Int) := wrap_nat _ (by have := h.1.1; unfold M; omega)
    rw [show (pre ++ [p]).length = pre.length + 1 by simp] at ih
    rw [hpg] at ih hb1
    by_cases hf : p.f0 = true
    · have hcf : sennitref12_conflict.f p.f0 p.f1 p.f2 p.f3 st lg = some (conflictL p st lg.toNat []) := by
        unfold sennitref12_conflict.f
        have hsz := tot_mem hmem
        have hto := h.1.2
        have hall := Law.texts_ok.1 (h.2 p hmem)
        have hl3 : ∀ t ∈ p.f3, t.length ≤ 100000 := fun t ht => by
          have := mem_flat_le ht
          simp only [szP] at hsz
          omega
        rw [if_pos ⟨⟨hc p hmem hf, by omega, h2⟩, ⟨by simp only [szP] at hsz; omega, hall.2.1⟩, fun t ht => ⟨hl3 t ht, hall.2.2 t ht⟩⟩]
      have e2 : pageOne st lg.toNat (pageTo st lg.toNat pre) p = pageTo st lg.toNat pre ++ conflictL p st lg.toNat [] := by rw [pageOne, if_pos hf, conflict_out]
      rw [e2] at ih hb1
      rw [List.length_append] at hb1
      refine Ev.step (fun k => by simp only [sennitref12_Print.l0]; rw [if_pos hlt, if_pos h0, hrd, if_pos hf, hcf]) ?_
      refine Ev.bind (a := conflictL p st lg.toNat []) ⟨0, fun _ _ => rfl⟩ (Ev.pos (by omega) ?_)
      rw [hwr]
      exact ih
    · have e2 : pageOne st lg.toNat (pageTo st lg.toNat pre) p = pageTo st lg.toNat pre ++ p.f1 := by rw [pageOne, if_neg hf]
      rw [e2] at ih hb1
      rw [List.length_append] at hb1
      refine Ev.step (fun k => by simp only [sennitref12_Print.l0]; rw [if_pos hlt, if_pos h0, hrd, if_neg hf]) ?_
      refine Ev.pos (by omega) ?_
      rw [hwr]
      exact ih
theorem print12_ev (l : List Mark.Piece) (st lg : Int) (o1 : Okay l) (o2 : Okay (zeal l)) : Ev (fun k => sennitref12_Print.f k l st lg) (printL l st lg) := by
  refine Ev.bind (wrong_ev l st lg o1 (fun _ => o2)) ?_
  by_cases hw : wrongN l (smallOf l st) st lg = 0
  · have e : printL l st lg = (pageTo st lg.toNat (smallOf l st), 0) := by rw [printL, if_pos hw]
    obtain ⟨⟨-, -, h3, h4, h5⟩, -, -⟩ := (Law.wrong_iff _ _ _ _).1 hw
    have hcr := (Law.crowd_iff _).1 h5
    rw [e]
    refine Ev.pos hw ?_
    by_cases hs : st = 3
    · refine Ev.pos hs (Ev.bind (zeal_ev l o1) ?_)
      rw [show smallOf l st = zeal l from if_pos hs]
      refine Ev.step (f := fun k => sennitref12_Print.l0 k (zeal l) st lg [] 0) (fun k => by simp only [sennitref12_Print.j0]) ?_
      exact page_l (zeal l) st lg o2 (Law.zeal_conf hcr) h3 h4 (zeal l) [] rfl
    · refine Ev.neg hs ?_
      rw [show smallOf l st = l from if_neg hs]
      refine Ev.step (f := fun k => sennitref12_Print.l0 k l st lg [] 0) (fun k => by simp only [sennitref12_Print.j0]) ?_
      exact page_l l st lg o1 hcr h3 h4 l [] rfl
  · have e : printL l st lg = ([], wrongN l (smallOf l st) st lg) := by rw [printL, if_neg hw]
    rw [e]
    exact Ev.neg hw (Ev.now _)
theorem MarkPrints (l : List Mark.Piece) (st lg : Int) (h : l.length ≤ M ∧ ∀ p ∈ l, InP p) (_ : (Lit.int .i64 st).wf = true) (_ : (Lit.int .i64 lg).wf = true) : ∃ k, sennitlaw12_MarkPrints.f k l st lg = some true := by
  refine Ev.rounds (g := fun k => sennitlaw12_MarkPrints.f k l st lg) ?_
  refine Ev.bind awake_ev ?_
  obtain ⟨b, hb, hq⟩ := few7_ev l h.1 (len_in h.2)
  refine Ev.bind hb ?_
  have yes : Ev (fun k => sennitlaw12_MarkPrints.j0 k l st lg true true) true := Ev.step (fun k => by simp only [sennitlaw12_MarkPrints.j0]; rw [if_pos trivial]) (Ev.now _)
  cases b with
  | false => exact Ev.neg (by decide) yes
  | true =>
    refine Ev.pos rfl ?_
    obtain ⟨f1, f2⟩ := hq rfl
    obtain ⟨o1, o2⟩ := few_okay f1 f2
    have same : Ev (fun k => sennitlaw12_MarkPrints.j0 k l st lg true false) true := by
      refine Ev.step (fun k => by simp only [sennitlaw12_MarkPrints.j0]; rw [if_neg (by decide)]) ?_
      refine Ev.bind (print_ev l st lg o1) (Ev.bind (print12_ev l st lg o1 o2) (Ev.pos trivial (Ev.pos rfl (Ev.bind (samet_ev _ _) ?_))))
      rw [decide_eq_true rfl]
      exact Ev.now _
    by_cases h40 : lg > 40
    · refine Ev.pos h40 ?_
      by_cases h4 : lg ≤ 4096
      · rw [decide_eq_true h4]; exact yes
      · rw [decide_eq_false h4]; exact same
    · exact Ev.neg h40 same
#print axioms MarkPrints
end Go.Proofs.YtcnjbmdnnhbfkaaGreatDoor.Plain
