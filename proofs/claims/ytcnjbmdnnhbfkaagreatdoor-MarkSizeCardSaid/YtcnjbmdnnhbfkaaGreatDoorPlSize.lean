/- The plain law of MarkSize. -/
import Derived.Test.YtcnjbmdnnhbfkaaGreatDoorPl1
import Derived.Test.YtcnjbmdnnhbfkaaGreatDoorXD11
namespace Go.Proofs.YtcnjbmdnnhbfkaaGreatDoor.Plain
open Go.RowKit Go.Proofs.YtcnjbmdnnhbfkaaGreatDoor.XD Go.Proofs.YtcnjbmdnnhbfkaaGreatDoor.Size Go.Proofs.YtcnjbmdnnhbfkaaGreatDoor.Mark Go.Proofs.YtcnjbmdnnhbfkaaGreatDoor.Ref Go.Proofs.YtcnjbmdnnhbfkaaGreatDoorW.PrintWords Go.Proofs.YtcnjbmdnnhbfkaaGreatDoorW.PrintMore

theorem mx_nat (a b : Nat) : mx (a : Int) (b : Int) = ((max a b : Nat) : Int) := by
  unfold mx
  split <;> omega
theorem longest_l (ls : List (List ByteArray)) (hls : ls.length ≤ M) (hf : ∀ t ∈ ls, t.length ≤ M ∧ ∀ s ∈ t, s.size ≤ 1000000) : ∀ (suf pre : List (List ByteArray)), ls = pre ++ suf →
    Ev (fun k => size_longest.l0 k ((lng pre.flatten : Nat) : Int) ls (ls.length : Int) (pre.length : Int)) ((lng ls.flatten : Nat) : Int)
  | [], pre, e => by
    subst e
    simp only [List.append_nil]
    exact Ev.step (fun k => by simp only [size_longest.l0]; rw [if_neg (by simp)]) (Ev.now _)
  | t :: suf, pre, e => by
    have hlt : (pre.length : Int) < (ls.length : Int) := by subst e; simp; omega
    have hrd : rd_L2 ls (pre.length : Int) = t := by subst e; exact rd_mid pre suf t
    have hft := hf t (by subst e; simp)
    have ih := longest_l ls hls hf suf (pre ++ [t]) (by simp [e])
    have inner : ∀ (ss ps : List ByteArray), t = ps ++ ss → Ev (fun k => size_longest.l1 k ((lng (pre.flatten ++ ps) : Nat) : Int) ls (ls.length : Int) (pre.length : Int) t (t.length : Int) (ps.length : Int)) ((lng ls.flatten : Nat) : Int) := by
      intro ss
      induction ss with
      | nil =>
        intro ps es
        refine Ev.step (fun k => by simp only [size_longest.l1]; rw [if_neg (by subst es; simp), wrap_nat _ (by omega)]) ?_
        have e2 : pre.flatten ++ ps = (pre ++ [t]).flatten := by subst es; simp
        rw [e2]
        simpa using ih
      | cons s ss ih2 =>
        intro ps es
        have hl2 : (ps.length : Int) < (t.length : Int) := by subst es; simp; omega
        have hr2 : rdOf ByteArray.empty t (ps.length : Int) = s := by subst es; exact rdOf_mid ps ss s
        have hss := hft.2 s (by subst es; simp)
        have hlm := hft.1
        have ih3 := ih2 (ps ++ [s]) (by simp [es])
        refine Ev.step (fun k => by simp only [size_longest.l1]; rw [if_pos hl2, if_pos (by omega), if_pos hl2, hr2]) ?_
        refine Ev.bind (a := (Size.runN s : Int)) ⟨0, fun _ _ => by unfold size_Run.f; rw [if_pos (by omega)]⟩ ?_
        rw [mx_nat, wrap_nat _ (by omega), ← lng_snoc, List.append_assoc]
        simpa using ih3
    refine Ev.step (fun k => by simp only [size_longest.l0]; rw [if_pos hlt, if_pos (by omega), if_pos hlt, hrd]) ?_
    have := inner t [] rfl
    simpa using this
theorem auto_ev (ls : List (List ByteArray)) (hls : ls.length ≤ M) (hf : ∀ t ∈ ls, t.length ≤ M ∧ ∀ s ∈ t, s.size ≤ 1000000) (hm : lng ls.flatten ≤ 1000000) : Ev (fun k => size_Auto.f k ls) (max 7 ((lng ls.flatten : Int) + 1)) := by
  refine Ev.bind (longest_l ls hls hf ls [] rfl) ?_
  rw [wrap_nat _ (by unfold M; omega), show (7 : Int) = ((7 : Nat) : Int) from rfl, mx_nat, show max ((7 : Nat) : Int) ((lng ls.flatten : Int) + 1) = ((max 7 (lng ls.flatten + 1) : Nat) : Int) by omega]
  exact Ev.now _
theorem MarkSize (l : List Mark.Piece) (st : Int) (h : l.length ≤ M ∧ ∀ p ∈ l, InP p) (_ : (Lit.int .i64 st).wf = true) : ∃ k, sennitlaw12_MarkSize.f k l st = some true := by
  refine Ev.rounds (g := fun k => sennitlaw12_MarkSize.f k l st) ?_
  refine Ev.bind awake_ev ?_
  obtain ⟨b, hb, hq⟩ := may12_ev l st 40 h.1 (len_in h.2)
  refine Ev.bind hb ?_
  cases b with
  | false => exact Ev.neg (by decide) (Ev.now _)
  | true =>
    refine Ev.pos rfl ?_
    obtain ⟨⟨f1, f2⟩, -, hw⟩ := hq rfl
    obtain ⟨o1, o2⟩ := few_okay f1 f2
    have hfit := (Law.wrong_iff _ _ _ _).1 hw
    have hlng : (lng (lists l).flatten : Int) < 40 := by
      have := hfit.2.2
      rw [fitsB, Bool.and_eq_true, decide_eq_true_eq, decide_eq_true_eq] at this
      exact this.2
    obtain ⟨g1, g2⟩ := Law.size_print hw
    refine Ev.bind (lists_ev l o1.1.1 o1.1.2) (Ev.bind (auto_ev (lists l) (by have := lists_len l; have := o1.1.1; have := o1.1.2; unfold M; omega) (fun t ht => by
      rw [lists, List.mem_flatMap] at ht
      obtain ⟨p, hp, ht⟩ := ht
      exact ⟨(okay_len o1 p hp t ht).1, fun s hs => o1.2 p hp t ht s hs⟩) (by omega)) ?_)
    have hn : 7 ≤ max (7 : Int) ((lng (lists l).flatten : Int) + 1) ∧ max (7 : Int) ((lng (lists l).flatten : Int) + 1) ≤ 40 := by omega
    generalize max (7 : Int) ((lng (lists l).flatten : Int) + 1) = n at g1 g2 hn ⊢
    have hwr : wrap64 (n - 1) = n - 1 := by unfold wrap64; omega
    rw [hwr]
    refine Ev.bind (print_ev l st n o1) (Ev.bind (print_ev l st (n - 1) o1) ?_)
    have e1 : (printL l st n).2 = 0 := by rw [printL, if_pos g1]
    refine Ev.pos rfl (Ev.pos e1 ?_)
    by_cases h7 : n = 7
    · exact Ev.pos h7 (Ev.now _)
    · refine Ev.neg h7 ?_
      have e6 := g2.resolve_left h7
      have e2 : (printL l st (n - 1)).2 = 6 := by rw [printL, if_neg (by rw [e6]; decide)]; exact e6
      rw [e2]
      exact Ev.now _
#print axioms MarkSize
end Go.Proofs.YtcnjbmdnnhbfkaaGreatDoor.Plain
