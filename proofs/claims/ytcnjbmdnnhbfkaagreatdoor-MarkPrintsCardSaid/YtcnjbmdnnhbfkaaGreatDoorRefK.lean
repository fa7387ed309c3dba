/- sennitref12.Mark, Ended, Number, conflict: what they compute. -/
import Derived.Test.YtcnjbmdnnhbfkaaGreatDoorPl1
import Derived.Test.YtcnjbmdnnhbfkaaGreatDoorXR6
import Derived.Test.YtcnjbmdnnhbfkaaGreatDoorXR7
import Derived.Test.YtcnjbmdnnhbfkaaGreatDoorXR8
namespace Go.Proofs.YtcnjbmdnnhbfkaaGreatDoor.Ref
open Go.RowKit Go.Proofs.YtcnjbmdnnhbfkaaGreatDoor.XD Go.Proofs.YtcnjbmdnnhbfkaaGreatDoor.Mark Go.Proofs.YtcnjbmdnnhbfkaaGreatDoorW.PrintWords Go.Proofs.YtcnjbmdnnhbfkaaGreatDoorW.PrintLast Go.Proofs.YtcnjbmdnnhbfkaaGreatDoorW.PrintMore

theorem xopen_ev (l : List ByteArray) (hl : l.length ≤ M) (hs : ∀ s ∈ l, s.size ≤ M) : XR.sennitref01_Open.f l = some (openL l) := Plain.open_ev l hl hs
theorem rep_succ (c : UInt8) (n : Nat) : repS c n ++ ⟨#[c]⟩ = repS c (n + 1) := by
  have h : ∀ n, (repS c n).data.toList = List.replicate n c := by
    intro n
    show Lib.repeatL [c] n = _
    induction n with
    | zero => rfl
    | succ n ih => rw [Lib.repeatL, ih]; rfl
  refine ByteArray.ext (Array.ext' ?_)
  rw [ByteArray.data_append, Array.toList_append, h, h, List.replicate_succ']
theorem mark_l0 (c : UInt8) (n : Nat) (ah : List ByteArray) (lb : ByteArray) (hn : n ≤ 4096) (hl : ah.length ≤ M) (hs : ∀ s ∈ ah, s.size ≤ M) (hb : lb.size ≤ 1000) : ∀ (d i : Nat), i + d = n → Ev (fun k => XR.sennitref12_Mark.l0 k ⟨#[c]⟩ (n : Int) ah lb (repS c i) (i : Int)) (markS c n (openL ah) lb)
  | 0, i, h => by
    obtain rfl : i = n := by omega
    have hz := repS_size c i
    have h1 : (⟨#[33]⟩ : ByteArray).size = 1 := rfl
    refine Ev.step (fun k => by simp only [XR.sennitref12_Mark.l0]; rw [if_neg (by omega), xopen_ev ah hl hs]) ?_
    refine Ev.bind (a := openL ah) ⟨0, fun _ _ => rfl⟩ ?_
    cases openL ah with
    | true => exact pos rfl (pos (by omega) (pos (by rw [ByteArray.size_append]; omega) (pos (by rw [ByteArray.size_append, ByteArray.size_append]; omega) (Ev.now _))))
    | false => exact neg (by decide) (pos (by omega) (pos (by rw [ByteArray.size_append]; omega) (Ev.now _)))
  | d + 1, i, h => by
    have hz := repS_size c i
    have h1 : (⟨#[c]⟩ : ByteArray).size = 1 := rfl
    refine Ev.step (fun k => by simp only [XR.sennitref12_Mark.l0]; rw [if_pos (by omega), if_pos (by omega), rep_succ, wrap_nat _ (by unfold M; omega)]) ?_
    exact mark_l0 c n ah lb hn hl hs hb d (i + 1) (by omega)
theorem markc_calls (w : World) (c : UInt8) (n : Nat) (A : Option Addr) (ca : Nat) (ah : List ByteArray) (lb : ByteArray) (hn : n ≤ 4096) (hC : Kd.string.C w A ah.length ah) (hc : ah.length ≤ ca) (hs : ∀ s ∈ ah, s.size ≤ M) (hb : lb.size ≤ 1000) :
    Calls Tryz.prog 62 #[.string ⟨#[c]⟩, .int .i64 (n : Int), .slice A ah.length ca, .string lb] w fun e w' => e = .returned (.string (markS c n (openL ah) lb)) ∧ Drawn0 w w' := by
  obtain ⟨k, hk⟩ := mark_l0 c n ah lb hn (Kd.C_max hC) hs hb n 0 (by omega)
  exact XR.sennitref12_Mark.calls k ⟨#[c]⟩ n A ca ah lb _ w hC hc (hk k (Nat.le_refl _))
theorem ended_f (l : List ByteArray) (hl : l.length ≤ 1000000) (hs : ∀ s ∈ l, s.size ≤ 1000000) : XR.sennitref12_Ended.f l = some (ended l) := by
  unfold XR.sennitref12_Ended.f
  rw [Option.bind_some, if_pos (by simp; omega), List.nil_append, Option.bind_some, xopen_ev l (by unfold M; omega) (fun s h => by have := hs s h; unfold M; omega), Option.bind_some]
  unfold ended
  cases ho : openL l with
  | false => rfl
  | true =>
    rw [openL, Bool.and_eq_true, decide_eq_true_eq] at ho
    have hw : wrap64 ((l.length : Int) - 1) = ((l.length - 1 : Nat) : Int) := by unfold wrap64; omega
    have hrd : rdOf ByteArray.empty l ((l.length - 1 : Nat) : Int) = lastS l := by rw [rdOf, Int.toNat_natCast]; rfl
    have hm : lastS l ∈ l := by
      rw [lastS, List.getD_eq_getElem?_getD, List.getElem?_eq_getElem (show l.length - 1 < l.length by omega)]
      exact List.getElem_mem _
    have hz := hs _ hm
    rw [hw, hrd, if_pos rfl, if_pos (by omega), if_pos (by omega), if_pos (by omega), Int.toNat_natCast, if_pos rfl]
    rfl
theorem ended_calls (w : World) (A : Option Addr) (ca : Nat) (l : List ByteArray) (hC : Kd.string.C w A l.length l) (hc : l.length ≤ ca) (hl : l.length ≤ 1000000) (hs : ∀ s ∈ l, s.size ≤ 1000000) :
    Calls Tryz.prog 63 #[.slice A l.length ca] w fun e w' => ∃ v, e = .returned v ∧ Kd.R Kd.string 9 w' w.heap.size (fun _ => True) v (ended l) ∧ Below w.heap.size w w' :=
  XR.sennitref12_Ended.calls A ca l _ w hC hc (ended_f l hl hs)
theorem number_f : ∀ i : Nat, i < 17 → 1 ≤ i → XR.sennitref12_Number.f (i : Int) = some (digits i) := by decide +kernel
theorem number_calls (w : World) (i : Nat) (h1 : 1 ≤ i) (h2 : i ≤ 16) :
    Calls Tryz.prog 64 #[.int .i64 (i : Int)] w fun e w' => e = .returned (.string (digits i)) ∧ Below w.heap.size w w' :=
  XR.sennitref12_Number.calls (i : Int) _ w (number_f i (by omega) h1)
theorem label_one : (⟨#[32, 49]⟩ : ByteArray) = label 1 := by decide +kernel
theorem R_one (W : World) (base : Nat) (s : ByteArray) (hb : base ≤ W.heap.size) : Kd.R Kd.string 9 (W.alloc (.cells #[.string s] 9)) base (fun _ => True) (.slice (some ⟨W.heap.size, 0, none⟩) 1 1) [s] := by
  refine ⟨fun _ _ => trivial, [.string s], ?_, reps_one (show Kd.string.M _ _ _ s [.string s] from rfl) rfl⟩
  have := World.ownsRow_lit (base := base) (e := 9) (size := Kd.string.sz) W #[.string s] 1 hb (by simp [maxLen]) rfl
  exact this
#print axioms markc_calls
#print axioms ended_calls
#print axioms number_calls
#print axioms R_one
end Go.Proofs.YtcnjbmdnnhbfkaaGreatDoor.Ref
