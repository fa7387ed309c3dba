/- What mark.Print prints is lines that may be; how many of them are marks. -/
import Derived.Test.YtcnjbmdnnhbfkaaGreatDoorPl1
namespace Go.Proofs.YtcnjbmdnnhbfkaaGreatDoor.Plain
open Go.RowKit Go.Proofs.YtcnjbmdnnhbfkaaGreatDoor.XD Go.Proofs.YtcnjbmdnnhbfkaaGreatDoor.Size Go.Proofs.YtcnjbmdnnhbfkaaGreatDoor.Mark Go.Proofs.YtcnjbmdnnhbfkaaGreatDoor.Ref Go.Proofs.YtcnjbmdnnhbfkaaGreatDoorW.PrintWords Go.Proofs.YtcnjbmdnnhbfkaaGreatDoorW.PrintMore
/-! ### lines -/
def EndL (s : ByteArray) : Prop := ∃ a : List UInt8, s.data.toList = a ++ [10] ∧ (10 : UInt8) ∉ a
theorem size_list (s : ByteArray) : s.data.toList.length = s.size := rfl
theorem may_mid {s : ByteArray} {a b : List UInt8} (e : s.data.toList = a ++ 10 :: b) (hn : (10 : UInt8) ∉ a) (last : Bool) : mayAt s last = decide (b = []) := by
 have hi : ix s = a.length := by rw [ix, e]; exact indexByte_mid a b hn
 have hz : s.size = a.length + 1 + b.length := by rw [← size_list, e]; simp; omega
 unfold mayAt
 rw [hi, if_neg (by omega), Bool.eq_iff_iff, decide_eq_true_eq, decide_eq_true_eq]
 constructor
 ·intro h; exact List.length_eq_zero_iff.1 (by omega)
 ·intro h; rw [h] at hz; simp at hz; omega
theorem EndL.may {s : ByteArray} (h : EndL s) (last : Bool) : mayAt s last = true := by
 obtain ⟨a, e, hn⟩ := h
 rw [may_mid (a := a) (b := []) e hn]; rfl
theorem endL_of {s : ByteArray} (h : mayAt s false = true) : EndL s := by
 by_cases h10 : (10 : UInt8) ∈ s.data.toList
 ·obtain ⟨a, b, e, hn⟩ := split_ten _ h10
  rw [may_mid e hn, decide_eq_true_eq] at h
  exact ⟨a, by rw [e, h], hn⟩
 ·have hi : ix s = -1 := indexByte_none _ h10
  unfold mayAt at h
  rw [hi, if_pos (by decide), Bool.and_false] at h
  cases h
theorem open_last {s : ByteArray} (h : mayAt s true = true) : (openS s = true ∧ (10 : UInt8) ∉ s.data.toList) ∨ (openS s = false ∧ EndL s) := by
 by_cases h10 : (10 : UInt8) ∈ s.data.toList
 ·obtain ⟨a, b, e, hn⟩ := split_ten _ h10
  rw [may_mid e hn, decide_eq_true_eq] at h
  refine .inr ⟨?_, ⟨a, by rw [e, h], hn⟩⟩
  rw [openS_eq, e, h]
  simp
 ·refine .inl ⟨?_, h10⟩
  rw [openS_eq]
  have : ¬ s.data.toList.getLast? = some 10 := fun e => h10 (List.mem_of_getLast? e)
  rw [decide_eq_false this]; rfl
theorem nl_list (s : ByteArray) : (s ++ nl).data.toList = s.data.toList ++ [10] := by
 rw [ByteArray.data_append, Array.toList_append]; rfl
theorem mayL_get {l : List ByteArray} (h : mayL l = true) {j : Nat} {s : ByteArray} (hj : l[j]? = some s) : mayAt s (decide (j + 1 = l.length)) = true := by
 have hlt := (List.getElem?_eq_some_iff.1 hj).1
 have := List.all_eq_true.1 h j (List.mem_range.2 hlt)
 rw [List.getD_eq_getElem?_getD, hj] at this
 exact this
theorem mayL_mk {l : List ByteArray} (h : ∀ (j : Nat) s, l[j]? = some s → mayAt s (decide (j + 1 = l.length)) = true) : mayL l = true := by
 refine List.all_eq_true.2 fun j hj => ?_
 have hlt := List.mem_range.1 hj
 have hx : l[j]? = some l[j] := List.getElem?_eq_getElem hlt
 rw [List.getD_eq_getElem?_getD, hx]
 exact h j _ hx
theorem lines_all {l : List ByteArray} (h : mayL l = true) (ho : openL l = false) : ∀ s ∈ l, EndL s := by
 intro s hs
 obtain ⟨j, hj, e⟩ := List.mem_iff_getElem.1 hs
 have hx : l[j]? = some s := by rw [List.getElem?_eq_getElem hj, e]
 have hm := mayL_get h hx
 by_cases hl : j + 1 = l.length
 ·rw [decide_eq_true hl] at hm
  have hlast : lastS l = s := by rw [lastS, List.getD_eq_getElem?_getD, show l.length - 1 = j by omega, hx]; rfl
  rw [openL, decide_eq_true (by omega), Bool.true_and, hlast] at ho
  rcases open_last hm with ⟨h1, -⟩ | ⟨-, h2⟩
  ·rw [h1] at ho; cases ho
  ·exact h2
 ·rw [decide_eq_false hl] at hm
  exact endL_of hm
theorem ended_all {l : List ByteArray} (h : mayL l = true) : ∀ s ∈ ended l, EndL s := by
 unfold ended
 cases ho : openL l with
 | false => rw [if_neg (by decide)]; exact lines_all h ho
 | true =>
  rw [if_pos rfl]
  intro s hs
  obtain ⟨j, hj, e⟩ := List.mem_iff_getElem.1 hs
  rw [List.length_set] at hj
  rw [List.getElem_set] at e
  rw [openL, Bool.and_eq_true, decide_eq_true_eq] at ho
  split at e
  ·rename_i hjl
   have hx : l[l.length - 1]? = some (lastS l) := by
    rw [lastS, List.getD_eq_getElem?_getD, List.getElem?_eq_getElem (show l.length - 1 < l.length by omega)]; rfl
   have hm := mayL_get h hx
   rw [decide_eq_true (by omega)] at hm
   rcases open_last hm with ⟨-, h1⟩ | ⟨h1, -⟩
   ·exact ⟨_, by rw [← e, nl_list], h1⟩
   ·rw [ho.2] at h1; cases h1
  ·rename_i hjl
   have hx : l[j]? = some s := by rw [List.getElem?_eq_getElem hj, e]
   have hm := mayL_get h hx
   rw [decide_eq_false (by omega)] at hm
   exact endL_of hm
theorem markS_list (c : UInt8) (n : Nat) (op : Bool) (label : ByteArray) : (markS c n op label).data.toList = List.replicate n c ++ (if op = true then [33] else []) ++ label.data.toList ++ [10] := by
 have hr : (repS c n).data.toList = List.replicate n c := by
  show Lib.repeatL [c] n = _
  induction n with
  | zero => rfl
  | succ n ih => rw [Lib.repeatL, ih]; rfl
 unfold markS
 split
 ·simp only [ByteArray.data_append, Array.toList_append, hr]
  rfl
 ·simp only [ByteArray.data_append, Array.toList_append, hr]
  simp
  rfl
theorem mark_end {c : UInt8} (n : Nat) (op : Bool) {label : ByteArray} (hc : c ≠ 10) (hl : (10 : UInt8) ∉ label.data.toList) : EndL (markS c n op label) := by
 refine ⟨_, markS_list c n op label, ?_⟩
 simp only [List.mem_append, List.mem_replicate, not_or, not_and]
 refine ⟨⟨fun _ e => hc e.symm, ?_⟩, hl⟩
 split <;> simp
theorem lead_app (c : UInt8) (s t : ByteArray) (h : t.data.toList = s.data.toList ++ [10]) (hc : c ≠ 10) : lead c t = lead c s := by
 unfold lead
 rw [h]
 generalize s.data.toList = l
 induction l with
 | nil =>
  have : ((10 : UInt8) == c) = false := by rw [beq_eq_false_iff_ne]; exact fun e => hc e.symm
  simp [this]
 | cons x l ih =>
  rw [List.cons_append, List.takeWhile_cons, List.takeWhile_cons]
  split
  ·rw [List.length_cons, List.length_cons, ih]
  ·rfl
theorem run_app (s : ByteArray) : Size.runN (s ++ nl) = Size.runN s := by
 have h := nl_list s
 unfold Size.runN
 rw [lead_app 60 s _ h (by decide), lead_app 124 s _ h (by decide), lead_app 61 s _ h (by decide), lead_app 62 s _ h (by decide)]
theorem ended_run {l : List ByteArray} {lg : Int} (h : ∀ s ∈ l, (Size.runN s : Int) < lg) : ∀ s ∈ ended l, (Size.runN s : Int) < lg := by
 unfold ended
 split
 ·rename_i ho
  rw [openL, Bool.and_eq_true, decide_eq_true_eq] at ho
  intro s hs
  rcases List.mem_or_eq_of_mem_set hs with hs | rfl
  ·exact h s hs
  ·rw [run_app]
   refine h _ ?_
   rw [lastS, List.getD_eq_getElem?_getD, List.getElem?_eq_getElem (show l.length - 1 < l.length by omega)]
   exact List.getElem_mem _
 ·exact h
theorem mark_run {c : UInt8} {n : Nat} (op : Bool) (label : ByteArray) (hn : 1 ≤ n) (hc : isSign c = true) : n ≤ Size.runN (markS c n op label) := by
 have hl := markS_list c n op label
 have hlen : n ≤ lead c (markS c n op label) := by
  unfold lead
  rw [hl, List.append_assoc, List.append_assoc]
  generalize ((if op = true then [33] else []) ++ (label.data.toList ++ [10])) = r
  clear hl hn
  induction n with
  | zero => exact Nat.zero_le _
  | succ n ih =>
   simp only [List.replicate_succ, List.cons_append, List.takeWhile_cons, beq_self_eq_true, if_true, List.length_cons]
   omega
 have hz : 0 < (markS c n op label).size := by have := lead_le c (markS c n op label); omega
 have h0 : (markS c n op label)[0] = c := lead_at c _ 0 (by omega) hz
 rw [runN_sign _ hz, h0, if_pos hc]
 exact hlen
theorem label_ten : ∀ i, i < 100 → (10 : UInt8) ∉ (label i).data.toList ∧ (label i).size ≤ 20 := by decide +kernel
/-! ### a conflict -/
def isMark (lg : Int) (s : ByteArray) : Bool := decide ((Size.runN s : Int) ≥ lg)
structure News (lg : Int) (new : List ByteArray) (m : Nat) : Prop where
 all : ∀ s ∈ new, EndL s ∧ s.size ≤ 10000
 count : new.countP (isMark lg) = m
theorem News.app {lg : Int} {a b : List ByteArray} {m n : Nat} (h : News lg a m) (h2 : News lg b n) : News lg (a ++ b) (m + n) :=
 ⟨fun s hs => (List.mem_append.1 hs).elim (h.all s) (h2.all s), by rw [List.countP_append, h.count, h2.count]⟩
theorem news_nil (lg : Int) : News lg [] 0 := ⟨fun s hs => by simp at hs, rfl⟩
theorem news_mark {lg : Int} {c : UInt8} {n : Nat} (op : Bool) {label : ByteArray} (hn : 1 ≤ n ∧ n ≤ 4096) (hlg : lg = (n : Int)) (hc : isSign c = true) (hc2 : c ≠ 10) (hl : (10 : UInt8) ∉ label.data.toList ∧ label.size ≤ 20) : News lg [markS c n op label] 1 := by
 refine ⟨fun s hs => ?_, ?_⟩
 ·rw [List.mem_singleton] at hs
  subst hs
  refine ⟨mark_end n op hc2 hl.1, ?_⟩
  rw [← size_list, markS_list]
  simp only [List.length_append, List.length_replicate, List.length_cons, List.length_nil, size_list]
  have : (if op = true then ([33] : List UInt8) else []).length ≤ 1 := by split <;> simp
  have := hl.2
  omega
 ·have h1 := mark_run op label hn.1 hc
  have : isMark lg (markS c n op label) = true := by
   unfold isMark
   rw [decide_eq_true_eq]
   omega
  simp [this]
theorem ended_small {l : List ByteArray} (h : ∀ s ∈ l, s.size ≤ 100) : ∀ s ∈ ended l, s.size ≤ 10000 := by
 unfold ended
 split
 ·rename_i ho
  rw [openL, Bool.and_eq_true, decide_eq_true_eq] at ho
  intro s hs
  rcases List.mem_or_eq_of_mem_set hs with hs | rfl
  ·have := h s hs; omega
  ·have : (lastS l).size ≤ 100 := by
    refine h _ ?_
    rw [lastS, List.getD_eq_getElem?_getD, List.getElem?_eq_getElem (show l.length - 1 < l.length by omega)]
    exact List.getElem_mem _
   rw [ByteArray.size_append]
   have : nl.size = 1 := rfl
   omega
 ·intro s hs; have := h s hs; omega
theorem news_ended {lg : Int} {l : List ByteArray} (hm : mayL l = true) (hr : ∀ s ∈ l, (Size.runN s : Int) < lg) (hz : ∀ s ∈ l, s.size ≤ 100) : News lg (ended l) 0 := by
 refine ⟨fun s hs => ⟨ended_all hm s hs, ended_small hz s hs⟩, ?_⟩
 rw [List.countP_eq_zero]
 intro s hs
 have := ended_run hr s hs
 unfold isMark
 rw [decide_eq_true_eq]
 omega
structure Tx (lg : Int) (p : Mark.Piece) : Prop where
 may : ∀ t ∈ textsL p, mayL t = true
 run : ∀ t ∈ textsL p, ∀ s ∈ t, (Size.runN s : Int) < lg
 small : ∀ t ∈ textsL p, ∀ s ∈ t, s.size ≤ 100
theorem sides_news {lg : Int} {p : Mark.Piece} {st : Int} {n : Nat} (hn : 1 ≤ n ∧ n ≤ 4096) (hlg : lg = (n : Int)) (h : Tx lg p) (h16 : p.f3.length ≤ 16) (out : List ByteArray) : ∀ k, k ≤ p.f3.length →
  ∃ new, (sidesTo p st n out k).2 = out ++ new ∧ News lg new (k + (if st ≠ 1 ∧ 0 < k then 1 else 0)) := by
 intro k
 induction k with
 | zero => intro _; exact ⟨[], by simp [sidesTo], by simpa using news_nil lg⟩
 | succ k ih =>
  intro hk
  obtain ⟨new, e, hN⟩ := ih (by omega)
  have hx : p.f3[k]? = some (p.f3.getD k []) := by rw [List.getD_eq_getElem?_getD, List.getElem?_eq_getElem (by omega)]; rfl
  have hmem : p.f3.getD k [] ∈ textsL p := by simp only [textsL, List.mem_append]; exact .inr (List.mem_of_getElem? hx)
  have hS := news_ended (h.may _ hmem) (h.run _ hmem) (h.small _ hmem)
  have hM : ∀ op, News lg [markS (if k = 0 then 60 else 61) n op (label (k + 1))] 1 := fun op => by
   split
   ·exact news_mark op hn hlg (by decide) (by decide) (label_ten _ (by omega))
   ·exact news_mark op hn hlg (by decide) (by decide) (label_ten _ (by omega))
  rw [sidesTo_succ, oneSide]
  generalize p.f3.getD k [] = s at hS
  generalize sidesTo p st n out k = q at e
  have hA : (sideA n q k s).2 = out ++ (new ++ [markS (if k = 0 then 60 else 61) n q.1 (label (k + 1))] ++ ended s) := by rw [sideA, e]; simp
  have hNA := (hN.app (hM q.1)).app hS
  by_cases hb : k = 0 ∧ st ≠ 1
  ·rw [if_pos hb]
   have hmb : p.f2 ∈ textsL p := by simp [textsL]
   have hB := news_ended (h.may _ hmb) (h.run _ hmb) (h.small _ hmb)
   have hMB : News lg [markS 124 n (sideA n q k s).1 baseB] 1 := news_mark _ hn hlg (by decide) (by decide) (by decide +kernel)
   refine ⟨(new ++ [markS (if k = 0 then 60 else 61) n q.1 (label (k + 1))] ++ ended s) ++ ([markS 124 n (sideA n q k s).1 baseB] ++ ended p.f2), ?_, ?_⟩
   ·show (sideA n q k s).2 ++ [markS 124 n (sideA n q k s).1 baseB] ++ ended p.f2 = _
    rw [hA, List.append_assoc, List.append_assoc]
   ·have e2 : k + (if st ≠ 1 ∧ 0 < k then 1 else 0) + 1 + 0 + (1 + 0) = k + 1 + (if st ≠ 1 ∧ 0 < k + 1 then 1 else 0) := by
     rw [if_neg (fun h => by omega), if_pos ⟨hb.2, by omega⟩]
    rw [← e2]
    exact hNA.app (hMB.app hB)
  ·rw [if_neg hb]
   refine ⟨_, hA, ?_⟩
   have e2 : k + (if st ≠ 1 ∧ 0 < k then 1 else 0) + 1 + 0 = k + 1 + (if st ≠ 1 ∧ 0 < k + 1 then 1 else 0) := by
    by_cases hs : st = 1
    ·simp [hs]
    ·have hk0 : 0 < k := by
      rcases Nat.eq_zero_or_pos k with h0 | h0
      ·exact absurd ⟨h0, hs⟩ hb
      ·exact h0
     rw [if_pos ⟨hs, hk0⟩, if_pos ⟨hs, by omega⟩]
   rw [← e2]
   exact hNA
def marksOf (st : Int) (p : Mark.Piece) : Nat := if p.f0 = true then p.f3.length + 1 + (if st ≠ 1 then 1 else 0) else 0
theorem one_news {lg : Int} {p : Mark.Piece} {st : Int} {n : Nat} (hn : 1 ≤ n ∧ n ≤ 4096) (hlg : lg = (n : Int)) (h : Tx lg p) (hc : Law.Conf Law.FewSides p) (hf : p.f0 = true) (out : List ByteArray) : ∃ new, pageOne st n out p = out ++ new ∧ News lg new (marksOf st p) := by
 obtain ⟨h1, h16⟩ := hc hf
 obtain ⟨new, e, hN⟩ := sides_news (st := st) hn hlg h h16 out p.f3.length (Nat.le_refl _)
 rw [pageOne, if_pos hf, conflictL, e]
 refine ⟨new ++ [markS 62 n (sidesTo p st n out p.f3.length).1 ⟨#[]⟩], by rw [List.append_assoc], ?_⟩
 have hM : News lg [markS 62 n (sidesTo p st n out p.f3.length).1 ⟨#[]⟩] 1 := news_mark _ hn hlg (by decide) (by decide) (by decide +kernel)
 have := hN.app hM
 rw [marksOf, if_pos hf]
 have e2 : p.f3.length + (if st ≠ 1 ∧ 0 < p.f3.length then 1 else 0) + 1 = p.f3.length + 1 + (if st ≠ 1 then 1 else 0) := by
  by_cases hs : st = 1
  ·simp [hs]
  ·rw [if_pos ⟨hs, by omega⟩, if_pos hs]
 rw [← e2]
 exact this
theorem count_text {lg : Int} {l : List ByteArray} (hr : ∀ s ∈ l, (Size.runN s : Int) < lg) : l.countP (isMark lg) = 0 := by
 rw [List.countP_eq_zero]
 intro s hs
 have := hr s hs
 unfold isMark
 rw [decide_eq_true_eq]
 omega
theorem page_news {lg : Int} {st : Int} {n : Nat} (hn : 1 ≤ n ∧ n ≤ 4096) (hlg : lg = (n : Int)) : ∀ (l : List Mark.Piece) (out : List ByteArray), (∀ p ∈ l, Tx lg p ∧ Law.Conf Law.FewSides p) → (∀ (j : Nat) p, j + 1 < l.length → l[j]? = some p → openL p.f1 = false) → (∀ s ∈ out, EndL s ∧ s.size ≤ 10000) →
  mayL (l.foldl (pageOne st n) out) = true ∧ (l.foldl (pageOne st n) out).countP (isMark lg) = out.countP (isMark lg) + (l.map (marksOf st)).sum ∧ ∀ s ∈ l.foldl (pageOne st n) out, s.size ≤ 10000
 | [], out, _, _, ho => ⟨mayL_mk (fun j s hj => (ho s (List.mem_of_getElem? hj)).1.may _), by simp, fun s hs => (ho s hs).2⟩
 | p :: l, out, h, hop, ho => by
  obtain ⟨hT, hC⟩ := h p (by simp)
  have htx := (Law.texts_ok.1 hT.run).1
  rw [List.foldl_cons]
  cases hf : p.f0 with
  | true =>
   obtain ⟨new, e, hN⟩ := one_news (st := st) hn hlg hT hC hf out
   have ih := page_news (st := st) hn hlg l (pageOne st n out p) (fun q hq => h q (by simp [hq])) (fun j q hj hq => hop (j + 1) q (by simp; omega) (by simpa using hq)) (by rw [e]; exact fun s hs => (List.mem_append.1 hs).elim (ho s) (hN.all s))
   refine ⟨ih.1, ?_, ih.2.2⟩
   rw [ih.2.1, e, List.countP_append, hN.count]
   simp only [List.map_cons, List.sum_cons]
   omega
  | false =>
   have em : marksOf st p = 0 := by rw [marksOf, if_neg (by rw [hf]; decide)]
   have e : pageOne st n out p = out ++ p.f1 := by rw [pageOne, if_neg (by rw [hf]; decide)]
   have hct := count_text htx
   cases l with
   | nil =>
    rw [List.foldl_nil, e]
    refine ⟨mayL_mk (fun j s hj => ?_), by rw [List.countP_append, hct]; simp [em], fun s hs => (List.mem_append.1 hs).elim (fun hs => (ho s hs).2) (fun hs => by have := hT.small p.f1 (by simp [textsL]) s hs; omega)⟩
    rcases Nat.lt_or_ge j out.length with hj2 | hj2
    ·rw [List.getElem?_append_left hj2] at hj
     exact (ho s (List.mem_of_getElem? hj)).1.may _
    ·rw [List.getElem?_append_right hj2] at hj
     have := mayL_get (hT.may p.f1 (by simp [textsL])) hj
     rw [List.length_append, show decide (j + 1 = out.length + p.f1.length) = decide (j - out.length + 1 = p.f1.length) from decide_eq_decide.2 (by omega)]
     exact this
   | cons q l =>
    have hE := lines_all (hT.may p.f1 (by simp [textsL])) (hop 0 p (by simp) rfl)
    have ih := page_news (st := st) hn hlg (q :: l) (pageOne st n out p) (fun q2 hq => h q2 (List.mem_cons_of_mem _ hq)) (fun j q2 hj hq => hop (j + 1) q2 (by simp at hj ⊢; omega) (by simpa using hq)) (by rw [e]; exact fun s hs => (List.mem_append.1 hs).elim (ho s) (fun hs => ⟨hE s hs, by have := hT.small p.f1 (by simp [textsL]) s hs; omega⟩))
    refine ⟨ih.1, ?_, ih.2.2⟩
    rw [ih.2.1, e, List.countP_append, hct]
    simp only [List.map_cons, List.sum_cons, em]
    omega
#print axioms page_news
end Go.Proofs.YtcnjbmdnnhbfkaaGreatDoor.Plain
