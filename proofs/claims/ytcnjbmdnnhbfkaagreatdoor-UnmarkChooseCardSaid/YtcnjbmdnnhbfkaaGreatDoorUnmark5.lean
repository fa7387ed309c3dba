/- unmark: Parse. -/
import Derived.Test.YtcnjbmdnnhbfkaaGreatDoorUnmark4
import Derived.Test.YtcnjbmdnnhbfkaaGreatDoorXL1
import Derived.Deep.DeepCutAuto
import Derived.Deep.QuietTactic
import Derived.BigQuiet
namespace Go.Proofs.YtcnjbmdnnhbfkaaGreatDoor.Unmark
open Go.RowKit Go.Proofs.YtcnjbmdnnhbfkaaGreatDoorW.PrintWords Go.Proofs.YtcnjbmdnnhbfkaaGreatDoorW.PrintLast Go.Proofs.YtcnjbmdnnhbfkaaGreatDoor.XD Go.Proofs.YtcnjbmdnnhbfkaaGreatDoor.Size Go.Proofs.YtcnjbmdnnhbfkaaGreatDoor.Lib
def oneMay (s : ByteArray) : Bool := if Lib.indexByte s.data.toList 10 < 0 then decide (0 < s.size) else decide (Lib.indexByte s.data.toList 10 = (s.size : Int) - 1)
def oneOpen (s : ByteArray) : Bool := !Lib.hasSuffix s.data.toList [10]
theorem may_one (s : ByteArray) (h : s.size ≤ 1000000) : XL.lines_May.f 2 [s] = some (oneMay s) := by
 have e : strings_Index.f s ⟨#[10]⟩ = some (Lib.indexByte s.data.toList 10) := rfl
 have w0 : wrap64 0 = 0 := by unfold wrap64; rfl
 have w1 : wrap64 1 = 1 := by unfold wrap64; rfl
 have w2 : wrap64 ((s.size : Int) - 1) = (s.size : Int) - 1 := by unfold wrap64; omega
 have e0 : rdOf ByteArray.empty [s] 0 = s := rfl
 simp only [XL.lines_May.f, XL.lines_May.l0, List.length_singleton, Int.natCast_one, e0, e, Option.bind_some, w2, oneMay]
 simp [w0, w1]
 split
 ·split <;> simp_all
 ·split <;> simp_all
theorem open_one (s : ByteArray) (h : s.size ≤ 1000000) : XL.lines_Open.f [s] = some (oneOpen s) := by
 have w0 : wrap64 0 = 0 := by unfold wrap64; rfl
 have e0 : rdOf ByteArray.empty [s] 0 = s := rfl
 have e : strings_HasSuffix.f s ⟨#[10]⟩ = some (Lib.hasSuffix s.data.toList [10]) := by unfold strings_HasSuffix.f; rw [if_pos (by omega)]
 simp [XL.lines_Open.f, w0, e0, e, oneOpen]
def lineOk (n i : Nat) (σ : Rd) (s : ByteArray) : Bool := oneMay s && (!oneOpen s || (decide ((i : Int) = (n : Int) - 1) && !σ.conf))
def markOf (σ : Rd) (s : ByteArray) : Bool := decide ((σ.long : Int) ≤ Size.runN s)
def feed1 (n i : Nat) (σ : Rd) (s : ByteArray) : Option Rd := if lineOk n i σ s then (if σ.inn then insideP σ s (markOf σ s) else outside σ s (markOf σ s)) else none
def goP (n : Nat) : List ByteArray → Nat → Rd → Except Nat Rd
 | [], _, σ => .ok σ
 | s :: l, i, σ => match feed1 n i σ s with | none => .error i | some τ => goP n l (i + 1) τ
def start (long : Nat) : Rd := ⟨long, [], [], false, [], [], [], false, 0, false⟩
def parseP (l : List ByteArray) (long : Int) : List Piece × Int × Int × Int :=
 if long < 1 ∨ long > 4096 then ([], 0, 0, 1)
 else match goP l.length l 0 (start long.toNat) with
  | .error i => ([], 0, (i : Int) + 1, 2)
  | .ok σ => if σ.conf then ([], 0, (l.length : Int) + 1, 2) else ((flush σ).out, max σ.style 1, 0, 0)
structure OkI (L i : Nat) (σ : Rd) : Prop where
 long : σ.long = L
 out : σ.out.length ≤ i
 text : σ.text.length ≤ i
 sides : σ.sides.length ≤ 16
 part : σ.part.length ≤ i
 size : ∀ s ∈ σ.part, s.size ≤ 1000000
 style : σ.style = 0 ∨ σ.style = 1 ∨ σ.style = 2
theorem OkI.ok {L i : Nat} {σ : Rd} (h : OkI L i σ) (hL : L ≤ 4096) (hi : i ≤ 1000000) : Ok σ :=
 ⟨by rw [h.long]; exact hL, Nat.le_trans h.out hi, Nat.le_trans h.text hi, by have := h.sides; omega, Nat.le_trans h.part hi, h.size⟩
theorem endP_ok {σ τ : Rd} {b : Bool} (h : endP σ b = some τ) : τ.long = σ.long ∧ τ.out = σ.out ∧ τ.text = σ.text ∧ τ.part = [] ∧ τ.sides.length ≤ sidesN σ ∧ τ.style = σ.style ∧ τ.conf = σ.conf ∧ τ.inn = σ.inn := by
 unfold endP at h
 obtain ⟨p, -, rfl⟩ := Option.map_eq_some_iff.1 h
 unfold putPart sidesN
 cases σ.inb <;> simp
theorem feed_ok {L n i : Nat} {σ τ : Rd} {s : ByteArray} (h : OkI L i σ) (hs : s.size ≤ 1000000) (hf : feed1 n i σ s = some τ) : OkI L (i + 1) τ := by
 obtain ⟨h1, h2, h3, h4, h5, h6, h7⟩ := h
 unfold feed1 at hf
 split at hf
 ·split at hf
  ·generalize markOf σ s = m at hf
   cases m
   ·obtain rfl := Option.some.inj hf
    exact ⟨h1, Nat.le_succ_of_le h2, Nat.le_succ_of_le h3, h4, by simpa using h5, fun x hx => (List.mem_append.1 hx).elim (h6 x) (fun hx => by obtain rfl := List.mem_singleton.1 hx; exact hs), h7⟩
   ·simp only [insideP, Bool.true_eq_false, if_false] at hf
    split at hf
    ·unfold beginP at hf
     split at hf
     ·cases hf
     ·split at hf
      ·cases hf
      ·obtain ⟨ρ, hr, rfl⟩ := Option.map_eq_some_iff.1 hf
       obtain ⟨e1, e2, e3, e4, e5, e6, -⟩ := endP_ok hr
       have : sidesN σ ≤ 1 := by unfold sidesN; split <;> omega
       exact ⟨e1.trans h1, by rw [e2]; omega, by rw [e3]; omega, by show ρ.sides.length ≤ 16; omega, by rw [e4]; exact Nat.zero_le _, fun x hx => (by have hx2 : x ∈ ρ.part := hx; rw [e4] at hx2; cases hx2), .inr (.inr rfl)⟩
    ·split at hf
     ·cases hf
     ·rename_i hb
      obtain ⟨ρ, hr, rfl⟩ := Option.map_eq_some_iff.1 hf
      obtain ⟨e1, e2, e3, e4, e5, e6, -⟩ := endP_ok hr
      generalize isOk σ s 61 (numL (sidesN σ + 1)) = fu at *
      generalize isOk σ s 62 ⟨#[]⟩ = la at *
      have hn : la = false → ρ.sides.length ≤ 16 := by
       intro e
       subst e
       cases fu
       ·simp [bars] at hb
       ·simp [bars] at hb; omega
      generalize decide (σ.sides.length = 0) = fi at *
      have e7 := e6 ▸ h7
      cases fi <;> cases la <;> refine ⟨e1.trans h1, ?_, ?_, ?_, ?_, ?_, ?_⟩ <;> simp [after, close, e2, e3, e4] <;> first | omega | exact hn rfl | exact e7
  ·generalize markOf σ s = m at hf
   cases m
   ·obtain rfl := Option.some.inj hf
    exact ⟨h1, Nat.le_succ_of_le h2, by simpa using h3, h4, Nat.le_succ_of_le h5, h6, h7⟩
   ·simp only [outside, Bool.true_eq_false, if_false] at hf
    split at hf
    ·cases hf
    ·obtain rfl := Option.some.inj hf
     unfold flush
     split <;> refine ⟨h1, ?_, ?_, by simp, by show σ.part.length ≤ _; omega, h6, h7⟩ <;> simp <;> omega
 ·cases hf
theorem start_ok (L : Nat) : OkI L 0 (start L) := ⟨rfl, Nat.le_refl _, Nat.le_refl _, Nat.zero_le _, Nat.le_refl _, fun _ h => (by cases h), .inl rfl⟩
theorem results_tmp4 {fn : Func} {t u v x : Tmp} (h : fn.results = #[.tmp t, .tmp u, .tmp v, .tmp x]) (tmps : Array Value) (P : Program) (w : World) :
  (results fn tmps).run P w = .ok (.tuple #[tmps.getD t undef, tmps.getD u undef, tmps.getD v undef, tmps.getD x undef]) w := by
 simp [results, h]
theorem one_C (w : World) (s : ByteArray) (t : TypeId) : Kd.string.C (w.alloc (.cells #[.string s] t)) (some ⟨w.heap.size, 0, none⟩) [s].length [s] :=
 Kd.C_of_reads (d := ByteArray.empty) ⟨rfl, by simp, fun _ => ⟨_, rfl, fun j hj => by
  obtain rfl : j = 0 := by simp at hj; omega
  exact cell_new w _ _⟩⟩
set_option maxRecDepth 100000 in
set_option maxHeartbeats 800000 in
theorem parse_any (l : List ByteArray) (long : Int) (A0 : Option Addr) (c0 : Nat) (w : World) (hr0 : Kd.C Kd.string w A0 l.length l) (_hc0 : l.length ≤ c0) (hn : l.length ≤ 100000) (hs : ∀ s ∈ l, s.size ≤ 1000000) :
  Calls Tryz.prog 25 #[.slice A0 l.length c0, .int .i64 long] w fun e w' => ∃ v0, e = .returned (.tuple #[v0, .int .i64 (parseP l long).2.1, .int .i64 (parseP l long).2.2.1, .int .i64 (parseP l long).2.2.2]) ∧
   Kd.V k36 36 w' w.heap.size (fun k_ => w.heap.size ≤ k_) v0 (parseP l long).1 ∧ Below w.heap.size w w' := by
 by_cases hl : long < 1 ∨ long > 4096
 ·have HR := Lib.hid (show parseP l long = ([], 0, 0, 1) by rw [parseP, if_pos hl])
  by_cases h1 : long < 1
  ·have h1b : decide (long < 1) = true := decide_eq_true h1
   go_enter Tryz.func25, Tryz.ntmps25
   go_wp2
   ((try simp only [Exit.inBlock, Exit.then]); refine bodyPost_ret (results_tmp4 rfl _ _ _) rfl ?_)
   rw [HR.out]
   exact ⟨_, rfl, Kd.V_nil _ _ _ _ _, Below.refl _ _⟩
  ·have h1b : decide (long < 1) = false := decide_eq_false h1
   have h2b : decide (4096 < long) = true := decide_eq_true (by omega)
   go_enter Tryz.func25, Tryz.ntmps25
   go_wp2
   ((try simp only [Exit.inBlock, Exit.then]); refine bodyPost_ret (results_tmp4 rfl _ _ _) rfl ?_)
   rw [HR.out]
   exact ⟨_, rfl, Kd.V_nil _ _ _ _ _, Below.refl _ _⟩
 ·have h1b : decide (long < 1) = false := decide_eq_false (by omega)
  have h2b : decide (4096 < long) = false := decide_eq_false (by omega)
  obtain ⟨L, rfl⟩ : ∃ L : Nat, long = (L : Int) := ⟨long.toNat, by omega⟩
  have HR := Lib.hid (show parseP l L = match goP l.length l 0 (start L) with | .error i => ([], 0, (i : Int) + 1, 2) | .ok σ => if σ.conf then ([], 0, (l.length : Int) + 1, 2) else ((flush σ).out, max σ.style 1, 0, 0) by rw [parseP, if_neg hl]; rfl)
  have hL : L ≤ 4096 := by omega
  clear hl
  have HC := Lib.hid hr0
  have HS := Lib.hid hs
  clear hr0 hs
  go_enter Tryz.func25, Tryz.ntmps25
  go_wp2
  go_loopg [29] (l.length) (fun kq v29 wr => ∃ (i : Nat) (σ : Rd) (vo vt vb vs vp : Value), v29 = .int .i64 (i : Int) ∧ kq + i = l.length ∧ Hid (RS w.heap.size wr w.heap.size σ vo vt vb vs vp) ∧ Hid (Below w.heap.size w wr) ∧ Hid (OkI L i σ) ∧ Hid (goP l.length (l.drop i) i σ = goP l.length l 0 (start L)))
  case atStart =>
   refine ⟨0, start L, .slice none 0 0, .slice none 0 0, .slice none 0 0, .slice none 0 0, .slice none 0 0, rfl, rfl, ?_, ?_, Lib.hid (start_ok L), Lib.hid (by rw [List.drop_zero])⟩
   ·exact Lib.hid ⟨Nat.le_refl _, (blk_new w _).trans rfl, Kd.N_nil _ _ _ _ _, Kd.N_nil _ _ _ _ _, Kd.R_nil _ _ _ _ _, Kd.R_nil _ _ _ _ _, Kd.V_nil _ _ _ _ _, fun k hk => absurd hk isOwn_nil⟩
   ·exact Lib.hid (below_alloc (Below.refl _ _) _)
  case round =>
  obtain ⟨i, σ, vo, vt, vb, vs, vp, rfl, hi, H, HB, HK, HG⟩ := hrel
  obtain ⟨c0_, c1, c2, c3, c4, c5, c6, c7, c8, c9, c10, hfz⟩ := cells_of H.out.blk
  have hsz : w.heap.size < wr.heap.size := H.out.apart.1
  cases gk with
  | succ k1 =>
   have hin : i < l.length := by omega
   have hinb : decide (i < l.length) = true := decide_eq_true hin
   have HCr := Lib.hid (Kd.C_below HC.out HB.out)
   obtain ⟨ad, e101, hx101⟩ := Kd.at_string HCr.out (i : Int) (by omega) (by omega)
   cases e101
   have HSi := Lib.hid (HS.out _ (List.getElem_mem hin))
   have hrd : rdOf ByteArray.empty l (i : Int) = l[i] := by simp [rdOf, hin]
   rw [hrd, Int.toNat_natCast] at hx101
   have HGi := Lib.hid (show goP l.length (l.drop i) i σ = (match feed1 l.length i σ l[i] with | none => .error i | some τ => goP l.length (l.drop (i + 1)) (i + 1) τ) by rw [List.drop_eq_getElem_cons hin]; rfl)
   generalize l[i] = s at *
   clear hrd
   go_upto_region 9 with (fail)
   have HBn := Lib.hid (show Below wr.heap.size wr (wr.alloc (.cells #[.string s] 9)) from below_alloc (Below.refl _ _) _)
   have HC1 := Lib.hid (one_C wr s 9)
   have HW := Lib.hid (show wr.heap.size < (wr.alloc (.cells #[.string s] 9)).heap.size by simp)
   generalize wr.alloc (.cells #[.string s] 9) = W at *
   have H1 := Lib.hid (H.out.below HBn.out)
   have HB1 := Lib.hid (show Below w.heap.size w W from HB.out.trans (HBn.out.mono (by omega)))
   clear H HB c0_ c1 c2 c3 c4 c5 c6 c7 c8 c9 c10 hfz
   obtain ⟨c0_, c1, c2, c3, c4, c5, c6, c7, c8, c9, c10, hfz⟩ := cells_of H1.out.blk
   have hszW : w.heap.size < W.heap.size := H1.out.apart.1
   go_cut [12] (fun v12 wc => v12 = .bool (lineOk l.length i σ s) ∧ ∃ n, wc = W.drewN n)
   case first =>
    go_wp2_with (fail)
    refine (XL.lines_May.calls 2 _ _ [s] (oneMay s) _ HC1.out (Nat.le_refl _) (may_one s HSi.out)).mono ?_
    rintro e w' ⟨rfl, ⟨nd, rfl⟩⟩
    cases hm : oneMay s
    ·have HL := Lib.hid (show lineOk l.length i σ s = false by simp [lineOk, hm])
     clear hm
     go_wp2
     go_meet
     case rel => rw [HL.out]; exact ⟨rfl, _, rfl⟩
    ·go_wp2_with (fail)
     refine (XL.lines_Open.calls _ _ [s] (oneOpen s) _ (Kd.C_drewN HC1.out _) (Nat.le_refl _) (open_one s HSi.out)).mono ?_
     rintro e w' ⟨rfl, ⟨nd2, rfl⟩⟩
     cases ho : oneOpen s
     ·have HL := Lib.hid (show lineOk l.length i σ s = true by simp [lineOk, hm, ho])
      clear hm ho
      go_wp2
      go_meet
      case rel => rw [HL.out]; exact ⟨rfl, _, rfl⟩
     ·by_cases he : (i : Int) = (l.length : Int) - 1
      ·cases hc : σ.conf
       ·have HL := Lib.hid (show lineOk l.length i σ s = true by simp [lineOk, hm, ho, he, hc])
        rw [hc] at c3
        clear hm ho hc
        have heb : ((i : Int) == (l.length : Int) - 1) = true := by simpa using he
        clear he
        go_wp2
        go_meet
        case rel => rw [HL.out]; exact ⟨rfl, _, rfl⟩
       ·have HL := Lib.hid (show lineOk l.length i σ s = false by simp [lineOk, hm, ho, he, hc])
        rw [hc] at c3
        clear hm ho hc
        have heb : ((i : Int) == (l.length : Int) - 1) = true := by simpa using he
        clear he
        go_wp2
        go_meet
        case rel => rw [HL.out]; exact ⟨rfl, _, rfl⟩
      ·have HL := Lib.hid (show lineOk l.length i σ s = false by simp [lineOk, hm, ho, he])
       have heb : ((i : Int) == (l.length : Int) - 1) = false := by simpa using he
       clear hm ho he
       go_wp2
       go_meet
       case rel => rw [HL.out]; exact ⟨rfl, _, rfl⟩
   case rest =>
    obtain ⟨rfl, nd, rfl⟩ := hcut
    have H2 := Lib.hid (H1.out.drewN nd)
    have HB2 := Lib.hid (show Below w.heap.size w (W.drewN nd) from pw_below_drewN HB1.out nd)
    have hszW2 : w.heap.size < (W.drewN nd).heap.size := hszW
    clear HC1 H1 HB1 c0_ c1 c2 c3 c4 c5 c6 c7 c8 c9 c10 hfz hszW HBn HW
    generalize W.drewN nd = W1 at *
    obtain ⟨c0_, c1, c2, c3, c4, c5, c6, c7, c8, c9, c10, hfz⟩ := cells_of H2.out.blk
    cases hl : lineOk l.length i σ s
    ·have HF := Lib.hid (show feed1 l.length i σ s = none by rw [feed1, hl]; rfl)
     have HX := Lib.hid (show parseP l L = ([], 0, (i : Int) + 1, 2) by rw [HR.out, ← HG.out, HGi.out, HF.out])
     clear hl
     go_wp2_with (fail)
     go_quiet (fail)
     go_wp2
     ((try simp only [Exit.inBlock, Exit.then]); refine bodyPost_ret (results_tmp4 rfl _ _ _) rfl ?_)
     rw [HX.out]
     exact ⟨_, rfl, Kd.V_nil _ _ _ _ _, pw_below_drewN HB2.out _⟩
    ·obtain ⟨m, hm⟩ : ∃ m, markOf σ s = m := ⟨_, rfl⟩
     have hRun : size_Run.f s = some ((Size.runN s : Nat) : Int) := by unfold size_Run.f; rw [if_pos (by have := HSi.out; omega)]
     have hmL : decide (L ≤ Size.runN s) = m := by rw [← hm, markOf, HK.out.long]; simp
     generalize Size.runN s = rn at *
     have hOk := Lib.hid (HK.out.ok hL (by omega))
     cases hinn : σ.inn
     ·have HF := Lib.hid (show feed1 l.length i σ s = outside σ s m by rw [feed1, hl, if_pos rfl, hinn, hm]; rfl)
      replace c10 : W1.cell? ⟨w.heap.size, 10, none⟩ = some (.func (.func 42) #[.pointer (some ⟨w.heap.size, 0, none⟩)] #[]) := by rw [hinn] at c10; exact c10
      have HIN := Lib.hid hinn
      clear hm hl hinn
      go_upto_region 10 with (fail)
      go_cut [72] (fun v72 wc => v72 = .bool !(outside σ s m).isSome ∧ Hid (Below w.heap.size w wc) ∧ Hid (∀ σ', outside σ s m = some σ' → ∃ vo vt vb vs vp, RS w.heap.size wc w.heap.size σ' vo vt vb vs vp))
      case first =>
       refine wp_region_any (by kernel_rfl) ?_
       change wpAny _ _ _ _ _ _ _ (World.drew _)
       refine' wpAny_take (i := 0) (oi := ({ dst := some 58, op := Op.move (Operand.tmp 12), type := 4, pos := "unmark.go:121", after := #[], guard := none } : Oper)) (v := _) rfl (by kernel_rfl) (by kernel_rfl) (by kernel_rfl) (fun _ _ _ h => h) (Or.inl ⟨by rfl, ?hy7⟩) ?rest7
       case hy7 => (intro w; go_simp; first | done | with_reducible rfl)
       simp only [Act.put, List.setIfInBounds_toArray, List.set_cons_zero, List.set_cons_succ]
       refine' wpAny_take (i := 1) (oi := ({ dst := some 59, op := Op.unOp UnOp.not 4 (Operand.tmp 58), type := 4, pos := "unmark.go:121", after := #[{ on := 0, ground := Ground.data }], guard := none } : Oper)) (v := _) rfl (by kernel_rfl) (by kernel_rfl) (by kernel_rfl) (fun _ _ _ h => h) (Or.inl ⟨by rfl, ?hy8⟩) ?rest8
       case hy8 => (intro w; go_simp; first | done | with_reducible rfl)
       simp only [Act.put, List.setIfInBounds_toArray, List.set_cons_zero, List.set_cons_succ]
       refine' wpAny_take (i := 2) (oi := ({ dst := some 60, op := Op.move (Operand.tmp 59), type := 4, pos := "unmark.go:121", after := #[{ on := 1, ground := Ground.data }], guard := none } : Oper)) (v := _) rfl (by kernel_rfl) (by kernel_rfl) (by kernel_rfl) (fun _ _ _ h => h) (Or.inl ⟨by rfl, ?hy9⟩) ?rest9
       case hy9 => (intro w; go_simp; first | done | with_reducible rfl)
       simp only [Act.put, List.setIfInBounds_toArray, List.set_cons_zero, List.set_cons_succ]
       refine' wpAny_take (i := 3) (oi := ({ dst := some 61, op := Op.move (Operand.tmp 8), type := 63, pos := "unmark.go:121", after := #[{ on := 2, ground := Ground.guard }], guard := some (2, false) } : Oper)) (v := _) rfl (by kernel_rfl) (by kernel_rfl) (by kernel_rfl) (fun _ _ _ h => h) (Or.inl ⟨by rfl, ?hy10⟩) ?rest10
       case hy10 => (intro w; go_simp; first | done | with_reducible rfl)
       simp only [Act.put, List.setIfInBounds_toArray, List.set_cons_zero, List.set_cons_succ]
       refine' wpAny_take (i := 4) (oi := ({ dst := some 62, op := Op.nilCheck (Operand.tmp 61), type := 0, pos := "unmark.go:121", after := #[{ on := 3, ground := Ground.data }, { on := 2, ground := Ground.guard }], guard := some (2, false) } : Oper)) (v := _) rfl (by kernel_rfl) (by kernel_rfl) (by kernel_rfl) (fun _ _ _ h => h) (Or.inl ⟨by rfl, ?hy11⟩) ?rest11
       case hy11 => (intro w; go_simp; first | done | with_reducible rfl)
       simp only [Act.put, List.setIfInBounds_toArray, List.set_cons_zero, List.set_cons_succ]
       refine' wpAny_take (i := 5) (oi := ({ dst := some 63, op := Op.fieldAddr 66 (Operand.tmp 62) 7, type := 0, pos := "unmark.go:121", after := #[{ on := 4, ground := Ground.data }, { on := 2, ground := Ground.guard }], guard := some (2, false) } : Oper)) (v := _) rfl (by kernel_rfl) (by kernel_rfl) (by kernel_rfl) (fun _ _ _ h => h) (Or.inl ⟨by rfl, ?hy12⟩) ?rest12
       case hy12 => (intro w; go_simp; first | done | with_reducible rfl)
       simp only [Act.put, List.setIfInBounds_toArray, List.set_cons_zero, List.set_cons_succ]
       refine' wpAny_take (i := 7) (oi := ({ dst := some 65, op := Op.move (Operand.tmp 10), type := 9, pos := "unmark.go:121", after := #[{ on := 2, ground := Ground.guard }], guard := some (2, false) } : Oper)) (v := _) rfl (by kernel_rfl) (by kernel_rfl) (by kernel_rfl) (fun _ _ _ h => h) (Or.inl ⟨by rfl, ?hy13⟩) ?rest13
       case hy13 => (intro w; go_simp; first | done | with_reducible rfl)
       simp only [Act.put, List.setIfInBounds_toArray, List.set_cons_zero, List.set_cons_succ]
       refine' wpAny_take (i := 8) (oi := ({ dst := some 66, op := Op.move (Operand.tmp 10), type := 9, pos := "unmark.go:121", after := #[{ on := 2, ground := Ground.guard }], guard := some (2, false) } : Oper)) (v := _) rfl (by kernel_rfl) (by kernel_rfl) (by kernel_rfl) (fun _ _ _ h => h) (Or.inl ⟨by rfl, ?hy14⟩) ?rest14
       case hy14 => (intro w; go_simp; first | done | with_reducible rfl)
       simp only [Act.put, List.setIfInBounds_toArray, List.set_cons_zero, List.set_cons_succ]
       refine' wpAny_take (i := 10) (oi := ({ dst := some 68, op := Op.move (Operand.tmp 1), type := 3, pos := "unmark.go:121", after := #[{ on := 2, ground := Ground.guard }], guard := some (2, false) } : Oper)) (v := _) rfl (by kernel_rfl) (by kernel_rfl) (by kernel_rfl) (fun _ _ _ h => h) (Or.inl ⟨by rfl, ?hy15⟩) ?rest15
       case hy15 => (intro w; go_simp; first | done | with_reducible rfl)
       simp only [Act.put, List.setIfInBounds_toArray, List.set_cons_zero, List.set_cons_succ]
       refine wpAny_ready (rs := [6, 9]) (by kernel_rfl) (by simp) ?_
       refine AllReady.cons (o := ({ dst := some 64, op := Op.load 64 (Operand.tmp 63), type := 64, pos := "unmark.go:121", after := #[{ on := 5, ground := Ground.data }, { on := 2, ground := Ground.guard }], guard := some (2, false) } : Oper)) rfl (fun K hK => ?_) (AllReady.cons (o := ({ dst := some 67, op := Op.call { callee := Callee.value (Operand.func 45), args := #[Operand.tmp 66], argTypes := #[9] }, type := 3, pos := "unmark.go:121", after := #[{ on := 8, ground := Ground.data }, { on := 2, ground := Ground.chain }, { on := 2, ground := Ground.guard }], guard := some (2, false) } : Oper)) rfl (fun K hK => ?_) AllReady.nil)
       ·go_simp
        refine hK _ _ ?_
        clear hK K
        try simp only [Act.put, List.setIfInBounds_toArray, List.set_cons_zero, List.set_cons_succ]
        refine wpAny_ready (rs := [9]) (by kernel_rfl) (by simp) ?_
        refine AllReady.cons (o := ({ dst := some 67, op := Op.call { callee := Callee.value (Operand.func 45), args := #[Operand.tmp 66], argTypes := #[9] }, type := 3, pos := "unmark.go:121", after := #[{ on := 8, ground := Ground.data }, { on := 2, ground := Ground.chain }, { on := 2, ground := Ground.guard }], guard := some (2, false) } : Oper)) rfl (fun K hK => ?_) AllReady.nil
        go_simp
        go_at_call 45
        refine (size_Run.calls s (rn : Int) _ hRun).mono ?_
        rintro e wx ⟨rfl, hbx⟩
        have HBX := Lib.hid hbx
        have HX1 := Lib.hid (H2.out.drew.below hbx)
        have hszx : w.heap.size < wx.heap.size := Nat.lt_of_lt_of_le hszW2 hbx.size
        have c10x : wx.cell? ⟨w.heap.size, 10, none⟩ = some (.func (.func 42) #[.pointer (some ⟨w.heap.size, 0, none⟩)] #[]) := (by have z_ := (cells_of HX1.out.blk).2.2.2.2.2.2.2.2.2.2.1; rw [HIN.out] at z_; exact z_)
        clear hbx
        refine hK _ _ ?_
        clear hK K
        try simp only [Act.put, List.setIfInBounds_toArray, List.set_cons_zero, List.set_cons_succ]
        refine' wpAny_take (i := 11) (oi := ({ dst := some 69, op := Op.binOp BinOp.geq 3 (Operand.tmp 67) (Operand.tmp 68) 3, type := 4, pos := "unmark.go:121", after := #[{ on := 9, ground := Ground.data }, { on := 10, ground := Ground.data }, { on := 2, ground := Ground.guard }], guard := some (2, false) } : Oper)) (v := _) rfl (by kernel_rfl) (by kernel_rfl) (by kernel_rfl) (fun _ _ _ h => h) (Or.inl ⟨by rfl, ?hy1⟩) ?rest1
        case hy1 => (intro w; go_simp; first | done | with_reducible rfl)
        simp only [Act.put, List.setIfInBounds_toArray, List.set_cons_zero, List.set_cons_succ]
        refine wpAny_ready (rs := [12]) (by kernel_rfl) (by simp) ?_
        refine AllReady.cons (o := ({ dst := some 70, op := Op.call { callee := Callee.value (Operand.tmp 64), args := #[Operand.tmp 65, Operand.tmp 69], argTypes := #[9, 4] }, type := 4, pos := "unmark.go:121", after := #[{ on := 6, ground := Ground.data }, { on := 7, ground := Ground.data }, { on := 11, ground := Ground.data }, { on := 9, ground := Ground.chain }, { on := 2, ground := Ground.guard }], guard := some (2, false) } : Oper)) rfl (fun K hK => ?_) AllReady.nil
        go_simp
        go_at_call 42
        refine (outside_calls w.heap.size w _ w.heap.size σ s m HX1.out ((below_drew HB2.out).trans (HBX.out.mono (Nat.le_of_lt hszW2))) (Nat.le_of_lt hszx) hOk.out.out hOk.out.text hOk.out.long).mono ?_
        rintro e wy ⟨rfl, hby, hry⟩
        have HBY := Lib.hid hby
        have HRY := Lib.hid hry
        clear hby hry
        refine hK _ _ ?_
        clear hK K
        try simp only [Act.put, List.setIfInBounds_toArray, List.set_cons_zero, List.set_cons_succ]
        refine' wpAny_take (i := 13) (oi := ({ dst := some 71, op := Op.unOp UnOp.not 4 (Operand.tmp 70), type := 4, pos := "unmark.go:121", after := #[{ on := 12, ground := Ground.data }, { on := 2, ground := Ground.guard }], guard := some (2, false) } : Oper)) (v := _) rfl (by kernel_rfl) (by kernel_rfl) (by kernel_rfl) (fun _ _ _ h => h) (Or.inl ⟨by rfl, ?hy2⟩) ?rest2
        case hy2 => (intro w; go_simp; first | done | with_reducible rfl)
        simp only [Act.put, List.setIfInBounds_toArray, List.set_cons_zero, List.set_cons_succ]
        refine' wpAny_take (i := 14) (oi := ({ dst := some 72, op := Op.pick (Operand.tmp 60) (Operand.const (Value.bool true)) (Operand.tmp 71), type := 4, pos := "unmark.go:121", after := #[{ on := 2, ground := Ground.data }, { on := 13, ground := Ground.data }], guard := none } : Oper)) (v := _) rfl (by kernel_rfl) (by kernel_rfl) (by kernel_rfl) (fun _ _ _ h => h) (Or.inl ⟨by rfl, ?hy3⟩) ?rest3
        case hy3 => (intro w; go_simp; first | done | with_reducible rfl)
        simp only [Act.put, List.setIfInBounds_toArray, List.set_cons_zero, List.set_cons_succ]
        refine wpAny_done (by kernel_rfl) ?_ _
        go_wp2
        go_meet
        case rel => exact ⟨by first | rfl | simp, HBY.out, HRY.out⟩
       ·go_simp
        go_at_call 45
        refine (size_Run.calls s (rn : Int) _ hRun).mono ?_
        rintro e wx ⟨rfl, hbx⟩
        have HBX := Lib.hid hbx
        have HX1 := Lib.hid (H2.out.drew.below hbx)
        have hszx : w.heap.size < wx.heap.size := Nat.lt_of_lt_of_le hszW2 hbx.size
        have c10x : wx.cell? ⟨w.heap.size, 10, none⟩ = some (.func (.func 42) #[.pointer (some ⟨w.heap.size, 0, none⟩)] #[]) := (by have z_ := (cells_of HX1.out.blk).2.2.2.2.2.2.2.2.2.2.1; rw [HIN.out] at z_; exact z_)
        clear hbx
        refine hK _ _ ?_
        clear hK K
        try simp only [Act.put, List.setIfInBounds_toArray, List.set_cons_zero, List.set_cons_succ]
        refine' wpAny_take (i := 11) (oi := ({ dst := some 69, op := Op.binOp BinOp.geq 3 (Operand.tmp 67) (Operand.tmp 68) 3, type := 4, pos := "unmark.go:121", after := #[{ on := 9, ground := Ground.data }, { on := 10, ground := Ground.data }, { on := 2, ground := Ground.guard }], guard := some (2, false) } : Oper)) (v := _) rfl (by kernel_rfl) (by kernel_rfl) (by kernel_rfl) (fun _ _ _ h => h) (Or.inl ⟨by rfl, ?hy4⟩) ?rest4
        case hy4 => (intro w; go_simp; first | done | with_reducible rfl)
        simp only [Act.put, List.setIfInBounds_toArray, List.set_cons_zero, List.set_cons_succ]
        refine wpAny_ready (rs := [6]) (by kernel_rfl) (by simp) ?_
        refine AllReady.cons (o := ({ dst := some 64, op := Op.load 64 (Operand.tmp 63), type := 64, pos := "unmark.go:121", after := #[{ on := 5, ground := Ground.data }, { on := 2, ground := Ground.guard }], guard := some (2, false) } : Oper)) rfl (fun K hK => ?_) AllReady.nil
        go_simp
        refine hK _ _ ?_
        clear hK K
        try simp only [Act.put, List.setIfInBounds_toArray, List.set_cons_zero, List.set_cons_succ]
        refine wpAny_ready (rs := [12]) (by kernel_rfl) (by simp) ?_
        refine AllReady.cons (o := ({ dst := some 70, op := Op.call { callee := Callee.value (Operand.tmp 64), args := #[Operand.tmp 65, Operand.tmp 69], argTypes := #[9, 4] }, type := 4, pos := "unmark.go:121", after := #[{ on := 6, ground := Ground.data }, { on := 7, ground := Ground.data }, { on := 11, ground := Ground.data }, { on := 9, ground := Ground.chain }, { on := 2, ground := Ground.guard }], guard := some (2, false) } : Oper)) rfl (fun K hK => ?_) AllReady.nil
        go_simp
        go_at_call 42
        refine (outside_calls w.heap.size w _ w.heap.size σ s m HX1.out ((below_drew HB2.out).trans (HBX.out.mono (Nat.le_of_lt hszW2))) (Nat.le_of_lt hszx) hOk.out.out hOk.out.text hOk.out.long).mono ?_
        rintro e wy ⟨rfl, hby, hry⟩
        have HBY := Lib.hid hby
        have HRY := Lib.hid hry
        clear hby hry
        refine hK _ _ ?_
        clear hK K
        try simp only [Act.put, List.setIfInBounds_toArray, List.set_cons_zero, List.set_cons_succ]
        refine' wpAny_take (i := 13) (oi := ({ dst := some 71, op := Op.unOp UnOp.not 4 (Operand.tmp 70), type := 4, pos := "unmark.go:121", after := #[{ on := 12, ground := Ground.data }, { on := 2, ground := Ground.guard }], guard := some (2, false) } : Oper)) (v := _) rfl (by kernel_rfl) (by kernel_rfl) (by kernel_rfl) (fun _ _ _ h => h) (Or.inl ⟨by rfl, ?hy5⟩) ?rest5
        case hy5 => (intro w; go_simp; first | done | with_reducible rfl)
        simp only [Act.put, List.setIfInBounds_toArray, List.set_cons_zero, List.set_cons_succ]
        refine' wpAny_take (i := 14) (oi := ({ dst := some 72, op := Op.pick (Operand.tmp 60) (Operand.const (Value.bool true)) (Operand.tmp 71), type := 4, pos := "unmark.go:121", after := #[{ on := 2, ground := Ground.data }, { on := 13, ground := Ground.data }], guard := none } : Oper)) (v := _) rfl (by kernel_rfl) (by kernel_rfl) (by kernel_rfl) (fun _ _ _ h => h) (Or.inl ⟨by rfl, ?hy6⟩) ?rest6
        case hy6 => (intro w; go_simp; first | done | with_reducible rfl)
        simp only [Act.put, List.setIfInBounds_toArray, List.set_cons_zero, List.set_cons_succ]
        refine wpAny_done (by kernel_rfl) ?_ _
        go_wp2
        go_meet
        case rel => exact ⟨by first | rfl | simp, HBY.out, HRY.out⟩
      case rest =>
       obtain ⟨rfl, HB3, HR3⟩ := hcut
       generalize hE : outside σ s m = E at *
       have HE := Lib.hid hE
       clear hE c0_ c1 c2 c3 c4 c5 c6 c7 c8 c9 c10 hfz
       cases E with
       | none =>
        have HX := Lib.hid (show parseP l L = ([], 0, (i : Int) + 1, 2) by rw [HR.out, ← HG.out, HGi.out, HF.out])
        simp only [Option.isSome_none, Bool.not_false]
        go_wp2
        ((try simp only [Exit.inBlock, Exit.then]); refine bodyPost_ret (results_tmp4 rfl _ _ _) rfl ?_)
        rw [HX.out]
        exact ⟨_, rfl, Kd.V_nil _ _ _ _ _, HB3.out⟩
       | some τ =>
        obtain ⟨vo4, vt4, vb4, vs4, vp4, h4⟩ := HR3.out τ rfl
        have HK4 := Lib.hid (feed_ok (n := l.length) HK.out HSi.out HF.out)
        have HG4 := Lib.hid (show goP l.length (l.drop (i + 1)) (i + 1) τ = goP l.length l 0 (start L) by rw [← HG.out, HGi.out, HF.out])
        have H4 := Lib.hid h4
        clear h4 HR3
        simp only [Option.isSome_some, Bool.not_true]
        go_wp2
        go_roundg k1
        case measure => omega
        case rel => exact ⟨i + 1, τ, _, _, _, _, _, by go_num, by omega, H4, HB3, HK4, HG4⟩
     ·have HF := Lib.hid (show feed1 l.length i σ s = insideP σ s m by rw [feed1, hl, if_pos rfl, hinn, hm]; rfl)
      replace c10 : W1.cell? ⟨w.heap.size, 10, none⟩ = some (.func (.func 68) #[.pointer (some ⟨w.heap.size, 0, none⟩)] #[]) := by rw [hinn] at c10; exact c10
      have HIN := Lib.hid hinn
      clear hm hl hinn
      go_upto_region 10 with (fail)
      go_cut [72] (fun v72 wc => v72 = .bool !(insideP σ s m).isSome ∧ Hid (Below w.heap.size w wc) ∧ Hid (∀ σ', insideP σ s m = some σ' → ∃ vo vt vb vs vp, RS w.heap.size wc w.heap.size σ' vo vt vb vs vp))
      case first =>
       refine wp_region_any (by kernel_rfl) ?_
       change wpAny _ _ _ _ _ _ _ (World.drew _)
       refine' wpAny_take (i := 0) (oi := ({ dst := some 58, op := Op.move (Operand.tmp 12), type := 4, pos := "unmark.go:121", after := #[], guard := none } : Oper)) (v := _) rfl (by kernel_rfl) (by kernel_rfl) (by kernel_rfl) (fun _ _ _ h => h) (Or.inl ⟨by rfl, ?hy22⟩) ?rest22
       case hy22 => (intro w; go_simp; first | done | with_reducible rfl)
       simp only [Act.put, List.setIfInBounds_toArray, List.set_cons_zero, List.set_cons_succ]
       refine' wpAny_take (i := 1) (oi := ({ dst := some 59, op := Op.unOp UnOp.not 4 (Operand.tmp 58), type := 4, pos := "unmark.go:121", after := #[{ on := 0, ground := Ground.data }], guard := none } : Oper)) (v := _) rfl (by kernel_rfl) (by kernel_rfl) (by kernel_rfl) (fun _ _ _ h => h) (Or.inl ⟨by rfl, ?hy23⟩) ?rest23
       case hy23 => (intro w; go_simp; first | done | with_reducible rfl)
       simp only [Act.put, List.setIfInBounds_toArray, List.set_cons_zero, List.set_cons_succ]
       refine' wpAny_take (i := 2) (oi := ({ dst := some 60, op := Op.move (Operand.tmp 59), type := 4, pos := "unmark.go:121", after := #[{ on := 1, ground := Ground.data }], guard := none } : Oper)) (v := _) rfl (by kernel_rfl) (by kernel_rfl) (by kernel_rfl) (fun _ _ _ h => h) (Or.inl ⟨by rfl, ?hy24⟩) ?rest24
       case hy24 => (intro w; go_simp; first | done | with_reducible rfl)
       simp only [Act.put, List.setIfInBounds_toArray, List.set_cons_zero, List.set_cons_succ]
       refine' wpAny_take (i := 3) (oi := ({ dst := some 61, op := Op.move (Operand.tmp 8), type := 63, pos := "unmark.go:121", after := #[{ on := 2, ground := Ground.guard }], guard := some (2, false) } : Oper)) (v := _) rfl (by kernel_rfl) (by kernel_rfl) (by kernel_rfl) (fun _ _ _ h => h) (Or.inl ⟨by rfl, ?hy25⟩) ?rest25
       case hy25 => (intro w; go_simp; first | done | with_reducible rfl)
       simp only [Act.put, List.setIfInBounds_toArray, List.set_cons_zero, List.set_cons_succ]
       refine' wpAny_take (i := 4) (oi := ({ dst := some 62, op := Op.nilCheck (Operand.tmp 61), type := 0, pos := "unmark.go:121", after := #[{ on := 3, ground := Ground.data }, { on := 2, ground := Ground.guard }], guard := some (2, false) } : Oper)) (v := _) rfl (by kernel_rfl) (by kernel_rfl) (by kernel_rfl) (fun _ _ _ h => h) (Or.inl ⟨by rfl, ?hy26⟩) ?rest26
       case hy26 => (intro w; go_simp; first | done | with_reducible rfl)
       simp only [Act.put, List.setIfInBounds_toArray, List.set_cons_zero, List.set_cons_succ]
       refine' wpAny_take (i := 5) (oi := ({ dst := some 63, op := Op.fieldAddr 66 (Operand.tmp 62) 7, type := 0, pos := "unmark.go:121", after := #[{ on := 4, ground := Ground.data }, { on := 2, ground := Ground.guard }], guard := some (2, false) } : Oper)) (v := _) rfl (by kernel_rfl) (by kernel_rfl) (by kernel_rfl) (fun _ _ _ h => h) (Or.inl ⟨by rfl, ?hy27⟩) ?rest27
       case hy27 => (intro w; go_simp; first | done | with_reducible rfl)
       simp only [Act.put, List.setIfInBounds_toArray, List.set_cons_zero, List.set_cons_succ]
       refine' wpAny_take (i := 7) (oi := ({ dst := some 65, op := Op.move (Operand.tmp 10), type := 9, pos := "unmark.go:121", after := #[{ on := 2, ground := Ground.guard }], guard := some (2, false) } : Oper)) (v := _) rfl (by kernel_rfl) (by kernel_rfl) (by kernel_rfl) (fun _ _ _ h => h) (Or.inl ⟨by rfl, ?hy28⟩) ?rest28
       case hy28 => (intro w; go_simp; first | done | with_reducible rfl)
       simp only [Act.put, List.setIfInBounds_toArray, List.set_cons_zero, List.set_cons_succ]
       refine' wpAny_take (i := 8) (oi := ({ dst := some 66, op := Op.move (Operand.tmp 10), type := 9, pos := "unmark.go:121", after := #[{ on := 2, ground := Ground.guard }], guard := some (2, false) } : Oper)) (v := _) rfl (by kernel_rfl) (by kernel_rfl) (by kernel_rfl) (fun _ _ _ h => h) (Or.inl ⟨by rfl, ?hy29⟩) ?rest29
       case hy29 => (intro w; go_simp; first | done | with_reducible rfl)
       simp only [Act.put, List.setIfInBounds_toArray, List.set_cons_zero, List.set_cons_succ]
       refine' wpAny_take (i := 10) (oi := ({ dst := some 68, op := Op.move (Operand.tmp 1), type := 3, pos := "unmark.go:121", after := #[{ on := 2, ground := Ground.guard }], guard := some (2, false) } : Oper)) (v := _) rfl (by kernel_rfl) (by kernel_rfl) (by kernel_rfl) (fun _ _ _ h => h) (Or.inl ⟨by rfl, ?hy30⟩) ?rest30
       case hy30 => (intro w; go_simp; first | done | with_reducible rfl)
       simp only [Act.put, List.setIfInBounds_toArray, List.set_cons_zero, List.set_cons_succ]
       refine wpAny_ready (rs := [6, 9]) (by kernel_rfl) (by simp) ?_
       refine AllReady.cons (o := ({ dst := some 64, op := Op.load 64 (Operand.tmp 63), type := 64, pos := "unmark.go:121", after := #[{ on := 5, ground := Ground.data }, { on := 2, ground := Ground.guard }], guard := some (2, false) } : Oper)) rfl (fun K hK => ?_) (AllReady.cons (o := ({ dst := some 67, op := Op.call { callee := Callee.value (Operand.func 45), args := #[Operand.tmp 66], argTypes := #[9] }, type := 3, pos := "unmark.go:121", after := #[{ on := 8, ground := Ground.data }, { on := 2, ground := Ground.chain }, { on := 2, ground := Ground.guard }], guard := some (2, false) } : Oper)) rfl (fun K hK => ?_) AllReady.nil)
       ·go_simp
        refine hK _ _ ?_
        clear hK K
        try simp only [Act.put, List.setIfInBounds_toArray, List.set_cons_zero, List.set_cons_succ]
        refine wpAny_ready (rs := [9]) (by kernel_rfl) (by simp) ?_
        refine AllReady.cons (o := ({ dst := some 67, op := Op.call { callee := Callee.value (Operand.func 45), args := #[Operand.tmp 66], argTypes := #[9] }, type := 3, pos := "unmark.go:121", after := #[{ on := 8, ground := Ground.data }, { on := 2, ground := Ground.chain }, { on := 2, ground := Ground.guard }], guard := some (2, false) } : Oper)) rfl (fun K hK => ?_) AllReady.nil
        go_simp
        go_at_call 45
        refine (size_Run.calls s (rn : Int) _ hRun).mono ?_
        rintro e wx ⟨rfl, hbx⟩
        have HBX := Lib.hid hbx
        have HX1 := Lib.hid (H2.out.drew.below hbx)
        have hszx : w.heap.size < wx.heap.size := Nat.lt_of_lt_of_le hszW2 hbx.size
        have c10x : wx.cell? ⟨w.heap.size, 10, none⟩ = some (.func (.func 68) #[.pointer (some ⟨w.heap.size, 0, none⟩)] #[]) := (by have z_ := (cells_of HX1.out.blk).2.2.2.2.2.2.2.2.2.2.1; rw [HIN.out] at z_; exact z_)
        clear hbx
        refine hK _ _ ?_
        clear hK K
        try simp only [Act.put, List.setIfInBounds_toArray, List.set_cons_zero, List.set_cons_succ]
        refine' wpAny_take (i := 11) (oi := ({ dst := some 69, op := Op.binOp BinOp.geq 3 (Operand.tmp 67) (Operand.tmp 68) 3, type := 4, pos := "unmark.go:121", after := #[{ on := 9, ground := Ground.data }, { on := 10, ground := Ground.data }, { on := 2, ground := Ground.guard }], guard := some (2, false) } : Oper)) (v := _) rfl (by kernel_rfl) (by kernel_rfl) (by kernel_rfl) (fun _ _ _ h => h) (Or.inl ⟨by rfl, ?hy16⟩) ?rest16
        case hy16 => (intro w; go_simp; first | done | with_reducible rfl)
        simp only [Act.put, List.setIfInBounds_toArray, List.set_cons_zero, List.set_cons_succ]
        refine wpAny_ready (rs := [12]) (by kernel_rfl) (by simp) ?_
        refine AllReady.cons (o := ({ dst := some 70, op := Op.call { callee := Callee.value (Operand.tmp 64), args := #[Operand.tmp 65, Operand.tmp 69], argTypes := #[9, 4] }, type := 4, pos := "unmark.go:121", after := #[{ on := 6, ground := Ground.data }, { on := 7, ground := Ground.data }, { on := 11, ground := Ground.data }, { on := 9, ground := Ground.chain }, { on := 2, ground := Ground.guard }], guard := some (2, false) } : Oper)) rfl (fun K hK => ?_) AllReady.nil
        go_simp
        go_at_call 68
        refine (inside_calls w.heap.size w _ w.heap.size σ s m HX1.out ((below_drew HB2.out).trans (HBX.out.mono (Nat.le_of_lt hszW2))) (Nat.le_of_lt hszx) hOk.out).mono ?_
        rintro e wy ⟨rfl, hby, hry⟩
        have HBY := Lib.hid hby
        have HRY := Lib.hid hry
        clear hby hry
        refine hK _ _ ?_
        clear hK K
        try simp only [Act.put, List.setIfInBounds_toArray, List.set_cons_zero, List.set_cons_succ]
        refine' wpAny_take (i := 13) (oi := ({ dst := some 71, op := Op.unOp UnOp.not 4 (Operand.tmp 70), type := 4, pos := "unmark.go:121", after := #[{ on := 12, ground := Ground.data }, { on := 2, ground := Ground.guard }], guard := some (2, false) } : Oper)) (v := _) rfl (by kernel_rfl) (by kernel_rfl) (by kernel_rfl) (fun _ _ _ h => h) (Or.inl ⟨by rfl, ?hy17⟩) ?rest17
        case hy17 => (intro w; go_simp; first | done | with_reducible rfl)
        simp only [Act.put, List.setIfInBounds_toArray, List.set_cons_zero, List.set_cons_succ]
        refine' wpAny_take (i := 14) (oi := ({ dst := some 72, op := Op.pick (Operand.tmp 60) (Operand.const (Value.bool true)) (Operand.tmp 71), type := 4, pos := "unmark.go:121", after := #[{ on := 2, ground := Ground.data }, { on := 13, ground := Ground.data }], guard := none } : Oper)) (v := _) rfl (by kernel_rfl) (by kernel_rfl) (by kernel_rfl) (fun _ _ _ h => h) (Or.inl ⟨by rfl, ?hy18⟩) ?rest18
        case hy18 => (intro w; go_simp; first | done | with_reducible rfl)
        simp only [Act.put, List.setIfInBounds_toArray, List.set_cons_zero, List.set_cons_succ]
        refine wpAny_done (by kernel_rfl) ?_ _
        go_wp2
        go_meet
        case rel => exact ⟨by first | rfl | simp, HBY.out, HRY.out⟩
       ·go_simp
        go_at_call 45
        refine (size_Run.calls s (rn : Int) _ hRun).mono ?_
        rintro e wx ⟨rfl, hbx⟩
        have HBX := Lib.hid hbx
        have HX1 := Lib.hid (H2.out.drew.below hbx)
        have hszx : w.heap.size < wx.heap.size := Nat.lt_of_lt_of_le hszW2 hbx.size
        have c10x : wx.cell? ⟨w.heap.size, 10, none⟩ = some (.func (.func 68) #[.pointer (some ⟨w.heap.size, 0, none⟩)] #[]) := (by have z_ := (cells_of HX1.out.blk).2.2.2.2.2.2.2.2.2.2.1; rw [HIN.out] at z_; exact z_)
        clear hbx
        refine hK _ _ ?_
        clear hK K
        try simp only [Act.put, List.setIfInBounds_toArray, List.set_cons_zero, List.set_cons_succ]
        refine' wpAny_take (i := 11) (oi := ({ dst := some 69, op := Op.binOp BinOp.geq 3 (Operand.tmp 67) (Operand.tmp 68) 3, type := 4, pos := "unmark.go:121", after := #[{ on := 9, ground := Ground.data }, { on := 10, ground := Ground.data }, { on := 2, ground := Ground.guard }], guard := some (2, false) } : Oper)) (v := _) rfl (by kernel_rfl) (by kernel_rfl) (by kernel_rfl) (fun _ _ _ h => h) (Or.inl ⟨by rfl, ?hy19⟩) ?rest19
        case hy19 => (intro w; go_simp; first | done | with_reducible rfl)
        simp only [Act.put, List.setIfInBounds_toArray, List.set_cons_zero, List.set_cons_succ]
        refine wpAny_ready (rs := [6]) (by kernel_rfl) (by simp) ?_
        refine AllReady.cons (o := ({ dst := some 64, op := Op.load 64 (Operand.tmp 63), type := 64, pos := "unmark.go:121", after := #[{ on := 5, ground := Ground.data }, { on := 2, ground := Ground.guard }], guard := some (2, false) } : Oper)) rfl (fun K hK => ?_) AllReady.nil
        go_simp
        refine hK _ _ ?_
        clear hK K
        try simp only [Act.put, List.setIfInBounds_toArray, List.set_cons_zero, List.set_cons_succ]
        refine wpAny_ready (rs := [12]) (by kernel_rfl) (by simp) ?_
        refine AllReady.cons (o := ({ dst := some 70, op := Op.call { callee := Callee.value (Operand.tmp 64), args := #[Operand.tmp 65, Operand.tmp 69], argTypes := #[9, 4] }, type := 4, pos := "unmark.go:121", after := #[{ on := 6, ground := Ground.data }, { on := 7, ground := Ground.data }, { on := 11, ground := Ground.data }, { on := 9, ground := Ground.chain }, { on := 2, ground := Ground.guard }], guard := some (2, false) } : Oper)) rfl (fun K hK => ?_) AllReady.nil
        go_simp
        go_at_call 68
        refine (inside_calls w.heap.size w _ w.heap.size σ s m HX1.out ((below_drew HB2.out).trans (HBX.out.mono (Nat.le_of_lt hszW2))) (Nat.le_of_lt hszx) hOk.out).mono ?_
        rintro e wy ⟨rfl, hby, hry⟩
        have HBY := Lib.hid hby
        have HRY := Lib.hid hry
        clear hby hry
        refine hK _ _ ?_
        clear hK K
        try simp only [Act.put, List.setIfInBounds_toArray, List.set_cons_zero, List.set_cons_succ]
        refine' wpAny_take (i := 13) (oi := ({ dst := some 71, op := Op.unOp UnOp.not 4 (Operand.tmp 70), type := 4, pos := "unmark.go:121", after := #[{ on := 12, ground := Ground.data }, { on := 2, ground := Ground.guard }], guard := some (2, false) } : Oper)) (v := _) rfl (by kernel_rfl) (by kernel_rfl) (by kernel_rfl) (fun _ _ _ h => h) (Or.inl ⟨by rfl, ?hy20⟩) ?rest20
        case hy20 => (intro w; go_simp; first | done | with_reducible rfl)
        simp only [Act.put, List.setIfInBounds_toArray, List.set_cons_zero, List.set_cons_succ]
        refine' wpAny_take (i := 14) (oi := ({ dst := some 72, op := Op.pick (Operand.tmp 60) (Operand.const (Value.bool true)) (Operand.tmp 71), type := 4, pos := "unmark.go:121", after := #[{ on := 2, ground := Ground.data }, { on := 13, ground := Ground.data }], guard := none } : Oper)) (v := _) rfl (by kernel_rfl) (by kernel_rfl) (by kernel_rfl) (fun _ _ _ h => h) (Or.inl ⟨by rfl, ?hy21⟩) ?rest21
        case hy21 => (intro w; go_simp; first | done | with_reducible rfl)
        simp only [Act.put, List.setIfInBounds_toArray, List.set_cons_zero, List.set_cons_succ]
        refine wpAny_done (by kernel_rfl) ?_ _
        go_wp2
        go_meet
        case rel => exact ⟨by first | rfl | simp, HBY.out, HRY.out⟩
      case rest =>
       obtain ⟨rfl, HB3, HR3⟩ := hcut
       generalize hE : insideP σ s m = E at *
       have HE := Lib.hid hE
       clear hE c0_ c1 c2 c3 c4 c5 c6 c7 c8 c9 c10 hfz
       cases E with
       | none =>
        have HX := Lib.hid (show parseP l L = ([], 0, (i : Int) + 1, 2) by rw [HR.out, ← HG.out, HGi.out, HF.out])
        simp only [Option.isSome_none, Bool.not_false]
        go_wp2
        ((try simp only [Exit.inBlock, Exit.then]); refine bodyPost_ret (results_tmp4 rfl _ _ _) rfl ?_)
        rw [HX.out]
        exact ⟨_, rfl, Kd.V_nil _ _ _ _ _, HB3.out⟩
       | some τ =>
        obtain ⟨vo4, vt4, vb4, vs4, vp4, h4⟩ := HR3.out τ rfl
        have HK4 := Lib.hid (feed_ok (n := l.length) HK.out HSi.out HF.out)
        have HG4 := Lib.hid (show goP l.length (l.drop (i + 1)) (i + 1) τ = goP l.length l 0 (start L) by rw [← HG.out, HGi.out, HF.out])
        have H4 := Lib.hid h4
        clear h4 HR3
        simp only [Option.isSome_some, Bool.not_true]
        go_wp2
        go_roundg k1
        case measure => omega
        case rel => exact ⟨i + 1, τ, _, _, _, _, _, by go_num, by omega, H4, HB3, HK4, HG4⟩
  | zero =>
   have hinb : decide (i < l.length) = false := decide_eq_false (by omega)
   have HX0 := Lib.hid (show goP l.length l 0 (start L) = .ok σ by rw [← HG.out, show i = l.length by omega, List.drop_length]; rfl)
   have hdr : Below wr.heap.size wr wr := Below.refl _ _
   cases hc : σ.conf
   ·have HX := Lib.hid (show parseP l L = ((flush σ).out, max σ.style 1, 0, 0) by rw [HR.out, HX0.out]; simp [hc])
    rw [hc] at c3
    clear hc
    go_wp2_with (fail)
    refine (flush_calls w.heap.size w wr w.heap.size σ H.out HB.out (Nat.le_of_lt hsz) (Nat.le_trans HK.out.out (by omega))).mono ?_
    rintro e w2 ⟨rfl, hb2, vo2, vt2, vb2, vs2, vp2, h2⟩
    have hsty : (flush σ).style = σ.style := by unfold flush; split <;> rfl
    obtain ⟨e0, e1, e2, e3, e4, e5, e6, e7, e8, e9, e10, ez⟩ := cells_of h2.blk
    have HB2 := Lib.hid hb2
    have H2 := Lib.hid h2
    have hsz2 : w.heap.size < w2.heap.size := H2.out.apart.1
    rw [hsty] at e9
    have hst := HK.out.style
    generalize hF : flush σ = φ at *
    have HP := Lib.hid (show (parseP l L) = (φ.out, max σ.style 1, 0, 0) by rw [HX.out])
    generalize σ.style = sty at *
    clear h2 hb2 hF
    go_wp2_with (fail)
    go_quiet (fail)
    go_wp2
    ((try simp only [Exit.inBlock, Exit.then]); refine bodyPost_ret (results_tmp4 rfl _ _ _) rfl ?_)
    rw [HP.out]
    refine ⟨vo2, ?_, ?_, pw_below_drewN HB2.out _⟩
    ·rcases hst with rfl | rfl | rfl <;> rfl
    ·exact Kd.V_mono (Kd.V_drewN (Kd.N_V H2.out.out) _) (fun k hk => hk.1)
   ·have HX := Lib.hid (show parseP l L = ([], 0, (l.length : Int) + 1, 2) by rw [HR.out, HX0.out]; simp [hc])
    rw [hc] at c3
    clear hc
    go_wp2_with (fail)
    ((try simp only [Exit.inBlock, Exit.then]); refine bodyPost_ret (results_tmp4 rfl _ _ _) rfl ?_)
    rw [HX.out]
    exact ⟨_, rfl, Kd.V_nil _ _ _ _ _, HB.out⟩
def unmark_Parse.f (a0 : List ByteArray) (a1 : Int) : Option (List Piece × Int × Int × Int) := if a0.length ≤ 100000 ∧ ∀ s ∈ a0, s.size ≤ 1000000 then some (parseP a0 a1) else none
theorem unmark_Parse.calls (A0 : Option Addr) (c0 : Nat) (l0 : List ByteArray) (a1 : Int) (r0 : List Piece) (r1 r2 r3 : Int) (w : World) (hr0 : Kd.C Kd.string w A0 l0.length l0) (hc0 : l0.length ≤ c0) (h : unmark_Parse.f l0 a1 = some (r0, r1, r2, r3)) :
  Calls Tryz.prog 25 #[.slice A0 l0.length c0, .int .i64 a1] w fun e w' => ∃ v0_, e = .returned (.tuple #[v0_, .int .i64 r1, .int .i64 r2, .int .i64 r3]) ∧
   Kd.V k36 36 w' w.heap.size (fun k_ => w.heap.size ≤ k_) v0_ r0 ∧ Below w.heap.size w w' := by
 unfold unmark_Parse.f at h
 split at h
 ·rename_i hg
  have e := Option.some.inj h
  have := parse_any l0 a1 A0 c0 w hr0 hc0 hg.1 hg.2
  rw [e] at this
  exact this
 ·cases h
end Go.Proofs.YtcnjbmdnnhbfkaaGreatDoor.Unmark
