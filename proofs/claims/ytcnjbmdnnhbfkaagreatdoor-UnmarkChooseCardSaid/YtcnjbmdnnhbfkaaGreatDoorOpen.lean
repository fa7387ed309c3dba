/- How an argument that can be read as data is read by the printed words: a slice, of slices, of strings, of structs. Nothing of the program is named but its types' table. -/
import Derived.ChangeArms
import Derived.DataReads
import Derived.SliceStrings
import Derived.Test.YtcnjbmdnnhbfkaaGreatDoorWMore
namespace Go.Proofs.YtcnjbmdnnhbfkaaGreatDoor.Open
open Go.RowKit Go.Proofs.YtcnjbmdnnhbfkaaGreatDoorW.PrintWords
def Agree (w w' : World) : Prop := ∀ k, k < w.heap.size → w'.heap[k]? = w.heap[k]?
theorem Agree.refl (w : World) : Agree w w := fun _ _ => rfl
def Opened {α : Type} (P : Program) (d : Kd α) (Q : α → Prop) (t : TypeId) : Prop :=
 ∀ (H : Type) (enc : TypeId × Value → H) (w : World) (base : Nat) (sp : Nat → Bool) (held : Bool) (fuel : Nat) (cs : List Value) (x : DataW H × List MemPlace),
  DataW.trod enc P w base sp held fuel t cs = some x → ∃ y : α, Q y ∧ cs.length = d.sz ∧ ∀ w', Agree w w' → d.K w' y cs
theorem opened_string {P : Program} {t : TypeId} (ht : P.underlying t = some .string) : Opened P Kd.string (fun s => s.size ≤ 9223372036854775807) t := by
 intro H enc w base sp held fuel cs x h
 obtain ⟨s, rfl, _, hs⟩ := DataW.trod_string ht h
 exact ⟨s, by simpa [maxLen] using hs, rfl, fun _ _ => rfl⟩
theorem opened_bool {P : Program} {t : TypeId} (ht : P.underlying t = some .bool) : Opened P Kd.bool (fun _ => True) t := by
 intro H enc w base sp held fuel cs x h
 obtain ⟨s, rfl, _⟩ := DataW.trod_bool ht h
 exact ⟨s, trivial, rfl, fun _ _ => rfl⟩
theorem choose_list {α : Type} {n : Nat} {R : Nat → α → Prop} (h : ∀ i, i < n → ∃ y, R i y) : ∃ l : List α, l.length = n ∧ ∀ i y, l[i]? = some y → R i y := by
 induction n with
 | zero => exact ⟨[], rfl, fun i y hy => by simp at hy⟩
 | succ n ih =>
  obtain ⟨l, hl, hr⟩ := ih (fun i hi => h i (by omega))
  obtain ⟨y, hy⟩ := h n (by omega)
  refine ⟨l ++ [y], by simp [hl], fun i z hz => ?_⟩
  rcases Nat.lt_or_ge i l.length with hi | hi
  ·rw [List.getElem?_append_left hi] at hz
   exact hr i z hz
  ·rw [List.getElem?_append_right hi] at hz
   have : i - l.length = 0 := by
    have := (List.getElem?_eq_some_iff.1 hz).1
    simp at this
    omega
   rw [this] at hz
   simp at hz
   subst hz
   have : i = n := by omega
   rw [this]
   exact hy
theorem opened_slice {α : Type} {P : Program} {d : Kd α} {Q : α → Prop} {t e : TypeId} (ht : P.underlying t = some (.slice e)) (hc : P.cellsOf e = d.sz) (h : Opened P d Q e) :
  Opened P (Kd.slice e d) (fun l => l.length ≤ 9223372036854775807 ∧ ∀ x ∈ l, Q x) t := by
 intro H enc w base sp held fuel cs x hx
 rcases DataW.trod_slice ht hx with ⟨rfl, rfl⟩ | ⟨a, len, cap, elems, rest, n, rfl, rfl, rfl, hb, hl, hm, hlen, hel, _⟩
 ·exact ⟨[], ⟨by simp, by simp⟩, rfl, fun w' _ => ⟨none, 0, rfl, Nat.le_refl _, rfl, by simp, fun h => absurd h (by simp)⟩⟩
 have hm' : cap ≤ 9223372036854775807 := by simpa [maxLen] using hm
 have each : ∀ i, i < len → ∃ y : α, Q y ∧ ∃ c, c.length = d.sz ∧ (∀ w', Agree w w' → d.K w' y c ∧ ∀ j u, c[j]? = some u → w'.cell? (a.add (i * d.sz + j)) = some u) := by
  intro i hi
  have hi2 := hel i hi
  rw [List.getElem?_eq_getElem (by omega), Option.bind_eq_some_iff] at hi2
  obtain ⟨c, hcs, hy⟩ := hi2
  obtain ⟨y, hq, hcl, hk⟩ := h H enc w base sp held n c _ hy
  obtain ⟨_, hcl2, hcc⟩ := World.cells?_some hcs
  refine ⟨y, hq, c, hcl, fun w' hw => ⟨hk w' hw, fun j u hu => ?_⟩⟩
  have hj : j < d.sz := by have := (List.getElem?_eq_some_iff.1 hu).1; omega
  have h1 := hcc j (by omega)
  rw [hu, hc] at h1
  have ha : (a.add (i * d.sz)).add j = a.add (i * d.sz + j) := by
   unfold Addr.add
   repeat' split
   all_goals simp_all [Nat.add_assoc]
  rw [ha] at h1
  have hlt := World.block_lt_of_cell? w _ h1
  rw [World.cell?_of_block (hw _ hlt)]
  exact h1
 obtain ⟨l, hll, hr⟩ := choose_list each
 refine ⟨l, ⟨by omega, fun x hx => ?_⟩, rfl, fun w' hw => ⟨some a, cap, by rw [hll], by omega, rfl, by omega, fun _ => ⟨a, rfl, fun j p hj => ?_⟩⟩⟩
 ·obtain ⟨i, hi⟩ := List.getElem?_of_mem hx
  exact (hr i x hi).1
 ·obtain ⟨_, c, hcl, hk⟩ := hr j p hj
  exact ⟨c, hcl, (hk w' hw).1, (hk w' hw).2⟩
theorem open_slice {α : Type} {P : Program} {d : Kd α} {Q : α → Prop} {t e : TypeId} (ht : P.underlying t = some (.slice e)) (hc : P.cellsOf e = d.sz) (ho : Opened P d Q e)
  {H : Type} {enc : TypeId × Value → H} {w : World} {base : Nat} {sp : Nat → Bool} {held : Bool} {a : Option Addr} {len cap : Nat} {dd : DataW H} {ps : List MemPlace}
  (h : DataW.Trod enc P w base sp held t (.slice a len cap) dd ps) :
  ∃ l : List α, len = l.length ∧ l.length ≤ cap ∧ l.length ≤ 9223372036854775807 ∧ (∀ x ∈ l, Q x) ∧ ∀ w', Agree w w' → d.C w' a l.length l := by
 obtain ⟨fuel, hf⟩ := h
 obtain ⟨l, ⟨hl, hq⟩, _, hk⟩ := opened_slice ht hc ho H enc w base sp held fuel _ _ hf
 obtain ⟨A, c, he, hle, _⟩ := hk w (Agree.refl w)
 simp [Value.cells] at he
 obtain ⟨rfl, rfl, rfl⟩ := he
 refine ⟨l, rfl, hle, hl, hq, fun w' hw => ?_⟩
 obtain ⟨A, c, he, _, hC⟩ := hk w' hw
 simp [Value.cells] at he
 obtain ⟨rfl, rfl⟩ := he
 exact hC
theorem shared {α : Type} {d : Kd α} {e : Nat} {w : World} {base : Nat} {a : Option Addr} {cap : Nat} {l : List α} (hl : l.length ≤ cap) (h : ∀ w', Agree w w' → d.C w' a l.length l) :
  Kd.V d e w base (fun k_ => (fun _ => True) k_) (.slice a l.length cap) l := Kd.V_mk hl (fun w' hw => h w' (fun k hk => hw k trivial hk))
end Go.Proofs.YtcnjbmdnnhbfkaaGreatDoor.Open
