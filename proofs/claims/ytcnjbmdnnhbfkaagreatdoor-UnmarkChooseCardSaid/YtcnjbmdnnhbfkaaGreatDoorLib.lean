/- Contracts of Go's library that the printed texts call, in the form of a printed one, out of the shelf's. -/
import Derived.Test.YtcnjbmdnnhbfkaaGreatDoorShelf
import Derived.Test.YtcnjbmdnnhbfkaaGreatDoorWMore
namespace Go.Proofs.YtcnjbmdnnhbfkaaGreatDoor.Lib
open Go.RowKit Go.Proofs.YtcnjbmdnnhbfkaaGreatDoorW.PrintWords
theorem drawn_same {w w' : World} (h : w' = w) : Drawn0 w w' := by rw [h]; exact Drawn0.refl _
def strings_Index.f (a0 a1 : ByteArray) : Option Int := if h : a1.size = 1 then some (Lib.indexByte a0.data.toList (a1[0]'(by omega))) else none
theorem strings_Index.calls (a0 a1 : ByteArray) (r : Int) (w : World) (h : strings_Index.f a0 a1 = some r) :
  Calls Tryz.prog 69 #[.string a0, .string a1] w fun e w' => e = .returned (.int .i64 r) ∧ Drawn0 w w' := by
 unfold strings_Index.f at h
 split at h
 ·rename_i h1
  obtain rfl := Option.some.inj h
  have e : a1 = ⟨#[a1[0]'(by omega)]⟩ := by
   apply ByteArray.ext
   apply Array.ext'
   have hl : a1.data.toList.length = 1 := by simpa using h1
   match hd : a1.data.toList with
   | [] => rw [hd] at hl; simp at hl
   | [c] =>
    have : a1[0]'(by omega) = c := by
     have h2 : a1.data.toList[0]? = some c := by rw [hd]; rfl
     have h3 : a1[0]'(by omega) = a1.data.toList[0]'(by omega) := by simp; rfl
     rw [h3]
     rw [List.getElem?_eq_getElem (by omega)] at h2
     exact Option.some.inj h2
    rw [this]
   | c :: d :: l => rw [hd] at hl; simp at hl
  have := Tryz.strings_Index_one a0 (a1[0]'(by omega)) w
  rw [← e] at this
  exact this.mono fun e w' ⟨he, hw⟩ => ⟨he, drawn_same hw⟩
 ·cases h
def strings_HasSuffix.f (a0 a1 : ByteArray) : Option Bool := if a0.size ≤ 9223372036854775807 then some (Lib.hasSuffix a0.data.toList a1.data.toList) else none
theorem strings_HasSuffix.calls (a0 a1 : ByteArray) (r : Bool) (w : World) (h : strings_HasSuffix.f a0 a1 = some r) :
  Calls Tryz.prog 70 #[.string a0, .string a1] w fun e w' => e = .returned (.bool r) ∧ Drawn0 w w' := by
 unfold strings_HasSuffix.f at h
 split at h
 ·rename_i h1
  obtain rfl := Option.some.inj h
  exact (Tryz.strings_HasSuffix a0 a1 w h1).mono fun e w' ⟨he, hw⟩ => ⟨he, drawn_same hw⟩
 ·cases h
end Go.Proofs.YtcnjbmdnnhbfkaaGreatDoor.Lib
