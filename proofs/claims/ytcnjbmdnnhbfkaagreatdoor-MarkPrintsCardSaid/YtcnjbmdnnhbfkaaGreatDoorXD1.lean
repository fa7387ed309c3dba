-- Printed by this session's xprint.sh (a patched copy of the kit's print program). Not trusted: Lean checks it.
import Derived.Test.YtcnjbmdnnhbfkaaGreatDoorXD0
import Derived.Test.YtcnjbmdnnhbfkaaGreatDoorMk2
namespace Go.Proofs.YtcnjbmdnnhbfkaaGreatDoor.XD
open Go.RowKit Go.Proofs.YtcnjbmdnnhbfkaaGreatDoor.Mark Go.Proofs.YtcnjbmdnnhbfkaaGreatDoorW.PrintWords Go.Proofs.YtcnjbmdnnhbfkaaGreatDoorW.PrintLast Go.Proofs.YtcnjbmdnnhbfkaaGreatDoorW.PrintMore
attribute [local go_sem] max2_int min2_int max_two min_two max_three min_three max_four min_four   -- for this text's walks alone
set_option linter.unusedVariables false
set_option linter.unusedSimpArgs false

-- function 12 (mark_Print): its contract is proved by hand

/-! ### sennitlaw12_awake: function 10 -/
def sennitlaw12_awake.f  : Option (Bool) := (some (([(⟨false, (([(⟨#[116, 10]⟩ : ByteArray)] : List ByteArray)), ([] : List ByteArray), ([] : List (List ByteArray))⟩ : S36), (⟨true, ([] : List ByteArray), (([(⟨#[122, 10]⟩ : ByteArray)] : List ByteArray)), (([(([(⟨#[97, 10]⟩ : ByteArray)] : List ByteArray)), (([(⟨#[98]⟩ : ByteArray)] : List ByteArray))] : List (List ByteArray)))⟩ : S36)] : List (S36)) : List (S36))).bind fun y116 => ((mark_Print.f y116 1 2).bind fun bt119 => ((mark_Print.f y116 2 2).bind fun bt123 => ((mark_Print.f y116 4 2).bind fun bt127 => (if bt119.2 = 0 then (if bt123.2 = 0 then (if bt127.2 = 1 then (if (bt119.1.length : Int) = 6 then (if 1 < (bt119.1.length : Int) then (if (rdOf ByteArray.empty bt119.1 1).toList = ([60, 60, 32, 49, 10] : List UInt8) then (if 3 < (bt119.1.length : Int) then (if (rdOf ByteArray.empty bt119.1 3).toList = ([61, 61, 32, 50, 10] : List UInt8) then (if 4 < (bt119.1.length : Int) then (if (rdOf ByteArray.empty bt119.1 4).toList = ([98, 10] : List UInt8) then (if 5 < (bt119.1.length : Int) then (if (rdOf ByteArray.empty bt119.1 5).toList = ([62, 62, 33, 10] : List UInt8) then (if (bt123.1.length : Int) = 8 then (if 3 < (bt123.1.length : Int) then (some ((rdOf ByteArray.empty bt123.1 3).toList == ([124, 124, 32, 98, 97, 115, 101, 10] : List UInt8))) else (none)) else (some false)) else (some false)) else (none)) else (some false)) else (none)) else (some false)) else (none)) else (some false)) else (none)) else (some false)) else (some false)) else (some false)) else (some false)))))
theorem sennitlaw12_awake_true : sennitlaw12_awake.f = some true := by decide +kernel
set_option maxHeartbeats 8000000 in
set_option maxRecDepth 100000 in
theorem sennitlaw12_awake.calls  (r : Bool) (w : World) (h : sennitlaw12_awake.f  = some r) :
  Calls Tryz.prog 10 #[] w fun e w' => e = .returned (.bool r) ∧ Below w.heap.size w w' := by
 have hr_ : r = true := Option.some.inj (h.symm.trans sennitlaw12_awake_true)
 have hu36 := Tryz.underlying36
 have HB := Aside0.mk (Below.refl w.heap.size w)
 have H : ((some (([(⟨false, (([(⟨#[116, 10]⟩ : ByteArray)] : List ByteArray)), ([] : List ByteArray), ([] : List (List ByteArray))⟩ : S36), (⟨true, ([] : List ByteArray), (([(⟨#[122, 10]⟩ : ByteArray)] : List ByteArray)), (([(([(⟨#[97, 10]⟩ : ByteArray)] : List ByteArray)), (([(⟨#[98]⟩ : ByteArray)] : List ByteArray))] : List (List ByteArray)))⟩ : S36)] : List (S36)) : List (S36))).bind fun y116 => ((mark_Print.f y116 1 2).bind fun bt119 => ((mark_Print.f y116 2 2).bind fun bt123 => ((mark_Print.f y116 4 2).bind fun bt127 => (if bt119.2 = 0 then (if bt123.2 = 0 then (if bt127.2 = 1 then (if (bt119.1.length : Int) = 6 then (if 1 < (bt119.1.length : Int) then (if (rdOf ByteArray.empty bt119.1 1).toList = ([60, 60, 32, 49, 10] : List UInt8) then (if 3 < (bt119.1.length : Int) then (if (rdOf ByteArray.empty bt119.1 3).toList = ([61, 61, 32, 50, 10] : List UInt8) then (if 4 < (bt119.1.length : Int) then (if (rdOf ByteArray.empty bt119.1 4).toList = ([98, 10] : List UInt8) then (if 5 < (bt119.1.length : Int) then (if (rdOf ByteArray.empty bt119.1 5).toList = ([62, 62, 33, 10] : List UInt8) then (if (bt123.1.length : Int) = 8 then (if 3 < (bt123.1.length : Int) then (some ((rdOf ByteArray.empty bt123.1 3).toList == ([124, 124, 32, 98, 97, 115, 101, 10] : List UInt8))) else (none)) else (some false)) else (some false)) else (none)) else (some false)) else (none)) else (some false)) else (none)) else (some false)) else (none)) else (some false)) else (some false)) else (some false)) else (some false)))))) = some r := h
 clear h
 obtain ⟨y101, hy101⟩ : ∃ y_ : List ByteArray, y_ = (([(⟨#[116, 10]⟩ : ByteArray)] : List ByteArray)) := ⟨_, rfl⟩
 replace H : ((some (([(⟨false, y101, ([] : List ByteArray), ([] : List (List ByteArray))⟩ : S36), (⟨true, ([] : List ByteArray), (([(⟨#[122, 10]⟩ : ByteArray)] : List ByteArray)), (([(([(⟨#[97, 10]⟩ : ByteArray)] : List ByteArray)), (([(⟨#[98]⟩ : ByteArray)] : List ByteArray))] : List (List ByteArray)))⟩ : S36)] : List (S36)) : List (S36))).bind fun y116 => ((mark_Print.f y116 1 2).bind fun bt119 => ((mark_Print.f y116 2 2).bind fun bt123 => ((mark_Print.f y116 4 2).bind fun bt127 => (if bt119.2 = 0 then (if bt123.2 = 0 then (if bt127.2 = 1 then (if (bt119.1.length : Int) = 6 then (if 1 < (bt119.1.length : Int) then (if (rdOf ByteArray.empty bt119.1 1).toList = ([60, 60, 32, 49, 10] : List UInt8) then (if 3 < (bt119.1.length : Int) then (if (rdOf ByteArray.empty bt119.1 3).toList = ([61, 61, 32, 50, 10] : List UInt8) then (if 4 < (bt119.1.length : Int) then (if (rdOf ByteArray.empty bt119.1 4).toList = ([98, 10] : List UInt8) then (if 5 < (bt119.1.length : Int) then (if (rdOf ByteArray.empty bt119.1 5).toList = ([62, 62, 33, 10] : List UInt8) then (if (bt123.1.length : Int) = 8 then (if 3 < (bt123.1.length : Int) then (some ((rdOf ByteArray.empty bt123.1 3).toList == ([124, 124, 32, 98, 97, 115, 101, 10] : List UInt8))) else (none)) else (some false)) else (some false)) else (none)) else (some false)) else (none)) else (some false)) else (none)) else (some false)) else (none)) else (some false)) else (some false)) else (some false)) else (some false)))))) = some r := by first | (rw [hy101]; with_reducible exact H) | (have H2_ := (Option.bind_some _ _).symm.trans H; rw [hy101]; with_reducible exact H2_) | (have H2_ := (Option.bind_some _ _).symm.trans H; with_reducible exact H2_) | with_reducible exact H | (rw [hy101]; exact H) | exact H
 have Ny101 := Aside0.mk hy101
 clear hy101
 obtain ⟨y104, hy104⟩ : ∃ y_ : List ByteArray, y_ = (([(⟨#[122, 10]⟩ : ByteArray)] : List ByteArray)) := ⟨_, rfl⟩
 replace H : ((some (([(⟨false, y101, ([] : List ByteArray), ([] : List (List ByteArray))⟩ : S36), (⟨true, ([] : List ByteArray), y104, (([(([(⟨#[97, 10]⟩ : ByteArray)] : List ByteArray)), (([(⟨#[98]⟩ : ByteArray)] : List ByteArray))] : List (List ByteArray)))⟩ : S36)] : List (S36)) : List (S36))).bind fun y116 => ((mark_Print.f y116 1 2).bind fun bt119 => ((mark_Print.f y116 2 2).bind fun bt123 => ((mark_Print.f y116 4 2).bind fun bt127 => (if bt119.2 = 0 then (if bt123.2 = 0 then (if bt127.2 = 1 then (if (bt119.1.length : Int) = 6 then (if 1 < (bt119.1.length : Int) then (if (rdOf ByteArray.empty bt119.1 1).toList = ([60, 60, 32, 49, 10] : List UInt8) then (if 3 < (bt119.1.length : Int) then (if (rdOf ByteArray.empty bt119.1 3).toList = ([61, 61, 32, 50, 10] : List UInt8) then (if 4 < (bt119.1.length : Int) then (if (rdOf ByteArray.empty bt119.1 4).toList = ([98, 10] : List UInt8) then (if 5 < (bt119.1.length : Int) then (if (rdOf ByteArray.empty bt119.1 5).toList = ([62, 62, 33, 10] : List UInt8) then (if (bt123.1.length : Int) = 8 then (if 3 < (bt123.1.length : Int) then (some ((rdOf ByteArray.empty bt123.1 3).toList == ([124, 124, 32, 98, 97, 115, 101, 10] : List UInt8))) else (none)) else (some false)) else (some false)) else (none)) else (some false)) else (none)) else (some false)) else (none)) else (some false)) else (none)) else (some false)) else (some false)) else (some false)) else (some false)))))) = some r := by first | (rw [hy104]; with_reducible exact H) | (have H2_ := (Option.bind_some _ _).symm.trans H; rw [hy104]; with_reducible exact H2_) | (have H2_ := (Option.bind_some _ _).symm.trans H; with_reducible exact H2_) | with_reducible exact H | (rw [hy104]; exact H) | exact H
 have Ny104 := Aside0.mk hy104
 clear hy104
 obtain ⟨y107, hy107⟩ : ∃ y_ : List ByteArray, y_ = (([(⟨#[97, 10]⟩ : ByteArray)] : List ByteArray)) := ⟨_, rfl⟩
 replace H : ((some (([(⟨false, y101, ([] : List ByteArray), ([] : List (List ByteArray))⟩ : S36), (⟨true, ([] : List ByteArray), y104, (([y107, (([(⟨#[98]⟩ : ByteArray)] : List ByteArray))] : List (List ByteArray)))⟩ : S36)] : List (S36)) : List (S36))).bind fun y116 => ((mark_Print.f y116 1 2).bind fun bt119 => ((mark_Print.f y116 2 2).bind fun bt123 => ((mark_Print.f y116 4 2).bind fun bt127 => (if bt119.2 = 0 then (if bt123.2 = 0 then (if bt127.2 = 1 then (if (bt119.1.length : Int) = 6 then (if 1 < (bt119.1.length : Int) then (if (rdOf ByteArray.empty bt119.1 1).toList = ([60, 60, 32, 49, 10] : List UInt8) then (if 3 < (bt119.1.length : Int) then (if (rdOf ByteArray.empty bt119.1 3).toList = ([61, 61, 32, 50, 10] : List UInt8) then (if 4 < (bt119.1.length : Int) then (if (rdOf ByteArray.empty bt119.1 4).toList = ([98, 10] : List UInt8) then (if 5 < (bt119.1.length : Int) then (if (rdOf ByteArray.empty bt119.1 5).toList = ([62, 62, 33, 10] : List UInt8) then (if (bt123.1.length : Int) = 8 then (if 3 < (bt123.1.length : Int) then (some ((rdOf ByteArray.empty bt123.1 3).toList == ([124, 124, 32, 98, 97, 115, 101, 10] : List UInt8))) else (none)) else (some false)) else (some false)) else (none)) else (some false)) else (none)) else (some false)) else (none)) else (some false)) else (none)) else (some false)) else (some false)) else (some false)) else (some false)))))) = some r := by first | (rw [hy107]; with_reducible exact H) | (have H2_ := (Option.bind_some _ _).symm.trans H; rw [hy107]; with_reducible exact H2_) | (have H2_ := (Option.bind_some _ _).symm.trans H; with_reducible exact H2_) | with_reducible exact H | (rw [hy107]; exact H) | exact H
 have Ny107 := Aside0.mk hy107
 clear hy107
 obtain ⟨y110, hy110⟩ : ∃ y_ : List ByteArray, y_ = (([(⟨#[98]⟩ : ByteArray)] : List ByteArray)) := ⟨_, rfl⟩
 replace H : ((some (([(⟨false, y101, ([] : List ByteArray), ([] : List (List ByteArray))⟩ : S36), (⟨true, ([] : List ByteArray), y104, (([y107, y110] : List (List ByteArray)))⟩ : S36)] : List (S36)) : List (S36))).bind fun y116 => ((mark_Print.f y116 1 2).bind fun bt119 => ((mark_Print.f y116 2 2).bind fun bt123 => ((mark_Print.f y116 4 2).bind fun bt127 => (if bt119.2 = 0 then (if bt123.2 = 0 then (if bt127.2 = 1 then (if (bt119.1.length : Int) = 6 then (if 1 < (bt119.1.length : Int) then (if (rdOf ByteArray.empty bt119.1 1).toList = ([60, 60, 32, 49, 10] : List UInt8) then (if 3 < (bt119.1.length : Int) then (if (rdOf ByteArray.empty bt119.1 3).toList = ([61, 61, 32, 50, 10] : List UInt8) then (if 4 < (bt119.1.length : Int) then (if (rdOf ByteArray.empty bt119.1 4).toList = ([98, 10] : List UInt8) then (if 5 < (bt119.1.length : Int) then (if (rdOf ByteArray.empty bt119.1 5).toList = ([62, 62, 33, 10] : List UInt8) then (if (bt123.1.length : Int) = 8 then (if 3 < (bt123.1.length : Int) then (some ((rdOf ByteArray.empty bt123.1 3).toList == ([124, 124, 32, 98, 97, 115, 101, 10] : List UInt8))) else (none)) else (some false)) else (some false)) else (none)) else (some false)) else (none)) else (some false)) else (none)) else (some false)) else (none)) else (some false)) else (some false)) else (some false)) else (some false)))))) = some r := by first | (rw [hy110]; with_reducible exact H) | (have H2_ := (Option.bind_some _ _).symm.trans H; rw [hy110]; with_reducible exact H2_) | (have H2_ := (Option.bind_some _ _).symm.trans H; with_reducible exact H2_) | with_reducible exact H | (rw [hy110]; exact H) | exact H
 have Ny110 := Aside0.mk hy110
 clear hy110
 obtain ⟨y113, hy113⟩ : ∃ y_ : List (List ByteArray), y_ = (([y107, y110] : List (List ByteArray))) := ⟨_, rfl⟩
 replace H : ((some (([(⟨false, y101, ([] : List ByteArray), ([] : List (List ByteArray))⟩ : S36), (⟨true, ([] : List ByteArray), y104, y113⟩ : S36)] : List (S36)) : List (S36))).bind fun y116 => ((mark_Print.f y116 1 2).bind fun bt119 => ((mark_Print.f y116 2 2).bind fun bt123 => ((mark_Print.f y116 4 2).bind fun bt127 => (if bt119.2 = 0 then (if bt123.2 = 0 then (if bt127.2 = 1 then (if (bt119.1.length : Int) = 6 then (if 1 < (bt119.1.length : Int) then (if (rdOf ByteArray.empty bt119.1 1).toList = ([60, 60, 32, 49, 10] : List UInt8) then (if 3 < (bt119.1.length : Int) then (if (rdOf ByteArray.empty bt119.1 3).toList = ([61, 61, 32, 50, 10] : List UInt8) then (if 4 < (bt119.1.length : Int) then (if (rdOf ByteArray.empty bt119.1 4).toList = ([98, 10] : List UInt8) then (if 5 < (bt119.1.length : Int) then (if (rdOf ByteArray.empty bt119.1 5).toList = ([62, 62, 33, 10] : List UInt8) then (if (bt123.1.length : Int) = 8 then (if 3 < (bt123.1.length : Int) then (some ((rdOf ByteArray.empty bt123.1 3).toList == ([124, 124, 32, 98, 97, 115, 101, 10] : List UInt8))) else (none)) else (some false)) else (some false)) else (none)) else (some false)) else (none)) else (some false)) else (none)) else (some false)) else (none)) else (some false)) else (some false)) else (some false)) else (some false)))))) = some r := by first | (rw [hy113]; with_reducible exact H) | (have H2_ := (Option.bind_some _ _).symm.trans H; rw [hy113]; with_reducible exact H2_) | (have H2_ := (Option.bind_some _ _).symm.trans H; with_reducible exact H2_) | with_reducible exact H | (rw [hy113]; exact H) | exact H
 have Ny113 := Aside0.mk hy113
 clear hy113
 obtain ⟨y116, hy116⟩ : ∃ y_ : List (S36), y_ = (([(⟨false, y101, ([] : List ByteArray), ([] : List (List ByteArray))⟩ : S36), (⟨true, ([] : List ByteArray), y104, y113⟩ : S36)] : List (S36))) := ⟨_, rfl⟩
 replace H : ((mark_Print.f y116 1 2).bind fun bt119 => ((mark_Print.f y116 2 2).bind fun bt123 => ((mark_Print.f y116 4 2).bind fun bt127 => (if bt119.2 = 0 then (if bt123.2 = 0 then (if bt127.2 = 1 then (if (bt119.1.length : Int) = 6 then (if 1 < (bt119.1.length : Int) then (if (rdOf ByteArray.empty bt119.1 1).toList = ([60, 60, 32, 49, 10] : List UInt8) then (if 3 < (bt119.1.length : Int) then (if (rdOf ByteArray.empty bt119.1 3).toList = ([61, 61, 32, 50, 10] : List UInt8) then (if 4 < (bt119.1.length : Int) then (if (rdOf ByteArray.empty bt119.1 4).toList = ([98, 10] : List UInt8) then (if 5 < (bt119.1.length : Int) then (if (rdOf ByteArray.empty bt119.1 5).toList = ([62, 62, 33, 10] : List UInt8) then (if (bt123.1.length : Int) = 8 then (if 3 < (bt123.1.length : Int) then (some ((rdOf ByteArray.empty bt123.1 3).toList == ([124, 124, 32, 98, 97, 115, 101, 10] : List UInt8))) else (none)) else (some false)) else (some false)) else (none)) else (some false)) else (none)) else (some false)) else (none)) else (some false)) else (none)) else (some false)) else (some false)) else (some false)) else (some false))))) = some r := by first | (rw [hy116]; with_reducible exact H) | (have H2_ := (Option.bind_some _ _).symm.trans H; rw [hy116]; with_reducible exact H2_) | (have H2_ := (Option.bind_some _ _).symm.trans H; with_reducible exact H2_) | with_reducible exact H | (rw [hy116]; exact H) | exact H
 have Ny116 := Aside0.mk hy116
 clear hy116
 replace H := Option.bind_eq_some_iff.mp H
 obtain ⟨⟨t119, t122⟩, A10, H⟩ := H
 replace H : ((mark_Print.f y116 2 2).bind fun bt123 => ((mark_Print.f y116 4 2).bind fun bt127 => (if t122 = 0 then (if bt123.2 = 0 then (if bt127.2 = 1 then (if (t119.length : Int) = 6 then (if 1 < (t119.length : Int) then (if (rdOf ByteArray.empty t119 1).toList = ([60, 60, 32, 49, 10] : List UInt8) then (if 3 < (t119.length : Int) then (if (rdOf ByteArray.empty t119 3).toList = ([61, 61, 32, 50, 10] : List UInt8) then (if 4 < (t119.length : Int) then (if (rdOf ByteArray.empty t119 4).toList = ([98, 10] : List UInt8) then (if 5 < (t119.length : Int) then (if (rdOf ByteArray.empty t119 5).toList = ([62, 62, 33, 10] : List UInt8) then (if (bt123.1.length : Int) = 8 then (if 3 < (bt123.1.length : Int) then (some ((rdOf ByteArray.empty bt123.1 3).toList == ([124, 124, 32, 98, 97, 115, 101, 10] : List UInt8))) else (none)) else (some false)) else (some false)) else (none)) else (some false)) else (none)) else (some false)) else (none)) else (some false)) else (none)) else (some false)) else (some false)) else (some false)) else (some false)))) = some r := H
 have A1 := Aside0.mk A10
 clear A10
 replace H := Option.bind_eq_some_iff.mp H
 obtain ⟨⟨t123, t126⟩, A20, H⟩ := H
 replace H : ((mark_Print.f y116 4 2).bind fun bt127 => (if t122 = 0 then (if t126 = 0 then (if bt127.2 = 1 then (if (t119.length : Int) = 6 then (if 1 < (t119.length : Int) then (if (rdOf ByteArray.empty t119 1).toList = ([60, 60, 32, 49, 10] : List UInt8) then (if 3 < (t119.length : Int) then (if (rdOf ByteArray.empty t119 3).toList = ([61, 61, 32, 50, 10] : List UInt8) then (if 4 < (t119.length : Int) then (if (rdOf ByteArray.empty t119 4).toList = ([98, 10] : List UInt8) then (if 5 < (t119.length : Int) then (if (rdOf ByteArray.empty t119 5).toList = ([62, 62, 33, 10] : List UInt8) then (if (t123.length : Int) = 8 then (if 3 < (t123.length : Int) then (some ((rdOf ByteArray.empty t123 3).toList == ([124, 124, 32, 98, 97, 115, 101, 10] : List UInt8))) else (none)) else (some false)) else (some false)) else (none)) else (some false)) else (none)) else (some false)) else (none)) else (some false)) else (none)) else (some false)) else (some false)) else (some false)) else (some false))) = some r := H
 have A2 := Aside0.mk A20
 clear A20
 replace H := Option.bind_eq_some_iff.mp H
 obtain ⟨⟨t127, t130⟩, A30, H⟩ := H
 replace H : (if t122 = 0 then (if t126 = 0 then (if t130 = 1 then (if (t119.length : Int) = 6 then (if 1 < (t119.length : Int) then (if (rdOf ByteArray.empty t119 1).toList = ([60, 60, 32, 49, 10] : List UInt8) then (if 3 < (t119.length : Int) then (if (rdOf ByteArray.empty t119 3).toList = ([61, 61, 32, 50, 10] : List UInt8) then (if 4 < (t119.length : Int) then (if (rdOf ByteArray.empty t119 4).toList = ([98, 10] : List UInt8) then (if 5 < (t119.length : Int) then (if (rdOf ByteArray.empty t119 5).toList = ([62, 62, 33, 10] : List UInt8) then (if (t123.length : Int) = 8 then (if 3 < (t123.length : Int) then (some ((rdOf ByteArray.empty t123 3).toList == ([124, 124, 32, 98, 97, 115, 101, 10] : List UInt8))) else (none)) else (some false)) else (some false)) else (none)) else (some false)) else (none)) else (some false)) else (none)) else (some false)) else (none)) else (some false)) else (some false)) else (some false)) else (some false)) = some r := H
 have A3 := Aside0.mk A30
 clear A30
 by_cases c4 : t122 = 0
 ·rw [if_pos c4] at H
  have c4b0 : (t122 == 0) = true := beq_iff_eq.mpr c4
  have c4b1 : (t122 != 0) = false := bne_eq_false_iff_eq.mpr c4
  clear c4
  by_cases c5 : t126 = 0
  ·rw [if_pos c5] at H
   have c5b0 : (t126 == 0) = true := beq_iff_eq.mpr c5
   have c5b1 : (t126 != 0) = false := bne_eq_false_iff_eq.mpr c5
   clear c5
   by_cases c6 : t130 = 1
   ·rw [if_pos c6] at H
    have c6b0 : (t130 == 1) = true := beq_iff_eq.mpr c6
    have c6b1 : (t130 != 1) = false := bne_eq_false_iff_eq.mpr c6
    clear c6
    by_cases c7 : (t119.length : Int) = 6
    ·rw [if_pos c7] at H
     have c7b0 : ((t119.length : Int) == 6) = true := beq_iff_eq.mpr c7
     have c7b1 : ((t119.length : Int) != 6) = false := bne_eq_false_iff_eq.mpr c7
     clear c7
     by_cases c8 : 1 < (t119.length : Int)
     ·rw [if_pos c8] at H
      have c8b0 : decide (1 < (t119.length : Int)) = true := decide_eq_true c8
      have c8b1 : decide (1 < t119.length) = true := decide_eq_true (by omega)
      clear c8
      by_cases c9 : (rdOf ByteArray.empty t119 1).toList = ([60, 60, 32, 49, 10] : List UInt8)
      ·rw [if_pos c9] at H
       have c9b0 : ((rdOf ByteArray.empty t119 1).toList == ([60, 60, 32, 49, 10] : List UInt8)) = true := beq_iff_eq.mpr c9
       have c9b1 : ((rdOf ByteArray.empty t119 1).toList != ([60, 60, 32, 49, 10] : List UInt8)) = false := bne_eq_false_iff_eq.mpr c9
       clear c9
       by_cases c10 : 3 < (t119.length : Int)
       ·rw [if_pos c10] at H
        have c10b0 : decide (3 < (t119.length : Int)) = true := decide_eq_true c10
        have c10b1 : decide (3 < t119.length) = true := decide_eq_true (by omega)
        clear c10
        by_cases c11 : (rdOf ByteArray.empty t119 3).toList = ([61, 61, 32, 50, 10] : List UInt8)
        ·rw [if_pos c11] at H
         have c11b0 : ((rdOf ByteArray.empty t119 3).toList == ([61, 61, 32, 50, 10] : List UInt8)) = true := beq_iff_eq.mpr c11
         have c11b1 : ((rdOf ByteArray.empty t119 3).toList != ([61, 61, 32, 50, 10] : List UInt8)) = false := bne_eq_false_iff_eq.mpr c11
         clear c11
         by_cases c12 : 4 < (t119.length : Int)
         ·rw [if_pos c12] at H
          have c12b0 : decide (4 < (t119.length : Int)) = true := decide_eq_true c12
          have c12b1 : decide (4 < t119.length) = true := decide_eq_true (by omega)
          clear c12
          by_cases c13 : (rdOf ByteArray.empty t119 4).toList = ([98, 10] : List UInt8)
          ·rw [if_pos c13] at H
           have c13b0 : ((rdOf ByteArray.empty t119 4).toList == ([98, 10] : List UInt8)) = true := beq_iff_eq.mpr c13
           have c13b1 : ((rdOf ByteArray.empty t119 4).toList != ([98, 10] : List UInt8)) = false := bne_eq_false_iff_eq.mpr c13
           clear c13
           by_cases c14 : 5 < (t119.length : Int)
           ·rw [if_pos c14] at H
            have c14b0 : decide (5 < (t119.length : Int)) = true := decide_eq_true c14
            have c14b1 : decide (5 < t119.length) = true := decide_eq_true (by omega)
            clear c14
            by_cases c15 : (rdOf ByteArray.empty t119 5).toList = ([62, 62, 33, 10] : List UInt8)
            ·rw [if_pos c15] at H
             have c15b0 : ((rdOf ByteArray.empty t119 5).toList == ([62, 62, 33, 10] : List UInt8)) = true := beq_iff_eq.mpr c15
             have c15b1 : ((rdOf ByteArray.empty t119 5).toList != ([62, 62, 33, 10] : List UInt8)) = false := bne_eq_false_iff_eq.mpr c15
             clear c15
             by_cases c16 : (t123.length : Int) = 8
             ·rw [if_pos c16] at H
              have c16b0 : ((t123.length : Int) == 8) = true := beq_iff_eq.mpr c16
              have c16b1 : ((t123.length : Int) != 8) = false := bne_eq_false_iff_eq.mpr c16
              clear c16
              by_cases c17 : 3 < (t123.length : Int)
              ·rw [if_pos c17] at H
               have c17b0 : decide (3 < (t123.length : Int)) = true := decide_eq_true c17
               have c17b1 : decide (3 < t123.length) = true := decide_eq_true (by omega)
               clear c17
               obtain rfl := Option.some.inj H
               go_enter Tryz.func10, Tryz.ntmps10
               go_wp2_with (first | ((with_reducible refine gate_dst (N := 8) rfl ?_); (try (refine gate_guard (by rfl) ?_; dsimp only)); refine Kd.R_lit Kd.string _ 9 ?hg (N := 8) ?hd (xs := ([(⟨#[116, 10]⟩ : ByteArray)] : List ByteArray)) (inner := [.string (⟨#[116, 10]⟩ : ByteArray)]) (ok := fun _ => True) (okp := fun _ => True) ?hr ?hp (fun _ hk => hk) trivial (Below.refl _ _) (Nat.le_refl _) (by simp) ?_; (case hd => rfl); (case hg => rfl); (case hr => first | (go_simp; done) | (go_simp; rfl)); (case hp => exact (Reps.one (show Kd.M Kd.string _ _ _ (⟨#[116, 10]⟩ : ByteArray) [.string (⟨#[116, 10]⟩ : ByteArray)] from rfl) (Reps.none _ _))); intro v102 w18 ho19 hb hg_ hnew_; clear hg_ hnew_; (first | rw [← Ny101.out] at ho19 | (simp only [Int.reduceToNat] at ho19; rw [← Ny101.out] at ho19)); have n0_ := Aside0.mk (Kd.R_lower ho19 (below_size (by repeat (first | (with_reducible first | exact HB.out | apply below_alloc | apply pw_below_drewN | apply below_drew1) | exact HB.out)))); have n1_ := Aside0.mk (below_step (by repeat (first | (with_reducible first | exact HB.out | apply below_alloc | apply pw_below_drewN | apply below_drew1) | exact HB.out)) hb); clear HB; have HO103 := n0_; have HB := n1_; clear n0_ n1_; clear hb ho19; obtain ⟨Ao20, co20, eo20⟩ := Kd.R_slice HO103.out; subst eo20) | ((with_reducible refine gate_dst (N := 10) rfl ?_); (try (refine gate_guard (by rfl) ?_; dsimp only)); refine Kd.R_lit Kd.string _ 9 ?hg (N := 10) ?hd (xs := ([(⟨#[122, 10]⟩ : ByteArray)] : List ByteArray)) (inner := [.string (⟨#[122, 10]⟩ : ByteArray)]) (ok := fun _ => True) (okp := fun _ => True) ?hr ?hp (fun _ hk => hk) trivial (Below.refl _ _) (Nat.le_refl _) (by simp) ?_; (case hd => rfl); (case hg => rfl); (case hr => first | (go_simp; done) | (go_simp; rfl)); (case hp => exact (Reps.one (show Kd.M Kd.string _ _ _ (⟨#[122, 10]⟩ : ByteArray) [.string (⟨#[122, 10]⟩ : ByteArray)] from rfl) (Reps.none _ _))); intro v105 w21 ho22 hb hg_ hnew_; clear hg_ hnew_; (first | rw [← Ny104.out] at ho22 | (simp only [Int.reduceToNat] at ho22; rw [← Ny104.out] at ho22)); have n0_ := Aside0.mk (Kd.R_elder' (by (with_reducible repeat (first | apply Kd.R_alloc | apply Kd.R_drewN | apply Kd.R_drew)); exact HO103.out) (Kd.R_base ho22) hb); have n1_ := Aside0.mk (Kd.R_lower (Kd.R_new' ho22 (Kd.R_lt (by (with_reducible repeat (first | apply Kd.R_alloc | apply Kd.R_drewN | apply Kd.R_drew)); exact HO103.out))) (below_size (by repeat (first | (with_reducible first | exact HB.out | apply below_alloc | apply pw_below_drewN | apply below_drew1) | exact HB.out)))); have n2_ := Aside0.mk (below_step (by repeat (first | (with_reducible first | exact HB.out | apply below_alloc | apply pw_below_drewN | apply below_drew1) | exact HB.out)) hb); clear HO103; clear HB; have HO103 := n0_; have HO106 := n1_; have HB := n2_; clear n0_ n1_ n2_; clear hb ho22) | ((with_reducible refine gate_dst (N := 11) rfl ?_); (try (refine gate_guard (by rfl) ?_; dsimp only)); refine Kd.R_lit Kd.string _ 9 ?hg (N := 11) ?hd (xs := ([(⟨#[97, 10]⟩ : ByteArray)] : List ByteArray)) (inner := [.string (⟨#[97, 10]⟩ : ByteArray)]) (ok := fun _ => True) (okp := fun _ => True) ?hr ?hp (fun _ hk => hk) trivial (Below.refl _ _) (Nat.le_refl _) (by simp) ?_; (case hd => rfl); (case hg => rfl); (case hr => first | (go_simp; done) | (go_simp; rfl)); (case hp => exact (Reps.one (show Kd.M Kd.string _ _ _ (⟨#[97, 10]⟩ : ByteArray) [.string (⟨#[97, 10]⟩ : ByteArray)] from rfl) (Reps.none _ _))); intro v108 w23 ho24 hb hg_ hnew_; clear hg_ hnew_; (first | rw [← Ny107.out] at ho24 | (simp only [Int.reduceToNat] at ho24; rw [← Ny107.out] at ho24)); have n0_ := Aside0.mk (Kd.R_elder' (by (with_reducible repeat (first | apply Kd.R_alloc | apply Kd.R_drewN | apply Kd.R_drew)); exact HO103.out) (Kd.R_base ho24) hb); have n1_ := Aside0.mk (Kd.R_elder' (by (with_reducible repeat (first | apply Kd.R_alloc | apply Kd.R_drewN | apply Kd.R_drew)); exact HO106.out) (Kd.R_base ho24) hb); have n2_ := Aside0.mk (Kd.R_lower (Kd.R_new' (Kd.R_new' ho24 (Kd.R_lt (by (with_reducible repeat (first | apply Kd.R_alloc | apply Kd.R_drewN | apply Kd.R_drew)); exact HO103.out))) (Kd.R_lt (by (with_reducible repeat (first | apply Kd.R_alloc | apply Kd.R_drewN | apply Kd.R_drew)); exact HO106.out))) (below_size (by repeat (first | (with_reducible first | exact HB.out | apply below_alloc | apply pw_below_drewN | apply below_drew1) | exact HB.out)))); have n3_ := Aside0.mk (below_step (by repeat (first | (with_reducible first | exact HB.out | apply below_alloc | apply pw_below_drewN | apply below_drew1) | exact HB.out)) hb); clear HO103; clear HO106; clear HB; have HO103 := n0_; have HO106 := n1_; have HO109 := n2_; have HB := n3_; clear n0_ n1_ n2_ n3_; clear hb ho24) | ((with_reducible refine gate_dst (N := 12) rfl ?_); (try (refine gate_guard (by rfl) ?_; dsimp only)); refine Kd.R_lit Kd.string _ 9 ?hg (N := 12) ?hd (xs := ([(⟨#[98]⟩ : ByteArray)] : List ByteArray)) (inner := [.string (⟨#[98]⟩ : ByteArray)]) (ok := fun _ => True) (okp := fun _ => True) ?hr ?hp (fun _ hk => hk) trivial (Below.refl _ _) (Nat.le_refl _) (by simp) ?_; (case hd => rfl); (case hg => rfl); (case hr => first | (go_simp; done) | (go_simp; rfl)); (case hp => exact (Reps.one (show Kd.M Kd.string _ _ _ (⟨#[98]⟩ : ByteArray) [.string (⟨#[98]⟩ : ByteArray)] from rfl) (Reps.none _ _))); intro v111 w25 ho26 hb hg_ hnew_; clear hg_ hnew_; (first | rw [← Ny110.out] at ho26 | (simp only [Int.reduceToNat] at ho26; rw [← Ny110.out] at ho26)); have n0_ := Aside0.mk (Kd.R_elder' (by (with_reducible repeat (first | apply Kd.R_alloc | apply Kd.R_drewN | apply Kd.R_drew)); exact HO103.out) (Kd.R_base ho26) hb); have n1_ := Aside0.mk (Kd.R_elder' (by (with_reducible repeat (first | apply Kd.R_alloc | apply Kd.R_drewN | apply Kd.R_drew)); exact HO106.out) (Kd.R_base ho26) hb); have n2_ := Aside0.mk (Kd.R_elder' (by (with_reducible repeat (first | apply Kd.R_alloc | apply Kd.R_drewN | apply Kd.R_drew)); exact HO109.out) (Kd.R_base ho26) hb); have n3_ := Aside0.mk (Kd.R_lower (Kd.R_new' (Kd.R_new' (Kd.R_new' ho26 (Kd.R_lt (by (with_reducible repeat (first | apply Kd.R_alloc | apply Kd.R_drewN | apply Kd.R_drew)); exact HO103.out))) (Kd.R_lt (by (with_reducible repeat (first | apply Kd.R_alloc | apply Kd.R_drewN | apply Kd.R_drew)); exact HO106.out))) (Kd.R_lt (by (with_reducible repeat (first | apply Kd.R_alloc | apply Kd.R_drewN | apply Kd.R_drew)); exact HO109.out))) (below_size (by repeat (first | (with_reducible first | exact HB.out | apply below_alloc | apply pw_below_drewN | apply below_drew1) | exact HB.out)))); have n4_ := Aside0.mk (below_step (by repeat (first | (with_reducible first | exact HB.out | apply below_alloc | apply pw_below_drewN | apply below_drew1) | exact HB.out)) hb); clear HO103; clear HO106; clear HO109; clear HB; have HO103 := n0_; have HO106 := n1_; have HO109 := n2_; have HO112 := n3_; have HB := n4_; clear n0_ n1_ n2_ n3_ n4_; clear hb ho26; obtain ⟨Ao27, co27, eo27⟩ := Kd.R_slice HO109.out; subst eo27; obtain ⟨Ao28, co28, eo28⟩ := Kd.R_slice HO112.out; subst eo28) | ((with_reducible refine gate_dst (N := 13) rfl ?_); (try (refine gate_guard (by rfl) ?_; dsimp only)); refine Kd.N_lit (Kd.slice 9 Kd.string) _ 25 ?hg (N' := 13) ?hd (xs := ([y107, y110] : List (List ByteArray))) (inner := [.slice Ao27 y107.length co27, .slice Ao28 y110.length co28]) (ok := (fun k_ => some k_ ≠ (.slice Ao20 y101.length co20 : Value).ownBlock ∧ some k_ ≠ (v105 : Value).ownBlock)) (okp := (fun k_ => some k_ ≠ (.slice Ao20 y101.length co20 : Value).ownBlock ∧ some k_ ≠ (v105 : Value).ownBlock)) ?hr ?hp (fun _ hk => hk) ((show ∀ k_, w25.heap.size ≤ k_ → (fun k_ => some k_ ≠ (.slice Ao20 y101.length co20 : Value).ownBlock ∧ some k_ ≠ (v105 : Value).ownBlock) k_ from fun k_ hk => ⟨Kd.fresh' (Kd.R_lt (by (with_reducible repeat (first | apply Kd.R_alloc | apply Kd.R_drewN | apply Kd.R_drew)); exact HO103.out)) k_ hk, Kd.fresh' (Kd.R_lt (by (with_reducible repeat (first | apply Kd.R_alloc | apply Kd.R_drewN | apply Kd.R_drew)); exact HO106.out)) k_ hk⟩) _ (Nat.le_refl _)) (Below.refl _ _) (Nat.le_refl _) (by simp) ?_; (case hd => rfl); (case hg => rfl); (case hr => first | (go_simp; done) | (go_simp; rfl)); (case hp => first | exact (Reps.one (show Kd.FK (Kd.slice 9 Kd.string) _ _ y107 [.slice Ao27 y107.length co27] from (Kd.FK_slice_mk (Kd.R_reads' (Kd.R_mono (ok' := (fun k_ => some k_ ≠ (.slice Ao20 y101.length co20 : Value).ownBlock ∧ some k_ ≠ (v105 : Value).ownBlock)) (HO109.out) (fun k_ hk => ⟨hk.1.1.2, hk.1.2⟩))).2.1 (Kd.R_F (Kd.R_mono (ok' := (fun k_ => some k_ ≠ (.slice Ao20 y101.length co20 : Value).ownBlock ∧ some k_ ≠ (v105 : Value).ownBlock)) (HO109.out) (fun k_ hk => ⟨hk.1.1.2, hk.1.2⟩))))) (Reps.one (show Kd.FK (Kd.slice 9 Kd.string) _ _ y110 [.slice Ao28 y110.length co28] from (Kd.FK_slice_mk (Kd.R_reads' (Kd.R_mono (ok' := (fun k_ => some k_ ≠ (.slice Ao20 y101.length co20 : Value).ownBlock ∧ some k_ ≠ (v105 : Value).ownBlock)) (HO112.out) (fun k_ hk => ⟨hk.1.1.2, hk.1.2⟩))).2.1 (Kd.R_F (Kd.R_mono (ok' := (fun k_ => some k_ ≠ (.slice Ao20 y101.length co20 : Value).ownBlock ∧ some k_ ≠ (v105 : Value).ownBlock)) (HO112.out) (fun k_ hk => ⟨hk.1.1.2, hk.1.2⟩))))) (Reps.none _ _))) | exact (Reps.one (show Kd.FK (Kd.slice 9 Kd.string) _ _ y107 [.slice Ao27 y107.length co27] from (Kd.FK_slice_mk (Kd.R_reads' (Kd.R_mono (ok' := (fun k_ => some k_ ≠ (.slice Ao20 y101.length co20 : Value).ownBlock ∧ some k_ ≠ (v105 : Value).ownBlock)) (HO109.out) (fun k_ hk => ⟨hk.1.1.2, hk.1.2⟩))).2.1 (Kd.R_F (Kd.R_mono (ok' := (fun k_ => some k_ ≠ (.slice Ao20 y101.length co20 : Value).ownBlock ∧ some k_ ≠ (v105 : Value).ownBlock)) (by (with_reducible repeat (first | apply Kd.R_alloc | apply Kd.R_drewN | apply Kd.R_drew)); exact HO109.out) (fun k_ hk => ⟨hk.1.1.2, hk.1.2⟩))))) (Reps.one (show Kd.FK (Kd.slice 9 Kd.string) _ _ y110 [.slice Ao28 y110.length co28] from (Kd.FK_slice_mk (Kd.R_reads' (Kd.R_mono (ok' := (fun k_ => some k_ ≠ (.slice Ao20 y101.length co20 : Value).ownBlock ∧ some k_ ≠ (v105 : Value).ownBlock)) (HO112.out) (fun k_ hk => ⟨hk.1.1.2, hk.1.2⟩))).2.1 (Kd.R_F (Kd.R_mono (ok' := (fun k_ => some k_ ≠ (.slice Ao20 y101.length co20 : Value).ownBlock ∧ some k_ ≠ (v105 : Value).ownBlock)) (by (with_reducible repeat (first | apply Kd.R_alloc | apply Kd.R_drewN | apply Kd.R_drew)); exact HO112.out) (fun k_ hk => ⟨hk.1.1.2, hk.1.2⟩))))) (Reps.none _ _)))); intro v114 w29 ho30 hb hg_ hnew_; clear hg_ hnew_; (first | rw [← Ny113.out] at ho30 | (simp only [Int.reduceToNat] at ho30; rw [← Ny113.out] at ho30)); have n0_ := Aside0.mk (Kd.R_below (by (with_reducible repeat (first | apply Kd.R_alloc | apply Kd.R_drewN | apply Kd.R_drew)); exact HO103.out) hb); have n1_ := Aside0.mk (Kd.R_below (by (with_reducible repeat (first | apply Kd.R_alloc | apply Kd.R_drewN | apply Kd.R_drew)); exact HO106.out) hb); have n2_ := Aside0.mk (Kd.N_lower ho30 (below_size (by repeat (first | (with_reducible first | exact HB.out | apply below_alloc | apply pw_below_drewN | apply below_drew1) | exact HB.out)))); have n3_ := Aside0.mk (below_step (by repeat (first | (with_reducible first | exact HB.out | apply below_alloc | apply pw_below_drewN | apply below_drew1) | exact HB.out)) hb); clear HO103; clear HO106; clear HB; clear HO109; clear HO112; have HO103 := n0_; have HO106 := n1_; have HO115 := n2_; have HB := n3_; clear n0_ n1_ n2_ n3_; clear hb ho30; obtain ⟨Ao31, co31, eo31⟩ := Kd.N_slice HO115.out; subst eo31; obtain ⟨Ao32, co32, eo32⟩ := Kd.R_slice HO106.out; subst eo32) | ((with_reducible refine gate_dst (N := 15) rfl ?_); (try (refine gate_guard (by rfl) ?_; dsimp only)); refine Kd.N_lit k36 _ 36 ?hg (N' := 15) ?hd (xs := ([(⟨false, y101, ([] : List ByteArray), ([] : List (List ByteArray))⟩ : S36), (⟨true, ([] : List ByteArray), y104, y113⟩ : S36)] : List (S36))) (inner := [.bool false, .slice Ao20 y101.length co20, .slice none 0 0, .slice none 0 0, .bool true, .slice none 0 0, .slice Ao32 y104.length co32, .slice Ao31 y113.length co31]) (ok := (fun _ => True)) (okp := (fun _ => True)) ?hr ?hp (fun _ hk => hk) ((show ∀ k_, w29.heap.size ≤ k_ → (fun _ => True) k_ from fun k_ hk => trivial) _ (Nat.le_refl _)) (Below.refl _ _) (Nat.le_refl _) (by simp) ?_; (case hd => rfl); (case hg => rfl); (case hr => first | (go_simp; done) | (go_simp; rfl)); (case hp => first | exact (Reps.c4 (show Kd.FK k36 _ _ (⟨false, y101, ([] : List ByteArray), ([] : List (List ByteArray))⟩ : S36) [.bool false, .slice Ao20 y101.length co20, .slice none 0 0, .slice none 0 0] from (k36_mkF _ _ (⟨false, y101, ([] : List ByteArray), ([] : List (List ByteArray))⟩ : S36) (Kd.R_reads' (Kd.R_mono (ok' := (fun _ => True)) (HO103.out) (fun k_ hk => trivial))).2.1 (Kd.R_F (Kd.R_mono (ok' := (fun _ => True)) (HO103.out) (fun k_ hk => trivial))) (Nat.le_refl _) (Kd.F_nil _ _ _) (Nat.le_refl _) (Kd.F_nil _ _ _))) (Reps.c4 (show Kd.FK k36 _ _ (⟨true, ([] : List ByteArray), y104, y113⟩ : S36) [.bool true, .slice none 0 0, .slice Ao32 y104.length co32, .slice Ao31 y113.length co31] from (k36_mkF _ _ (⟨true, ([] : List ByteArray), y104, y113⟩ : S36) (Nat.le_refl _) (Kd.F_nil _ _ _) (Kd.R_reads' (Kd.R_mono (ok' := (fun _ => True)) (HO106.out) (fun k_ hk => trivial))).2.1 (Kd.R_F (Kd.R_mono (ok' := (fun _ => True)) (HO106.out) (fun k_ hk => trivial))) (Kd.N_reads' (Kd.N_mono (ok' := (fun _ => True)) (HO115.out) (fun k_ hk => trivial))).2.1 (Kd.N_F (Kd.N_mono (ok' := (fun _ => True)) (HO115.out) (fun k_ hk => trivial))))) (Reps.none _ _))) | exact (Reps.c4 (show Kd.FK k36 _ _ (⟨false, y101, ([] : List ByteArray), ([] : List (List ByteArray))⟩ : S36) [.bool false, .slice Ao20 y101.length co20, .slice none 0 0, .slice none 0 0] from (k36_mkF _ _ (⟨false, y101, ([] : List ByteArray), ([] : List (List ByteArray))⟩ : S36) (Kd.R_reads' (Kd.R_mono (ok' := (fun _ => True)) (HO103.out) (fun k_ hk => trivial))).2.1 (Kd.R_F (Kd.R_mono (ok' := (fun _ => True)) (by (with_reducible repeat (first | apply Kd.R_alloc | apply Kd.R_drewN | apply Kd.R_drew)); exact HO103.out) (fun k_ hk => trivial))) (Nat.le_refl _) (Kd.F_nil _ _ _) (Nat.le_refl _) (Kd.F_nil _ _ _))) (Reps.c4 (show Kd.FK k36 _ _ (⟨true, ([] : List ByteArray), y104, y113⟩ : S36) [.bool true, .slice none 0 0, .slice Ao32 y104.length co32, .slice Ao31 y113.length co31] from (k36_mkF _ _ (⟨true, ([] : List ByteArray), y104, y113⟩ : S36) (Nat.le_refl _) (Kd.F_nil _ _ _) (Kd.R_reads' (Kd.R_mono (ok' := (fun _ => True)) (HO106.out) (fun k_ hk => trivial))).2.1 (Kd.R_F (Kd.R_mono (ok' := (fun _ => True)) (by (with_reducible repeat (first | apply Kd.R_alloc | apply Kd.R_drewN | apply Kd.R_drew)); exact HO106.out) (fun k_ hk => trivial))) (Kd.N_reads' (Kd.N_mono (ok' := (fun _ => True)) (HO115.out) (fun k_ hk => trivial))).2.1 (Kd.N_F (Kd.N_mono (ok' := (fun _ => True)) (by (with_reducible repeat (first | apply Kd.N_alloc | apply Kd.N_drewN | apply Kd.N_drew)); exact HO115.out) (fun k_ hk => trivial))))) (Reps.none _ _)))); intro v117 w33 ho34 hb hg_ hnew_; clear hg_ hnew_; (first | rw [← Ny116.out] at ho34 | (simp only [Int.reduceToNat] at ho34; rw [← Ny116.out] at ho34)); have n0_ := Aside0.mk (Kd.N_lower ho34 (below_size (by repeat (first | (with_reducible first | exact HB.out | apply below_alloc | apply pw_below_drewN | apply below_drew1) | exact HB.out)))); have n1_ := Aside0.mk (below_step (by repeat (first | (with_reducible first | exact HB.out | apply below_alloc | apply pw_below_drewN | apply below_drew1) | exact HB.out)) hb); clear HB; clear HO103; clear HO106; clear HO115; have HO118 := n0_; have HB := n1_; clear n0_ n1_; clear hb ho34; obtain ⟨Ao35, co35, eo35⟩ := Kd.N_slice HO118.out; subst eo35) | ((with_reducible refine gate_callee (f := 12) rfl ?_); refine goesL_ (some 18) rfl rfl Tryz.func12 (by kernel_rfl) rfl #[.slice Ao35 y116.length co35, .int .i64 1, .int .i64 2] rfl (by (try simp only [List.map_toArray, List.map_cons, List.map_nil]); first | done | rfl | (simp only [List.length_drop, List.length_take]; rfl)) ?_; (with_reducible refine (mark_Print.calls _ _ y116 1 2 t119 t122 _ ?side1 ?side2 A1.out).mono ?_); (case side1 => repeat (first | exact (Kd.N_reads' HO118.out).2.2 | (with_reducible refine Kd.C_alloc ?_ _) | (with_reducible refine Kd.C_drewN ?_ _) | (with_reducible refine Kd.C_drew ?_))); (case side2 => exact (Kd.N_reads' HO118.out).2.1); rintro e w36 ⟨v120, rfl, ho0, hb⟩; refine ⟨_, rfl, ?_⟩; have n0_ := Aside0.mk (Kd.N_below (by (with_reducible repeat (first | apply Kd.N_alloc | apply Kd.N_drewN | apply Kd.N_drew)); exact HO118.out) hb); have n1_ := Aside0.mk (Kd.V_lower (Kd.V_mono (ok' := fun k_ => some k_ ≠ (.slice Ao35 y116.length co35 : Value).ownBlock) ho0 (fun k_ hk_ => (Kd.fresh' (Kd.N_lt (by (with_reducible repeat (first | apply Kd.N_alloc | apply Kd.N_drewN | apply Kd.N_drew)); exact HO118.out)) k_ hk_))) (below_size (by repeat (first | (with_reducible first | exact HB.out | apply below_alloc | apply pw_below_drewN | apply below_drew1) | exact HB.out)))); have n2_ := Aside0.mk (below_step (by repeat (first | (with_reducible first | exact HB.out | apply below_alloc | apply pw_below_drewN | apply below_drew1) | exact HB.out)) hb); clear HO118; clear HB; have HO118 := n0_; have HO121 := n1_; have HB := n2_; clear n0_ n1_ n2_; (try clear hb); (try clear hb2); (try clear hk); (try clear hi); (try clear ho0)) | ((with_reducible refine gate_callee (f := 12) rfl ?_); refine goesL_ (some 23) rfl rfl Tryz.func12 (by kernel_rfl) rfl #[.slice Ao35 y116.length co35, .int .i64 2, .int .i64 2] rfl (by (try simp only [List.map_toArray, List.map_cons, List.map_nil]); first | done | rfl | (simp only [List.length_drop, List.length_take]; rfl)) ?_; (with_reducible refine (mark_Print.calls _ _ y116 2 2 t123 t126 _ ?side1 ?side2 A2.out).mono ?_); (case side1 => repeat (first | exact (Kd.N_reads' HO118.out).2.2 | (with_reducible refine Kd.C_alloc ?_ _) | (with_reducible refine Kd.C_drewN ?_ _) | (with_reducible refine Kd.C_drew ?_))); (case side2 => exact (Kd.N_reads' HO118.out).2.1); rintro e w37 ⟨v124, rfl, ho0, hb⟩; refine ⟨_, rfl, ?_⟩; have n0_ := Aside0.mk (Kd.N_below (by (with_reducible repeat (first | apply Kd.N_alloc | apply Kd.N_drewN | apply Kd.N_drew)); exact HO118.out) hb); have n1_ := Aside0.mk (Kd.V_below (by (with_reducible repeat (first | apply Kd.V_alloc | apply Kd.V_drewN | apply Kd.V_drew)); exact HO121.out) hb); have n2_ := Aside0.mk (Kd.V_lower (Kd.V_mono (ok' := fun k_ => some k_ ≠ (.slice Ao35 y116.length co35 : Value).ownBlock) ho0 (fun k_ hk_ => (Kd.fresh' (Kd.N_lt (by (with_reducible repeat (first | apply Kd.N_alloc | apply Kd.N_drewN | apply Kd.N_drew)); exact HO118.out)) k_ hk_))) (below_size (by repeat (first | (with_reducible first | exact HB.out | apply below_alloc | apply pw_below_drewN | apply below_drew1) | exact HB.out)))); have n3_ := Aside0.mk (below_step (by repeat (first | (with_reducible first | exact HB.out | apply below_alloc | apply pw_below_drewN | apply below_drew1) | exact HB.out)) hb); clear HO118; clear HO121; clear HB; have HO118 := n0_; have HO121 := n1_; have HO125 := n2_; have HB := n3_; clear n0_ n1_ n2_ n3_; (try clear hb); (try clear hb2); (try clear hk); (try clear hi); (try clear ho0)) | ((with_reducible refine gate_callee (f := 12) rfl ?_); refine goesL_ (some 28) rfl rfl Tryz.func12 (by kernel_rfl) rfl #[.slice Ao35 y116.length co35, .int .i64 4, .int .i64 2] rfl (by (try simp only [List.map_toArray, List.map_cons, List.map_nil]); first | done | rfl | (simp only [List.length_drop, List.length_take]; rfl)) ?_; (with_reducible refine (mark_Print.calls _ _ y116 4 2 t127 t130 _ ?side1 ?side2 A3.out).mono ?_); (case side1 => repeat (first | exact (Kd.N_reads' HO118.out).2.2 | (with_reducible refine Kd.C_alloc ?_ _) | (with_reducible refine Kd.C_drewN ?_ _) | (with_reducible refine Kd.C_drew ?_))); (case side2 => exact (Kd.N_reads' HO118.out).2.1); rintro e w38 ⟨v128, rfl, ho0, hb⟩; refine ⟨_, rfl, ?_⟩; have n0_ := Aside0.mk (Kd.N_below (by (with_reducible repeat (first | apply Kd.N_alloc | apply Kd.N_drewN | apply Kd.N_drew)); exact HO118.out) hb); have n1_ := Aside0.mk (Kd.V_below (by (with_reducible repeat (first | apply Kd.V_alloc | apply Kd.V_drewN | apply Kd.V_drew)); exact HO121.out) hb); have n2_ := Aside0.mk (Kd.V_below (by (with_reducible repeat (first | apply Kd.V_alloc | apply Kd.V_drewN | apply Kd.V_drew)); exact HO125.out) hb); have n3_ := Aside0.mk (Kd.V_lower (Kd.V_mono (ok' := fun k_ => some k_ ≠ (.slice Ao35 y116.length co35 : Value).ownBlock) ho0 (fun k_ hk_ => (Kd.fresh' (Kd.N_lt (by (with_reducible repeat (first | apply Kd.N_alloc | apply Kd.N_drewN | apply Kd.N_drew)); exact HO118.out)) k_ hk_))) (below_size (by repeat (first | (with_reducible first | exact HB.out | apply below_alloc | apply pw_below_drewN | apply below_drew1) | exact HB.out)))); have n4_ := Aside0.mk (below_step (by repeat (first | (with_reducible first | exact HB.out | apply below_alloc | apply pw_below_drewN | apply below_drew1) | exact HB.out)) hb); clear HO118; clear HO121; clear HO125; clear HB; have HO118 := n0_; have HO121 := n1_; have HO125 := n2_; have HO129 := n3_; have HB := n4_; clear n0_ n1_ n2_ n3_ n4_; (try clear hb); (try clear hb2); (try clear hk); (try clear hi); (try clear ho0); obtain ⟨Ao39, co39, eo39⟩ := Kd.V_slice HO121.out; subst eo39; have p131 : 0 ≤ (1 : Int) := (by omega); have q131 : 1 < (t119.length : Int) := of_decide_eq_true (by first | (with_reducible assumption) | assumption); obtain ⟨ad131, e131, hx131_0⟩ := Kd.at_string (Kd.V_reads' HO121.out).2.2 1 p131 q131; cases e131; (try simp only [show (1 : Int).toNat = 1 from rfl, Nat.reduceMul, Nat.reduceEqDiff, Go.Addr.add, ↓reduceIte] at hx131_0); have qi131 : (1 < t119.length) = True := eq_true (by omega); (try rw [show ((1 : Int)).toNat = 1 from rfl] at hx131_0); replace p131 := eq_true p131; replace q131 := eq_true q131; have p132 : 0 ≤ (3 : Int) := (by omega); have q132 : 3 < (t119.length : Int) := of_decide_eq_true (by first | (with_reducible assumption) | assumption); obtain ⟨ad132, e132, hx132_0⟩ := Kd.at_string (Kd.V_reads' HO121.out).2.2 3 p132 q132; obtain rfl : ad131 = ad132 := (by injection e132); (try simp only [show (3 : Int).toNat = 3 from rfl, Nat.reduceMul, Nat.reduceEqDiff, Go.Addr.add, ↓reduceIte] at hx132_0); have qi132 : (3 < t119.length) = True := eq_true (by omega); (try rw [show ((3 : Int)).toNat = 3 from rfl] at hx132_0); replace p132 := eq_true p132; replace q132 := eq_true q132; have p133 : 0 ≤ (4 : Int) := (by omega); have q133 : 4 < (t119.length : Int) := of_decide_eq_true (by first | (with_reducible assumption) | assumption); obtain ⟨ad133, e133, hx133_0⟩ := Kd.at_string (Kd.V_reads' HO121.out).2.2 4 p133 q133; obtain rfl : ad131 = ad133 := (by injection e133); (try simp only [show (4 : Int).toNat = 4 from rfl, Nat.reduceMul, Nat.reduceEqDiff, Go.Addr.add, ↓reduceIte] at hx133_0); have qi133 : (4 < t119.length) = True := eq_true (by omega); (try rw [show ((4 : Int)).toNat = 4 from rfl] at hx133_0); replace p133 := eq_true p133; replace q133 := eq_true q133; have p134 : 0 ≤ (5 : Int) := (by omega); have q134 : 5 < (t119.length : Int) := of_decide_eq_true (by first | (with_reducible assumption) | assumption); obtain ⟨ad134, e134, hx134_0⟩ := Kd.at_string (Kd.V_reads' HO121.out).2.2 5 p134 q134; obtain rfl : ad131 = ad134 := (by injection e134); (try simp only [show (5 : Int).toNat = 5 from rfl, Nat.reduceMul, Nat.reduceEqDiff, Go.Addr.add, ↓reduceIte] at hx134_0); have qi134 : (5 < t119.length) = True := eq_true (by omega); (try rw [show ((5 : Int)).toNat = 5 from rfl] at hx134_0); replace p134 := eq_true p134; replace q134 := eq_true q134; obtain ⟨Ao40, co40, eo40⟩ := Kd.V_slice HO125.out; subst eo40; have p135 : 0 ≤ (3 : Int) := (by omega); have q135 : 3 < (t123.length : Int) := of_decide_eq_true (by first | (with_reducible assumption) | assumption); obtain ⟨ad135, e135, hx135_0⟩ := Kd.at_string (Kd.V_reads' HO125.out).2.2 3 p135 q135; cases e135; (try simp only [show (3 : Int).toNat = 3 from rfl, Nat.reduceMul, Nat.reduceEqDiff, Go.Addr.add, ↓reduceIte] at hx135_0); have qi135 : (3 < t123.length) = True := eq_true (by omega); (try rw [show ((3 : Int)).toNat = 3 from rfl] at hx135_0); replace p135 := eq_true p135; replace q135 := eq_true q135))
               go_ret
               exact ⟨by first | rfl | (simp [errW_none, errW_some] <;> rfl) | (simp [*, errW_none, errW_some] <;> rfl), by repeat (first | (with_reducible first | exact HB.out | apply below_alloc | apply pw_below_drewN | apply below_drew1) | exact HB.out)⟩
              ·rw [if_neg c17] at H
               exact absurd (H.trans (congrArg some hr_)) (by simp)
             ·rw [if_neg c16] at H
              exact absurd (H.trans (congrArg some hr_)) (by simp)
            ·rw [if_neg c15] at H
             exact absurd (H.trans (congrArg some hr_)) (by simp)
           ·rw [if_neg c14] at H
            exact absurd (H.trans (congrArg some hr_)) (by simp)
          ·rw [if_neg c13] at H
           exact absurd (H.trans (congrArg some hr_)) (by simp)
         ·rw [if_neg c12] at H
          exact absurd (H.trans (congrArg some hr_)) (by simp)
        ·rw [if_neg c11] at H
         exact absurd (H.trans (congrArg some hr_)) (by simp)
       ·rw [if_neg c10] at H
        exact absurd (H.trans (congrArg some hr_)) (by simp)
      ·rw [if_neg c9] at H
       exact absurd (H.trans (congrArg some hr_)) (by simp)
     ·rw [if_neg c8] at H
      exact absurd (H.trans (congrArg some hr_)) (by simp)
    ·rw [if_neg c7] at H
     exact absurd (H.trans (congrArg some hr_)) (by simp)
   ·rw [if_neg c6] at H
    exact absurd (H.trans (congrArg some hr_)) (by simp)
  ·rw [if_neg c5] at H
   exact absurd (H.trans (congrArg some hr_)) (by simp)
 ·rw [if_neg c4] at H
  exact absurd (H.trans (congrArg some hr_)) (by simp)

-- function 14 (sennitref01_Same): its contract is proved by hand

/-! ### sennitref01_Few: function 29 -/
mutual
def sennitref01_Few.l0 : Nat → List ByteArray → Int → Int → Option (Bool)
 | 0, _, _, _ => none
 | k + 1, x0, x1, x5 => if x5 < (x0.length : Int) then (sennitref01_Few.j1 k x0 x1 x5 (decide (x5 ≤ x1))) else (sennitref01_Few.j1 k x0 x1 x5 false)
def sennitref01_Few.j1 : Nat → List ByteArray → Int → Int → Bool → Option (Bool)
 | 0, _, _, _, _ => none
 | k + 1, x0, x1, x5, x14 => if x14 = true then (if 0 ≤ x5 then (if x5 < (x0.length : Int) then (if ((rdOf ByteArray.empty x0 x5).size : Int) > 100 then (some false) else (sennitref01_Few.l0 k x0 x1 (wrap64 (x5 + 1)))) else (none)) else (none)) else (some (decide ((x0.length : Int) ≤ x1)))
end
def sennitref01_Few.f (k : Nat) (l0 : List ByteArray) (a1 : Int) : Option (Bool) := sennitref01_Few.l0 k l0 a1 0
theorem sennitref01_Few.mono_l : ∀ k, (∀ y0 y1 y2, LeO (sennitref01_Few.l0 k y0 y1 y2) (sennitref01_Few.l0 (k + 1) y0 y1 y2)) ∧ (∀ y0 y1 y2 y3, LeO (sennitref01_Few.j1 k y0 y1 y2 y3) (sennitref01_Few.j1 (k + 1) y0 y1 y2 y3))
 | 0 => ⟨fun _ _ _ r h => by simp [sennitref01_Few.l0] at h, fun _ _ _ _ r h => by simp [sennitref01_Few.j1] at h⟩
 | k + 1 => by
  obtain ⟨ih0, ih1⟩ := sennitref01_Few.mono_l k
  refine ⟨?_, ?_⟩
  ·intro y0 y1 y2
   unfold sennitref01_Few.l0
   repeat' first
   | (with_reducible exact ih0 _ _ _)
   | (with_reducible exact ih1 _ _ _ _)
   | (with_reducible exact LeO.refl _)
   | (with_reducible exact LeO.none _)
   | (with_reducible refine LeO.ite ?_ ?_)
   | (with_reducible refine LeO.bind ?_ (fun _ => ?_))
   | exact ih0 _ _ _
   | exact ih1 _ _ _ _
   | exact LeO.none _
   | refine LeO.ite ?_ ?_
   | refine LeO.bind ?_ (fun _ => ?_)
  ·intro y0 y1 y2 y3
   unfold sennitref01_Few.j1
   repeat' first
   | (with_reducible exact ih0 _ _ _)
   | (with_reducible exact ih1 _ _ _ _)
   | (with_reducible exact LeO.refl _)
   | (with_reducible exact LeO.none _)
   | (with_reducible refine LeO.ite ?_ ?_)
   | (with_reducible refine LeO.bind ?_ (fun _ => ?_))
   | exact ih0 _ _ _
   | exact ih1 _ _ _ _
   | exact LeO.none _
   | refine LeO.ite ?_ ?_
   | refine LeO.bind ?_ (fun _ => ?_)
theorem sennitref01_Few.mono : ∀ a0 a1 k, LeO (sennitref01_Few.f k a0 a1) (sennitref01_Few.f (k + 1) a0 a1) := by
 intro a0 a1 k
 obtain ⟨ih0, ih1⟩ := sennitref01_Few.mono_l k
 unfold sennitref01_Few.f
 repeat' first
   | (with_reducible exact ih0 _ _ _)
   | (with_reducible exact ih1 _ _ _ _)
   | (with_reducible exact LeO.refl _)
   | (with_reducible exact LeO.none _)
   | (with_reducible refine LeO.ite ?_ ?_)
   | (with_reducible refine LeO.bind ?_ (fun _ => ?_))
   | exact ih0 _ _ _
   | exact ih1 _ _ _ _
   | exact LeO.none _
   | refine LeO.ite ?_ ?_
   | refine LeO.bind ?_ (fun _ => ?_)
set_option maxHeartbeats 8000000 in
set_option maxRecDepth 100000 in
theorem sennitref01_Few.calls (k : Nat) (A0 : Option Addr) (c0 : Nat) (l0 : List ByteArray) (a1 : Int) (r : Bool) (w : World) (hr0 : Kd.C Kd.string w A0 l0.length l0) (hc0 : l0.length ≤ c0) (h : sennitref01_Few.f k l0 a1 = some r) :
  Calls Tryz.prog 29 #[.slice A0 l0.length c0, .int .i64 a1] w fun e w' => e = .returned (.bool r) ∧ Drawn0 w w' := by
 have HR0 := Aside0.mk hr0
 have HC0 := Aside0.mk hc0
 clear hr0 hc0
 have H : (sennitref01_Few.l0 k l0 a1 0) = some r := h
 clear h
 have H' := Aside0.mk H
 clear H
 go_enter Tryz.func29, Tryz.ntmps29
 go_wp2
 go_loopg [5] k (fun kq v5 w' => ∃ (x5_1 : Int), v5 = .int .i64 x5_1 ∧ Aside0 (sennitref01_Few.l0 kq l0 a1 x5_1 = some r) ∧ Aside0 (kq ≤ k) ∧ Drawn0 w w')
 case atStart => exact ⟨(0), (by first | rfl | (simp; done) | (simp [*]; done)), H', ⟨Nat.le_refl _⟩, by repeat (first | exact Drawn0.refl _ | apply Drawn0.step)⟩
 case round =>
  clear H'
  try clear c2
  try clear p2
  obtain ⟨x5_1, rfl, HA, HK1, ⟨m1, rfl⟩⟩ := hrel
  cases gk with
  | zero => exact absurd HA.out (by simp [sennitref01_Few.l0])
  | succ k1 =>
   have H := HA.out
   clear HA
   simp only [sennitref01_Few.l0] at H
   have HC3 := Aside0.mk H
   clear H
   go_upto_region 2 with (fail)
   go_cut [14] (fun v14 wc => ∃ (kq : Nat) (x14_2 : Bool), v14 = .bool x14_2 ∧ Aside0 (sennitref01_Few.j1 kq l0 a1 x5_1 x14_2 = some r) ∧ Aside0 (kq ≤ k1) ∧ Drawn0 w wc)
   case first =>
    have H := HC3.out
    clear HC3
    by_cases c4 : x5_1 < (l0.length : Int)
    ·rw [if_pos c4] at H
     have c4b0 : decide (x5_1 < (l0.length : Int)) = true := decide_eq_true c4
     clear c4
     (first | rw [c4b0] | (simp only [i64_w, i32_w]; rw [c4b0]) | skip)
     have H' := Aside0.mk H
     clear H
     go_wp2
     go_meet
     case rel => exact ⟨_, (decide (x5_1 ≤ a1)), (by first | rfl | (simp; done) | (simp [*]; done)), H', ⟨by have := HK1.out; first | omega | exact Nat.le_refl _⟩, by repeat (first | exact Drawn0.refl _ | apply Drawn0.step)⟩
    ·rw [if_neg c4] at H
     have c4b0 : decide (x5_1 < (l0.length : Int)) = false := decide_eq_false c4
     clear c4
     (first | rw [c4b0] | (simp only [i64_w, i32_w]; rw [c4b0]) | skip)
     have H' := Aside0.mk H
     clear H
     go_wp2
     go_meet
     case rel => exact ⟨_, (false), (by first | rfl | (simp; done) | (simp [*]; done)), H', ⟨by have := HK1.out; first | omega | exact Nat.le_refl _⟩, by repeat (first | exact Drawn0.refl _ | apply Drawn0.step)⟩
   case rest =>
    clear HC3
    try clear c2
    try clear p2
    try clear c4
    try clear c4b0
    try clear p2
    obtain ⟨kq, x14_2, rfl, HA, HJ2, ⟨mc2, rfl⟩⟩ := hcut
    cases kq with
    | zero => exact absurd HA.out (by simp [sennitref01_Few.j1])
    | succ kj2 =>
     have H := HA.out
     clear HA
     simp only [sennitref01_Few.j1] at H
     by_cases c5 : x14_2 = true
     ·subst c5
      have H1 : (if 0 ≤ x5_1 then (if x5_1 < (l0.length : Int) then (if ((rdOf ByteArray.empty l0 x5_1).size : Int) > 100 then (some false) else (sennitref01_Few.l0 kj2 l0 a1 (wrap64 (x5_1 + 1)))) else (none)) else (none)) = some r := by rw [if_pos rfl] at H; exact H
      clear H
      have H := H1
      clear H1
      by_cases c6 : 0 ≤ x5_1
      ·rw [if_pos c6] at H
       have c6b0 : decide (0 ≤ x5_1) = true := decide_eq_true c6
       clear c6
       by_cases c7 : x5_1 < (l0.length : Int)
       ·rw [if_pos c7] at H
        have c7b0 : decide (x5_1 < (l0.length : Int)) = true := decide_eq_true c7
        clear c7
        by_cases c8 : ((rdOf ByteArray.empty l0 x5_1).size : Int) > 100
        ·rw [if_pos c8] at H
         have c8b0 : decide (100 < ((rdOf ByteArray.empty l0 x5_1).size : Int)) = true := decide_eq_true c8
         have c8b1 : decide (100 < (rdOf ByteArray.empty l0 x5_1).size) = true := decide_eq_true (by omega)
         clear c8
         obtain rfl := Option.some.inj H
         have p136 : 0 ≤ (x5_1 : Int) := of_decide_eq_true (by first | (with_reducible assumption) | assumption)
         have q136 : x5_1 < (l0.length : Int) := of_decide_eq_true (by first | (with_reducible assumption) | assumption)
         obtain ⟨ad136, e136, hx136_0⟩ := Kd.at_string HR0.out x5_1 p136 q136
         cases e136
         replace p136 := eq_true p136
         replace q136 := eq_true q136
         go_wp2
         go_ret
         exact ⟨by first | rfl | (simp; done) | (simp [*]; done), by repeat (first | exact Drawn0.refl _ | apply Drawn0.step)⟩
        ·rw [if_neg c8] at H
         have c8b0 : decide (100 < ((rdOf ByteArray.empty l0 x5_1).size : Int)) = false := decide_eq_false c8
         have c8b1 : decide (100 < (rdOf ByteArray.empty l0 x5_1).size) = false := decide_eq_false (by omega)
         clear c8
         have H' := Aside0.mk H
         clear H
         have p136 : 0 ≤ (x5_1 : Int) := of_decide_eq_true (by first | (with_reducible assumption) | assumption)
         have q136 : x5_1 < (l0.length : Int) := of_decide_eq_true (by first | (with_reducible assumption) | assumption)
         obtain ⟨ad136, e136, hx136_0⟩ := Kd.at_string HR0.out x5_1 p136 q136
         cases e136
         replace p136 := eq_true p136
         replace q136 := eq_true q136
         go_wp2
         go_roundg kj2
         case measure => have := HK1.out; have := HJ2.out; omega
         case rel => exact ⟨(wrap64 (x5_1 + 1)), (by first | rfl | (simp; done) | (simp [*]; done)), H', ⟨by have := HK1.out; have := HJ2.out; omega⟩, by repeat (first | exact Drawn0.refl _ | apply Drawn0.step)⟩
       ·rw [if_neg c7] at H
        exact absurd H (by simp)
      ·rw [if_neg c6] at H
       exact absurd H (by simp)
     ·replace c5 := Bool.eq_false_iff.mpr c5
      subst c5
      have H1 : (some (decide ((l0.length : Int) ≤ a1))) = some r := by rw [if_neg (show ¬ (false = true) by decide)] at H; exact H
      clear H
      have H := H1
      clear H1
      obtain rfl := Option.some.inj H
      go_wp2
      go_ret
      exact ⟨by first | rfl | (simp; done) | (simp [*]; done), by repeat (first | exact Drawn0.refl _ | apply Drawn0.step)⟩

/-! ### sennitref06_Few: function 30 -/
mutual
def sennitref06_Few.l0 : Nat → List ByteArray → List (List ByteArray) → Int → Option (Bool)
 | 0, _, _, _ => none
 | k + 1, x0, x1, x5 => if x5 < (x1.length : Int) then (sennitref06_Few.j1 k x0 x1 x5 (decide (x5 < 7))) else (sennitref06_Few.j1 k x0 x1 x5 false)
def sennitref06_Few.j1 : Nat → List ByteArray → List (List ByteArray) → Int → Bool → Option (Bool)
 | 0, _, _, _, _ => none
 | k + 1, x0, x1, x5, x13 => if x13 = true then (if 0 ≤ x5 then (if x5 < (x1.length : Int) then ((sennitref01_Few.f k (rd_L2 x1 x5) 20).bind fun t138 => (if t138 = true then (sennitref06_Few.l0 k x0 x1 (wrap64 (x5 + 1))) else (some false))) else (none)) else (none)) else ((sennitref01_Few.f k x0 20).bind fun t139 => (if t139 = true then (some (decide ((x1.length : Int) ≤ 6))) else (some false)))
end
def sennitref06_Few.f (k : Nat) (l0 : List ByteArray) (l1 : List (List ByteArray)) : Option (Bool) := sennitref06_Few.l0 k l0 l1 0
theorem sennitref06_Few.mono_l : ∀ k, (∀ y0 y1 y2, LeO (sennitref06_Few.l0 k y0 y1 y2) (sennitref06_Few.l0 (k + 1) y0 y1 y2)) ∧ (∀ y0 y1 y2 y3, LeO (sennitref06_Few.j1 k y0 y1 y2 y3) (sennitref06_Few.j1 (k + 1) y0 y1 y2 y3))
 | 0 => ⟨fun _ _ _ r h => by simp [sennitref06_Few.l0] at h, fun _ _ _ _ r h => by simp [sennitref06_Few.j1] at h⟩
 | k + 1 => by
  obtain ⟨ih0, ih1⟩ := sennitref06_Few.mono_l k
  refine ⟨?_, ?_⟩
  ·intro y0 y1 y2
   unfold sennitref06_Few.l0
   repeat' first
   | (with_reducible exact ih0 _ _ _)
   | (with_reducible exact ih1 _ _ _ _)
   | (with_reducible exact sennitref01_Few.mono _ _ _)
   | (with_reducible exact LeO.refl _)
   | (with_reducible exact LeO.none _)
   | (with_reducible refine LeO.ite ?_ ?_)
   | (with_reducible refine LeO.bind ?_ (fun _ => ?_))
   | exact ih0 _ _ _
   | exact ih1 _ _ _ _
   | exact sennitref01_Few.mono _ _ _
   | exact LeO.none _
   | refine LeO.ite ?_ ?_
   | refine LeO.bind ?_ (fun _ => ?_)
  ·intro y0 y1 y2 y3
   unfold sennitref06_Few.j1
   repeat' first
   | (with_reducible exact ih0 _ _ _)
   | (with_reducible exact ih1 _ _ _ _)
   | (with_reducible exact sennitref01_Few.mono _ _ _)
   | (with_reducible exact LeO.refl _)
   | (with_reducible exact LeO.none _)
   | (with_reducible refine LeO.ite ?_ ?_)
   | (with_reducible refine LeO.bind ?_ (fun _ => ?_))
   | exact ih0 _ _ _
   | exact ih1 _ _ _ _
   | exact sennitref01_Few.mono _ _ _
   | exact LeO.none _
   | refine LeO.ite ?_ ?_
   | refine LeO.bind ?_ (fun _ => ?_)
theorem sennitref06_Few.mono : ∀ a0 a1 k, LeO (sennitref06_Few.f k a0 a1) (sennitref06_Few.f (k + 1) a0 a1) := by
 intro a0 a1 k
 obtain ⟨ih0, ih1⟩ := sennitref06_Few.mono_l k
 unfold sennitref06_Few.f
 repeat' first
   | (with_reducible exact ih0 _ _ _)
   | (with_reducible exact ih1 _ _ _ _)
   | (with_reducible exact sennitref01_Few.mono _ _ _)
   | (with_reducible exact LeO.refl _)
   | (with_reducible exact LeO.none _)
   | (with_reducible refine LeO.ite ?_ ?_)
   | (with_reducible refine LeO.bind ?_ (fun _ => ?_))
   | exact ih0 _ _ _
   | exact ih1 _ _ _ _
   | exact sennitref01_Few.mono _ _ _
   | exact LeO.none _
   | refine LeO.ite ?_ ?_
   | refine LeO.bind ?_ (fun _ => ?_)
set_option maxHeartbeats 8000000 in
set_option maxRecDepth 100000 in
theorem sennitref06_Few.calls (k : Nat) (A0 : Option Addr) (c0 : Nat) (l0 : List ByteArray) (A1 : Option Addr) (c1 : Nat) (l1 : List (List ByteArray)) (r : Bool) (w : World) (hr0 : Kd.C Kd.string w A0 l0.length l0) (hc0 : l0.length ≤ c0) (hr1 : Kd.C (Kd.slice 9 Kd.string) w A1 l1.length l1) (hc1 : l1.length ≤ c1) (h : sennitref06_Few.f k l0 l1 = some r) :
  Calls Tryz.prog 30 #[.slice A0 l0.length c0, .slice A1 l1.length c1] w fun e w' => e = .returned (.bool r) ∧ Drawn0 w w' := by
 have HR0 := Aside0.mk hr0
 have HC0 := Aside0.mk hc0
 clear hr0 hc0
 have HR1 := Aside0.mk hr1
 have HC1 := Aside0.mk hc1
 clear hr1 hc1
 have H : (sennitref06_Few.l0 k l0 l1 0) = some r := h
 clear h
 have H' := Aside0.mk H
 clear H
 go_enter Tryz.func30, Tryz.ntmps30
 go_wp2
 go_loopg [5] k (fun kq v5 w' => ∃ (x5_1 : Int), v5 = .int .i64 x5_1 ∧ Aside0 (sennitref06_Few.l0 kq l0 l1 x5_1 = some r) ∧ Aside0 (kq ≤ k) ∧ Drawn0 w w')
 case atStart => exact ⟨(0), (by first | rfl | (simp; done) | (simp [*]; done)), H', ⟨Nat.le_refl _⟩, by repeat (first | exact Drawn0.refl _ | apply Drawn0.step)⟩
 case round =>
  clear H'
  try clear c1
  try clear p2
  obtain ⟨x5_1, rfl, HA, HK1, ⟨m1, rfl⟩⟩ := hrel
  cases gk with
  | zero => exact absurd HA.out (by simp [sennitref06_Few.l0])
  | succ k1 =>
   have H := HA.out
   clear HA
   simp only [sennitref06_Few.l0] at H
   have HC3 := Aside0.mk H
   clear H
   go_upto_region 2 with (fail)
   go_cut [13] (fun v13 wc => ∃ (kq : Nat) (x13_2 : Bool), v13 = .bool x13_2 ∧ Aside0 (sennitref06_Few.j1 kq l0 l1 x5_1 x13_2 = some r) ∧ Aside0 (kq ≤ k1) ∧ Drawn0 w wc)
   case first =>
    have H := HC3.out
    clear HC3
    by_cases c4 : x5_1 < (l1.length : Int)
    ·rw [if_pos c4] at H
     have c4b0 : decide (x5_1 < (l1.length : Int)) = true := decide_eq_true c4
     clear c4
     (first | rw [c4b0] | (simp only [i64_w, i32_w]; rw [c4b0]) | skip)
     have H' := Aside0.mk H
     clear H
     go_wp2
     go_meet
     case rel => exact ⟨_, (decide (x5_1 < 7)), (by first | rfl | (simp; done) | (simp [*]; done)), H', ⟨by have := HK1.out; first | omega | exact Nat.le_refl _⟩, by repeat (first | exact Drawn0.refl _ | apply Drawn0.step)⟩
    ·rw [if_neg c4] at H
     have c4b0 : decide (x5_1 < (l1.length : Int)) = false := decide_eq_false c4
     clear c4
     (first | rw [c4b0] | (simp only [i64_w, i32_w]; rw [c4b0]) | skip)
     have H' := Aside0.mk H
     clear H
     go_wp2
     go_meet
     case rel => exact ⟨_, (false), (by first | rfl | (simp; done) | (simp [*]; done)), H', ⟨by have := HK1.out; first | omega | exact Nat.le_refl _⟩, by repeat (first | exact Drawn0.refl _ | apply Drawn0.step)⟩
   case rest =>
    clear HC3
    try clear c1
    try clear p2
    try clear c3
    try clear c4
    try clear c4b0
    try clear p2
    obtain ⟨kq, x13_2, rfl, HA, HJ2, ⟨mc2, rfl⟩⟩ := hcut
    cases kq with
    | zero => exact absurd HA.out (by simp [sennitref06_Few.j1])
    | succ kj2 =>
     have H := HA.out
     clear HA
     simp only [sennitref06_Few.j1] at H
     by_cases c5 : x13_2 = true
     ·subst c5
      have H1 : (if 0 ≤ x5_1 then (if x5_1 < (l1.length : Int) then ((sennitref01_Few.f kj2 (rd_L2 l1 x5_1) 20).bind fun t138 => (if t138 = true then (sennitref06_Few.l0 kj2 l0 l1 (wrap64 (x5_1 + 1))) else (some false))) else (none)) else (none)) = some r := by rw [if_pos rfl] at H; exact H
      clear H
      have H := H1
      clear H1
      by_cases c6 : 0 ≤ x5_1
      ·rw [if_pos c6] at H
       have c6b0 : decide (0 ≤ x5_1) = true := decide_eq_true c6
       clear c6
       by_cases c7 : x5_1 < (l1.length : Int)
       ·rw [if_pos c7] at H
        have c7b0 : decide (x5_1 < (l1.length : Int)) = true := decide_eq_true c7
        clear c7
        replace H := Option.bind_eq_some_iff.mp H
        obtain ⟨t138, A80, H⟩ := H
        replace H : (if t138 = true then (sennitref06_Few.l0 kj2 l0 l1 (wrap64 (x5_1 + 1))) else (some false)) = some r := H
        have A8 := Aside0.mk A80
        clear A80
        by_cases c9 : t138 = true
        ·subst c9
         have H1 : (sennitref06_Few.l0 kj2 l0 l1 (wrap64 (x5_1 + 1))) = some r := by rw [if_pos rfl] at H; exact H
         clear H
         have H := H1
         clear H1
         have H' := Aside0.mk H
         clear H
         have p137 : 0 ≤ (x5_1 : Int) := of_decide_eq_true (by first | (with_reducible assumption) | assumption)
         have q137 : x5_1 < (l1.length : Int) := of_decide_eq_true (by first | (with_reducible assumption) | assumption)
         obtain ⟨ad137, A137_0, c137_0, e137, hx137_0, hl137_0, hi137_0⟩ := at_L2 HR1.out x5_1 p137 q137
         cases e137
         have HR137_0 := Aside0.mk hi137_0
         have HC137_0 := Aside0.mk hl137_0
         clear hi137_0 hl137_0
         replace p137 := eq_true p137
         replace q137 := eq_true q137
         go_wp2_with (first | ((with_reducible refine gate_callee (f := 29) rfl ?_); refine goesL_ (some 20) rfl rfl Tryz.func29 (by kernel_rfl) rfl #[.slice A137_0 (rd_L2 l1 x5_1).length c137_0, .int .i64 20] rfl (by (try simp only [List.map_toArray, List.map_cons, List.map_nil]); first | done | rfl | (simp only [List.length_drop, List.length_take]; rfl)) ?_; (with_reducible refine (sennitref01_Few.calls kj2 _ _ (rd_L2 l1 x5_1) 20 true _ ?side1 ?side2 A8.out).mono ?_); (case side1 => repeat (first | exact HR137_0.out | (with_reducible refine Kd.C_alloc ?_ _) | (with_reducible refine Kd.C_drewN ?_ _) | (with_reducible refine Kd.C_drew ?_))); (case side2 => exact HC137_0.out); rintro e w' ⟨rfl, ⟨nd, rfl⟩⟩; refine ⟨_, rfl, ?_⟩))
         go_roundg kj2
         case measure => have := HK1.out; have := HJ2.out; omega
         case rel => exact ⟨(wrap64 (x5_1 + 1)), (by first | rfl | (simp; done) | (simp [*]; done)), H', ⟨by have := HK1.out; have := HJ2.out; omega⟩, by repeat (first | exact Drawn0.refl _ | apply Drawn0.step)⟩
        ·replace c9 := Bool.eq_false_iff.mpr c9
         subst c9
         have H1 : (some false) = some r := by rw [if_neg (show ¬ (false = true) by decide)] at H; exact H
         clear H
         have H := H1
         clear H1
         obtain rfl := Option.some.inj H
         have p137 : 0 ≤ (x5_1 : Int) := of_decide_eq_true (by first | (with_reducible assumption) | assumption)
         have q137 : x5_1 < (l1.length : Int) := of_decide_eq_true (by first | (with_reducible assumption) | assumption)
         obtain ⟨ad137, A137_0, c137_0, e137, hx137_0, hl137_0, hi137_0⟩ := at_L2 HR1.out x5_1 p137 q137
         cases e137
         have HR137_0 := Aside0.mk hi137_0
         have HC137_0 := Aside0.mk hl137_0
         clear hi137_0 hl137_0
         replace p137 := eq_true p137
         replace q137 := eq_true q137
         go_wp2_with (first | ((with_reducible refine gate_callee (f := 29) rfl ?_); refine goesL_ (some 20) rfl rfl Tryz.func29 (by kernel_rfl) rfl #[.slice A137_0 (rd_L2 l1 x5_1).length c137_0, .int .i64 20] rfl (by (try simp only [List.map_toArray, List.map_cons, List.map_nil]); first | done | rfl | (simp only [List.length_drop, List.length_take]; rfl)) ?_; (with_reducible refine (sennitref01_Few.calls kj2 _ _ (rd_L2 l1 x5_1) 20 false _ ?side1 ?side2 A8.out).mono ?_); (case side1 => repeat (first | exact HR137_0.out | (with_reducible refine Kd.C_alloc ?_ _) | (with_reducible refine Kd.C_drewN ?_ _) | (with_reducible refine Kd.C_drew ?_))); (case side2 => exact HC137_0.out); rintro e w' ⟨rfl, ⟨nd, rfl⟩⟩; refine ⟨_, rfl, ?_⟩))
         go_ret
         exact ⟨by first | rfl | (simp; done) | (simp [*]; done), by repeat (first | exact Drawn0.refl _ | apply Drawn0.step)⟩
       ·rw [if_neg c7] at H
        exact absurd H (by simp)
      ·rw [if_neg c6] at H
       exact absurd H (by simp)
     ·replace c5 := Bool.eq_false_iff.mpr c5
      subst c5
      have H1 : ((sennitref01_Few.f kj2 l0 20).bind fun t139 => (if t139 = true then (some (decide ((l1.length : Int) ≤ 6))) else (some false))) = some r := by rw [if_neg (show ¬ (false = true) by decide)] at H; exact H
      clear H
      have H := H1
      clear H1
      replace H := Option.bind_eq_some_iff.mp H
      obtain ⟨t139, A100, H⟩ := H
      replace H : (if t139 = true then (some (decide ((l1.length : Int) ≤ 6))) else (some false)) = some r := H
      have A10 := Aside0.mk A100
      clear A100
      by_cases c11 : t139 = true
      ·subst c11
       have H1 : (some (decide ((l1.length : Int) ≤ 6))) = some r := by rw [if_pos rfl] at H; exact H
       clear H
       have H := H1
       clear H1
       obtain rfl := Option.some.inj H
       go_wp2_with (first | ((with_reducible refine gate_callee (f := 29) rfl ?_); refine goesL_ (some 23) rfl rfl Tryz.func29 (by kernel_rfl) rfl #[.slice A0 l0.length c0, .int .i64 20] rfl (by (try simp only [List.map_toArray, List.map_cons, List.map_nil]); first | done | rfl | (simp only [List.length_drop, List.length_take]; rfl)) ?_; (with_reducible refine (sennitref01_Few.calls kj2 _ _ l0 20 true _ ?side1 ?side2 A10.out).mono ?_); (case side1 => repeat (first | exact HR0.out | (with_reducible refine Kd.C_alloc ?_ _) | (with_reducible refine Kd.C_drewN ?_ _) | (with_reducible refine Kd.C_drew ?_))); (case side2 => exact HC0.out); rintro e w' ⟨rfl, ⟨nd, rfl⟩⟩; refine ⟨_, rfl, ?_⟩))
       go_ret
       exact ⟨by first | rfl | (simp; done) | (simp [*]; done), by repeat (first | exact Drawn0.refl _ | apply Drawn0.step)⟩
      ·replace c11 := Bool.eq_false_iff.mpr c11
       subst c11
       have H1 : (some false) = some r := by rw [if_neg (show ¬ (false = true) by decide)] at H; exact H
       clear H
       have H := H1
       clear H1
       obtain rfl := Option.some.inj H
       go_wp2_with (first | ((with_reducible refine gate_callee (f := 29) rfl ?_); refine goesL_ (some 23) rfl rfl Tryz.func29 (by kernel_rfl) rfl #[.slice A0 l0.length c0, .int .i64 20] rfl (by (try simp only [List.map_toArray, List.map_cons, List.map_nil]); first | done | rfl | (simp only [List.length_drop, List.length_take]; rfl)) ?_; (with_reducible refine (sennitref01_Few.calls kj2 _ _ l0 20 false _ ?side1 ?side2 A10.out).mono ?_); (case side1 => repeat (first | exact HR0.out | (with_reducible refine Kd.C_alloc ?_ _) | (with_reducible refine Kd.C_drewN ?_ _) | (with_reducible refine Kd.C_drew ?_))); (case side2 => exact HC0.out); rintro e w' ⟨rfl, ⟨nd, rfl⟩⟩; refine ⟨_, rfl, ?_⟩))
       go_ret
       exact ⟨by first | rfl | (simp; done) | (simp [*]; done), by repeat (first | exact Drawn0.refl _ | apply Drawn0.step)⟩

end Go.Proofs.YtcnjbmdnnhbfkaaGreatDoor.XD
