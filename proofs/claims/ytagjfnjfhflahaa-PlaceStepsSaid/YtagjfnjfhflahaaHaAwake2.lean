/- The call of dragomanlaw2.awake returns true and changes nothing that was there, whatever the memory; no condition. -/
import Derived.Test.YtagjfnjfhflahaaPxplace
import Derived.Test.YtagjfnjfhflahaaPxe1
namespace Go.Proofs.Ytagjfnjfhflahaa.P
open Go.RowKit Go.Proofs.YtagjfnjfhflahaaW.PrintWords Go.Proofs.YtagjfnjfhflahaaW.PrintLast Go.Proofs.YtagjfnjfhflahaaW.PrintMore
attribute [local go_sem high] eqA42

theorem awake2_1 : place_Of.f 10 (⟨#[97, 98, 10, 99]⟩ : ByteArray) 3 = some (2, 1) := by decide +kernel
theorem awake2_2 : place_Fault.f 10 (⟨#[120]⟩ : ByteArray) 9 4 = some (4, 1, 1, 2) := by decide +kernel
theorem awake2_3 : place_Begin.f 10 (⟨#[97, 10, 98]⟩ : ByteArray) 2 = some (2, true) := by decide +kernel
theorem awake2_4 : place_Lines.f (⟨#[97, 10, 98]⟩ : ByteArray) = some 2 := by decide +kernel

set_option maxHeartbeats 1000000 in
theorem awake2_walk (w : World) : Calls Try.prog 24 #[] w fun e w' => e = .returned (.bool true) ∧ Below w.heap.size w w' := by
  go_enter Try.func24, Try.ntmps24
  go_wp2_with fail
  refine (place_Of.calls 10 _ _ _ _ _ awake2_1).mono ?_
  rintro e w1 ⟨rfl, hb1⟩
  go_wp2_with fail
  refine (place_Fault.calls 10 _ _ _ _ _ _ _ _ awake2_2).mono ?_
  rintro e w2 ⟨rfl, hb2⟩
  have hb := below_step hb1 hb2
  clear hb1 hb2
  go_wp2_with fail
  refine (place_Begin.calls 10 _ _ _ _ _ awake2_3).mono ?_
  rintro e w3 ⟨rfl, n3, rfl⟩
  go_wp2_with fail
  refine (place_Lines.calls _ _ _ awake2_4).mono ?_
  rintro e w4 ⟨rfl, n4, rfl⟩
  go_wp2
  go_ret
  exact ⟨rfl, pw_below_drewN (below_alloc hb _) _⟩

def dragomanlaw2_awake.f : Option Bool := some true
theorem dragomanlaw2_awake.calls (r : Bool) (w : World) (h : dragomanlaw2_awake.f = some r) : Calls Try.prog 24 #[] w fun e w' => e = .returned (.bool r) ∧ Below w.heap.size w w' := by
  obtain rfl : true = r := Option.some.inj h
  exact awake2_walk w
end Go.Proofs.Ytagjfnjfhflahaa.P
