/- The call of dragomanlaw1.awake returns true and changes nothing that was there, whatever the memory; no condition. -/
import Derived.Test.YtagjfnjfhflahaaPxutfPut
import Derived.Test.YtagjfnjfhflahaaPxutfTake
import Derived.Test.YtagjfnjfhflahaaPxutfAt
import Derived.Test.YtagjfnjfhflahaaPxutfValid
import Derived.Test.YtagjfnjfhflahaaPxutfCount
import Derived.Test.YtagjfnjfhflahaaPxutfGood
namespace Go.Proofs.Ytagjfnjfhflahaa.P
open Go.RowKit Go.Proofs.YtagjfnjfhflahaaW.PrintWords Go.Proofs.YtagjfnjfhflahaaW.PrintLast Go.Proofs.YtagjfnjfhflahaaW.PrintMore

theorem awake1_1 : utf_Take.f 10 (⟨#[226, 130, 172, 120]⟩ : ByteArray) = some (8364, 3) := by decide +kernel
theorem awake1_2 : utf_At.f 10 (⟨#[97, 226, 130, 172]⟩ : ByteArray) 2 = some (4, true) := by decide +kernel
theorem awake1_3 : utf_Valid.f 10 (⟨#[97, 98]⟩ : ByteArray) = some (2, true) := by decide +kernel
theorem awake1_4 : utf_Count.f 10 (⟨#[97, 255]⟩ : ByteArray) = some 2 := by decide +kernel
theorem awake1_5 : utf_Put.f [] 8364 = some [226, 130, 172] := by decide +kernel
theorem awake1_6 : utf_Good.f 65 = some true := by decide +kernel
theorem awake1_7 : strOfNums [226, 130, 172] = ⟨#[226, 130, 172]⟩ := by decide +kernel

set_option maxHeartbeats 1000000 in
theorem awake1_walk (w : World) : Calls Try.prog 12 #[] w fun e w' => e = .returned (.bool true) ∧ Below w.heap.size w w' := by
  go_enter Try.func12, Try.ntmps12
  go_wp2_with fail
  (refine (utf_Put.calls _ _ ([] : List Int) 8364 _ _ (Kd.C_nil _ _) (Nat.le_refl _) awake1_5).mono ?_)
  rintro e w1 ⟨v1, rfl, ho, hb⟩
  go_wp2_with fail
  refine (utf_Take.calls 10 _ _ _ _ awake1_1).mono ?_
  rintro e w2 ⟨rfl, n2, rfl⟩
  go_wp2_with fail
  refine (utf_At.calls 10 _ _ _ _ _ awake1_2).mono ?_
  rintro e w3 ⟨rfl, hb3⟩
  go_wp2_with fail
  refine (utf_Valid.calls 10 _ _ _ _ awake1_3).mono ?_
  rintro e w4 ⟨rfl, n4, rfl⟩
  have ho3 := Kd.R_drewN (Kd.R_below (Kd.R_drewN ho n2) hb3) n4
  have hcv := own_string (P := Try.prog) Try.underlying29 Try.underlying5 Try.underlying9 (Kd.own_of_R ho3)
  rw [awake1_7] at hcv
  have hb' := below_step (pw_below_drewN hb n2) hb3
  clear ho ho3 hb hb3
  go_wp2_with fail
  refine (utf_Count.calls 10 _ _ _ awake1_4).mono ?_
  rintro e w5 ⟨rfl, hb5⟩
  go_wp2_with fail
  refine (utf_Good.calls _ _ _ awake1_6).mono ?_
  rintro e w6 ⟨rfl, n6, rfl⟩
  go_wp2
  go_ret
  exact ⟨rfl, pw_below_drewN (below_step (pw_below_drewN hb' n4) hb5) n6⟩

def dragomanlaw1_awake.f : Option Bool := some true
theorem dragomanlaw1_awake.calls (r : Bool) (w : World) (h : dragomanlaw1_awake.f = some r) : Calls Try.prog 12 #[] w fun e w' => e = .returned (.bool r) ∧ Below w.heap.size w w' := by
  obtain rfl : true = r := Option.some.inj h
  exact awake1_walk w
end Go.Proofs.Ytagjfnjfhflahaa.P
