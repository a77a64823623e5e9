/- The parts of this claim's proof, in one text: what each Go function answers and that its call comes to it; plain facts of lists of numbers. The lemmas in the namespaces of the words (PrintWords, PrintLast, PrintMore) come of the texts that the kit's printer lays for the seat; those that are reached. Conditions as each theorem names them. -/
import Derived.ArgAppend
import Derived.Below
import Derived.BigQuiet
import Derived.Deep.AppendLies
import Derived.Deep.CutBlock
import Derived.Deep.DeepCutAuto
import Derived.Deep.Draws
import Derived.Deep.LoopGhost
import Derived.Deep.OwnRows
import Derived.Deep.QuietTactic
import Derived.Deep.RegionHeld3
import Derived.KernelRfl
import Derived.Laws.BitsLemmas
import Derived.Laws.BytesArg
import Derived.Laws.IdiomCopy
import Derived.Laws.MakeOwn
import Derived.Laws.OwnMore
import Derived.Laws.Rows
import Derived.Laws.Slices
import Derived.Laws.StructEq
import Derived.Lib.AppendStr
import Derived.Lib.ConvBytes
import Derived.Maps.AppendAt
import Derived.OrdersHeld
import Derived.OwnWalk
import Derived.RowKit
import Derived.RowKit3
import Derived.Tactics
import Derived.WalkKit
import Derived.WideLaws
import Derived.Test.YtoanbmggffkmgaaDoorProg
import Derived.Test.YtoanbmggffkmgaaDoorMJlexCuts1
import Derived.Test.YtoanbmggffkmgaaDoorMJlexCuts2
import Derived.Test.YtoanbmggffkmgaaDoorMJlexCuts3
import Derived.Test.YtoanbmggffkmgaaDoorMJlexCuts4
section
namespace Go.Proofs.YtoanbmggffkmgaaDoor.P
open Go.RowKit Go.Proofs.YtoanbmggffkmgaaDoorW.PrintWords Go.Proofs.YtoanbmggffkmgaaDoorW.PrintLast Go.Proofs.YtoanbmggffkmgaaDoorW.PrintMore
attribute [local go_sem] max2_int min2_int max_two min_two max_three min_three max_four min_four   -- for this text's walks alone
set_option linter.unusedVariables false
set_option linter.unusedSimpArgs false
/-! ### dragomanref1_power: function 36 -/
def dragomanref1_power.l0 : Nat → ByteArray → Int → Int → Option (Int × Bool)
 | 0, _, _, _ => none
 | k + 1, x0, x4, x5 => if x5 < (x0.size : Int) then (if 0 ≤ x5 then ((dragomanref1_digit.f (bt x0 x5)).bind fun t244 => (if t244 = true then (if (wrap64 ((wrap64 (10 * x4)) + (((bt x0 x5) - 48) % 256))) > 100000 then (some (0, false)) else (dragomanref1_power.l0 k x0 (wrap64 ((wrap64 (10 * x4)) + (((bt x0 x5) - 48) % 256))) (wrap64 (x5 + 1)))) else (dragomanref1_power.l0 k x0 x4 (wrap64 (x5 + 1))))) else (none)) else (if x0.toList = ([] : List UInt8) then (some (x4, true)) else (if 0 < (x0.size : Int) then (if (bt x0 0) = 45 then (some (wrap64 (-x4), true)) else (some (x4, true))) else (none)))
def dragomanref1_power.f (k : Nat) (a0 : ByteArray) : Option (Int × Bool) := dragomanref1_power.l0 k a0 0 0
set_option maxHeartbeats 8000000 in
set_option maxRecDepth 100000 in
theorem dragomanref1_power.calls (k : Nat) (a0 : ByteArray) (r1 : Int) (r2 : Bool) (w : World) (h : dragomanref1_power.f k a0 = some (r1, r2)) :
  Calls Tryd.prog 36 #[.string a0] w fun e w' => e = .returned (.tuple #[.int .i64 r1, .bool r2]) ∧ Drawn0 w w' := by
 have H : (dragomanref1_power.l0 k a0 0 0) = some (r1, r2) := h
 clear h
 have H' := Aside0.mk H
 clear H
 go_enter Tryd.func36, Tryd.ntmps36
 go_wp2
 go_loopg [4, 5] k (fun kq v4 v5 w' => ∃ (x4_1 : Int) (x5_1 : Int), v4 = .int .i64 x4_1 ∧ v5 = .int .i64 x5_1 ∧ Aside0 (dragomanref1_power.l0 kq a0 x4_1 x5_1 = some (r1, r2)) ∧ Aside0 (kq ≤ k) ∧ Drawn0 w w')
 case atStart => exact ⟨(0), (0), (by first | rfl | (simp; done) | (simp [*]; done)), (by first | rfl | (simp; done) | (simp [*]; done)), H', ⟨Nat.le_refl _⟩, by repeat (first | exact Drawn0.refl _ | apply Drawn0.step)⟩
 case round =>
  clear H'
  obtain ⟨x4_1, x5_1, rfl, rfl, HA, HK1, ⟨m1, rfl⟩⟩ := hrel
  cases gk with
  | zero => exact absurd HA.out (by simp [dragomanref1_power.l0])
  | succ k1 =>
   have H := HA.out
   clear HA
   simp only [dragomanref1_power.l0] at H
   by_cases c2 : x5_1 < (a0.size : Int)
   ·rw [if_pos c2] at H
    have c2b0 : decide (x5_1 < (a0.size : Int)) = true := decide_eq_true c2
    clear c2
    by_cases c3 : 0 ≤ x5_1
    ·rw [if_pos c3] at H
     have c3b0 : decide (0 ≤ x5_1) = true := decide_eq_true c3
     clear c3
     replace H := Option.bind_eq_some_iff.mp H
     obtain ⟨t244, A50, H⟩ := H
     replace H : (if t244 = true then (if (wrap64 ((wrap64 (10 * x4_1)) + (((bt a0 x5_1) - 48) % 256))) > 100000 then (some (0, false)) else (dragomanref1_power.l0 k1 a0 (wrap64 ((wrap64 (10 * x4_1)) + (((bt a0 x5_1) - 48) % 256))) (wrap64 (x5_1 + 1)))) else (dragomanref1_power.l0 k1 a0 x4_1 (wrap64 (x5_1 + 1)))) = some (r1, r2) := H
     have A5 := Aside0.mk A50
     clear A50
     by_cases c6 : t244 = true
     ·subst c6
      have H1 : (if (wrap64 ((wrap64 (10 * x4_1)) + (((bt a0 x5_1) - 48) % 256))) > 100000 then (some (0, false)) else (dragomanref1_power.l0 k1 a0 (wrap64 ((wrap64 (10 * x4_1)) + (((bt a0 x5_1) - 48) % 256))) (wrap64 (x5_1 + 1)))) = some (r1, r2) := by rw [if_pos rfl] at H; exact H
      clear H
      have H := H1
      clear H1
      by_cases c8 : (wrap64 ((wrap64 (10 * x4_1)) + (((bt a0 x5_1) - 48) % 256))) > 100000
      ·rw [if_pos c8] at H
       have c8b0 : decide (100000 < (wrap64 ((wrap64 (10 * x4_1)) + (((bt a0 x5_1) - 48) % 256)))) = true := decide_eq_true c8
       clear c8
       simp only [Option.some.injEq, Prod.mk.injEq] at H
       obtain ⟨rfl, rfl⟩ := H
       have p4 : 0 ≤ (x5_1 : Int) := of_decide_eq_true (by first | (with_reducible assumption) | assumption)
       have q4 : x5_1 < (a0.size : Int) := of_decide_eq_true (by first | (with_reducible assumption) | assumption)
       have hx4 := bt_at a0 x5_1
       replace p4 := eq_true p4
       replace q4 := eq_true q4
       go_wp2_with (first | ((with_reducible refine gate_callee (f := 61) rfl ?_); refine goesL_ (some 15) rfl rfl Tryd.func61 (by kernel_rfl) rfl #[.int .u8 (bt a0 x5_1)] rfl (by (try simp only [List.map_toArray, List.map_cons, List.map_nil]); first | done | rfl | (simp only [List.length_drop, List.length_take]; rfl)) ?_; (with_reducible refine (dragomanref1_digit.calls (bt a0 x5_1) true _ A5.out).mono ?_); rintro e w' ⟨rfl, ⟨nd, rfl⟩⟩; refine ⟨_, rfl, ?_⟩; have p7 : 0 ≤ (x5_1 : Int) := of_decide_eq_true (by first | (with_reducible assumption) | assumption); have q7 : x5_1 < (a0.size : Int) := of_decide_eq_true (by first | (with_reducible assumption) | assumption); have hx7 := bt_at a0 x5_1; replace p7 := eq_true p7; replace q7 := eq_true q7))
       go_ret2
       exact ⟨by first | rfl | (simp; done) | (simp [*]; done), by repeat (first | exact Drawn0.refl _ | apply Drawn0.step)⟩
      ·rw [if_neg c8] at H
       have c8b0 : decide (100000 < (wrap64 ((wrap64 (10 * x4_1)) + (((bt a0 x5_1) - 48) % 256)))) = false := decide_eq_false c8
       clear c8
       have H' := Aside0.mk H
       clear H
       have p4 : 0 ≤ (x5_1 : Int) := of_decide_eq_true (by first | (with_reducible assumption) | assumption)
       have q4 : x5_1 < (a0.size : Int) := of_decide_eq_true (by first | (with_reducible assumption) | assumption)
       have hx4 := bt_at a0 x5_1
       replace p4 := eq_true p4
       replace q4 := eq_true q4
       go_wp2_with (first | ((with_reducible refine gate_callee (f := 61) rfl ?_); refine goesL_ (some 15) rfl rfl Tryd.func61 (by kernel_rfl) rfl #[.int .u8 (bt a0 x5_1)] rfl (by (try simp only [List.map_toArray, List.map_cons, List.map_nil]); first | done | rfl | (simp only [List.length_drop, List.length_take]; rfl)) ?_; (with_reducible refine (dragomanref1_digit.calls (bt a0 x5_1) true _ A5.out).mono ?_); rintro e w' ⟨rfl, ⟨nd, rfl⟩⟩; refine ⟨_, rfl, ?_⟩; have p7 : 0 ≤ (x5_1 : Int) := of_decide_eq_true (by first | (with_reducible assumption) | assumption); have q7 : x5_1 < (a0.size : Int) := of_decide_eq_true (by first | (with_reducible assumption) | assumption); have hx7 := bt_at a0 x5_1; replace p7 := eq_true p7; replace q7 := eq_true q7))
       go_roundg k1
       case measure => have := HK1.out; omega
       case rel => exact ⟨(wrap64 ((wrap64 (10 * x4_1)) + (((bt a0 x5_1) - 48) % 256))), (wrap64 (x5_1 + 1)), (by first | rfl | (simp; done) | (simp [*]; done)), (by first | rfl | (simp; done) | (simp [*]; done)), H', ⟨by have := HK1.out; omega⟩, by repeat (first | exact Drawn0.refl _ | apply Drawn0.step)⟩
     ·replace c6 := Bool.eq_false_iff.mpr c6
      subst c6
      have H1 : (dragomanref1_power.l0 k1 a0 x4_1 (wrap64 (x5_1 + 1))) = some (r1, r2) := by rw [if_neg (show ¬ (false = true) by decide)] at H; exact H
      clear H
      have H := H1
      clear H1
      have H' := Aside0.mk H
      clear H
      have p4 : 0 ≤ (x5_1 : Int) := of_decide_eq_true (by first | (with_reducible assumption) | assumption)
      have q4 : x5_1 < (a0.size : Int) := of_decide_eq_true (by first | (with_reducible assumption) | assumption)
      have hx4 := bt_at a0 x5_1
      replace p4 := eq_true p4
      replace q4 := eq_true q4
      go_wp2_with (first | ((with_reducible refine gate_callee (f := 61) rfl ?_); refine goesL_ (some 15) rfl rfl Tryd.func61 (by kernel_rfl) rfl #[.int .u8 (bt a0 x5_1)] rfl (by (try simp only [List.map_toArray, List.map_cons, List.map_nil]); first | done | rfl | (simp only [List.length_drop, List.length_take]; rfl)) ?_; (with_reducible refine (dragomanref1_digit.calls (bt a0 x5_1) false _ A5.out).mono ?_); rintro e w' ⟨rfl, ⟨nd, rfl⟩⟩; refine ⟨_, rfl, ?_⟩))
      go_roundg k1
      case measure => have := HK1.out; omega
      case rel => exact ⟨(x4_1), (wrap64 (x5_1 + 1)), (by first | rfl | (simp; done) | (simp [*]; done)), (by first | rfl | (simp; done) | (simp [*]; done)), H', ⟨by have := HK1.out; omega⟩, by repeat (first | exact Drawn0.refl _ | apply Drawn0.step)⟩
    ·rw [if_neg c3] at H
     exact absurd H (by simp)
   ·rw [if_neg c2] at H
    have c2b0 : decide (x5_1 < (a0.size : Int)) = false := decide_eq_false c2
    clear c2
    by_cases c9 : a0.toList = ([] : List UInt8)
    ·rw [if_pos c9] at H
     have c9b0 : (a0.toList == ([] : List UInt8)) = true := beq_iff_eq.mpr c9
     have c9b1 : (a0.toList != ([] : List UInt8)) = false := bne_eq_false_iff_eq.mpr c9
     clear c9
     simp only [Option.some.injEq, Prod.mk.injEq] at H
     obtain ⟨rfl, rfl⟩ := H
     go_wp2
     go_ret2
     exact ⟨by first | rfl | (simp; done) | (simp [*]; done), by repeat (first | exact Drawn0.refl _ | apply Drawn0.step)⟩
    ·rw [if_neg c9] at H
     have c9b0 : (a0.toList == ([] : List UInt8)) = false := beq_eq_false_iff_ne.mpr c9
     have c9b1 : (a0.toList != ([] : List UInt8)) = true := bne_iff_ne.mpr c9
     by_cases c10 : 0 < (a0.size : Int)
     ·rw [if_pos c10] at H
      have c10b0 : decide (0 < (a0.size : Int)) = true := decide_eq_true c10
      have c10b1 : decide (0 < a0.size) = true := decide_eq_true (by omega)
      clear c10
      by_cases c12 : (bt a0 0) = 45
      ·rw [if_pos c12] at H
       have c12b0 : ((bt a0 0) == 45) = true := beq_iff_eq.mpr c12
       have c12b1 : ((bt a0 0) != 45) = false := bne_eq_false_iff_eq.mpr c12
       clear c12
       simp only [Option.some.injEq, Prod.mk.injEq] at H
       obtain ⟨rfl, rfl⟩ := H
       have p11 : 0 ≤ (0 : Int) := (by omega)
       have q11 : 0 < a0.size := (by have : (0 : Int) < (a0.size : Int) := of_decide_eq_true (by first | (with_reducible assumption) | assumption); omega)
       have hx11 : ∀ h : 0 < a0.size, ((a0[0]'h).toNat : Int) = bt a0 0 := bt_at a0 0
       clear p11
       have qi11 : (0 < (a0.size : Int)) = True := eq_true (of_decide_eq_true (by first | (with_reducible assumption) | assumption))
       replace q11 := eq_true q11
       go_wp2
       go_ret2
       exact ⟨by first | rfl | (simp; done) | (simp [*]; done), by repeat (first | exact Drawn0.refl _ | apply Drawn0.step)⟩
      ·rw [if_neg c12] at H
       have c12b0 : ((bt a0 0) == 45) = false := beq_eq_false_iff_ne.mpr c12
       have c12b1 : ((bt a0 0) != 45) = true := bne_iff_ne.mpr c12
       simp only [Option.some.injEq, Prod.mk.injEq] at H
       obtain ⟨rfl, rfl⟩ := H
       have p11 : 0 ≤ (0 : Int) := (by omega)
       have q11 : 0 < a0.size := (by have : (0 : Int) < (a0.size : Int) := of_decide_eq_true (by first | (with_reducible assumption) | assumption); omega)
       have hx11 : ∀ h : 0 < a0.size, ((a0[0]'h).toNat : Int) = bt a0 0 := bt_at a0 0
       clear p11
       have qi11 : (0 < (a0.size : Int)) = True := eq_true (of_decide_eq_true (by first | (with_reducible assumption) | assumption))
       replace q11 := eq_true q11
       go_wp2
       go_ret2
       exact ⟨by first | rfl | (simp; done) | (simp [*]; done), by repeat (first | exact Drawn0.refl _ | apply Drawn0.step)⟩
     ·rw [if_neg c10] at H
      exact absurd H (by simp)
end Go.Proofs.YtoanbmggffkmgaaDoor.P
end
section
namespace Go.Proofs.YtoanbmggffkmgaaDoor.P
open Go.RowKit Go.Proofs.YtoanbmggffkmgaaDoorW.PrintWords Go.Proofs.YtoanbmggffkmgaaDoorW.PrintLast Go.Proofs.YtoanbmggffkmgaaDoorW.PrintMore
attribute [local go_sem] max2_int min2_int max_two min_two max_three min_three max_four min_four   -- for this text's walks alone
set_option linter.unusedVariables false
set_option linter.unusedSimpArgs false
/-! ### dragomanref1_Form: function 14 -/
def dragomanref1_Form.f (k : Nat) (a0 : ByteArray) : Option (Bool × Bool) := (dragomanref1_parts.f k a0).bind fun bt245 => ((dragomanref1_power.f k bt245.2.2.2.1).bind fun bt250 => (if bt245.2.2.2.2 = true then (some (bt245.2.2.2.2, !bt250.2)) else (some (bt245.2.2.2.2, false))))
set_option maxHeartbeats 8000000 in
set_option maxRecDepth 100000 in
theorem dragomanref1_Form.calls (k : Nat) (a0 : ByteArray) (r1 : Bool) (r2 : Bool) (w : World) (h : dragomanref1_Form.f k a0 = some (r1, r2)) :
  Calls Tryd.prog 14 #[.string a0] w fun e w' => e = .returned (.tuple #[.bool r1, .bool r2]) ∧ Drawn0 w w' := by
 have H : ((dragomanref1_parts.f k a0).bind fun bt245 => ((dragomanref1_power.f k bt245.2.2.2.1).bind fun bt250 => (if bt245.2.2.2.2 = true then (some (bt245.2.2.2.2, !bt250.2)) else (some (bt245.2.2.2.2, false))))) = some (r1, r2) := h
 clear h
 replace H := Option.bind_eq_some_iff.mp H
 obtain ⟨⟨t245, t246, t247, t248, t249⟩, A20, H⟩ := H
 replace H : ((dragomanref1_power.f k t248).bind fun bt250 => (if t249 = true then (some (t249, !bt250.2)) else (some (t249, false)))) = some (r1, r2) := H
 have A2 := Aside0.mk A20
 clear A20
 replace H := Option.bind_eq_some_iff.mp H
 obtain ⟨⟨t250, t251⟩, A30, H⟩ := H
 replace H : (if t249 = true then (some (t249, !t251)) else (some (t249, false))) = some (r1, r2) := H
 have A3 := Aside0.mk A30
 clear A30
 by_cases c4 : t249 = true
 ·subst c4
  have H1 : (some (true, !t251)) = some (r1, r2) := by rw [if_pos rfl] at H; exact H
  clear H
  have H := H1
  clear H1
  simp only [Option.some.injEq, Prod.mk.injEq] at H
  obtain ⟨rfl, rfl⟩ := H
  go_enter Tryd.func14, Tryd.ntmps14
  go_wp2_with (first | ((with_reducible refine gate_callee (f := 35) rfl ?_); refine goesL_ (some 13) rfl rfl Tryd.func35 (by kernel_rfl) rfl #[.string a0] rfl (by (try simp only [List.map_toArray, List.map_cons, List.map_nil]); first | done | rfl | (simp only [List.length_drop, List.length_take]; rfl)) ?_; (with_reducible refine (dragomanref1_parts.calls k a0 t245 t246 t247 t248 true _ A2.out).mono ?_); rintro e w' ⟨rfl, ⟨nd, rfl⟩⟩; refine ⟨_, rfl, ?_⟩) | ((with_reducible refine gate_callee (f := 36) rfl ?_); refine goesL_ (some 21) rfl rfl Tryd.func36 (by kernel_rfl) rfl #[.string t248] rfl (by (try simp only [List.map_toArray, List.map_cons, List.map_nil]); first | done | rfl | (simp only [List.length_drop, List.length_take]; rfl)) ?_; (with_reducible refine (dragomanref1_power.calls k t248 t250 t251 _ A3.out).mono ?_); rintro e w' ⟨rfl, ⟨nd, rfl⟩⟩; refine ⟨_, rfl, ?_⟩))
  go_ret2
  exact ⟨by first | rfl | (simp; done) | (simp [*]; done), by repeat (first | exact Drawn0.refl _ | apply Drawn0.step)⟩
 ·replace c4 := Bool.eq_false_iff.mpr c4
  subst c4
  have H1 : (some (false, false)) = some (r1, r2) := by rw [if_neg (show ¬ (false = true) by decide)] at H; exact H
  clear H
  have H := H1
  clear H1
  simp only [Option.some.injEq, Prod.mk.injEq] at H
  obtain ⟨rfl, rfl⟩ := H
  go_enter Tryd.func14, Tryd.ntmps14
  go_wp2_with (first | ((with_reducible refine gate_callee (f := 35) rfl ?_); refine goesL_ (some 13) rfl rfl Tryd.func35 (by kernel_rfl) rfl #[.string a0] rfl (by (try simp only [List.map_toArray, List.map_cons, List.map_nil]); first | done | rfl | (simp only [List.length_drop, List.length_take]; rfl)) ?_; (with_reducible refine (dragomanref1_parts.calls k a0 t245 t246 t247 t248 false _ A2.out).mono ?_); rintro e w' ⟨rfl, ⟨nd, rfl⟩⟩; refine ⟨_, rfl, ?_⟩) | ((with_reducible refine gate_callee (f := 36) rfl ?_); refine goesL_ (some 21) rfl rfl Tryd.func36 (by kernel_rfl) rfl #[.string t248] rfl (by (try simp only [List.map_toArray, List.map_cons, List.map_nil]); first | done | rfl | (simp only [List.length_drop, List.length_take]; rfl)) ?_; (with_reducible refine (dragomanref1_power.calls k t248 t250 t251 _ A3.out).mono ?_); rintro e w' ⟨rfl, ⟨nd, rfl⟩⟩; refine ⟨_, rfl, ?_⟩))
  go_ret2
  exact ⟨by first | rfl | (simp; done) | (simp [*]; done), by repeat (first | exact Drawn0.refl _ | apply Drawn0.step)⟩
end Go.Proofs.YtoanbmggffkmgaaDoor.P
end
section
namespace Go.Proofs.YtoanbmggffkmgaaDoor.P
open Go.RowKit Go.Proofs.YtoanbmggffkmgaaDoorW.PrintWords Go.Proofs.YtoanbmggffkmgaaDoorW.PrintLast Go.Proofs.YtoanbmggffkmgaaDoorW.PrintMore
attribute [local go_sem] max2_int min2_int max_two min_two max_three min_three max_four min_four   -- for this text's walks alone
attribute [-simp] ByteArray.size_extract
theorem pxdragomanref8in_empty (l : List UInt8) : l.isEmpty = !(l != []) := by cases l <;> rfl
set_option linter.unusedVariables false
set_option linter.unusedSimpArgs false
/-! ### dragomanref8_in: function 49 -/
def dragomanref8_in.l0 : Nat → Int → ByteArray → Int → Option (Bool)
 | 0, _, _, _ => none
 | k + 1, x0, x1, x5 => if x5 < (x1.size : Int) then (if 0 ≤ x5 then (if (bt x1 x5) = x0 then (some true) else (dragomanref8_in.l0 k x0 x1 (wrap64 (x5 + 1)))) else (none)) else (some false)
def dragomanref8_in.f (k : Nat) (a0 : Int) (a1 : ByteArray) : Option (Bool) := dragomanref8_in.l0 k a0 a1 0
set_option maxHeartbeats 8000000 in
set_option maxRecDepth 100000 in
theorem dragomanref8_in.calls (k : Nat) (a0 : Int) (a1 : ByteArray) (r : Bool) (w : World) (h : dragomanref8_in.f k a0 a1 = some r) :
  Calls Tryd.prog 49 #[.int .u8 a0, .string a1] w fun e w' => e = .returned (.bool r) ∧ Drawn0 w w' := by
 have H : (dragomanref8_in.l0 k a0 a1 0) = some r := h
 clear h
 have H' := Aside0.mk H
 clear H
 go_enter Tryd.func49, Tryd.ntmps49
 go_wp2
 go_loopg [5] k (fun kq v5 w' => ∃ (x5_1 : Int), v5 = .int .i64 x5_1 ∧ Aside0 (dragomanref8_in.l0 kq a0 a1 x5_1 = some r) ∧ Aside0 (kq ≤ k) ∧ Drawn0 w w')
 case atStart => exact ⟨(0), (by first | rfl | (simp; done) | (simp [*]; done)), H', ⟨Nat.le_refl _⟩, by repeat (first | exact Drawn0.refl _ | apply Drawn0.step)⟩
 case round =>
  clear H'
  try clear p2
  obtain ⟨x5_1, rfl, HA, HK1, ⟨m1, rfl⟩⟩ := hrel
  cases gk with
  | zero => exact absurd HA.out (by simp [dragomanref8_in.l0])
  | succ k1 =>
   have H := HA.out
   clear HA
   simp only [dragomanref8_in.l0] at H
   by_cases c3 : x5_1 < (a1.size : Int)
   ·rw [if_pos c3] at H
    have c3b0 : decide (x5_1 < (a1.size : Int)) = true := decide_eq_true c3
    clear c3
    by_cases c4 : 0 ≤ x5_1
    ·rw [if_pos c4] at H
     have c4b0 : decide (0 ≤ x5_1) = true := decide_eq_true c4
     clear c4
     by_cases c6 : (bt a1 x5_1) = a0
     ·rw [if_pos c6] at H
      have c6b0 : ((bt a1 x5_1) == a0) = true := beq_iff_eq.mpr c6
      have c6b1 : ((bt a1 x5_1) != a0) = false := bne_eq_false_iff_eq.mpr c6
      clear c6
      obtain rfl := Option.some.inj H
      have p5 : 0 ≤ (x5_1 : Int) := of_decide_eq_true (by first | (with_reducible assumption) | assumption)
      have q5 : x5_1 < (a1.size : Int) := of_decide_eq_true (by first | (with_reducible assumption) | assumption)
      have hx5 := bt_at a1 x5_1
      replace p5 := eq_true p5
      replace q5 := eq_true q5
      go_wp2
      go_ret
      exact ⟨by first | rfl | (simp only [bne, Bool.not_not]; done) | (rw [pxdragomanref8in_empty]; done) | (simp; exact pxdragomanref8in_empty _) | (simp; done) | (simp [*]; done), by repeat (first | exact Drawn0.refl _ | apply Drawn0.step)⟩
     ·rw [if_neg c6] at H
      have c6b0 : ((bt a1 x5_1) == a0) = false := beq_eq_false_iff_ne.mpr c6
      have c6b1 : ((bt a1 x5_1) != a0) = true := bne_iff_ne.mpr c6
      have H' := Aside0.mk H
      clear H
      have p5 : 0 ≤ (x5_1 : Int) := of_decide_eq_true (by first | (with_reducible assumption) | assumption)
      have q5 : x5_1 < (a1.size : Int) := of_decide_eq_true (by first | (with_reducible assumption) | assumption)
      have hx5 := bt_at a1 x5_1
      replace p5 := eq_true p5
      replace q5 := eq_true q5
      go_wp2
      go_roundg k1
      case measure => have := HK1.out; omega
      case rel => exact ⟨(wrap64 (x5_1 + 1)), (by first | rfl | (simp; done) | (simp [*]; done)), H', ⟨by have := HK1.out; omega⟩, by repeat (first | exact Drawn0.refl _ | apply Drawn0.step)⟩
    ·rw [if_neg c4] at H
     exact absurd H (by simp)
   ·rw [if_neg c3] at H
    have c3b0 : decide (x5_1 < (a1.size : Int)) = false := decide_eq_false c3
    clear c3
    obtain rfl := Option.some.inj H
    go_wp2
    go_ret
    exact ⟨by first | rfl | (simp only [bne, Bool.not_not]; done) | (rw [pxdragomanref8in_empty]; done) | (simp; exact pxdragomanref8in_empty _) | (simp; done) | (simp [*]; done), by repeat (first | exact Drawn0.refl _ | apply Drawn0.step)⟩
end Go.Proofs.YtoanbmggffkmgaaDoor.P
end
section
namespace Go.Proofs.YtoanbmggffkmgaaDoor.P
open Go.RowKit Go.Proofs.YtoanbmggffkmgaaDoorW.PrintWords Go.Proofs.YtoanbmggffkmgaaDoorW.PrintLast Go.Proofs.YtoanbmggffkmgaaDoorW.PrintMore
attribute [local go_sem] max2_int min2_int max_two min_two max_three min_three max_four min_four   -- for this text's walks alone
attribute [-simp] ByteArray.size_extract
theorem pxdragomanref5place_empty (l : List UInt8) : l.isEmpty = !(l != []) := by cases l <;> rfl
set_option linter.unusedVariables false
set_option linter.unusedSimpArgs false
/-! ### dragomanref5_place: function 74 -/
def dragomanref5_place.f (a0 : ByteArray) (a1 : Int) : Option (Int) := if a1 < 0 then (some 0) else (if a1 > (a0.size : Int) then (some (a0.size : Int)) else (some a1))
set_option maxHeartbeats 8000000 in
set_option maxRecDepth 100000 in
theorem dragomanref5_place.calls (a0 : ByteArray) (a1 : Int) (r : Int) (w : World) (h : dragomanref5_place.f a0 a1 = some r) :
  Calls Tryd.prog 74 #[.string a0, .int .i64 a1] w fun e w' => e = .returned (.int .i64 r) ∧ Drawn0 w w' := by
 have H : (if a1 < 0 then (some 0) else (if a1 > (a0.size : Int) then (some (a0.size : Int)) else (some a1))) = some r := h
 clear h
 by_cases c3 : a1 < 0
 ·rw [if_pos c3] at H
  have c3b0 : decide (a1 < 0) = true := decide_eq_true c3
  clear c3
  obtain rfl := Option.some.inj H
  go_enter Tryd.func74, Tryd.ntmps74
  go_wp2
  go_ret
  exact ⟨by first | rfl | (simp only [bne, Bool.not_not]; done) | (rw [pxdragomanref5place_empty]; done) | (simp; exact pxdragomanref5place_empty _) | (simp; done) | (simp [*]; done), by repeat (first | exact Drawn0.refl _ | apply Drawn0.step)⟩
 ·rw [if_neg c3] at H
  have c3b0 : decide (a1 < 0) = false := decide_eq_false c3
  clear c3
  by_cases c4 : a1 > (a0.size : Int)
  ·rw [if_pos c4] at H
   have c4b0 : decide ((a0.size : Int) < a1) = true := decide_eq_true c4
   clear c4
   obtain rfl := Option.some.inj H
   go_enter Tryd.func74, Tryd.ntmps74
   go_wp2
   go_ret
   exact ⟨by first | rfl | (simp only [bne, Bool.not_not]; done) | (rw [pxdragomanref5place_empty]; done) | (simp; exact pxdragomanref5place_empty _) | (simp; done) | (simp [*]; done), by repeat (first | exact Drawn0.refl _ | apply Drawn0.step)⟩
  ·rw [if_neg c4] at H
   have c4b0 : decide ((a0.size : Int) < a1) = false := decide_eq_false c4
   clear c4
   obtain rfl := Option.some.inj H
   go_enter Tryd.func74, Tryd.ntmps74
   go_wp2
   go_ret
   exact ⟨by first | rfl | (simp only [bne, Bool.not_not]; done) | (rw [pxdragomanref5place_empty]; done) | (simp; exact pxdragomanref5place_empty _) | (simp; done) | (simp [*]; done), by repeat (first | exact Drawn0.refl _ | apply Drawn0.step)⟩
end Go.Proofs.YtoanbmggffkmgaaDoor.P
end
section
namespace Go.Proofs.YtoanbmggffkmgaaDoor.P
open Go.RowKit Go.Proofs.YtoanbmggffkmgaaDoorW.PrintWords Go.Proofs.YtoanbmggffkmgaaDoorW.PrintLast Go.Proofs.YtoanbmggffkmgaaDoorW.PrintMore
attribute [local go_sem] max2_int min2_int max_two min_two max_three min_three max_four min_four   -- for this text's walks alone
attribute [-simp] ByteArray.size_extract
theorem pxdragomanref5plain_empty (l : List UInt8) : l.isEmpty = !(l != []) := by cases l <;> rfl
set_option linter.unusedVariables false
set_option linter.unusedSimpArgs false
/-! ### dragomanref5_plain: function 94 -/
def dragomanref5_plain.j0 : Nat → Int → Bool → Int → Bool → Option (ByteArray × Bool)
 | 0, _, _, _, _ => none
 | k + 1, x0, x1, x6, x7 => if x7 = true then (some (strOfNums (([x0] : List Int)), true)) else (if x6 = 98 then (some ((⟨#[8]⟩ : ByteArray), true)) else (if x6 = 102 then (some ((⟨#[12]⟩ : ByteArray), true)) else (if x6 = 110 then (some ((⟨#[10]⟩ : ByteArray), true)) else (if x6 = 114 then (some ((⟨#[13]⟩ : ByteArray), true)) else (if x6 = 116 then (some ((⟨#[9]⟩ : ByteArray), true)) else (if x6 = 47 then (some ((⟨#[47]⟩ : ByteArray), !x1)) else (if x6 = 101 then (some ((⟨#[27]⟩ : ByteArray), x1)) else (some ((⟨#[]⟩ : ByteArray), false)))))))))
def dragomanref5_plain.f (k : Nat) (a0 : Int) (a1 : Bool) : Option (ByteArray × Bool) := if a0 = 34 then (dragomanref5_plain.j0 k a0 a1 a0 (a0 == 34)) else (dragomanref5_plain.j0 k a0 a1 a0 (a0 == 92))
set_option maxHeartbeats 8000000 in
set_option maxRecDepth 100000 in
theorem dragomanref5_plain.calls (k : Nat) (a0 : Int) (a1 : Bool) (r1 : ByteArray) (r2 : Bool) (w : World) (h : dragomanref5_plain.f k a0 a1 = some (r1, r2)) :
  Calls Tryd.prog 94 #[.int .u8 a0, .bool a1] w fun e w' => e = .returned (.tuple #[.string r1, .bool r2]) ∧ Below w.heap.size w w' := by
 have HB := Aside0.mk (Below.refl w.heap.size w)
 have H : (if a0 = 34 then (dragomanref5_plain.j0 k a0 a1 a0 (a0 == 34)) else (dragomanref5_plain.j0 k a0 a1 a0 (a0 == 92))) = some (r1, r2) := h
 clear h
 have HC3 := Aside0.mk H
 clear H
 go_enter Tryd.func94, Tryd.ntmps94
 go_upto_if 7 with (fail)
 go_cut [7] (fun v7 wc => ∃ (kq : Nat) (x7_2 : Bool), v7 = .bool x7_2 ∧ Aside0 (dragomanref5_plain.j0 kq a0 a1 a0 x7_2 = some (r1, r2)) ∧ Aside0 (kq ≤ k) ∧ Aside0 (Below w.heap.size w wc))
 case first =>
  have H := HC3.out
  clear HC3
  by_cases c4 : a0 = 34
  ·rw [if_pos c4] at H
   have c4b0 : (a0 == 34) = true := beq_iff_eq.mpr c4
   have c4b1 : (a0 != 34) = false := bne_eq_false_iff_eq.mpr c4
   clear c4
   (first | rw [c4b0] | (simp only [i64_w, i32_w]; rw [c4b0]) | skip)
   have H' := Aside0.mk H
   clear H
   go_wp2
   go_meet
   case rel => exact ⟨_, ((a0 == 34)), (by first | rfl | (simp; done) | (simp [*]; done)), H', ⟨by first | omega | exact Nat.le_refl _⟩, ⟨by repeat (first | (with_reducible first | exact HB.out | apply below_alloc | apply pw_below_drewN | apply below_drew1) | exact HB.out)⟩⟩
  ·rw [if_neg c4] at H
   have c4b0 : (a0 == 34) = false := beq_eq_false_iff_ne.mpr c4
   have c4b1 : (a0 != 34) = true := bne_iff_ne.mpr c4
   (first | rw [c4b0] | (simp only [i64_w, i32_w]; rw [c4b0]) | skip)
   have H' := Aside0.mk H
   clear H
   go_wp2
   go_meet
   case rel => exact ⟨_, ((a0 == 92)), (by first | rfl | (simp; done) | (simp [*]; done)), H', ⟨by first | omega | exact Nat.le_refl _⟩, ⟨by repeat (first | (with_reducible first | exact HB.out | apply below_alloc | apply pw_below_drewN | apply below_drew1) | exact HB.out)⟩⟩
 case rest =>
  clear HC3
  try clear p2
  try clear c4
  try clear c4b0
  try clear c4b1
  obtain ⟨kq, x7_2, rfl, HA, HJ2, HB⟩ := hcut
  cases kq with
  | zero => exact absurd HA.out (by simp [dragomanref5_plain.j0])
  | succ kj2 =>
   have H := HA.out
   clear HA
   simp only [dragomanref5_plain.j0] at H
   by_cases c5 : x7_2 = true
   ·subst c5
    have H1 : (some (strOfNums (([a0] : List Int)), true)) = some (r1, r2) := by rw [if_pos rfl] at H; exact H
    clear H
    have H := H1
    clear H1
    obtain ⟨y268, hy268⟩ : ∃ y_ : List Int, y_ = (([a0] : List Int)) := ⟨_, rfl⟩
    replace H : (some (strOfNums y268, true)) = some (r1, r2) := by first | (rw [hy268]; with_reducible exact H) | (have H2_ := (Option.bind_some _ _).symm.trans H; rw [hy268]; with_reducible exact H2_) | (have H2_ := (Option.bind_some _ _).symm.trans H; with_reducible exact H2_) | with_reducible exact H | (rw [hy268]; exact H) | exact H
    have Ny268 := Aside0.mk hy268
    clear hy268
    simp only [Option.some.injEq, Prod.mk.injEq] at H
    obtain ⟨rfl, rfl⟩ := H
    go_wp2_with (first | ((with_reducible refine gate_dst (N := 11) rfl ?_); refine Kd.R_lit (Kd.int .u8) _ 5 ?hg (N := 11) ?hd (xs := ([a0] : List Int)) (inner := [.int .u8 a0]) (ok := fun _ => True) (okp := fun _ => True) ?hr ?hp (fun _ hk => hk) trivial (Below.refl _ _) (Nat.le_refl _) (by simp) ?_; (case hd => rfl); (case hg => rfl); (case hr => first | (go_simp; done) | (go_simp; rfl)); (case hp => exact (Reps.one (show Kd.M (Kd.int .u8) _ _ _ a0 [.int .u8 a0] from rfl) (Reps.none _ _))); intro v269 w6 ho7 hb hg_ hnew_; clear hg_ hnew_; (first | rw [← Ny268.out] at ho7 | (simp only [Int.reduceToNat] at ho7; rw [← Ny268.out] at ho7)); have n0_ := Aside0.mk (Kd.R_lower ho7 (below_size (by repeat (first | (with_reducible first | exact HB.out | apply below_alloc | apply pw_below_drewN | apply below_drew1) | exact HB.out)))); have n1_ := Aside0.mk (below_step (by repeat (first | (with_reducible first | exact HB.out | apply below_alloc | apply pw_below_drewN | apply below_drew1) | exact HB.out)) hb); clear HB; have HO270 := n0_; have HB := n1_; clear n0_ n1_; clear hb ho7; have hcv8 := own_string (P := Tryd.prog) Tryd.underlying46 Tryd.underlying5 Tryd.underlying9 (Kd.own_of_R HO270.out)))
    go_ret2
    exact ⟨by first | rfl | (simp only [bne, Bool.not_not]; done) | (rw [pxdragomanref5plain_empty]; done) | (simp; exact pxdragomanref5plain_empty _) | (simp [errW_none, errW_some] <;> rfl) | (simp [*, errW_none, errW_some, bne]; done) | (simp [*, errW_none, errW_some] <;> rfl), by repeat (first | (with_reducible first | exact HB.out | apply below_alloc | apply pw_below_drewN | apply below_drew1) | exact HB.out)⟩
   ·replace c5 := Bool.eq_false_iff.mpr c5
    subst c5
    have H1 : (if a0 = 98 then (some ((⟨#[8]⟩ : ByteArray), true)) else (if a0 = 102 then (some ((⟨#[12]⟩ : ByteArray), true)) else (if a0 = 110 then (some ((⟨#[10]⟩ : ByteArray), true)) else (if a0 = 114 then (some ((⟨#[13]⟩ : ByteArray), true)) else (if a0 = 116 then (some ((⟨#[9]⟩ : ByteArray), true)) else (if a0 = 47 then (some ((⟨#[47]⟩ : ByteArray), !a1)) else (if a0 = 101 then (some ((⟨#[27]⟩ : ByteArray), a1)) else (some ((⟨#[]⟩ : ByteArray), false))))))))) = some (r1, r2) := by rw [if_neg (show ¬ (false = true) by decide)] at H; exact H
    clear H
    have H := H1
    clear H1
    by_cases c9 : a0 = 98
    ·rw [if_pos c9] at H
     have c9b0 : (a0 == 98) = true := beq_iff_eq.mpr c9
     have c9b1 : (a0 != 98) = false := bne_eq_false_iff_eq.mpr c9
     clear c9
     simp only [Option.some.injEq, Prod.mk.injEq] at H
     obtain ⟨rfl, rfl⟩ := H
     go_wp2
     go_ret2
     exact ⟨by first | rfl | (simp only [bne, Bool.not_not]; done) | (rw [pxdragomanref5plain_empty]; done) | (simp; exact pxdragomanref5plain_empty _) | (simp [errW_none, errW_some] <;> rfl) | (simp [*, errW_none, errW_some, bne]; done) | (simp [*, errW_none, errW_some] <;> rfl), by repeat (first | (with_reducible first | exact HB.out | apply below_alloc | apply pw_below_drewN | apply below_drew1) | exact HB.out)⟩
    ·rw [if_neg c9] at H
     have c9b0 : (a0 == 98) = false := beq_eq_false_iff_ne.mpr c9
     have c9b1 : (a0 != 98) = true := bne_iff_ne.mpr c9
     by_cases c10 : a0 = 102
     ·rw [if_pos c10] at H
      have c10b0 : (a0 == 102) = true := beq_iff_eq.mpr c10
      have c10b1 : (a0 != 102) = false := bne_eq_false_iff_eq.mpr c10
      clear c10
      simp only [Option.some.injEq, Prod.mk.injEq] at H
      obtain ⟨rfl, rfl⟩ := H
      go_wp2
      go_ret2
      exact ⟨by first | rfl | (simp only [bne, Bool.not_not]; done) | (rw [pxdragomanref5plain_empty]; done) | (simp; exact pxdragomanref5plain_empty _) | (simp [errW_none, errW_some] <;> rfl) | (simp [*, errW_none, errW_some, bne]; done) | (simp [*, errW_none, errW_some] <;> rfl), by repeat (first | (with_reducible first | exact HB.out | apply below_alloc | apply pw_below_drewN | apply below_drew1) | exact HB.out)⟩
     ·rw [if_neg c10] at H
      have c10b0 : (a0 == 102) = false := beq_eq_false_iff_ne.mpr c10
      have c10b1 : (a0 != 102) = true := bne_iff_ne.mpr c10
      by_cases c11 : a0 = 110
      ·rw [if_pos c11] at H
       have c11b0 : (a0 == 110) = true := beq_iff_eq.mpr c11
       have c11b1 : (a0 != 110) = false := bne_eq_false_iff_eq.mpr c11
       clear c11
       simp only [Option.some.injEq, Prod.mk.injEq] at H
       obtain ⟨rfl, rfl⟩ := H
       go_wp2
       go_ret2
       exact ⟨by first | rfl | (simp only [bne, Bool.not_not]; done) | (rw [pxdragomanref5plain_empty]; done) | (simp; exact pxdragomanref5plain_empty _) | (simp [errW_none, errW_some] <;> rfl) | (simp [*, errW_none, errW_some, bne]; done) | (simp [*, errW_none, errW_some] <;> rfl), by repeat (first | (with_reducible first | exact HB.out | apply below_alloc | apply pw_below_drewN | apply below_drew1) | exact HB.out)⟩
      ·rw [if_neg c11] at H
       have c11b0 : (a0 == 110) = false := beq_eq_false_iff_ne.mpr c11
       have c11b1 : (a0 != 110) = true := bne_iff_ne.mpr c11
       by_cases c12 : a0 = 114
       ·rw [if_pos c12] at H
        have c12b0 : (a0 == 114) = true := beq_iff_eq.mpr c12
        have c12b1 : (a0 != 114) = false := bne_eq_false_iff_eq.mpr c12
        clear c12
        simp only [Option.some.injEq, Prod.mk.injEq] at H
        obtain ⟨rfl, rfl⟩ := H
        go_wp2
        go_ret2
        exact ⟨by first | rfl | (simp only [bne, Bool.not_not]; done) | (rw [pxdragomanref5plain_empty]; done) | (simp; exact pxdragomanref5plain_empty _) | (simp [errW_none, errW_some] <;> rfl) | (simp [*, errW_none, errW_some, bne]; done) | (simp [*, errW_none, errW_some] <;> rfl), by repeat (first | (with_reducible first | exact HB.out | apply below_alloc | apply pw_below_drewN | apply below_drew1) | exact HB.out)⟩
       ·rw [if_neg c12] at H
        have c12b0 : (a0 == 114) = false := beq_eq_false_iff_ne.mpr c12
        have c12b1 : (a0 != 114) = true := bne_iff_ne.mpr c12
        by_cases c13 : a0 = 116
        ·rw [if_pos c13] at H
         have c13b0 : (a0 == 116) = true := beq_iff_eq.mpr c13
         have c13b1 : (a0 != 116) = false := bne_eq_false_iff_eq.mpr c13
         clear c13
         simp only [Option.some.injEq, Prod.mk.injEq] at H
         obtain ⟨rfl, rfl⟩ := H
         go_wp2
         go_ret2
         exact ⟨by first | rfl | (simp only [bne, Bool.not_not]; done) | (rw [pxdragomanref5plain_empty]; done) | (simp; exact pxdragomanref5plain_empty _) | (simp [errW_none, errW_some] <;> rfl) | (simp [*, errW_none, errW_some, bne]; done) | (simp [*, errW_none, errW_some] <;> rfl), by repeat (first | (with_reducible first | exact HB.out | apply below_alloc | apply pw_below_drewN | apply below_drew1) | exact HB.out)⟩
        ·rw [if_neg c13] at H
         have c13b0 : (a0 == 116) = false := beq_eq_false_iff_ne.mpr c13
         have c13b1 : (a0 != 116) = true := bne_iff_ne.mpr c13
         by_cases c14 : a0 = 47
         ·rw [if_pos c14] at H
          have c14b0 : (a0 == 47) = true := beq_iff_eq.mpr c14
          have c14b1 : (a0 != 47) = false := bne_eq_false_iff_eq.mpr c14
          clear c14
          simp only [Option.some.injEq, Prod.mk.injEq] at H
          obtain ⟨rfl, rfl⟩ := H
          go_wp2
          go_ret2
          exact ⟨by first | rfl | (simp only [bne, Bool.not_not]; done) | (rw [pxdragomanref5plain_empty]; done) | (simp; exact pxdragomanref5plain_empty _) | (simp [errW_none, errW_some] <;> rfl) | (simp [*, errW_none, errW_some, bne]; done) | (simp [*, errW_none, errW_some] <;> rfl), by repeat (first | (with_reducible first | exact HB.out | apply below_alloc | apply pw_below_drewN | apply below_drew1) | exact HB.out)⟩
         ·rw [if_neg c14] at H
          have c14b0 : (a0 == 47) = false := beq_eq_false_iff_ne.mpr c14
          have c14b1 : (a0 != 47) = true := bne_iff_ne.mpr c14
          by_cases c15 : a0 = 101
          ·rw [if_pos c15] at H
           have c15b0 : (a0 == 101) = true := beq_iff_eq.mpr c15
           have c15b1 : (a0 != 101) = false := bne_eq_false_iff_eq.mpr c15
           clear c15
           simp only [Option.some.injEq, Prod.mk.injEq] at H
           obtain ⟨rfl, rfl⟩ := H
           go_wp2
           go_ret2
           exact ⟨by first | rfl | (simp only [bne, Bool.not_not]; done) | (rw [pxdragomanref5plain_empty]; done) | (simp; exact pxdragomanref5plain_empty _) | (simp [errW_none, errW_some] <;> rfl) | (simp [*, errW_none, errW_some, bne]; done) | (simp [*, errW_none, errW_some] <;> rfl), by repeat (first | (with_reducible first | exact HB.out | apply below_alloc | apply pw_below_drewN | apply below_drew1) | exact HB.out)⟩
          ·rw [if_neg c15] at H
           have c15b0 : (a0 == 101) = false := beq_eq_false_iff_ne.mpr c15
           have c15b1 : (a0 != 101) = true := bne_iff_ne.mpr c15
           simp only [Option.some.injEq, Prod.mk.injEq] at H
           obtain ⟨rfl, rfl⟩ := H
           go_wp2
           go_ret2
           exact ⟨by first | rfl | (simp only [bne, Bool.not_not]; done) | (rw [pxdragomanref5plain_empty]; done) | (simp; exact pxdragomanref5plain_empty _) | (simp [errW_none, errW_some] <;> rfl) | (simp [*, errW_none, errW_some, bne]; done) | (simp [*, errW_none, errW_some] <;> rfl), by repeat (first | (with_reducible first | exact HB.out | apply below_alloc | apply pw_below_drewN | apply below_drew1) | exact HB.out)⟩
end Go.Proofs.YtoanbmggffkmgaaDoor.P
end
section
namespace Go.Proofs.YtoanbmggffkmgaaDoor.P
open Go.RowKit Go.Proofs.YtoanbmggffkmgaaDoorW.PrintWords Go.Proofs.YtoanbmggffkmgaaDoorW.PrintLast Go.Proofs.YtoanbmggffkmgaaDoorW.PrintMore
attribute [local go_sem] max2_int min2_int max_two min_two max_three min_three max_four min_four   -- for this text's walks alone
attribute [-simp] ByteArray.size_extract
theorem pxdragomanref5hex_empty (l : List UInt8) : l.isEmpty = !(l != []) := by cases l <;> rfl
set_option linter.unusedVariables false
set_option linter.unusedSimpArgs false
/-! ### dragomanref5_Hex: function 24 -/
mutual
def dragomanref5_Hex.l0 : Nat → ByteArray → Int → Int → Option (Int × Bool)
 | 0, _, _, _ => none
 | k + 1, x0, x4, x5 => if x5 < (x0.size : Int) then (if 0 ≤ x5 then (if (bt x0 x5) ≥ 48 then (dragomanref5_Hex.j1 k x0 x4 x5 (bt x0 x5) (decide ((bt x0 x5) ≤ 57))) else (dragomanref5_Hex.j1 k x0 x4 x5 (bt x0 x5) false)) else (none)) else (some (x4, (x0.toList != ([] : List UInt8))))
def dragomanref5_Hex.j1 : Nat → ByteArray → Int → Int → Int → Bool → Option (Int × Bool)
 | 0, _, _, _, _, _ => none
 | k + 1, x0, x4, x5, x6, x16 => if x16 = true then (if x5 ≥ 8 then (some (0, false)) else (dragomanref5_Hex.l0 k x0 (wrap64 ((wrap64 (16 * x4)) + ((x6 - 48) % 256))) (wrap64 (x5 + 1)))) else (if x6 ≥ 97 then (dragomanref5_Hex.j2 k x0 x4 x5 x6 (decide (x6 ≤ 102))) else (dragomanref5_Hex.j2 k x0 x4 x5 x6 false))
def dragomanref5_Hex.j2 : Nat → ByteArray → Int → Int → Int → Bool → Option (Int × Bool)
 | 0, _, _, _, _, _ => none
 | k + 1, x0, x4, x5, x6, x29 => if x29 = true then (if x5 ≥ 8 then (some (0, false)) else (dragomanref5_Hex.l0 k x0 (wrap64 ((wrap64 ((wrap64 (16 * x4)) + ((x6 - 97) % 256))) + 10)) (wrap64 (x5 + 1)))) else (if x6 ≥ 65 then (dragomanref5_Hex.j3 k x0 x4 x5 x6 (decide (x6 ≤ 70))) else (dragomanref5_Hex.j3 k x0 x4 x5 x6 false))
def dragomanref5_Hex.j3 : Nat → ByteArray → Int → Int → Int → Bool → Option (Int × Bool)
 | 0, _, _, _, _, _ => none
 | k + 1, x0, x4, x5, x6, x43 => if x43 = true then (if x5 ≥ 8 then (some (0, false)) else (dragomanref5_Hex.l0 k x0 (wrap64 ((wrap64 ((wrap64 (16 * x4)) + ((x6 - 65) % 256))) + 10)) (wrap64 (x5 + 1)))) else (some (0, false))
end
def dragomanref5_Hex.f (k : Nat) (a0 : ByteArray) : Option (Int × Bool) := dragomanref5_Hex.l0 k a0 0 0
set_option maxHeartbeats 8000000 in
set_option maxRecDepth 100000 in
theorem dragomanref5_Hex.calls (k : Nat) (a0 : ByteArray) (r1 : Int) (r2 : Bool) (w : World) (h : dragomanref5_Hex.f k a0 = some (r1, r2)) :
  Calls Tryd.prog 24 #[.string a0] w fun e w' => e = .returned (.tuple #[.int .i64 r1, .bool r2]) ∧ Drawn0 w w' := by
 have H : (dragomanref5_Hex.l0 k a0 0 0) = some (r1, r2) := h
 clear h
 have H' := Aside0.mk H
 clear H
 go_enter Tryd.func24, Tryd.ntmps24
 go_wp2
 go_loopg [4, 5] k (fun kq v4 v5 w' => ∃ (x4_1 : Int) (x5_1 : Int), v4 = .int .i64 x4_1 ∧ v5 = .int .i64 x5_1 ∧ Aside0 (dragomanref5_Hex.l0 kq a0 x4_1 x5_1 = some (r1, r2)) ∧ Aside0 (kq ≤ k) ∧ Drawn0 w w')
 case atStart => exact ⟨(0), (0), (by first | rfl | (simp; done) | (simp [*]; done)), (by first | rfl | (simp; done) | (simp [*]; done)), H', ⟨Nat.le_refl _⟩, by repeat (first | exact Drawn0.refl _ | apply Drawn0.step)⟩
 case round =>
  clear H'
  obtain ⟨x4_1, x5_1, rfl, rfl, HA, HK1, ⟨m1, rfl⟩⟩ := hrel
  cases gk with
  | zero => exact absurd HA.out (by simp [dragomanref5_Hex.l0])
  | succ k1 =>
   have H := HA.out
   clear HA
   simp only [dragomanref5_Hex.l0] at H
   by_cases c2 : x5_1 < (a0.size : Int)
   ·rw [if_pos c2] at H
    have c2b0 : decide (x5_1 < (a0.size : Int)) = true := decide_eq_true c2
    clear c2
    by_cases c3 : 0 ≤ x5_1
    ·rw [if_pos c3] at H
     have c3b0 : decide (0 ≤ x5_1) = true := decide_eq_true c3
     clear c3
     have HC5 := Aside0.mk H
     clear H
     have p4 : 0 ≤ (x5_1 : Int) := of_decide_eq_true (by first | (with_reducible assumption) | assumption)
     have q4 : x5_1 < (a0.size : Int) := of_decide_eq_true (by first | (with_reducible assumption) | assumption)
     have hx4 := bt_at a0 x5_1
     replace p4 := eq_true p4
     replace q4 := eq_true q4
     go_upto_region 7 with (fail)
     go_cut [16] (fun v16 wc => ∃ (kq : Nat) (x16_4 : Bool), v16 = .bool x16_4 ∧ Aside0 (dragomanref5_Hex.j1 kq a0 x4_1 x5_1 (bt a0 x5_1) x16_4 = some (r1, r2)) ∧ Aside0 (kq ≤ k1) ∧ Drawn0 w wc)
     case first =>
      have H := HC5.out
      clear HC5
      by_cases c6 : (bt a0 x5_1) ≥ 48
      ·rw [if_pos c6] at H
       have c6b0 : decide (48 ≤ (bt a0 x5_1)) = true := decide_eq_true c6
       clear c6
       (first | rw [c6b0] | (simp only [i64_w, i32_w]; rw [c6b0]) | skip)
       have H' := Aside0.mk H
       clear H
       go_wp2
       go_meet
       case rel => exact ⟨_, (decide ((bt a0 x5_1) ≤ 57)), (by first | rfl | (simp; done) | (simp [*]; done)), H', ⟨by have := HK1.out; first | omega | exact Nat.le_refl _⟩, by repeat (first | exact Drawn0.refl _ | apply Drawn0.step)⟩
      ·rw [if_neg c6] at H
       have c6b0 : decide (48 ≤ (bt a0 x5_1)) = false := decide_eq_false c6
       clear c6
       (first | rw [c6b0] | (simp only [i64_w, i32_w]; rw [c6b0]) | skip)
       have H' := Aside0.mk H
       clear H
       go_wp2
       go_meet
       case rel => exact ⟨_, (false), (by first | rfl | (simp; done) | (simp [*]; done)), H', ⟨by have := HK1.out; first | omega | exact Nat.le_refl _⟩, by repeat (first | exact Drawn0.refl _ | apply Drawn0.step)⟩
     case rest =>
      clear HC5
      try clear c2
      try clear c2b0
      try clear p2
      try clear c3
      try clear c3b0
      try clear p4
      try clear q4
      try clear hx4
      try clear c6
      try clear c6b0
      try clear p4
      try clear q4
      obtain ⟨kq, x16_4, rfl, HA, HJ4, ⟨mc4, rfl⟩⟩ := hcut
      cases kq with
      | zero => exact absurd HA.out (by simp [dragomanref5_Hex.j1])
      | succ kj4 =>
       have H := HA.out
       clear HA
       simp only [dragomanref5_Hex.j1] at H
       by_cases c7 : x16_4 = true
       ·subst c7
        have H1 : (if x5_1 ≥ 8 then (some (0, false)) else (dragomanref5_Hex.l0 kj4 a0 (wrap64 ((wrap64 (16 * x4_1)) + (((bt a0 x5_1) - 48) % 256))) (wrap64 (x5_1 + 1)))) = some (r1, r2) := by rw [if_pos rfl] at H; exact H
        clear H
        have H := H1
        clear H1
        by_cases c8 : x5_1 ≥ 8
        ·rw [if_pos c8] at H
         have c8b0 : decide (8 ≤ x5_1) = true := decide_eq_true c8
         clear c8
         simp only [Option.some.injEq, Prod.mk.injEq] at H
         obtain ⟨rfl, rfl⟩ := H
         go_wp2
         go_ret2
         exact ⟨by first | rfl | (simp only [bne, Bool.not_not]; done) | (rw [pxdragomanref5hex_empty]; done) | (simp; exact pxdragomanref5hex_empty _) | (simp; done) | (simp [*]; done), by repeat (first | exact Drawn0.refl _ | apply Drawn0.step)⟩
        ·rw [if_neg c8] at H
         have c8b0 : decide (8 ≤ x5_1) = false := decide_eq_false c8
         clear c8
         have H' := Aside0.mk H
         clear H
         go_wp2
         go_roundg kj4
         case measure => have := HK1.out; have := HJ4.out; omega
         case rel => exact ⟨(wrap64 ((wrap64 (16 * x4_1)) + (((bt a0 x5_1) - 48) % 256))), (wrap64 (x5_1 + 1)), (by first | rfl | (simp; done) | (simp [*]; done)), (by first | rfl | (simp; done) | (simp [*]; done)), H', ⟨by have := HK1.out; have := HJ4.out; omega⟩, by repeat (first | exact Drawn0.refl _ | apply Drawn0.step)⟩
       ·replace c7 := Bool.eq_false_iff.mpr c7
        subst c7
        have H1 : (if (bt a0 x5_1) ≥ 97 then (dragomanref5_Hex.j2 kj4 a0 x4_1 x5_1 (bt a0 x5_1) (decide ((bt a0 x5_1) ≤ 102))) else (dragomanref5_Hex.j2 kj4 a0 x4_1 x5_1 (bt a0 x5_1) false)) = some (r1, r2) := by rw [if_neg (show ¬ (false = true) by decide)] at H; exact H
        clear H
        have H := H1
        clear H1
        have HC9 := Aside0.mk H
        clear H
        go_upto_region 9 with (fail)
        go_cut [29] (fun v29 wc => ∃ (kq : Nat) (x29_8 : Bool), v29 = .bool x29_8 ∧ Aside0 (dragomanref5_Hex.j2 kq a0 x4_1 x5_1 (bt a0 x5_1) x29_8 = some (r1, r2)) ∧ Aside0 (kq ≤ kj4) ∧ Drawn0 w wc)
        case first =>
         have H := HC9.out
         clear HC9
         by_cases c10 : (bt a0 x5_1) ≥ 97
         ·rw [if_pos c10] at H
          have c10b0 : decide (97 ≤ (bt a0 x5_1)) = true := decide_eq_true c10
          clear c10
          (first | rw [c10b0] | (simp only [i64_w, i32_w]; rw [c10b0]) | skip)
          have H' := Aside0.mk H
          clear H
          go_wp2
          go_meet
          case rel => exact ⟨_, (decide ((bt a0 x5_1) ≤ 102)), (by first | rfl | (simp; done) | (simp [*]; done)), H', ⟨by have := HK1.out; have := HJ4.out; first | omega | exact Nat.le_refl _⟩, by repeat (first | exact Drawn0.refl _ | apply Drawn0.step)⟩
         ·rw [if_neg c10] at H
          have c10b0 : decide (97 ≤ (bt a0 x5_1)) = false := decide_eq_false c10
          clear c10
          (first | rw [c10b0] | (simp only [i64_w, i32_w]; rw [c10b0]) | skip)
          have H' := Aside0.mk H
          clear H
          go_wp2
          go_meet
          case rel => exact ⟨_, (false), (by first | rfl | (simp; done) | (simp [*]; done)), H', ⟨by have := HK1.out; have := HJ4.out; first | omega | exact Nat.le_refl _⟩, by repeat (first | exact Drawn0.refl _ | apply Drawn0.step)⟩
        case rest =>
         clear HC9
         try clear c1
         try clear c2
         try clear c2b0
         try clear p2
         try clear c3
         try clear c3b0
         try clear c4
         try clear p4
         try clear q4
         try clear hx4
         try clear c6
         try clear c6b0
         try clear p6
         try clear c7
         try clear c8
         try clear c8b0
         try clear c10
         try clear c10b0
         try clear p2
         try clear p4
         try clear q4
         obtain ⟨kq, x29_8, rfl, HA, HJ8, ⟨mc8, rfl⟩⟩ := hcut
         cases kq with
         | zero => exact absurd HA.out (by simp [dragomanref5_Hex.j2])
         | succ kj8 =>
          have H := HA.out
          clear HA
          simp only [dragomanref5_Hex.j2] at H
          by_cases c11 : x29_8 = true
          ·subst c11
           have H1 : (if x5_1 ≥ 8 then (some (0, false)) else (dragomanref5_Hex.l0 kj8 a0 (wrap64 ((wrap64 ((wrap64 (16 * x4_1)) + (((bt a0 x5_1) - 97) % 256))) + 10)) (wrap64 (x5_1 + 1)))) = some (r1, r2) := by rw [if_pos rfl] at H; exact H
           clear H
           have H := H1
           clear H1
           by_cases c12 : x5_1 ≥ 8
           ·rw [if_pos c12] at H
            have c12b0 : decide (8 ≤ x5_1) = true := decide_eq_true c12
            clear c12
            simp only [Option.some.injEq, Prod.mk.injEq] at H
            obtain ⟨rfl, rfl⟩ := H
            go_wp2
            go_ret2
            exact ⟨by first | rfl | (simp only [bne, Bool.not_not]; done) | (rw [pxdragomanref5hex_empty]; done) | (simp; exact pxdragomanref5hex_empty _) | (simp; done) | (simp [*]; done), by repeat (first | exact Drawn0.refl _ | apply Drawn0.step)⟩
           ·rw [if_neg c12] at H
            have c12b0 : decide (8 ≤ x5_1) = false := decide_eq_false c12
            clear c12
            have H' := Aside0.mk H
            clear H
            go_wp2
            go_roundg kj8
            case measure => have := HK1.out; have := HJ4.out; have := HJ8.out; omega
            case rel => exact ⟨(wrap64 ((wrap64 ((wrap64 (16 * x4_1)) + (((bt a0 x5_1) - 97) % 256))) + 10)), (wrap64 (x5_1 + 1)), (by first | rfl | (simp; done) | (simp [*]; done)), (by first | rfl | (simp; done) | (simp [*]; done)), H', ⟨by have := HK1.out; have := HJ4.out; have := HJ8.out; omega⟩, by repeat (first | exact Drawn0.refl _ | apply Drawn0.step)⟩
          ·replace c11 := Bool.eq_false_iff.mpr c11
           subst c11
           have H1 : (if (bt a0 x5_1) ≥ 65 then (dragomanref5_Hex.j3 kj8 a0 x4_1 x5_1 (bt a0 x5_1) (decide ((bt a0 x5_1) ≤ 70))) else (dragomanref5_Hex.j3 kj8 a0 x4_1 x5_1 (bt a0 x5_1) false)) = some (r1, r2) := by rw [if_neg (show ¬ (false = true) by decide)] at H; exact H
           clear H
           have H := H1
           clear H1
           have HC13 := Aside0.mk H
           clear H
           go_upto_region 11 with (fail)
           go_cut [43] (fun v43 wc => ∃ (kq : Nat) (x43_12 : Bool), v43 = .bool x43_12 ∧ Aside0 (dragomanref5_Hex.j3 kq a0 x4_1 x5_1 (bt a0 x5_1) x43_12 = some (r1, r2)) ∧ Aside0 (kq ≤ kj8) ∧ Drawn0 w wc)
           case first =>
            have H := HC13.out
            clear HC13
            by_cases c14 : (bt a0 x5_1) ≥ 65
            ·rw [if_pos c14] at H
             have c14b0 : decide (65 ≤ (bt a0 x5_1)) = true := decide_eq_true c14
             clear c14
             (first | rw [c14b0] | (simp only [i64_w, i32_w]; rw [c14b0]) | skip)
             have H' := Aside0.mk H
             clear H
             go_wp2
             go_meet
             case rel => exact ⟨_, (decide ((bt a0 x5_1) ≤ 70)), (by first | rfl | (simp; done) | (simp [*]; done)), H', ⟨by have := HK1.out; have := HJ4.out; have := HJ8.out; first | omega | exact Nat.le_refl _⟩, by repeat (first | exact Drawn0.refl _ | apply Drawn0.step)⟩
            ·rw [if_neg c14] at H
             have c14b0 : decide (65 ≤ (bt a0 x5_1)) = false := decide_eq_false c14
             clear c14
             (first | rw [c14b0] | (simp only [i64_w, i32_w]; rw [c14b0]) | skip)
             have H' := Aside0.mk H
             clear H
             go_wp2
             go_meet
             case rel => exact ⟨_, (false), (by first | rfl | (simp; done) | (simp [*]; done)), H', ⟨by have := HK1.out; have := HJ4.out; have := HJ8.out; first | omega | exact Nat.le_refl _⟩, by repeat (first | exact Drawn0.refl _ | apply Drawn0.step)⟩
           case rest =>
            clear HC13
            try clear c1
            try clear c2
            try clear c2b0
            try clear p2
            try clear c3
            try clear c3b0
            try clear c4
            try clear p4
            try clear q4
            try clear hx4
            try clear c6
            try clear c6b0
            try clear p6
            try clear c7
            try clear c8
            try clear c8b0
            try clear c10
            try clear c10b0
            try clear c11
            try clear c12
            try clear c12b0
            try clear c14
            try clear c14b0
            try clear p2
            try clear p4
            try clear p6
            try clear q4
            obtain ⟨kq, x43_12, rfl, HA, HJ12, ⟨mc12, rfl⟩⟩ := hcut
            cases kq with
            | zero => exact absurd HA.out (by simp [dragomanref5_Hex.j3])
            | succ kj12 =>
             have H := HA.out
             clear HA
             simp only [dragomanref5_Hex.j3] at H
             by_cases c15 : x43_12 = true
             ·subst c15
              have H1 : (if x5_1 ≥ 8 then (some (0, false)) else (dragomanref5_Hex.l0 kj12 a0 (wrap64 ((wrap64 ((wrap64 (16 * x4_1)) + (((bt a0 x5_1) - 65) % 256))) + 10)) (wrap64 (x5_1 + 1)))) = some (r1, r2) := by rw [if_pos rfl] at H; exact H
              clear H
              have H := H1
              clear H1
              by_cases c16 : x5_1 ≥ 8
              ·rw [if_pos c16] at H
               have c16b0 : decide (8 ≤ x5_1) = true := decide_eq_true c16
               clear c16
               simp only [Option.some.injEq, Prod.mk.injEq] at H
               obtain ⟨rfl, rfl⟩ := H
               go_wp2
               go_ret2
               exact ⟨by first | rfl | (simp only [bne, Bool.not_not]; done) | (rw [pxdragomanref5hex_empty]; done) | (simp; exact pxdragomanref5hex_empty _) | (simp; done) | (simp [*]; done), by repeat (first | exact Drawn0.refl _ | apply Drawn0.step)⟩
              ·rw [if_neg c16] at H
               have c16b0 : decide (8 ≤ x5_1) = false := decide_eq_false c16
               clear c16
               have H' := Aside0.mk H
               clear H
               go_wp2
               go_roundg kj12
               case measure => have := HK1.out; have := HJ4.out; have := HJ8.out; have := HJ12.out; omega
               case rel => exact ⟨(wrap64 ((wrap64 ((wrap64 (16 * x4_1)) + (((bt a0 x5_1) - 65) % 256))) + 10)), (wrap64 (x5_1 + 1)), (by first | rfl | (simp; done) | (simp [*]; done)), (by first | rfl | (simp; done) | (simp [*]; done)), H', ⟨by have := HK1.out; have := HJ4.out; have := HJ8.out; have := HJ12.out; omega⟩, by repeat (first | exact Drawn0.refl _ | apply Drawn0.step)⟩
             ·replace c15 := Bool.eq_false_iff.mpr c15
              subst c15
              have H1 : (some (0, false)) = some (r1, r2) := by rw [if_neg (show ¬ (false = true) by decide)] at H; exact H
              clear H
              have H := H1
              clear H1
              simp only [Option.some.injEq, Prod.mk.injEq] at H
              obtain ⟨rfl, rfl⟩ := H
              go_wp2
              go_ret2
              exact ⟨by first | rfl | (simp only [bne, Bool.not_not]; done) | (rw [pxdragomanref5hex_empty]; done) | (simp; exact pxdragomanref5hex_empty _) | (simp; done) | (simp [*]; done), by repeat (first | exact Drawn0.refl _ | apply Drawn0.step)⟩
    ·rw [if_neg c3] at H
     exact absurd H (by simp)
   ·rw [if_neg c2] at H
    have c2b0 : decide (x5_1 < (a0.size : Int)) = false := decide_eq_false c2
    clear c2
    simp only [Option.some.injEq, Prod.mk.injEq] at H
    obtain ⟨rfl, rfl⟩ := H
    go_wp2
    go_ret2
    exact ⟨by first | rfl | (simp only [bne, Bool.not_not]; done) | (rw [pxdragomanref5hex_empty]; done) | (simp; exact pxdragomanref5hex_empty _) | (simp; done) | (simp [*]; done), by repeat (first | exact Drawn0.refl _ | apply Drawn0.step)⟩
end Go.Proofs.YtoanbmggffkmgaaDoor.P
end
section
namespace Go.Proofs.YtoanbmggffkmgaaDoor.P
open Go.RowKit Go.Proofs.YtoanbmggffkmgaaDoorW.PrintWords Go.Proofs.YtoanbmggffkmgaaDoorW.PrintLast Go.Proofs.YtoanbmggffkmgaaDoorW.PrintMore
attribute [local go_sem] max2_int min2_int max_two min_two max_three min_three max_four min_four   -- for this text's walks alone
attribute [-simp] ByteArray.size_extract
theorem pxdragomanref5code_empty (l : List UInt8) : l.isEmpty = !(l != []) := by cases l <;> rfl
set_option linter.unusedVariables false
set_option linter.unusedSimpArgs false
/-! ### dragomanref5_code: function 95 -/
def dragomanref5_code.f (k : Nat) (a0 : ByteArray) (a1 : Int) (a2 : Int) : Option (Int) := if a1 > (wrap64 ((a0.size : Int) - a2)) then (some (-1)) else (if 0 ≤ a1 then (if a1 ≤ (wrap64 (a1 + a2)) then (if (wrap64 (a1 + a2)) ≤ (a0.size : Int) then ((dragomanref5_Hex.f k (a0.extract (a1 : Int).toNat ((wrap64 (a1 + a2)) : Int).toNat)).bind fun bt271 => (if bt271.2 = true then (some bt271.1) else (some (-1)))) else (none)) else (none)) else (none))
set_option maxHeartbeats 8000000 in
set_option maxRecDepth 100000 in
theorem dragomanref5_code.calls (k : Nat) (a0 : ByteArray) (a1 : Int) (a2 : Int) (r : Int) (w : World) (h : dragomanref5_code.f k a0 a1 a2 = some r) :
  Calls Tryd.prog 95 #[.string a0, .int .i64 a1, .int .i64 a2] w fun e w' => e = .returned (.int .i64 r) ∧ Drawn0 w w' := by
 have H : (if a1 > (wrap64 ((a0.size : Int) - a2)) then (some (-1)) else (if 0 ≤ a1 then (if a1 ≤ (wrap64 (a1 + a2)) then (if (wrap64 (a1 + a2)) ≤ (a0.size : Int) then ((dragomanref5_Hex.f k (a0.extract (a1 : Int).toNat ((wrap64 (a1 + a2)) : Int).toNat)).bind fun bt271 => (if bt271.2 = true then (some bt271.1) else (some (-1)))) else (none)) else (none)) else (none))) = some r := h
 clear h
 by_cases c4 : a1 > (wrap64 ((a0.size : Int) - a2))
 ·rw [if_pos c4] at H
  have c4b0 : decide ((wrap64 ((a0.size : Int) - a2)) < a1) = true := decide_eq_true c4
  clear c4
  obtain rfl := Option.some.inj H
  go_enter Tryd.func95, Tryd.ntmps95
  go_wp2
  go_ret
  exact ⟨by first | rfl | (simp only [bne, Bool.not_not]; done) | (rw [pxdragomanref5code_empty]; done) | (simp; exact pxdragomanref5code_empty _) | (simp; done) | (simp [*]; done), by repeat (first | exact Drawn0.refl _ | apply Drawn0.step)⟩
 ·rw [if_neg c4] at H
  have c4b0 : decide ((wrap64 ((a0.size : Int) - a2)) < a1) = false := decide_eq_false c4
  clear c4
  by_cases c5 : 0 ≤ a1
  ·rw [if_pos c5] at H
   have c5b0 := eq_true c5
   have c5b1 : decide (0 ≤ a1) = true := decide_eq_true c5
   clear c5
   by_cases c6 : a1 ≤ (wrap64 (a1 + a2))
   ·rw [if_pos c6] at H
    have c6b0 := eq_true c6
    have c6b1 : decide (a1 ≤ (wrap64 (a1 + a2))) = true := decide_eq_true c6
    by_cases c7 : (wrap64 (a1 + a2)) ≤ (a0.size : Int)
    ·rw [if_pos c7] at H
     have c7b0 := eq_true c7
     have c7b1 : decide ((wrap64 (a1 + a2)) ≤ (a0.size : Int)) = true := decide_eq_true c7
     replace H := Option.bind_eq_some_iff.mp H
     obtain ⟨⟨t271, t272⟩, A80, H⟩ := H
     replace H : (if t272 = true then (some t271) else (some (-1))) = some r := H
     have A8 := Aside0.mk A80
     clear A80
     by_cases c9 : t272 = true
     ·subst c9
      have H1 : (some t271) = some r := by rw [if_pos rfl] at H; exact H
      clear H
      have H := H1
      clear H1
      obtain rfl := Option.some.inj H
      go_enter Tryd.func95, Tryd.ntmps95
      go_wp2_with (first | ((with_reducible refine gate_callee (f := 24) rfl ?_); refine goesL_ (some 22) rfl rfl Tryd.func24 (by kernel_rfl) rfl #[.string (a0.extract (a1 : Int).toNat ((wrap64 (a1 + a2)) : Int).toNat)] rfl (by (try simp only [List.map_toArray, List.map_cons, List.map_nil]); first | done | rfl | (simp only [List.length_drop, List.length_take]; rfl)) ?_; (with_reducible refine (dragomanref5_Hex.calls k (a0.extract (a1 : Int).toNat ((wrap64 (a1 + a2)) : Int).toNat) t271 true _ A8.out).mono ?_); rintro e w' ⟨rfl, ⟨nd, rfl⟩⟩; refine ⟨_, rfl, ?_⟩))
      go_ret
      exact ⟨by first | rfl | (simp only [bne, Bool.not_not]; done) | (rw [pxdragomanref5code_empty]; done) | (simp; exact pxdragomanref5code_empty _) | (simp; done) | (simp [*]; done), by repeat (first | exact Drawn0.refl _ | apply Drawn0.step)⟩
     ·replace c9 := Bool.eq_false_iff.mpr c9
      subst c9
      have H1 : (some (-1)) = some r := by rw [if_neg (show ¬ (false = true) by decide)] at H; exact H
      clear H
      have H := H1
      clear H1
      obtain rfl := Option.some.inj H
      go_enter Tryd.func95, Tryd.ntmps95
      go_wp2_with (first | ((with_reducible refine gate_callee (f := 24) rfl ?_); refine goesL_ (some 22) rfl rfl Tryd.func24 (by kernel_rfl) rfl #[.string (a0.extract (a1 : Int).toNat ((wrap64 (a1 + a2)) : Int).toNat)] rfl (by (try simp only [List.map_toArray, List.map_cons, List.map_nil]); first | done | rfl | (simp only [List.length_drop, List.length_take]; rfl)) ?_; (with_reducible refine (dragomanref5_Hex.calls k (a0.extract (a1 : Int).toNat ((wrap64 (a1 + a2)) : Int).toNat) t271 false _ A8.out).mono ?_); rintro e w' ⟨rfl, ⟨nd, rfl⟩⟩; refine ⟨_, rfl, ?_⟩))
      go_ret
      exact ⟨by first | rfl | (simp only [bne, Bool.not_not]; done) | (rw [pxdragomanref5code_empty]; done) | (simp; exact pxdragomanref5code_empty _) | (simp; done) | (simp [*]; done), by repeat (first | exact Drawn0.refl _ | apply Drawn0.step)⟩
    ·rw [if_neg c7] at H
     exact absurd H (by simp)
   ·rw [if_neg c6] at H
    exact absurd H (by simp)
  ·rw [if_neg c5] at H
   exact absurd H (by simp)
end Go.Proofs.YtoanbmggffkmgaaDoor.P
end
section
namespace Go.Proofs.YtoanbmggffkmgaaDoor.P
open Go.RowKit Go.Proofs.YtoanbmggffkmgaaDoorW.PrintWords Go.Proofs.YtoanbmggffkmgaaDoorW.PrintLast Go.Proofs.YtoanbmggffkmgaaDoorW.PrintMore
attribute [local go_sem] max2_int min2_int max_two min_two max_three min_three max_four min_four   -- for this text's walks alone
attribute [-simp] ByteArray.size_extract
theorem pxdragomanref5escape_empty (l : List UInt8) : l.isEmpty = !(l != []) := by cases l <;> rfl
set_option linter.unusedVariables false
set_option linter.unusedSimpArgs false
/-! ### dragomanref5_escape: function 75 -/
mutual
def dragomanref5_escape.j0 : Nat → ByteArray → Int → Bool → Int → Bool → Option (ByteArray × Int)
 | 0, _, _, _, _, _ => none
 | k + 1, x0, x1, x2, x10, x36 => if x36 = true then (dragomanref5_escape.j1 k x0 x1 x2 8) else (if 0 ≤ (wrap64 (x1 + 1)) then (if (wrap64 (x1 + 1)) < (x0.size : Int) then (if (bt x0 (wrap64 (x1 + 1))) = 117 then (dragomanref5_escape.j1 k x0 x1 x2 x10) else (some ((⟨#[]⟩ : ByteArray), 0))) else (none)) else (none))
def dragomanref5_escape.j1 : Nat → ByteArray → Int → Bool → Int → Option (ByteArray × Int)
 | 0, _, _, _, _ => none
 | k + 1, x0, x1, x2, x10 => (dragomanref5_code.f k x0 (wrap64 (x1 + 2)) x10).bind fun t275 => (if t275 ≥ 0 then ((dragomanref1_Good.f t275).bind fun t276 => (dragomanref5_escape.j2 k x0 x1 x2 x10 t275 t276)) else (dragomanref5_escape.j2 k x0 x1 x2 x10 t275 false))
def dragomanref5_escape.j2 : Nat → ByteArray → Int → Bool → Int → Int → Bool → Option (ByteArray × Int)
 | 0, _, _, _, _, _, _ => none
 | k + 1, x0, x1, x2, x10, x11, x52 => if x52 = true then ((dragomanref1_Put.f x11).bind fun t277 => (some (t277, wrap64 (2 + x10)))) else (if x2 = true then (dragomanref5_escape.j3 k x0 x1 x11 false) else (if x11 ≥ 55296 then (if x11 < 56320 then (if (wrap64 (x1 + 8)) ≤ (x0.size : Int) then (if 0 ≤ (wrap64 (x1 + 6)) then (if (wrap64 (x1 + 6)) < (x0.size : Int) then (if (bt x0 (wrap64 (x1 + 6))) = 92 then (if 0 ≤ (wrap64 (x1 + 7)) then (if (wrap64 (x1 + 7)) < (x0.size : Int) then (dragomanref5_escape.j3 k x0 x1 x11 ((bt x0 (wrap64 (x1 + 7))) == 117)) else (none)) else (none)) else (dragomanref5_escape.j3 k x0 x1 x11 false)) else (none)) else (none)) else (dragomanref5_escape.j3 k x0 x1 x11 false)) else (dragomanref5_escape.j3 k x0 x1 x11 false)) else (dragomanref5_escape.j3 k x0 x1 x11 false)))
def dragomanref5_escape.j3 : Nat → ByteArray → Int → Int → Bool → Option (ByteArray × Int)
 | 0, _, _, _, _ => none
 | k + 1, x0, x1, x11, x87 => if x87 = true then ((dragomanref5_code.f k x0 (wrap64 (x1 + 8)) 4).bind fun t278 => (if t278 ≥ 56320 then (if t278 < 57344 then ((dragomanref1_Put.f (wrap64 ((wrap64 ((wrap64 (65536 + (wrap64 ((wrap64 (x11 - 55296)) * 1024)))) + t278)) - 56320))).bind fun t279 => (some (t279, 12))) else (some ((⟨#[]⟩ : ByteArray), 0))) else (some ((⟨#[]⟩ : ByteArray), 0)))) else (some ((⟨#[]⟩ : ByteArray), 0))
end
def dragomanref5_escape.f (k : Nat) (a0 : ByteArray) (a1 : Int) (a2 : Bool) : Option (ByteArray × Int) := if (wrap64 (a1 + 1)) ≥ (a0.size : Int) then (some ((⟨#[]⟩ : ByteArray), 0)) else (if 0 ≤ (wrap64 (a1 + 1)) then (if (wrap64 (a1 + 1)) < (a0.size : Int) then ((dragomanref5_plain.f k (bt a0 (wrap64 (a1 + 1))) a2).bind fun bt273 => (if bt273.2 = true then (some (bt273.1, 2)) else (if (bt a0 (wrap64 (a1 + 1))) = 85 then (dragomanref5_escape.j0 k a0 a1 a2 4 a2) else (dragomanref5_escape.j0 k a0 a1 a2 4 false)))) else (none)) else (none))
set_option maxHeartbeats 8000000 in
set_option maxRecDepth 100000 in
theorem dragomanref5_escape.calls (k : Nat) (a0 : ByteArray) (a1 : Int) (a2 : Bool) (r1 : ByteArray) (r2 : Int) (w : World) (h : dragomanref5_escape.f k a0 a1 a2 = some (r1, r2)) :
  Calls Tryd.prog 75 #[.string a0, .int .i64 a1, .bool a2] w fun e w' => e = .returned (.tuple #[.string r1, .int .i64 r2]) ∧ Below w.heap.size w w' := by
 have HB := Aside0.mk (Below.refl w.heap.size w)
 have H : (if (wrap64 (a1 + 1)) ≥ (a0.size : Int) then (some ((⟨#[]⟩ : ByteArray), 0)) else (if 0 ≤ (wrap64 (a1 + 1)) then (if (wrap64 (a1 + 1)) < (a0.size : Int) then ((dragomanref5_plain.f k (bt a0 (wrap64 (a1 + 1))) a2).bind fun bt273 => (if bt273.2 = true then (some (bt273.1, 2)) else (if (bt a0 (wrap64 (a1 + 1))) = 85 then (dragomanref5_escape.j0 k a0 a1 a2 4 a2) else (dragomanref5_escape.j0 k a0 a1 a2 4 false)))) else (none)) else (none))) = some (r1, r2) := h
 clear h
 by_cases c4 : (wrap64 (a1 + 1)) ≥ (a0.size : Int)
 ·rw [if_pos c4] at H
  have c4b0 : decide ((a0.size : Int) ≤ (wrap64 (a1 + 1))) = true := decide_eq_true c4
  clear c4
  simp only [Option.some.injEq, Prod.mk.injEq] at H
  obtain ⟨rfl, rfl⟩ := H
  go_enter Tryd.func75, Tryd.ntmps75
  go_wp2
  go_ret2
  exact ⟨by first | rfl | (simp only [bne, Bool.not_not]; done) | (rw [pxdragomanref5escape_empty]; done) | (simp; exact pxdragomanref5escape_empty _) | (simp [errW_none, errW_some] <;> rfl) | (simp [*, errW_none, errW_some, bne]; done) | (simp [*, errW_none, errW_some] <;> rfl), by repeat (first | (with_reducible first | exact HB.out | apply below_alloc | apply pw_below_drewN | apply below_drew1) | exact HB.out)⟩
 ·rw [if_neg c4] at H
  have c4b0 : decide ((a0.size : Int) ≤ (wrap64 (a1 + 1))) = false := decide_eq_false c4
  clear c4
  obtain ⟨ji5, hji5⟩ : ∃ j_ : Int, (wrap64 (a1 + 1)) = j_ := ⟨_, rfl⟩
  replace H : (if 0 ≤ (ji5) then (if (ji5) < (a0.size : Int) then ((dragomanref5_plain.f k (bt a0 (ji5)) a2).bind fun bt273 => (if bt273.2 = true then (some (bt273.1, 2)) else (if (bt a0 (ji5)) = 85 then (dragomanref5_escape.j0 k a0 a1 a2 4 a2) else (dragomanref5_escape.j0 k a0 a1 a2 4 false)))) else (none)) else (none)) = some (r1, r2) := by first | (rw [hji5] at H; exact H) | (simp only [hji5] at H ⊢; exact H)
  (try rw [hji5] at c4b0)
  have hji5w : (IntKind.i64.wrap (a1 + 1)) = ji5 := (i64_w _).trans hji5
  by_cases c6 : 0 ≤ (ji5)
  ·rw [if_pos c6] at H
   have c6b0 : decide (0 ≤ (ji5)) = true := decide_eq_true c6
   clear c6
   by_cases c7 : (ji5) < (a0.size : Int)
   ·rw [if_pos c7] at H
    have c7b0 : decide ((ji5) < (a0.size : Int)) = true := decide_eq_true c7
    clear c7
    replace H := Option.bind_eq_some_iff.mp H
    obtain ⟨⟨t273, t274⟩, A90, H⟩ := H
    replace H : (if t274 = true then (some (t273, 2)) else (if (bt a0 (ji5)) = 85 then (dragomanref5_escape.j0 k a0 a1 a2 4 a2) else (dragomanref5_escape.j0 k a0 a1 a2 4 false))) = some (r1, r2) := H
    have A9 := Aside0.mk A90
    clear A90
    by_cases c10 : t274 = true
    ·subst c10
     have H1 : (some (t273, 2)) = some (r1, r2) := by rw [if_pos rfl] at H; exact H
     clear H
     have H := H1
     clear H1
     simp only [Option.some.injEq, Prod.mk.injEq] at H
     obtain ⟨rfl, rfl⟩ := H
     have p8 : 0 ≤ ((ji5) : Int) := of_decide_eq_true (by first | (with_reducible assumption) | assumption)
     have q8 : (ji5) < (a0.size : Int) := of_decide_eq_true (by first | (with_reducible assumption) | assumption)
     have hx8 := bt_at a0 (ji5)
     replace p8 := eq_true p8
     replace q8 := eq_true q8
     go_enter Tryd.func75, Tryd.ntmps75
     go_wp2_with (first | ((with_reducible refine gate_callee (f := 94) rfl ?_); refine goesL_ (some 24) rfl rfl Tryd.func94 (by kernel_rfl) rfl #[.int .u8 (bt a0 (ji5)), .bool a2] rfl (by (try simp only [List.map_toArray, List.map_cons, List.map_nil]); first | done | (simp only [hji5]; rfl) | rfl | (simp only [List.length_drop, List.length_take]; rfl)) ?_; (with_reducible refine (dragomanref5_plain.calls k (bt a0 (ji5)) a2 t273 true _ A9.out).mono ?_); rintro e w11 ⟨rfl, hb⟩; refine ⟨_, rfl, ?_⟩; have n0_ := Aside0.mk (below_step (by repeat (first | (with_reducible first | exact HB.out | apply below_alloc | apply pw_below_drewN | apply below_drew1) | exact HB.out)) hb); clear HB; have HB := n0_; clear n0_; (try clear hb); (try clear hb2); (try clear hk); (try clear hi)))
     go_ret2
     exact ⟨by first | rfl | (simp only [bne, Bool.not_not]; done) | (rw [pxdragomanref5escape_empty]; done) | (simp; exact pxdragomanref5escape_empty _) | (simp [errW_none, errW_some] <;> rfl) | (simp [*, errW_none, errW_some, bne]; done) | (simp only [← hji5]; first | rfl | (simp [errW_none, errW_some] <;> rfl)) | (simp [*, errW_none, errW_some] <;> rfl), by repeat (first | (with_reducible first | exact HB.out | apply below_alloc | apply pw_below_drewN | apply below_drew1) | exact HB.out)⟩
    ·replace c10 := Bool.eq_false_iff.mpr c10
     subst c10
     have H1 : (if (bt a0 (ji5)) = 85 then (dragomanref5_escape.j0 k a0 a1 a2 4 a2) else (dragomanref5_escape.j0 k a0 a1 a2 4 false)) = some (r1, r2) := by rw [if_neg (show ¬ (false = true) by decide)] at H; exact H
     clear H
     have H := H1
     clear H1
     have HC12 := Aside0.mk H
     clear H
     have p8 : 0 ≤ ((ji5) : Int) := of_decide_eq_true (by first | (with_reducible assumption) | assumption)
     have q8 : (ji5) < (a0.size : Int) := of_decide_eq_true (by first | (with_reducible assumption) | assumption)
     have hx8 := bt_at a0 (ji5)
     replace p8 := eq_true p8
     replace q8 := eq_true q8
     go_enter Tryd.func75, Tryd.ntmps75
     go_upto_region 7 with (first | ((with_reducible refine gate_callee (f := 94) rfl ?_); refine goesL_ (some 24) rfl rfl Tryd.func94 (by kernel_rfl) rfl #[.int .u8 (bt a0 (ji5)), .bool a2] rfl (by (try simp only [List.map_toArray, List.map_cons, List.map_nil]); first | done | (simp only [hji5]; rfl) | rfl | (simp only [List.length_drop, List.length_take]; rfl)) ?_; (with_reducible refine (dragomanref5_plain.calls k (bt a0 (ji5)) a2 t273 false _ A9.out).mono ?_); rintro e w13 ⟨rfl, hb⟩; refine ⟨_, rfl, ?_⟩; have n0_ := Aside0.mk (below_step (by repeat (first | (with_reducible first | exact HB.out | apply below_alloc | apply pw_below_drewN | apply below_drew1) | exact HB.out)) hb); clear HB; have HB := n0_; clear n0_; (try clear hb); (try clear hb2); (try clear hk); (try clear hi)))
     (try simp only [Act.put, List.setIfInBounds_toArray, List.set_cons_zero, List.set_cons_succ])
     go_cut [36] (fun v36 wc => ∃ (kq : Nat) (x36_11 : Bool), v36 = .bool x36_11 ∧ Aside0 (dragomanref5_escape.j0 kq a0 a1 a2 4 x36_11 = some (r1, r2)) ∧ Aside0 (kq ≤ k) ∧ Aside0 (Below w.heap.size w wc))
     case first =>
      have H := HC12.out
      clear HC12
      by_cases c15 : (bt a0 (ji5)) = 85
      ·rw [if_pos c15] at H
       have c15b0 : ((bt a0 (ji5)) == 85) = true := beq_iff_eq.mpr c15
       have c15b1 : ((bt a0 (ji5)) != 85) = false := bne_eq_false_iff_eq.mpr c15
       clear c15
       (first | rw [c15b0] | (simp only [i64_w, i32_w]; rw [c15b0]) | skip)
       have H' := Aside0.mk H
       clear H
       have p14 : 0 ≤ ((ji5) : Int) := of_decide_eq_true (by first | (with_reducible assumption) | assumption)
       have q14 : (ji5) < (a0.size : Int) := of_decide_eq_true (by first | (with_reducible assumption) | assumption)
       have hx14 := bt_at a0 (ji5)
       replace p14 := eq_true p14
       replace q14 := eq_true q14
       go_wp2
       go_meet
       case rel => exact ⟨_, (a2), (by first | rfl | (simp; done) | (simp [*]; done)), H', ⟨by first | omega | exact Nat.le_refl _⟩, ⟨by repeat (first | (with_reducible first | exact HB.out | apply below_alloc | apply pw_below_drewN | apply below_drew1) | exact HB.out)⟩⟩
      ·rw [if_neg c15] at H
       have c15b0 : ((bt a0 (ji5)) == 85) = false := beq_eq_false_iff_ne.mpr c15
       have c15b1 : ((bt a0 (ji5)) != 85) = true := bne_iff_ne.mpr c15
       (first | rw [c15b0] | (simp only [i64_w, i32_w]; rw [c15b0]) | skip)
       have H' := Aside0.mk H
       clear H
       have p14 : 0 ≤ ((ji5) : Int) := of_decide_eq_true (by first | (with_reducible assumption) | assumption)
       have q14 : (ji5) < (a0.size : Int) := of_decide_eq_true (by first | (with_reducible assumption) | assumption)
       have hx14 := bt_at a0 (ji5)
       replace p14 := eq_true p14
       replace q14 := eq_true q14
       go_wp2
       go_meet
       case rel => exact ⟨_, (false), (by first | rfl | (simp; done) | (simp [*]; done)), H', ⟨by first | omega | exact Nat.le_refl _⟩, ⟨by repeat (first | (with_reducible first | exact HB.out | apply below_alloc | apply pw_below_drewN | apply below_drew1) | exact HB.out)⟩⟩
     case rest =>
      clear HC12
      try clear c1
      try clear p1
      try clear q1
      try clear hx1
      try clear p2
      try clear c4
      try clear c4b0
      try clear c6
      try clear c6b0
      try clear p6
      try clear c7
      try clear c7b0
      try clear p8
      try clear q8
      try clear hx8
      try clear c9
      try clear c10
      try clear p14
      try clear q14
      try clear hx14
      try clear c15
      try clear c15b0
      try clear c15b1
      try clear p14
      try clear p8
      try clear q14
      try clear q8
      obtain ⟨kq, x36_11, rfl, HA, HJ11, HB⟩ := hcut
      cases kq with
      | zero => exact absurd HA.out (by simp [dragomanref5_escape.j0])
      | succ kj11 =>
       have H := HA.out
       clear HA
       simp only [dragomanref5_escape.j0] at H
       have HC16 := Aside0.mk H
       clear H
       go_upto_if 36 with (fail)
       go_cut [10] (fun v10 wc => ∃ (kq : Nat) (x10_15 : Int), v10 = .int .i64 x10_15 ∧ Aside0 (dragomanref5_escape.j1 kq a0 a1 a2 x10_15 = some (r1, r2)) ∧ Aside0 (kq ≤ kj11) ∧ Aside0 (Below w.heap.size w wc))
       case first =>
        have H := HC16.out
        clear HC16
        by_cases c17 : x36_11 = true
        ·subst c17
         have H1 : (dragomanref5_escape.j1 kj11 a0 a1 a2 8) = some (r1, r2) := by rw [if_pos rfl] at H; exact H
         clear H
         have H := H1
         clear H1
         have H' := Aside0.mk H
         clear H
         go_wp2
         go_meet
         case rel => exact ⟨_, (8), (by first | rfl | (simp; done) | (simp [*]; done)), H', ⟨by have := HJ11.out; first | omega | exact Nat.le_refl _⟩, ⟨by repeat (first | (with_reducible first | exact HB.out | apply below_alloc | apply pw_below_drewN | apply below_drew1) | exact HB.out)⟩⟩
        ·replace c17 := Bool.eq_false_iff.mpr c17
         subst c17
         have H1 : (if 0 ≤ (wrap64 (a1 + 1)) then (if (wrap64 (a1 + 1)) < (a0.size : Int) then (if (bt a0 (wrap64 (a1 + 1))) = 117 then (dragomanref5_escape.j1 kj11 a0 a1 a2 4) else (some ((⟨#[]⟩ : ByteArray), 0))) else (none)) else (none)) = some (r1, r2) := by rw [if_neg (show ¬ (false = true) by decide)] at H; exact H
         clear H
         have H := H1
         clear H1
         replace H : (if 0 ≤ (ji5) then (if (ji5) < (a0.size : Int) then (if (bt a0 (ji5)) = 117 then (dragomanref5_escape.j1 kj11 a0 a1 a2 4) else (some ((⟨#[]⟩ : ByteArray), 0))) else (none)) else (none)) = some (r1, r2) := by first | (rw [hji5] at H; exact H) | (simp only [hji5] at H ⊢; exact H)
         (try rw [hji5] at c4b0)
         have hji5w : (IntKind.i64.wrap (a1 + 1)) = ji5 := (i64_w _).trans hji5
         by_cases c19 : 0 ≤ (ji5)
         ·rw [if_pos c19] at H
          have c19b0 : decide (0 ≤ (ji5)) = true := decide_eq_true c19
          clear c19
          (first | rw [c19b0] | (simp only [i64_w, i32_w]; rw [c19b0]) | skip)
          by_cases c20 : (ji5) < (a0.size : Int)
          ·rw [if_pos c20] at H
           have c20b0 : decide ((ji5) < (a0.size : Int)) = true := decide_eq_true c20
           clear c20
           by_cases c22 : (bt a0 (ji5)) = 117
           ·rw [if_pos c22] at H
            have c22b0 : ((bt a0 (ji5)) == 117) = true := beq_iff_eq.mpr c22
            have c22b1 : ((bt a0 (ji5)) != 117) = false := bne_eq_false_iff_eq.mpr c22
            clear c22
            have H' := Aside0.mk H
            clear H
            have p21 : 0 ≤ ((ji5) : Int) := of_decide_eq_true (by first | (with_reducible assumption) | assumption)
            have q21 : (ji5) < (a0.size : Int) := of_decide_eq_true (by first | (with_reducible assumption) | assumption)
            have hx21 := bt_at a0 (ji5)
            replace p21 := eq_true p21
            replace q21 := eq_true q21
            go_wp2
            go_meet
            case rel => exact ⟨_, (4), (by first | rfl | (simp; done) | (simp [*]; done)), H', ⟨by have := HJ11.out; first | omega | exact Nat.le_refl _⟩, ⟨by repeat (first | (with_reducible first | exact HB.out | apply below_alloc | apply pw_below_drewN | apply below_drew1) | exact HB.out)⟩⟩
           ·rw [if_neg c22] at H
            have c22b0 : ((bt a0 (ji5)) == 117) = false := beq_eq_false_iff_ne.mpr c22
            have c22b1 : ((bt a0 (ji5)) != 117) = true := bne_iff_ne.mpr c22
            simp only [Option.some.injEq, Prod.mk.injEq] at H
            obtain ⟨rfl, rfl⟩ := H
            have p21 : 0 ≤ ((ji5) : Int) := of_decide_eq_true (by first | (with_reducible assumption) | assumption)
            have q21 : (ji5) < (a0.size : Int) := of_decide_eq_true (by first | (with_reducible assumption) | assumption)
            have hx21 := bt_at a0 (ji5)
            replace p21 := eq_true p21
            replace q21 := eq_true q21
            go_wp2
            go_ret2
            exact ⟨by first | rfl | (simp only [bne, Bool.not_not]; done) | (rw [pxdragomanref5escape_empty]; done) | (simp; exact pxdragomanref5escape_empty _) | (simp [errW_none, errW_some] <;> rfl) | (simp [*, errW_none, errW_some, bne]; done) | (simp only [← hji5, ← hji5]; first | rfl | (simp [errW_none, errW_some] <;> rfl)) | (simp [*, errW_none, errW_some] <;> rfl), by repeat (first | (with_reducible first | exact HB.out | apply below_alloc | apply pw_below_drewN | apply below_drew1) | exact HB.out)⟩
          ·rw [if_neg c20] at H
           exact absurd H (by simp)
         ·rw [if_neg c19] at H
          exact absurd H (by simp)
       case rest =>
        clear HC16
        try clear c1
        try clear p1
        try clear q1
        try clear hx1
        try clear c2
        try clear p2
        try clear q2
        try clear hx2
        try clear c4
        try clear c4b0
        try clear c6
        try clear c6b0
        try clear p6
        try clear c7
        try clear c7b0
        try clear p8
        try clear q8
        try clear hx8
        try clear c9
        try clear c10
        try clear p14
        try clear q14
        try clear hx14
        try clear c15
        try clear c15b0
        try clear c15b1
        try clear c17
        try clear c19
        try clear c19b0
        try clear c20
        try clear c20b0
        try clear p21
        try clear q21
        try clear hx21
        try clear c22
        try clear c22b0
        try clear c22b1
        try clear p1
        try clear p14
        try clear p2
        try clear p21
        try clear p6
        try clear p8
        try clear q1
        try clear q14
        try clear q21
        try clear q8
        obtain ⟨kq, x10_15, rfl, HA, HJ15, HB⟩ := hcut
        cases kq with
        | zero => exact absurd HA.out (by simp [dragomanref5_escape.j1])
        | succ kj15 =>
         have H := HA.out
         clear HA
         simp only [dragomanref5_escape.j1] at H
         replace H := Option.bind_eq_some_iff.mp H
         obtain ⟨t275, A230, H⟩ := H
         replace H : (if t275 ≥ 0 then ((dragomanref1_Good.f t275).bind fun t276 => (dragomanref5_escape.j2 kj15 a0 a1 a2 x10_15 t275 t276)) else (dragomanref5_escape.j2 kj15 a0 a1 a2 x10_15 t275 false)) = some (r1, r2) := H
         have A23 := Aside0.mk A230
         clear A230
         have HC24 := Aside0.mk H
         clear H
         go_upto_region 12 with (first | ((with_reducible refine gate_callee (f := 95) rfl ?_); refine goesL_ (some 46) rfl rfl Tryd.func95 (by kernel_rfl) rfl #[.string a0, .int .i64 (wrap64 (a1 + 2)), .int .i64 x10_15] rfl (by (try simp only [List.map_toArray, List.map_cons, List.map_nil]); first | done | rfl | (simp only [List.length_drop, List.length_take]; rfl)) ?_; (with_reducible refine (dragomanref5_code.calls kj15 a0 (wrap64 (a1 + 2)) x10_15 t275 _ A23.out).mono ?_); rintro e w' ⟨rfl, ⟨nd, rfl⟩⟩; refine ⟨_, rfl, ?_⟩))
         (try simp only [Act.put, List.setIfInBounds_toArray, List.set_cons_zero, List.set_cons_succ])
         go_cut [52] (fun v52 wc => ∃ (kq : Nat) (x52_23 : Bool), v52 = .bool x52_23 ∧ Aside0 (dragomanref5_escape.j2 kq a0 a1 a2 x10_15 t275 x52_23 = some (r1, r2)) ∧ Aside0 (kq ≤ kj15) ∧ Aside0 (Below w.heap.size w wc))
         case first =>
          have H := HC24.out
          clear HC24
          by_cases c25 : t275 ≥ 0
          ·rw [if_pos c25] at H
           have c25b0 : decide (0 ≤ t275) = true := decide_eq_true c25
           clear c25
           (first | rw [c25b0] | (simp only [i64_w, i32_w]; rw [c25b0]) | skip)
           replace H := Option.bind_eq_some_iff.mp H
           obtain ⟨t276, A260, H⟩ := H
           replace H : (dragomanref5_escape.j2 kj15 a0 a1 a2 x10_15 t275 t276) = some (r1, r2) := H
           have A26 := Aside0.mk A260
           clear A260
           have H' := Aside0.mk H
           clear H
           go_wp2_with (first | (go_at_call 26; (with_reducible refine (dragomanref1_Good.calls t275 t276 _ A26.out).mono ?_); rintro e w' ⟨rfl, ⟨nd, rfl⟩⟩))
           go_meet
           case rel => exact ⟨_, (t276), (by first | rfl | (simp; done) | (simp [*]; done)), H', ⟨by have := HJ11.out; have := HJ15.out; first | omega | exact Nat.le_refl _⟩, ⟨by repeat (first | (with_reducible first | exact HB.out | apply below_alloc | apply pw_below_drewN | apply below_drew1) | exact HB.out)⟩⟩
          ·rw [if_neg c25] at H
           have c25b0 : decide (0 ≤ t275) = false := decide_eq_false c25
           clear c25
           (first | rw [c25b0] | (simp only [i64_w, i32_w]; rw [c25b0]) | skip)
           have H' := Aside0.mk H
           clear H
           go_wp2
           go_meet
           case rel => exact ⟨_, (false), (by first | rfl | (simp; done) | (simp [*]; done)), H', ⟨by have := HJ11.out; have := HJ15.out; first | omega | exact Nat.le_refl _⟩, ⟨by repeat (first | (with_reducible first | exact HB.out | apply below_alloc | apply pw_below_drewN | apply below_drew1) | exact HB.out)⟩⟩
         case rest =>
          clear HC24
          try clear c1
          try clear p1
          try clear q1
          try clear hx1
          try clear c2
          try clear p2
          try clear q2
          try clear hx2
          try clear c4
          try clear c4b0
          try clear c6
          try clear c6b0
          try clear p6
          try clear c7
          try clear c7b0
          try clear p8
          try clear q8
          try clear hx8
          try clear c9
          try clear c10
          try clear p14
          try clear q14
          try clear hx14
          try clear c15
          try clear c15b0
          try clear c15b1
          try clear c17
          try clear c19
          try clear c19b0
          try clear c20
          try clear c20b0
          try clear p21
          try clear q21
          try clear hx21
          try clear c22
          try clear c22b0
          try clear c22b1
          try clear c25
          try clear c25b0
          try clear p1
          try clear p14
          try clear p2
          try clear p21
          try clear p6
          try clear p8
          try clear q1
          try clear q14
          try clear q2
          try clear q21
          try clear q8
          obtain ⟨kq, x52_23, rfl, HA, HJ23, HB⟩ := hcut
          cases kq with
          | zero => exact absurd HA.out (by simp [dragomanref5_escape.j2])
          | succ kj23 =>
           have H := HA.out
           clear HA
           simp only [dragomanref5_escape.j2] at H
           by_cases c27 : x52_23 = true
           ·subst c27
            have H1 : ((dragomanref1_Put.f t275).bind fun t277 => (some (t277, wrap64 (2 + x10_15)))) = some (r1, r2) := by rw [if_pos rfl] at H; exact H
            clear H
            have H := H1
            clear H1
            replace H := Option.bind_eq_some_iff.mp H
            obtain ⟨t277, A280, H⟩ := H
            replace H : (some (t277, wrap64 (2 + x10_15))) = some (r1, r2) := H
            have A28 := Aside0.mk A280
            clear A280
            simp only [Option.some.injEq, Prod.mk.injEq] at H
            obtain ⟨rfl, rfl⟩ := H
            go_wp2_with (first | ((with_reducible refine gate_callee (f := 27) rfl ?_); refine goesL_ (some 54) rfl rfl Tryd.func27 (by kernel_rfl) rfl #[.int .i64 t275] rfl (by (try simp only [List.map_toArray, List.map_cons, List.map_nil]); first | done | rfl | (simp only [List.length_drop, List.length_take]; rfl)) ?_; (with_reducible refine (dragomanref1_Put.calls t275 t277 _ A28.out).mono ?_); rintro e w29 ⟨rfl, hb⟩; refine ⟨_, rfl, ?_⟩; have n0_ := Aside0.mk (below_step (by repeat (first | (with_reducible first | exact HB.out | apply below_alloc | apply pw_below_drewN | apply below_drew1) | exact HB.out)) hb); clear HB; have HB := n0_; clear n0_; (try clear hb); (try clear hb2); (try clear hk); (try clear hi)))
            go_ret2
            exact ⟨by first | rfl | (simp only [bne, Bool.not_not]; done) | (rw [pxdragomanref5escape_empty]; done) | (simp; exact pxdragomanref5escape_empty _) | (simp [errW_none, errW_some] <;> rfl) | (simp [*, errW_none, errW_some, bne]; done) | (simp only [← hji5]; first | rfl | (simp [errW_none, errW_some] <;> rfl)) | (simp [*, errW_none, errW_some] <;> rfl), by repeat (first | (with_reducible first | exact HB.out | apply below_alloc | apply pw_below_drewN | apply below_drew1) | exact HB.out)⟩
           ·replace c27 := Bool.eq_false_iff.mpr c27
            subst c27
            have H1 : (if a2 = true then (dragomanref5_escape.j3 kj23 a0 a1 t275 false) else (if t275 ≥ 55296 then (if t275 < 56320 then (if (wrap64 (a1 + 8)) ≤ (a0.size : Int) then (if 0 ≤ (wrap64 (a1 + 6)) then (if (wrap64 (a1 + 6)) < (a0.size : Int) then (if (bt a0 (wrap64 (a1 + 6))) = 92 then (if 0 ≤ (wrap64 (a1 + 7)) then (if (wrap64 (a1 + 7)) < (a0.size : Int) then (dragomanref5_escape.j3 kj23 a0 a1 t275 ((bt a0 (wrap64 (a1 + 7))) == 117)) else (none)) else (none)) else (dragomanref5_escape.j3 kj23 a0 a1 t275 false)) else (none)) else (none)) else (dragomanref5_escape.j3 kj23 a0 a1 t275 false)) else (dragomanref5_escape.j3 kj23 a0 a1 t275 false)) else (dragomanref5_escape.j3 kj23 a0 a1 t275 false))) = some (r1, r2) := by rw [if_neg (show ¬ (false = true) by decide)] at H; exact H
            clear H
            have H := H1
            clear H1
            have HC30 := Aside0.mk H
            clear H
            go_upto_region 14 with (fail)
            go_cut [87] (fun v87 wc => ∃ (kq : Nat) (x87_29 : Bool), v87 = .bool x87_29 ∧ Aside0 (dragomanref5_escape.j3 kq a0 a1 t275 x87_29 = some (r1, r2)) ∧ Aside0 (kq ≤ kj23) ∧ Aside0 (Below w.heap.size w wc))
            case first =>
             have H := HC30.out
             clear HC30
             by_cases c31 : a2 = true
             ·subst c31
              have H1 : (dragomanref5_escape.j3 kj23 a0 a1 t275 false) = some (r1, r2) := by rw [if_pos rfl] at H; exact H
              clear H
              have H := H1
              clear H1
              have H' := Aside0.mk H
              clear H
              go_wp2
              go_meet
              case rel => exact ⟨_, (false), (by first | rfl | (simp; done) | (simp [*]; done)), H', ⟨by have := HJ11.out; have := HJ15.out; have := HJ23.out; first | omega | exact Nat.le_refl _⟩, ⟨by repeat (first | (with_reducible first | exact HB.out | apply below_alloc | apply pw_below_drewN | apply below_drew1) | exact HB.out)⟩⟩
             ·replace c31 := Bool.eq_false_iff.mpr c31
              subst c31
              have H1 : (if t275 ≥ 55296 then (if t275 < 56320 then (if (wrap64 (a1 + 8)) ≤ (a0.size : Int) then (if 0 ≤ (wrap64 (a1 + 6)) then (if (wrap64 (a1 + 6)) < (a0.size : Int) then (if (bt a0 (wrap64 (a1 + 6))) = 92 then (if 0 ≤ (wrap64 (a1 + 7)) then (if (wrap64 (a1 + 7)) < (a0.size : Int) then (dragomanref5_escape.j3 kj23 a0 a1 t275 ((bt a0 (wrap64 (a1 + 7))) == 117)) else (none)) else (none)) else (dragomanref5_escape.j3 kj23 a0 a1 t275 false)) else (none)) else (none)) else (dragomanref5_escape.j3 kj23 a0 a1 t275 false)) else (dragomanref5_escape.j3 kj23 a0 a1 t275 false)) else (dragomanref5_escape.j3 kj23 a0 a1 t275 false)) = some (r1, r2) := by rw [if_neg (show ¬ (false = true) by decide)] at H; exact H
              clear H
              have H := H1
              clear H1
              by_cases c32 : t275 ≥ 55296
              ·rw [if_pos c32] at H
               have c32b0 : decide (55296 ≤ t275) = true := decide_eq_true c32
               clear c32
               (first | rw [c32b0] | (simp only [i64_w, i32_w]; rw [c32b0]) | skip)
               by_cases c33 : t275 < 56320
               ·rw [if_pos c33] at H
                have c33b0 : decide (t275 < 56320) = true := decide_eq_true c33
                clear c33
                by_cases c34 : (wrap64 (a1 + 8)) ≤ (a0.size : Int)
                ·rw [if_pos c34] at H
                 have c34b0 : decide ((wrap64 (a1 + 8)) ≤ (a0.size : Int)) = true := decide_eq_true c34
                 clear c34
                 obtain ⟨ji35, hji35⟩ : ∃ j_ : Int, (wrap64 (a1 + 6)) = j_ := ⟨_, rfl⟩
                 replace H : (if 0 ≤ (ji35) then (if (ji35) < (a0.size : Int) then (if (bt a0 (ji35)) = 92 then (if 0 ≤ (wrap64 (a1 + 7)) then (if (wrap64 (a1 + 7)) < (a0.size : Int) then (dragomanref5_escape.j3 kj23 a0 a1 t275 ((bt a0 (wrap64 (a1 + 7))) == 117)) else (none)) else (none)) else (dragomanref5_escape.j3 kj23 a0 a1 t275 false)) else (none)) else (none)) = some (r1, r2) := by first | (rw [hji35] at H; exact H) | (simp only [hji35] at H ⊢; exact H)
                 have hji35w : (IntKind.i64.wrap (a1 + 6)) = ji35 := (i64_w _).trans hji35
                 by_cases c36 : 0 ≤ (ji35)
                 ·rw [if_pos c36] at H
                  have c36b0 : decide (0 ≤ (ji35)) = true := decide_eq_true c36
                  clear c36
                  by_cases c37 : (ji35) < (a0.size : Int)
                  ·rw [if_pos c37] at H
                   have c37b0 : decide ((ji35) < (a0.size : Int)) = true := decide_eq_true c37
                   clear c37
                   by_cases c39 : (bt a0 (ji35)) = 92
                   ·rw [if_pos c39] at H
                    have c39b0 : ((bt a0 (ji35)) == 92) = true := beq_iff_eq.mpr c39
                    have c39b1 : ((bt a0 (ji35)) != 92) = false := bne_eq_false_iff_eq.mpr c39
                    clear c39
                    obtain ⟨ji40, hji40⟩ : ∃ j_ : Int, (wrap64 (a1 + 7)) = j_ := ⟨_, rfl⟩
                    replace H : (if 0 ≤ (ji40) then (if (ji40) < (a0.size : Int) then (dragomanref5_escape.j3 kj23 a0 a1 t275 ((bt a0 (ji40)) == 117)) else (none)) else (none)) = some (r1, r2) := by first | (rw [hji40] at H; exact H) | (simp only [hji40] at H ⊢; exact H)
                    have hji40w : (IntKind.i64.wrap (a1 + 7)) = ji40 := (i64_w _).trans hji40
                    by_cases c41 : 0 ≤ (ji40)
                    ·rw [if_pos c41] at H
                     have c41b0 : decide (0 ≤ (ji40)) = true := decide_eq_true c41
                     clear c41
                     by_cases c42 : (ji40) < (a0.size : Int)
                     ·rw [if_pos c42] at H
                      have c42b0 : decide ((ji40) < (a0.size : Int)) = true := decide_eq_true c42
                      clear c42
                      have H' := Aside0.mk H
                      clear H
                      have p38 : 0 ≤ ((ji35) : Int) := of_decide_eq_true (by first | (with_reducible assumption) | assumption)
                      have q38 : (ji35) < (a0.size : Int) := of_decide_eq_true (by first | (with_reducible assumption) | assumption)
                      have hx38 := bt_at a0 (ji35)
                      replace p38 := eq_true p38
                      replace q38 := eq_true q38
                      have p43 : 0 ≤ ((ji40) : Int) := of_decide_eq_true (by first | (with_reducible assumption) | assumption)
                      have q43 : (ji40) < (a0.size : Int) := of_decide_eq_true (by first | (with_reducible assumption) | assumption)
                      have hx43 := bt_at a0 (ji40)
                      replace p43 := eq_true p43
                      replace q43 := eq_true q43
                      go_wp2
                      go_meet
                      case rel => exact ⟨_, (((bt a0 (ji40)) == 117)), (by first | rfl | (simp; done) | (simp only [← hji40] <;> (first | rfl | simp)) | (simp [*]; done)), H', ⟨by have := HJ11.out; have := HJ15.out; have := HJ23.out; first | omega | exact Nat.le_refl _⟩, ⟨by repeat (first | (with_reducible first | exact HB.out | apply below_alloc | apply pw_below_drewN | apply below_drew1) | exact HB.out)⟩⟩
                     ·rw [if_neg c42] at H
                      exact absurd H (by simp)
                    ·rw [if_neg c41] at H
                     exact absurd H (by simp)
                   ·rw [if_neg c39] at H
                    have c39b0 : ((bt a0 (ji35)) == 92) = false := beq_eq_false_iff_ne.mpr c39
                    have c39b1 : ((bt a0 (ji35)) != 92) = true := bne_iff_ne.mpr c39
                    have H' := Aside0.mk H
                    clear H
                    have p38 : 0 ≤ ((ji35) : Int) := of_decide_eq_true (by first | (with_reducible assumption) | assumption)
                    have q38 : (ji35) < (a0.size : Int) := of_decide_eq_true (by first | (with_reducible assumption) | assumption)
                    have hx38 := bt_at a0 (ji35)
                    replace p38 := eq_true p38
                    replace q38 := eq_true q38
                    go_wp2
                    go_meet
                    case rel => exact ⟨_, (false), (by first | rfl | (simp; done) | (simp [*]; done)), H', ⟨by have := HJ11.out; have := HJ15.out; have := HJ23.out; first | omega | exact Nat.le_refl _⟩, ⟨by repeat (first | (with_reducible first | exact HB.out | apply below_alloc | apply pw_below_drewN | apply below_drew1) | exact HB.out)⟩⟩
                  ·rw [if_neg c37] at H
                   exact absurd H (by simp)
                 ·rw [if_neg c36] at H
                  exact absurd H (by simp)
                ·rw [if_neg c34] at H
                 have c34b0 : decide ((wrap64 (a1 + 8)) ≤ (a0.size : Int)) = false := decide_eq_false c34
                 clear c34
                 have H' := Aside0.mk H
                 clear H
                 go_wp2
                 go_meet
                 case rel => exact ⟨_, (false), (by first | rfl | (simp; done) | (simp [*]; done)), H', ⟨by have := HJ11.out; have := HJ15.out; have := HJ23.out; first | omega | exact Nat.le_refl _⟩, ⟨by repeat (first | (with_reducible first | exact HB.out | apply below_alloc | apply pw_below_drewN | apply below_drew1) | exact HB.out)⟩⟩
               ·rw [if_neg c33] at H
                have c33b0 : decide (t275 < 56320) = false := decide_eq_false c33
                clear c33
                have H' := Aside0.mk H
                clear H
                go_wp2
                go_meet
                case rel => exact ⟨_, (false), (by first | rfl | (simp; done) | (simp [*]; done)), H', ⟨by have := HJ11.out; have := HJ15.out; have := HJ23.out; first | omega | exact Nat.le_refl _⟩, ⟨by repeat (first | (with_reducible first | exact HB.out | apply below_alloc | apply pw_below_drewN | apply below_drew1) | exact HB.out)⟩⟩
              ·rw [if_neg c32] at H
               have c32b0 : decide (55296 ≤ t275) = false := decide_eq_false c32
               clear c32
               (first | rw [c32b0] | (simp only [i64_w, i32_w]; rw [c32b0]) | skip)
               have H' := Aside0.mk H
               clear H
               go_wp2
               go_meet
               case rel => exact ⟨_, (false), (by first | rfl | (simp; done) | (simp [*]; done)), H', ⟨by have := HJ11.out; have := HJ15.out; have := HJ23.out; first | omega | exact Nat.le_refl _⟩, ⟨by repeat (first | (with_reducible first | exact HB.out | apply below_alloc | apply pw_below_drewN | apply below_drew1) | exact HB.out)⟩⟩
            case rest =>
             clear HC30
             try clear c1
             try clear p1
             try clear q1
             try clear hx1
             try clear c2
             try clear p2
             try clear q2
             try clear hx2
             try clear c3
             try clear p3
             try clear q3
             try clear hx3
             try clear c4
             try clear c4b0
             try clear p4
             try clear q4
             try clear hx4
             try clear c6
             try clear c6b0
             try clear p6
             try clear c7
             try clear c7b0
             try clear p8
             try clear q8
             try clear hx8
             try clear c9
             try clear c10
             try clear p14
             try clear q14
             try clear hx14
             try clear c15
             try clear c15b0
             try clear c15b1
             try clear c17
             try clear c19
             try clear c19b0
             try clear c20
             try clear c20b0
             try clear p21
             try clear q21
             try clear hx21
             try clear c22
             try clear c22b0
             try clear c22b1
             try clear c25
             try clear c25b0
             try clear c27
             try clear c31
             try clear c32
             try clear c32b0
             try clear c33
             try clear c33b0
             try clear c34
             try clear c34b0
             try clear c36
             try clear c36b0
             try clear c37
             try clear c37b0
             try clear p38
             try clear q38
             try clear hx38
             try clear c39
             try clear c39b0
             try clear c39b1
             try clear c41
             try clear c41b0
             try clear c42
             try clear c42b0
             try clear p43
             try clear q43
             try clear hx43
             try clear p1
             try clear p14
             try clear p2
             try clear p21
             try clear p38
             try clear p43
             try clear p6
             try clear p8
             try clear q1
             try clear q14
             try clear q2
             try clear q21
             try clear q38
             try clear q43
             try clear q8
             obtain ⟨kq, x87_29, rfl, HA, HJ29, HB⟩ := hcut
             cases kq with
             | zero => exact absurd HA.out (by simp [dragomanref5_escape.j3])
             | succ kj29 =>
              have H := HA.out
              clear HA
              simp only [dragomanref5_escape.j3] at H
              by_cases c44 : x87_29 = true
              ·subst c44
               have H1 : ((dragomanref5_code.f kj29 a0 (wrap64 (a1 + 8)) 4).bind fun t278 => (if t278 ≥ 56320 then (if t278 < 57344 then ((dragomanref1_Put.f (wrap64 ((wrap64 ((wrap64 (65536 + (wrap64 ((wrap64 (t275 - 55296)) * 1024)))) + t278)) - 56320))).bind fun t279 => (some (t279, 12))) else (some ((⟨#[]⟩ : ByteArray), 0))) else (some ((⟨#[]⟩ : ByteArray), 0)))) = some (r1, r2) := by rw [if_pos rfl] at H; exact H
               clear H
               have H := H1
               clear H1
               replace H := Option.bind_eq_some_iff.mp H
               obtain ⟨t278, A450, H⟩ := H
               replace H : (if t278 ≥ 56320 then (if t278 < 57344 then ((dragomanref1_Put.f (wrap64 ((wrap64 ((wrap64 (65536 + (wrap64 ((wrap64 (t275 - 55296)) * 1024)))) + t278)) - 56320))).bind fun t279 => (some (t279, 12))) else (some ((⟨#[]⟩ : ByteArray), 0))) else (some ((⟨#[]⟩ : ByteArray), 0))) = some (r1, r2) := H
               have A45 := Aside0.mk A450
               clear A450
               by_cases c46 : t278 ≥ 56320
               ·rw [if_pos c46] at H
                have c46b0 : decide (56320 ≤ t278) = true := decide_eq_true c46
                clear c46
                by_cases c47 : t278 < 57344
                ·rw [if_pos c47] at H
                 have c47b0 : decide (t278 < 57344) = true := decide_eq_true c47
                 clear c47
                 replace H := Option.bind_eq_some_iff.mp H
                 obtain ⟨t279, A480, H⟩ := H
                 replace H : (some (t279, 12)) = some (r1, r2) := H
                 have A48 := Aside0.mk A480
                 clear A480
                 simp only [Option.some.injEq, Prod.mk.injEq] at H
                 obtain ⟨rfl, rfl⟩ := H
                 go_wp2_with (first | ((with_reducible refine gate_callee (f := 95) rfl ?_); refine goesL_ (some 91) rfl rfl Tryd.func95 (by kernel_rfl) rfl #[.string a0, .int .i64 (wrap64 (a1 + 8)), .int .i64 4] rfl (by (try simp only [List.map_toArray, List.map_cons, List.map_nil]); first | done | rfl | (simp only [List.length_drop, List.length_take]; rfl)) ?_; (with_reducible refine (dragomanref5_code.calls kj29 a0 (wrap64 (a1 + 8)) 4 t278 _ A45.out).mono ?_); rintro e w' ⟨rfl, ⟨nd, rfl⟩⟩; refine ⟨_, rfl, ?_⟩) | ((with_reducible refine gate_callee (f := 27) rfl ?_); refine goesL_ (some 105) rfl rfl Tryd.func27 (by kernel_rfl) rfl #[.int .i64 (wrap64 ((wrap64 ((wrap64 (65536 + (wrap64 ((wrap64 (t275 - 55296)) * 1024)))) + t278)) - 56320))] rfl (by (try simp only [List.map_toArray, List.map_cons, List.map_nil]); first | done | rfl | (simp only [List.length_drop, List.length_take]; rfl)) ?_; (with_reducible refine (dragomanref1_Put.calls (wrap64 ((wrap64 ((wrap64 (65536 + (wrap64 ((wrap64 (t275 - 55296)) * 1024)))) + t278)) - 56320)) t279 _ A48.out).mono ?_); rintro e w49 ⟨rfl, hb⟩; refine ⟨_, rfl, ?_⟩; have n0_ := Aside0.mk (below_step (by repeat (first | (with_reducible first | exact HB.out | apply below_alloc | apply pw_below_drewN | apply below_drew1) | exact HB.out)) hb); clear HB; have HB := n0_; clear n0_; (try clear hb); (try clear hb2); (try clear hk); (try clear hi)))
                 go_ret2
                 exact ⟨by first | rfl | (simp only [bne, Bool.not_not]; done) | (rw [pxdragomanref5escape_empty]; done) | (simp; exact pxdragomanref5escape_empty _) | (simp [errW_none, errW_some] <;> rfl) | (simp [*, errW_none, errW_some, bne]; done) | (simp only [← hji5]; first | rfl | (simp [errW_none, errW_some] <;> rfl)) | (simp [*, errW_none, errW_some] <;> rfl), by repeat (first | (with_reducible first | exact HB.out | apply below_alloc | apply pw_below_drewN | apply below_drew1) | exact HB.out)⟩
                ·rw [if_neg c47] at H
                 have c47b0 : decide (t278 < 57344) = false := decide_eq_false c47
                 clear c47
                 simp only [Option.some.injEq, Prod.mk.injEq] at H
                 obtain ⟨rfl, rfl⟩ := H
                 go_wp2_with (first | ((with_reducible refine gate_callee (f := 95) rfl ?_); refine goesL_ (some 91) rfl rfl Tryd.func95 (by kernel_rfl) rfl #[.string a0, .int .i64 (wrap64 (a1 + 8)), .int .i64 4] rfl (by (try simp only [List.map_toArray, List.map_cons, List.map_nil]); first | done | rfl | (simp only [List.length_drop, List.length_take]; rfl)) ?_; (with_reducible refine (dragomanref5_code.calls kj29 a0 (wrap64 (a1 + 8)) 4 t278 _ A45.out).mono ?_); rintro e w' ⟨rfl, ⟨nd, rfl⟩⟩; refine ⟨_, rfl, ?_⟩))
                 go_ret2
                 exact ⟨by first | rfl | (simp only [bne, Bool.not_not]; done) | (rw [pxdragomanref5escape_empty]; done) | (simp; exact pxdragomanref5escape_empty _) | (simp [errW_none, errW_some] <;> rfl) | (simp [*, errW_none, errW_some, bne]; done) | (simp only [← hji5]; first | rfl | (simp [errW_none, errW_some] <;> rfl)) | (simp [*, errW_none, errW_some] <;> rfl), by repeat (first | (with_reducible first | exact HB.out | apply below_alloc | apply pw_below_drewN | apply below_drew1) | exact HB.out)⟩
               ·rw [if_neg c46] at H
                have c46b0 : decide (56320 ≤ t278) = false := decide_eq_false c46
                clear c46
                simp only [Option.some.injEq, Prod.mk.injEq] at H
                obtain ⟨rfl, rfl⟩ := H
                go_wp2_with (first | ((with_reducible refine gate_callee (f := 95) rfl ?_); refine goesL_ (some 91) rfl rfl Tryd.func95 (by kernel_rfl) rfl #[.string a0, .int .i64 (wrap64 (a1 + 8)), .int .i64 4] rfl (by (try simp only [List.map_toArray, List.map_cons, List.map_nil]); first | done | rfl | (simp only [List.length_drop, List.length_take]; rfl)) ?_; (with_reducible refine (dragomanref5_code.calls kj29 a0 (wrap64 (a1 + 8)) 4 t278 _ A45.out).mono ?_); rintro e w' ⟨rfl, ⟨nd, rfl⟩⟩; refine ⟨_, rfl, ?_⟩))
                go_ret2
                exact ⟨by first | rfl | (simp only [bne, Bool.not_not]; done) | (rw [pxdragomanref5escape_empty]; done) | (simp; exact pxdragomanref5escape_empty _) | (simp [errW_none, errW_some] <;> rfl) | (simp [*, errW_none, errW_some, bne]; done) | (simp only [← hji5]; first | rfl | (simp [errW_none, errW_some] <;> rfl)) | (simp [*, errW_none, errW_some] <;> rfl), by repeat (first | (with_reducible first | exact HB.out | apply below_alloc | apply pw_below_drewN | apply below_drew1) | exact HB.out)⟩
              ·replace c44 := Bool.eq_false_iff.mpr c44
               subst c44
               have H1 : (some ((⟨#[]⟩ : ByteArray), 0)) = some (r1, r2) := by rw [if_neg (show ¬ (false = true) by decide)] at H; exact H
               clear H
               have H := H1
               clear H1
               simp only [Option.some.injEq, Prod.mk.injEq] at H
               obtain ⟨rfl, rfl⟩ := H
               go_wp2
               go_ret2
               exact ⟨by first | rfl | (simp only [bne, Bool.not_not]; done) | (rw [pxdragomanref5escape_empty]; done) | (simp; exact pxdragomanref5escape_empty _) | (simp [errW_none, errW_some] <;> rfl) | (simp [*, errW_none, errW_some, bne]; done) | (simp only [← hji5]; first | rfl | (simp [errW_none, errW_some] <;> rfl)) | (simp [*, errW_none, errW_some] <;> rfl), by repeat (first | (with_reducible first | exact HB.out | apply below_alloc | apply pw_below_drewN | apply below_drew1) | exact HB.out)⟩
   ·rw [if_neg c7] at H
    exact absurd H (by simp)
  ·rw [if_neg c6] at H
   exact absurd H (by simp)
end Go.Proofs.YtoanbmggffkmgaaDoor.P
end
section
namespace Go.Proofs.YtoanbmggffkmgaaDoor.P
open Go.RowKit Go.Proofs.YtoanbmggffkmgaaDoorW.PrintWords Go.Proofs.YtoanbmggffkmgaaDoorW.PrintLast Go.Proofs.YtoanbmggffkmgaaDoorW.PrintMore
attribute [local go_sem] max2_int min2_int max_two min_two max_three min_three max_four min_four   -- for this text's walks alone
attribute [-simp] ByteArray.size_extract
theorem pxdragomanref5unquote_empty (l : List UInt8) : l.isEmpty = !(l != []) := by cases l <;> rfl
set_option linter.unusedVariables false
set_option linter.unusedSimpArgs false
/-! ### dragomanref5_Unquote: function 50 -/
mutual
def dragomanref5_Unquote.j0 : Nat → ByteArray → Int → Bool → Option (ByteArray × Int × Int)
 | 0, _, _, _ => none
 | k + 1, x0, x1, x26 => if x26 = true then ((dragomanref5_place.f x0 x1).bind fun t280 => (some ((⟨#[]⟩ : ByteArray), 0, t280))) else (dragomanref5_Unquote.l0 k x0 (⟨#[]⟩ : ByteArray) (wrap64 (x1 + 1)))
def dragomanref5_Unquote.l0 : Nat → ByteArray → ByteArray → Int → Option (ByteArray × Int × Int)
 | 0, _, _, _ => none
 | k + 1, x0, x7, x8 => if x8 < (x0.size : Int) then (if 0 ≤ x8 then (dragomanref5_Unquote.j2 k x0 x7 x8 ((bt x0 x8) != 34)) else (none)) else (dragomanref5_Unquote.j2 k x0 x7 x8 false)
def dragomanref5_Unquote.j2 : Nat → ByteArray → ByteArray → Int → Bool → Option (ByteArray × Int × Int)
 | 0, _, _, _, _ => none
 | k + 1, x0, x7, x8, x41 => if x41 = true then (if 0 ≤ x8 then (if x8 < (x0.size : Int) then (if (bt x0 x8) = 92 then ((dragomanref5_escape.f k x0 x8 false).bind fun bt281 => (if bt281.2 = 0 then (some ((⟨#[]⟩ : ByteArray), 0, x8)) else (if x7.size + bt281.1.size ≤ 9223372036854775807 then (dragomanref5_Unquote.l0 k x0 (x7 ++ bt281.1) (wrap64 (x8 + bt281.2))) else (none)))) else (if x8 ≤ (x0.size : Int) then ((dragomanref1_Take.f k (x0.extract (x8 : Int).toNat x0.size)).bind fun bt283 => (if bt283.2 = 0 then (some ((⟨#[]⟩ : ByteArray), 0, x8)) else (if (bt x0 x8) < 32 then (some ((⟨#[]⟩ : ByteArray), 0, x8)) else (if x8 ≤ (wrap64 (x8 + bt283.2)) then (if (wrap64 (x8 + bt283.2)) ≤ (x0.size : Int) then (if x7.size + (x0.extract (x8 : Int).toNat ((wrap64 (x8 + bt283.2)) : Int).toNat).size ≤ 9223372036854775807 then (dragomanref5_Unquote.l0 k x0 (x7 ++ (x0.extract (x8 : Int).toNat ((wrap64 (x8 + bt283.2)) : Int).toNat)) (wrap64 (x8 + bt283.2))) else (none)) else (none)) else (none))))) else (none))) else (none)) else (none)) else (if x8 ≥ (x0.size : Int) then (some ((⟨#[]⟩ : ByteArray), 0, (x0.size : Int))) else (some (x7, wrap64 (x8 + 1), (-1))))
end
def dragomanref5_Unquote.f (k : Nat) (a0 : ByteArray) (a1 : Int) : Option (ByteArray × Int × Int) := if a1 < 0 then (dragomanref5_Unquote.j0 k a0 a1 true) else (if a1 ≥ (a0.size : Int) then (dragomanref5_Unquote.j0 k a0 a1 true) else (if 0 ≤ a1 then (if a1 < (a0.size : Int) then (dragomanref5_Unquote.j0 k a0 a1 ((bt a0 a1) != 34)) else (none)) else (none)))
set_option maxHeartbeats 8000000 in
set_option maxRecDepth 100000 in
theorem dragomanref5_Unquote.calls (k : Nat) (a0 : ByteArray) (a1 : Int) (r1 : ByteArray) (r2 : Int) (r3 : Int) (w : World) (h : dragomanref5_Unquote.f k a0 a1 = some (r1, r2, r3)) :
  Calls Tryd.prog 50 #[.string a0, .int .i64 a1] w fun e w' => e = .returned (.tuple #[.string r1, .int .i64 r2, .int .i64 r3]) ∧ Below w.heap.size w w' := by
 have HB := Aside0.mk (Below.refl w.heap.size w)
 have H : (if a1 < 0 then (dragomanref5_Unquote.j0 k a0 a1 true) else (if a1 ≥ (a0.size : Int) then (dragomanref5_Unquote.j0 k a0 a1 true) else (if 0 ≤ a1 then (if a1 < (a0.size : Int) then (dragomanref5_Unquote.j0 k a0 a1 ((bt a0 a1) != 34)) else (none)) else (none)))) = some (r1, r2, r3) := h
 clear h
 have HC3 := Aside0.mk H
 clear H
 go_enter Tryd.func50, Tryd.ntmps50
 go_upto_region 1 with (fail)
 go_cut [26] (fun v26 wc => ∃ (kq : Nat) (x26_2 : Bool), v26 = .bool x26_2 ∧ Aside0 (dragomanref5_Unquote.j0 kq a0 a1 x26_2 = some (r1, r2, r3)) ∧ Aside0 (kq ≤ k) ∧ Aside0 (Below w.heap.size w wc))
 case first =>
  have H := HC3.out
  clear HC3
  by_cases c4 : a1 < 0
  ·rw [if_pos c4] at H
   have c4b0 : decide (a1 < 0) = true := decide_eq_true c4
   clear c4
   (first | rw [c4b0] | (simp only [i64_w, i32_w]; rw [c4b0]) | skip)
   have H' := Aside0.mk H
   clear H
   go_wp2
   go_meet
   case rel => exact ⟨_, (true), (by first | rfl | (simp; done) | (simp [*]; done)), H', ⟨by first | omega | exact Nat.le_refl _⟩, ⟨by repeat (first | (with_reducible first | exact HB.out | apply below_alloc | apply pw_below_drewN | apply below_drew1) | exact HB.out)⟩⟩
  ·rw [if_neg c4] at H
   have c4b0 : decide (a1 < 0) = false := decide_eq_false c4
   clear c4
   (first | rw [c4b0] | (simp only [i64_w, i32_w]; rw [c4b0]) | skip)
   by_cases c5 : a1 ≥ (a0.size : Int)
   ·rw [if_pos c5] at H
    have c5b0 : decide ((a0.size : Int) ≤ a1) = true := decide_eq_true c5
    clear c5
    have H' := Aside0.mk H
    clear H
    go_wp2
    go_meet
    case rel => exact ⟨_, (true), (by first | rfl | (simp; done) | (simp [*]; done)), H', ⟨by first | omega | exact Nat.le_refl _⟩, ⟨by repeat (first | (with_reducible first | exact HB.out | apply below_alloc | apply pw_below_drewN | apply below_drew1) | exact HB.out)⟩⟩
   ·rw [if_neg c5] at H
    have c5b0 : decide ((a0.size : Int) ≤ a1) = false := decide_eq_false c5
    clear c5
    by_cases c6 : 0 ≤ a1
    ·rw [if_pos c6] at H
     have c6b0 : decide (0 ≤ a1) = true := decide_eq_true c6
     clear c6
     by_cases c7 : a1 < (a0.size : Int)
     ·rw [if_pos c7] at H
      have c7b0 : decide (a1 < (a0.size : Int)) = true := decide_eq_true c7
      clear c7
      have H' := Aside0.mk H
      clear H
      have p8 : 0 ≤ (a1 : Int) := of_decide_eq_true (by first | (with_reducible assumption) | assumption)
      have q8 : a1 < (a0.size : Int) := of_decide_eq_true (by first | (with_reducible assumption) | assumption)
      have hx8 := bt_at a0 a1
      replace p8 := eq_true p8
      replace q8 := eq_true q8
      go_wp2
      go_meet
      case rel => exact ⟨_, (((bt a0 a1) != 34)), (by first | rfl | (simp; done) | (simp [*]; done)), H', ⟨by first | omega | exact Nat.le_refl _⟩, ⟨by repeat (first | (with_reducible first | exact HB.out | apply below_alloc | apply pw_below_drewN | apply below_drew1) | exact HB.out)⟩⟩
     ·rw [if_neg c7] at H
      exact absurd H (by simp)
    ·rw [if_neg c6] at H
     exact absurd H (by simp)
 case rest =>
  clear HC3
  try clear p2
  try clear c4
  try clear c4b0
  try clear c5
  try clear c5b0
  try clear c6
  try clear c6b0
  try clear c7
  try clear c7b0
  try clear p8
  try clear q8
  try clear hx8
  try clear p8
  try clear q8
  obtain ⟨kq, x26_2, rfl, HA, HJ2, HB⟩ := hcut
  cases kq with
  | zero => exact absurd HA.out (by simp [dragomanref5_Unquote.j0])
  | succ kj2 =>
   have H := HA.out
   clear HA
   simp only [dragomanref5_Unquote.j0] at H
   by_cases c9 : x26_2 = true
   ·subst c9
    have H1 : ((dragomanref5_place.f a0 a1).bind fun t280 => (some ((⟨#[]⟩ : ByteArray), 0, t280))) = some (r1, r2, r3) := by rw [if_pos rfl] at H; exact H
    clear H
    have H := H1
    clear H1
    replace H := Option.bind_eq_some_iff.mp H
    obtain ⟨t280, A100, H⟩ := H
    replace H : (some ((⟨#[]⟩ : ByteArray), 0, t280)) = some (r1, r2, r3) := H
    have A10 := Aside0.mk A100
    clear A100
    simp only [Option.some.injEq, Prod.mk.injEq] at H
    obtain ⟨rfl, rfl, rfl⟩ := H
    go_wp2_with (first | ((with_reducible refine gate_callee (f := 74) rfl ?_); refine goesL_ (some 29) rfl rfl Tryd.func74 (by kernel_rfl) rfl #[.string a0, .int .i64 a1] rfl (by (try simp only [List.map_toArray, List.map_cons, List.map_nil]); first | done | rfl | (simp only [List.length_drop, List.length_take]; rfl)) ?_; (with_reducible refine (dragomanref5_place.calls a0 a1 t280 _ A10.out).mono ?_); rintro e w' ⟨rfl, ⟨nd, rfl⟩⟩; refine ⟨_, rfl, ?_⟩))
    go_ret3
    exact ⟨by first | rfl | (simp only [bne, Bool.not_not]; done) | (rw [pxdragomanref5unquote_empty]; done) | (simp; exact pxdragomanref5unquote_empty _) | (simp [errW_none, errW_some] <;> rfl) | (simp [*, errW_none, errW_some, bne]; done) | (simp [*, errW_none, errW_some] <;> rfl), by repeat (first | (with_reducible first | exact HB.out | apply below_alloc | apply pw_below_drewN | apply below_drew1) | exact HB.out)⟩
   ·replace c9 := Bool.eq_false_iff.mpr c9
    subst c9
    have H1 : (dragomanref5_Unquote.l0 kj2 a0 (⟨#[]⟩ : ByteArray) (wrap64 (a1 + 1))) = some (r1, r2, r3) := by rw [if_neg (show ¬ (false = true) by decide)] at H; exact H
    clear H
    have H := H1
    clear H1
    have H' := Aside0.mk H
    clear H
    go_wp2
    go_loopg [7, 8] kj2 (fun kq v7 v8 w' => ∃ (x7_2 : ByteArray) (x8_2 : Int), v7 = .string x7_2 ∧ v8 = .int .i64 x8_2 ∧ Aside0 (dragomanref5_Unquote.l0 kq a0 x7_2 x8_2 = some (r1, r2, r3)) ∧ Aside0 (kq ≤ kj2) ∧ Aside0 (Below w.heap.size w w'))
    case atStart => exact ⟨((⟨#[]⟩ : ByteArray)), (wrap64 (a1 + 1)), (by first | rfl | (simp; done) | (simp [*]; done)), (by first | rfl | (simp; done) | (simp [*]; done)), H', ⟨Nat.le_refl _⟩, ⟨by repeat (first | (with_reducible first | exact HB.out | apply below_alloc | apply pw_below_drewN | apply below_drew1) | exact HB.out)⟩⟩
    case round =>
     clear H'
     try clear p2
     try clear c4
     try clear c4b0
     try clear c5
     try clear c5b0
     try clear c6
     try clear c6b0
     try clear p6
     try clear c7
     try clear c7b0
     try clear p8
     try clear q8
     try clear hx8
     try clear c9
     try clear p2
     try clear p8
     try clear q8
     obtain ⟨x7_2, x8_2, rfl, rfl, HA, HK2, HB⟩ := hrel
     cases gk with
     | zero => exact absurd HA.out (by simp [dragomanref5_Unquote.l0])
     | succ k2 =>
      have H := HA.out
      clear HA
      simp only [dragomanref5_Unquote.l0] at H
      have HC11 := Aside0.mk H
      clear H
      go_upto_region 5 with (fail)
      go_cut [41] (fun v41 wc => ∃ (kq : Nat) (x41_10 : Bool), v41 = .bool x41_10 ∧ Aside0 (dragomanref5_Unquote.j2 kq a0 x7_2 x8_2 x41_10 = some (r1, r2, r3)) ∧ Aside0 (kq ≤ k2) ∧ Aside0 (Below w.heap.size w wc))
      case first =>
       have H := HC11.out
       clear HC11
       by_cases c12 : x8_2 < (a0.size : Int)
       ·rw [if_pos c12] at H
        have c12b0 : decide (x8_2 < (a0.size : Int)) = true := decide_eq_true c12
        clear c12
        (first | rw [c12b0] | (simp only [i64_w, i32_w]; rw [c12b0]) | skip)
        by_cases c13 : 0 ≤ x8_2
        ·rw [if_pos c13] at H
         have c13b0 : decide (0 ≤ x8_2) = true := decide_eq_true c13
         clear c13
         have H' := Aside0.mk H
         clear H
         have p14 : 0 ≤ (x8_2 : Int) := of_decide_eq_true (by first | (with_reducible assumption) | assumption)
         have q14 : x8_2 < (a0.size : Int) := of_decide_eq_true (by first | (with_reducible assumption) | assumption)
         have hx14 := bt_at a0 x8_2
         replace p14 := eq_true p14
         replace q14 := eq_true q14
         go_wp2
         go_meet
         case rel => exact ⟨_, (((bt a0 x8_2) != 34)), (by first | rfl | (simp; done) | (simp [*]; done)), H', ⟨by have := HJ2.out; have := HK2.out; first | omega | exact Nat.le_refl _⟩, ⟨by repeat (first | (with_reducible first | exact HB.out | apply below_alloc | apply pw_below_drewN | apply below_drew1) | exact HB.out)⟩⟩
        ·rw [if_neg c13] at H
         exact absurd H (by simp)
       ·rw [if_neg c12] at H
        have c12b0 : decide (x8_2 < (a0.size : Int)) = false := decide_eq_false c12
        clear c12
        (first | rw [c12b0] | (simp only [i64_w, i32_w]; rw [c12b0]) | skip)
        have H' := Aside0.mk H
        clear H
        go_wp2
        go_meet
        case rel => exact ⟨_, (false), (by first | rfl | (simp; done) | (simp [*]; done)), H', ⟨by have := HJ2.out; have := HK2.out; first | omega | exact Nat.le_refl _⟩, ⟨by repeat (first | (with_reducible first | exact HB.out | apply below_alloc | apply pw_below_drewN | apply below_drew1) | exact HB.out)⟩⟩
      case rest =>
       clear HC11
       try clear c1
       try clear p1
       try clear q1
       try clear hx1
       try clear p2
       try clear c4
       try clear c4b0
       try clear c5
       try clear c5b0
       try clear c6
       try clear c6b0
       try clear p6
       try clear c7
       try clear c7b0
       try clear p8
       try clear q8
       try clear hx8
       try clear c9
       try clear c12
       try clear c12b0
       try clear c13
       try clear c13b0
       try clear p14
       try clear q14
       try clear hx14
       try clear p14
       try clear p2
       try clear p6
       try clear p8
       try clear q14
       try clear q8
       obtain ⟨kq, x41_10, rfl, HA, HJ10, HB⟩ := hcut
       cases kq with
       | zero => exact absurd HA.out (by simp [dragomanref5_Unquote.j2])
       | succ kj10 =>
        have H := HA.out
        clear HA
        simp only [dragomanref5_Unquote.j2] at H
        by_cases c15 : x41_10 = true
        ·subst c15
         have H1 : (if 0 ≤ x8_2 then (if x8_2 < (a0.size : Int) then (if (bt a0 x8_2) = 92 then ((dragomanref5_escape.f kj10 a0 x8_2 false).bind fun bt281 => (if bt281.2 = 0 then (some ((⟨#[]⟩ : ByteArray), 0, x8_2)) else (if x7_2.size + bt281.1.size ≤ 9223372036854775807 then (dragomanref5_Unquote.l0 kj10 a0 (x7_2 ++ bt281.1) (wrap64 (x8_2 + bt281.2))) else (none)))) else (if x8_2 ≤ (a0.size : Int) then ((dragomanref1_Take.f kj10 (a0.extract (x8_2 : Int).toNat a0.size)).bind fun bt283 => (if bt283.2 = 0 then (some ((⟨#[]⟩ : ByteArray), 0, x8_2)) else (if (bt a0 x8_2) < 32 then (some ((⟨#[]⟩ : ByteArray), 0, x8_2)) else (if x8_2 ≤ (wrap64 (x8_2 + bt283.2)) then (if (wrap64 (x8_2 + bt283.2)) ≤ (a0.size : Int) then (if x7_2.size + (a0.extract (x8_2 : Int).toNat ((wrap64 (x8_2 + bt283.2)) : Int).toNat).size ≤ 9223372036854775807 then (dragomanref5_Unquote.l0 kj10 a0 (x7_2 ++ (a0.extract (x8_2 : Int).toNat ((wrap64 (x8_2 + bt283.2)) : Int).toNat)) (wrap64 (x8_2 + bt283.2))) else (none)) else (none)) else (none))))) else (none))) else (none)) else (none)) = some (r1, r2, r3) := by rw [if_pos rfl] at H; exact H
         clear H
         have H := H1
         clear H1
         by_cases c16 : 0 ≤ x8_2
         ·rw [if_pos c16] at H
          have c16b0 : decide (0 ≤ x8_2) = true := decide_eq_true c16
          clear c16
          by_cases c17 : x8_2 < (a0.size : Int)
          ·rw [if_pos c17] at H
           have c17b0 : decide (x8_2 < (a0.size : Int)) = true := decide_eq_true c17
           clear c17
           by_cases c19 : (bt a0 x8_2) = 92
           ·rw [if_pos c19] at H
            have c19b0 : ((bt a0 x8_2) == 92) = true := beq_iff_eq.mpr c19
            have c19b1 : ((bt a0 x8_2) != 92) = false := bne_eq_false_iff_eq.mpr c19
            clear c19
            replace H := Option.bind_eq_some_iff.mp H
            obtain ⟨⟨t281, t282⟩, A200, H⟩ := H
            replace H : (if t282 = 0 then (some ((⟨#[]⟩ : ByteArray), 0, x8_2)) else (if x7_2.size + t281.size ≤ 9223372036854775807 then (dragomanref5_Unquote.l0 kj10 a0 (x7_2 ++ t281) (wrap64 (x8_2 + t282))) else (none))) = some (r1, r2, r3) := H
            have A20 := Aside0.mk A200
            clear A200
            by_cases c21 : t282 = 0
            ·rw [if_pos c21] at H
             have c21b0 : (t282 == 0) = true := beq_iff_eq.mpr c21
             have c21b1 : (t282 != 0) = false := bne_eq_false_iff_eq.mpr c21
             clear c21
             simp only [Option.some.injEq, Prod.mk.injEq] at H
             obtain ⟨rfl, rfl, rfl⟩ := H
             have p18 : 0 ≤ (x8_2 : Int) := of_decide_eq_true (by first | (with_reducible assumption) | assumption)
             have q18 : x8_2 < (a0.size : Int) := of_decide_eq_true (by first | (with_reducible assumption) | assumption)
             have hx18 := bt_at a0 x8_2
             replace p18 := eq_true p18
             replace q18 := eq_true q18
             go_wp2_with (first | ((with_reducible refine gate_callee (f := 75) rfl ?_); refine goesL_ (some 49) rfl rfl Tryd.func75 (by kernel_rfl) rfl #[.string a0, .int .i64 x8_2, .bool false] rfl (by (try simp only [List.map_toArray, List.map_cons, List.map_nil]); first | done | rfl | (simp only [List.length_drop, List.length_take]; rfl)) ?_; (with_reducible refine (dragomanref5_escape.calls kj10 a0 x8_2 false t281 t282 _ A20.out).mono ?_); rintro e w22 ⟨rfl, hb⟩; refine ⟨_, rfl, ?_⟩; have n0_ := Aside0.mk (below_step (by repeat (first | (with_reducible first | exact HB.out | apply below_alloc | apply pw_below_drewN | apply below_drew1) | exact HB.out)) hb); clear HB; have HB := n0_; clear n0_; (try clear hb); (try clear hb2); (try clear hk); (try clear hi)))
             go_ret3
             exact ⟨by first | rfl | (simp only [bne, Bool.not_not]; done) | (rw [pxdragomanref5unquote_empty]; done) | (simp; exact pxdragomanref5unquote_empty _) | (simp [errW_none, errW_some] <;> rfl) | (simp [*, errW_none, errW_some, bne]; done) | (simp [*, errW_none, errW_some] <;> rfl), by repeat (first | (with_reducible first | exact HB.out | apply below_alloc | apply pw_below_drewN | apply below_drew1) | exact HB.out)⟩
            ·rw [if_neg c21] at H
             have c21b0 : (t282 == 0) = false := beq_eq_false_iff_ne.mpr c21
             have c21b1 : (t282 != 0) = true := bne_iff_ne.mpr c21
             by_cases c23 : x7_2.size + t281.size ≤ 9223372036854775807
             ·rw [if_pos c23] at H
              have c23b0 := eq_true c23
              have c23b1 : decide (x7_2.size + t281.size ≤ 9223372036854775807) = true := decide_eq_true c23
              try have c23b2 : (9223372036854775807 < x7_2.size + t281.size) = False := eq_false (Nat.not_lt.2 c23)
              have H' := Aside0.mk H
              clear H
              have p18 : 0 ≤ (x8_2 : Int) := of_decide_eq_true (by first | (with_reducible assumption) | assumption)
              have q18 : x8_2 < (a0.size : Int) := of_decide_eq_true (by first | (with_reducible assumption) | assumption)
              have hx18 := bt_at a0 x8_2
              replace p18 := eq_true p18
              replace q18 := eq_true q18
              go_wp2_with (first | ((with_reducible refine gate_callee (f := 75) rfl ?_); refine goesL_ (some 49) rfl rfl Tryd.func75 (by kernel_rfl) rfl #[.string a0, .int .i64 x8_2, .bool false] rfl (by (try simp only [List.map_toArray, List.map_cons, List.map_nil]); first | done | rfl | (simp only [List.length_drop, List.length_take]; rfl)) ?_; (with_reducible refine (dragomanref5_escape.calls kj10 a0 x8_2 false t281 t282 _ A20.out).mono ?_); rintro e w24 ⟨rfl, hb⟩; refine ⟨_, rfl, ?_⟩; have n0_ := Aside0.mk (below_step (by repeat (first | (with_reducible first | exact HB.out | apply below_alloc | apply pw_below_drewN | apply below_drew1) | exact HB.out)) hb); clear HB; have HB := n0_; clear n0_; (try clear hb); (try clear hb2); (try clear hk); (try clear hi)))
              go_roundg kj10
              case measure => have := HJ2.out; have := HK2.out; have := HJ10.out; omega
              case rel => exact ⟨(x7_2 ++ t281), (wrap64 (x8_2 + t282)), (by first | rfl | (simp; done) | (simp [*]; done)), (by first | rfl | (simp; done) | (simp [*]; done)), H', ⟨by have := HJ2.out; have := HK2.out; have := HJ10.out; omega⟩, ⟨by repeat (first | (with_reducible first | exact HB.out | apply below_alloc | apply pw_below_drewN | apply below_drew1) | exact HB.out)⟩⟩
             ·rw [if_neg c23] at H
              exact absurd H (by simp)
           ·rw [if_neg c19] at H
            have c19b0 : ((bt a0 x8_2) == 92) = false := beq_eq_false_iff_ne.mpr c19
            have c19b1 : ((bt a0 x8_2) != 92) = true := bne_iff_ne.mpr c19
            have c25b0 := eq_true (of_decide_eq_true (by first | (with_reducible assumption) | assumption) : 0 ≤ x8_2)
            by_cases c26 : x8_2 ≤ (a0.size : Int)
            ·rw [if_pos c26] at H
             have c26b0 := eq_true c26
             have c26b1 : decide (x8_2 ≤ (a0.size : Int)) = true := decide_eq_true c26
             clear c26
             replace H := Option.bind_eq_some_iff.mp H
             obtain ⟨⟨t283, t284⟩, A270, H⟩ := H
             replace H : (if t284 = 0 then (some ((⟨#[]⟩ : ByteArray), 0, x8_2)) else (if (bt a0 x8_2) < 32 then (some ((⟨#[]⟩ : ByteArray), 0, x8_2)) else (if x8_2 ≤ (wrap64 (x8_2 + t284)) then (if (wrap64 (x8_2 + t284)) ≤ (a0.size : Int) then (if x7_2.size + (a0.extract (x8_2 : Int).toNat ((wrap64 (x8_2 + t284)) : Int).toNat).size ≤ 9223372036854775807 then (dragomanref5_Unquote.l0 kj10 a0 (x7_2 ++ (a0.extract (x8_2 : Int).toNat ((wrap64 (x8_2 + t284)) : Int).toNat)) (wrap64 (x8_2 + t284))) else (none)) else (none)) else (none)))) = some (r1, r2, r3) := H
             have A27 := Aside0.mk A270
             clear A270
             by_cases c28 : t284 = 0
             ·rw [if_pos c28] at H
              have c28b0 : (t284 == 0) = true := beq_iff_eq.mpr c28
              have c28b1 : (t284 != 0) = false := bne_eq_false_iff_eq.mpr c28
              clear c28
              simp only [Option.some.injEq, Prod.mk.injEq] at H
              obtain ⟨rfl, rfl, rfl⟩ := H
              have p18 : 0 ≤ (x8_2 : Int) := of_decide_eq_true (by first | (with_reducible assumption) | assumption)
              have q18 : x8_2 < (a0.size : Int) := of_decide_eq_true (by first | (with_reducible assumption) | assumption)
              have hx18 := bt_at a0 x8_2
              replace p18 := eq_true p18
              replace q18 := eq_true q18
              go_wp2_with (first | ((with_reducible refine gate_callee (f := 47) rfl ?_); refine goesL_ (some 65) rfl rfl Tryd.func47 (by kernel_rfl) rfl #[.string (a0.extract (x8_2 : Int).toNat a0.size)] rfl (by (try simp only [List.map_toArray, List.map_cons, List.map_nil]); first | done | rfl | (simp only [List.length_drop, List.length_take]; rfl)) ?_; (with_reducible refine (dragomanref1_Take.calls kj10 (a0.extract (x8_2 : Int).toNat a0.size) t283 t284 _ A27.out).mono ?_); rintro e w29 ⟨rfl, hb⟩; refine ⟨_, rfl, ?_⟩; have n0_ := Aside0.mk (below_step (by repeat (first | (with_reducible first | exact HB.out | apply below_alloc | apply pw_below_drewN | apply below_drew1) | exact HB.out)) hb); clear HB; have HB := n0_; clear n0_; (try clear hb); (try clear hb2); (try clear hk); (try clear hi)))
              go_ret3
              exact ⟨by first | rfl | (simp only [bne, Bool.not_not]; done) | (rw [pxdragomanref5unquote_empty]; done) | (simp; exact pxdragomanref5unquote_empty _) | (simp [errW_none, errW_some] <;> rfl) | (simp [*, errW_none, errW_some, bne]; done) | (simp [*, errW_none, errW_some] <;> rfl), by repeat (first | (with_reducible first | exact HB.out | apply below_alloc | apply pw_below_drewN | apply below_drew1) | exact HB.out)⟩
             ·rw [if_neg c28] at H
              have c28b0 : (t284 == 0) = false := beq_eq_false_iff_ne.mpr c28
              have c28b1 : (t284 != 0) = true := bne_iff_ne.mpr c28
              by_cases c31 : (bt a0 x8_2) < 32
              ·rw [if_pos c31] at H
               have c31b0 : decide ((bt a0 x8_2) < 32) = true := decide_eq_true c31
               clear c31
               simp only [Option.some.injEq, Prod.mk.injEq] at H
               obtain ⟨rfl, rfl, rfl⟩ := H
               have p18 : 0 ≤ (x8_2 : Int) := of_decide_eq_true (by first | (with_reducible assumption) | assumption)
               have q18 : x8_2 < (a0.size : Int) := of_decide_eq_true (by first | (with_reducible assumption) | assumption)
               have hx18 := bt_at a0 x8_2
               replace p18 := eq_true p18
               replace q18 := eq_true q18
               go_wp2_with (first | ((with_reducible refine gate_callee (f := 47) rfl ?_); refine goesL_ (some 65) rfl rfl Tryd.func47 (by kernel_rfl) rfl #[.string (a0.extract (x8_2 : Int).toNat a0.size)] rfl (by (try simp only [List.map_toArray, List.map_cons, List.map_nil]); first | done | rfl | (simp only [List.length_drop, List.length_take]; rfl)) ?_; (with_reducible refine (dragomanref1_Take.calls kj10 (a0.extract (x8_2 : Int).toNat a0.size) t283 t284 _ A27.out).mono ?_); rintro e w32 ⟨rfl, hb⟩; refine ⟨_, rfl, ?_⟩; have n0_ := Aside0.mk (below_step (by repeat (first | (with_reducible first | exact HB.out | apply below_alloc | apply pw_below_drewN | apply below_drew1) | exact HB.out)) hb); clear HB; have HB := n0_; clear n0_; (try clear hb); (try clear hb2); (try clear hk); (try clear hi); have p30 : 0 ≤ (x8_2 : Int) := of_decide_eq_true (by first | (with_reducible assumption) | assumption); have q30 : x8_2 < (a0.size : Int) := of_decide_eq_true (by first | (with_reducible assumption) | assumption); have hx30 := bt_at a0 x8_2; replace p30 := eq_true p30; replace q30 := eq_true q30))
               go_ret3
               exact ⟨by first | rfl | (simp only [bne, Bool.not_not]; done) | (rw [pxdragomanref5unquote_empty]; done) | (simp; exact pxdragomanref5unquote_empty _) | (simp [errW_none, errW_some] <;> rfl) | (simp [*, errW_none, errW_some, bne]; done) | (simp [*, errW_none, errW_some] <;> rfl), by repeat (first | (with_reducible first | exact HB.out | apply below_alloc | apply pw_below_drewN | apply below_drew1) | exact HB.out)⟩
              ·rw [if_neg c31] at H
               have c31b0 : decide ((bt a0 x8_2) < 32) = false := decide_eq_false c31
               clear c31
               have c33b0 := eq_true (of_decide_eq_true (by first | (with_reducible assumption) | assumption) : 0 ≤ x8_2)
               by_cases c34 : x8_2 ≤ (wrap64 (x8_2 + t284))
               ·rw [if_pos c34] at H
                have c34b0 := eq_true c34
                have c34b1 : decide (x8_2 ≤ (wrap64 (x8_2 + t284))) = true := decide_eq_true c34
                by_cases c35 : (wrap64 (x8_2 + t284)) ≤ (a0.size : Int)
                ·rw [if_pos c35] at H
                 have c35b0 := eq_true c35
                 have c35b1 : decide ((wrap64 (x8_2 + t284)) ≤ (a0.size : Int)) = true := decide_eq_true c35
                 by_cases c36 : x7_2.size + (a0.extract (x8_2 : Int).toNat ((wrap64 (x8_2 + t284)) : Int).toNat).size ≤ 9223372036854775807
                 ·rw [if_pos c36] at H
                  have c36b0 := eq_true c36
                  have c36b1 : decide (x7_2.size + (a0.extract (x8_2 : Int).toNat ((wrap64 (x8_2 + t284)) : Int).toNat).size ≤ 9223372036854775807) = true := decide_eq_true c36
                  try have c36b2 : (9223372036854775807 < x7_2.size + (a0.extract (x8_2 : Int).toNat ((wrap64 (x8_2 + t284)) : Int).toNat).size) = False := eq_false (Nat.not_lt.2 c36)
                  have H' := Aside0.mk H
                  clear H
                  have p18 : 0 ≤ (x8_2 : Int) := of_decide_eq_true (by first | (with_reducible assumption) | assumption)
                  have q18 : x8_2 < (a0.size : Int) := of_decide_eq_true (by first | (with_reducible assumption) | assumption)
                  have hx18 := bt_at a0 x8_2
                  replace p18 := eq_true p18
                  replace q18 := eq_true q18
                  go_wp2_with (first | ((with_reducible refine gate_callee (f := 47) rfl ?_); refine goesL_ (some 65) rfl rfl Tryd.func47 (by kernel_rfl) rfl #[.string (a0.extract (x8_2 : Int).toNat a0.size)] rfl (by (try simp only [List.map_toArray, List.map_cons, List.map_nil]); first | done | rfl | (simp only [List.length_drop, List.length_take]; rfl)) ?_; (with_reducible refine (dragomanref1_Take.calls kj10 (a0.extract (x8_2 : Int).toNat a0.size) t283 t284 _ A27.out).mono ?_); rintro e w37 ⟨rfl, hb⟩; refine ⟨_, rfl, ?_⟩; have n0_ := Aside0.mk (below_step (by repeat (first | (with_reducible first | exact HB.out | apply below_alloc | apply pw_below_drewN | apply below_drew1) | exact HB.out)) hb); clear HB; have HB := n0_; clear n0_; (try clear hb); (try clear hb2); (try clear hk); (try clear hi); have p30 : 0 ≤ (x8_2 : Int) := of_decide_eq_true (by first | (with_reducible assumption) | assumption); have q30 : x8_2 < (a0.size : Int) := of_decide_eq_true (by first | (with_reducible assumption) | assumption); have hx30 := bt_at a0 x8_2; replace p30 := eq_true p30; replace q30 := eq_true q30))
                  go_roundg kj10
                  case measure => have := HJ2.out; have := HK2.out; have := HJ10.out; omega
                  case rel => exact ⟨(x7_2 ++ (a0.extract (x8_2 : Int).toNat ((wrap64 (x8_2 + t284)) : Int).toNat)), (wrap64 (x8_2 + t284)), (by first | rfl | (simp; done) | (simp [*]; done)), (by first | rfl | (simp; done) | (simp [*]; done)), H', ⟨by have := HJ2.out; have := HK2.out; have := HJ10.out; omega⟩, ⟨by repeat (first | (with_reducible first | exact HB.out | apply below_alloc | apply pw_below_drewN | apply below_drew1) | exact HB.out)⟩⟩
                 ·rw [if_neg c36] at H
                  exact absurd H (by simp)
                ·rw [if_neg c35] at H
                 exact absurd H (by simp)
               ·rw [if_neg c34] at H
                exact absurd H (by simp)
            ·rw [if_neg c26] at H
             exact absurd H (by simp)
          ·rw [if_neg c17] at H
           exact absurd H (by simp)
         ·rw [if_neg c16] at H
          exact absurd H (by simp)
        ·replace c15 := Bool.eq_false_iff.mpr c15
         subst c15
         have H1 : (if x8_2 ≥ (a0.size : Int) then (some ((⟨#[]⟩ : ByteArray), 0, (a0.size : Int))) else (some (x7_2, wrap64 (x8_2 + 1), (-1)))) = some (r1, r2, r3) := by rw [if_neg (show ¬ (false = true) by decide)] at H; exact H
         clear H
         have H := H1
         clear H1
         by_cases c38 : x8_2 ≥ (a0.size : Int)
         ·rw [if_pos c38] at H
          have c38b0 : decide ((a0.size : Int) ≤ x8_2) = true := decide_eq_true c38
          clear c38
          simp only [Option.some.injEq, Prod.mk.injEq] at H
          obtain ⟨rfl, rfl, rfl⟩ := H
          go_wp2
          go_ret3
          exact ⟨by first | rfl | (simp only [bne, Bool.not_not]; done) | (rw [pxdragomanref5unquote_empty]; done) | (simp; exact pxdragomanref5unquote_empty _) | (simp [errW_none, errW_some] <;> rfl) | (simp [*, errW_none, errW_some, bne]; done) | (simp [*, errW_none, errW_some] <;> rfl), by repeat (first | (with_reducible first | exact HB.out | apply below_alloc | apply pw_below_drewN | apply below_drew1) | exact HB.out)⟩
         ·rw [if_neg c38] at H
          have c38b0 : decide ((a0.size : Int) ≤ x8_2) = false := decide_eq_false c38
          clear c38
          simp only [Option.some.injEq, Prod.mk.injEq] at H
          obtain ⟨rfl, rfl, rfl⟩ := H
          go_wp2
          go_ret3
          exact ⟨by first | rfl | (simp only [bne, Bool.not_not]; done) | (rw [pxdragomanref5unquote_empty]; done) | (simp; exact pxdragomanref5unquote_empty _) | (simp [errW_none, errW_some] <;> rfl) | (simp [*, errW_none, errW_some, bne]; done) | (simp [*, errW_none, errW_some] <;> rfl), by repeat (first | (with_reducible first | exact HB.out | apply below_alloc | apply pw_below_drewN | apply below_drew1) | exact HB.out)⟩
end Go.Proofs.YtoanbmggffkmgaaDoor.P
end
section
namespace Go.Proofs.YtoanbmggffkmgaaDoor.P
open Go.RowKit Go.Proofs.YtoanbmggffkmgaaDoorW.PrintWords Go.Proofs.YtoanbmggffkmgaaDoorW.PrintLast Go.Proofs.YtoanbmggffkmgaaDoorW.PrintMore
attribute [local go_sem] max2_int min2_int max_two min_two max_three min_three max_four min_four   -- for this text's walks alone
attribute [-simp] ByteArray.size_extract
theorem pxdragomanref8row_empty (l : List UInt8) : l.isEmpty = !(l != []) := by cases l <;> rfl
set_option linter.unusedVariables false
set_option linter.unusedSimpArgs false
/-! ### dragomanref8_row: function 51 -/
def dragomanref8_row.l0 : Nat → ByteArray → Int → ByteArray → Int → Option (Int)
 | 0, _, _, _, _ => none
 | k + 1, x0, x1, x2, x7 => if (wrap64 (x1 + x7)) < (x0.size : Int) then (if 0 ≤ (wrap64 (x1 + x7)) then ((dragomanref8_in.f k (bt x0 (wrap64 (x1 + x7))) x2).bind fun t285 => (if t285 = true then (dragomanref8_row.l0 k x0 x1 x2 (wrap64 (x7 + 1))) else (some x7))) else (none)) else (some x7)
def dragomanref8_row.f (k : Nat) (a0 : ByteArray) (a1 : Int) (a2 : ByteArray) : Option (Int) := dragomanref8_row.l0 k a0 a1 a2 0
set_option maxHeartbeats 8000000 in
set_option maxRecDepth 100000 in
theorem dragomanref8_row.calls (k : Nat) (a0 : ByteArray) (a1 : Int) (a2 : ByteArray) (r : Int) (w : World) (h : dragomanref8_row.f k a0 a1 a2 = some r) :
  Calls Tryd.prog 51 #[.string a0, .int .i64 a1, .string a2] w fun e w' => e = .returned (.int .i64 r) ∧ Drawn0 w w' := by
 have H : (dragomanref8_row.l0 k a0 a1 a2 0) = some r := h
 clear h
 have H' := Aside0.mk H
 clear H
 go_enter Tryd.func51, Tryd.ntmps51
 go_wp2
 go_loopg [7] k (fun kq v7 w' => ∃ (x7_1 : Int), v7 = .int .i64 x7_1 ∧ Aside0 (dragomanref8_row.l0 kq a0 a1 a2 x7_1 = some r) ∧ Aside0 (kq ≤ k) ∧ Drawn0 w w')
 case atStart => exact ⟨(0), (by first | rfl | (simp; done) | (simp [*]; done)), H', ⟨Nat.le_refl _⟩, by repeat (first | exact Drawn0.refl _ | apply Drawn0.step)⟩
 case round =>
  clear H'
  try clear p2
  obtain ⟨x7_1, rfl, HA, HK1, ⟨m1, rfl⟩⟩ := hrel
  cases gk with
  | zero => exact absurd HA.out (by simp [dragomanref8_row.l0])
  | succ k1 =>
   have H := HA.out
   clear HA
   simp only [dragomanref8_row.l0] at H
   by_cases c4 : (wrap64 (a1 + x7_1)) < (a0.size : Int)
   ·rw [if_pos c4] at H
    have c4b0 : decide ((wrap64 (a1 + x7_1)) < (a0.size : Int)) = true := decide_eq_true c4
    clear c4
    obtain ⟨ji5, hji5⟩ : ∃ j_ : Int, (wrap64 (a1 + x7_1)) = j_ := ⟨_, rfl⟩
    replace H : (if 0 ≤ (ji5) then ((dragomanref8_in.f k1 (bt a0 (ji5)) a2).bind fun t285 => (if t285 = true then (dragomanref8_row.l0 k1 a0 a1 a2 (wrap64 (x7_1 + 1))) else (some x7_1))) else (none)) = some r := by first | (rw [hji5] at H; exact H) | (simp only [hji5] at H ⊢; exact H)
    (try rw [hji5] at c4b0)
    have hji5w : (IntKind.i64.wrap (a1 + x7_1)) = ji5 := (i64_w _).trans hji5
    by_cases c6 : 0 ≤ (ji5)
    ·rw [if_pos c6] at H
     have c6b0 : decide (0 ≤ (ji5)) = true := decide_eq_true c6
     clear c6
     replace H := Option.bind_eq_some_iff.mp H
     obtain ⟨t285, A80, H⟩ := H
     replace H : (if t285 = true then (dragomanref8_row.l0 k1 a0 a1 a2 (wrap64 (x7_1 + 1))) else (some x7_1)) = some r := H
     have A8 := Aside0.mk A80
     clear A80
     by_cases c9 : t285 = true
     ·subst c9
      have H1 : (dragomanref8_row.l0 k1 a0 a1 a2 (wrap64 (x7_1 + 1))) = some r := by rw [if_pos rfl] at H; exact H
      clear H
      have H := H1
      clear H1
      have H' := Aside0.mk H
      clear H
      have p7 : 0 ≤ ((ji5) : Int) := of_decide_eq_true (by first | (with_reducible assumption) | assumption)
      have q7 : (ji5) < (a0.size : Int) := of_decide_eq_true (by first | (with_reducible assumption) | assumption)
      have hx7 := bt_at a0 (ji5)
      replace p7 := eq_true p7
      replace q7 := eq_true q7
      go_wp2_with (first | (go_at_call 49; (with_reducible refine (dragomanref8_in.calls k1 (bt a0 (ji5)) a2 true _ A8.out).mono ?_); rintro e w' ⟨rfl, ⟨nd, rfl⟩⟩))
      go_roundg k1
      case measure => have := HK1.out; omega
      case rel => exact ⟨(wrap64 (x7_1 + 1)), (by first | rfl | (simp; done) | (simp [*]; done)), H', ⟨by have := HK1.out; omega⟩, by repeat (first | exact Drawn0.refl _ | apply Drawn0.step)⟩
     ·replace c9 := Bool.eq_false_iff.mpr c9
      subst c9
      have H1 : (some x7_1) = some r := by rw [if_neg (show ¬ (false = true) by decide)] at H; exact H
      clear H
      have H := H1
      clear H1
      obtain rfl := Option.some.inj H
      have p7 : 0 ≤ ((ji5) : Int) := of_decide_eq_true (by first | (with_reducible assumption) | assumption)
      have q7 : (ji5) < (a0.size : Int) := of_decide_eq_true (by first | (with_reducible assumption) | assumption)
      have hx7 := bt_at a0 (ji5)
      replace p7 := eq_true p7
      replace q7 := eq_true q7
      go_wp2_with (first | (go_at_call 49; (with_reducible refine (dragomanref8_in.calls k1 (bt a0 (ji5)) a2 false _ A8.out).mono ?_); rintro e w' ⟨rfl, ⟨nd, rfl⟩⟩))
      go_ret
      exact ⟨by first | rfl | (simp only [bne, Bool.not_not]; done) | (rw [pxdragomanref8row_empty]; done) | (simp; exact pxdragomanref8row_empty _) | (simp; done) | (simp only [← hji5] <;> (first | rfl | simp)) | (simp [*]; done), by repeat (first | exact Drawn0.refl _ | apply Drawn0.step)⟩
    ·rw [if_neg c6] at H
     exact absurd H (by simp)
   ·rw [if_neg c4] at H
    have c4b0 : decide ((wrap64 (a1 + x7_1)) < (a0.size : Int)) = false := decide_eq_false c4
    clear c4
    obtain rfl := Option.some.inj H
    go_wp2
    go_ret
    exact ⟨by first | rfl | (simp only [bne, Bool.not_not]; done) | (rw [pxdragomanref8row_empty]; done) | (simp; exact pxdragomanref8row_empty _) | (simp; done) | (simp [*]; done), by repeat (first | exact Drawn0.refl _ | apply Drawn0.step)⟩
end Go.Proofs.YtoanbmggffkmgaaDoor.P
end
