/- The parts of this claim's proof, in one text: what each Go function answers and that its call comes to it; plain facts of lists of numbers. Conditions as each theorem names them. -/
import Derived.ArgAppend
import Derived.Below
import Derived.BigQuiet
import Derived.Deep.AppendLies
import Derived.Deep.CutBlock
import Derived.Deep.DeepCutAuto
import Derived.Deep.Draws
import Derived.Deep.LoopGhost
import Derived.Deep.OwnRows
import Derived.Deep.QuietTactic
import Derived.Deep.RegionHeld3
import Derived.KernelRfl
import Derived.Laws.BitsLemmas
import Derived.Laws.BytesArg
import Derived.Laws.IdiomCopy
import Derived.Laws.MakeOwn
import Derived.Laws.OwnMore
import Derived.Laws.Rows
import Derived.Laws.Slices
import Derived.Lib.AppendStr
import Derived.Lib.Bytealg
import Derived.Lib.Bytes
import Derived.Lib.ConvBytes
import Derived.Lib.Hide
import Derived.Maps.AppendAt
import Derived.OrdersHeld
import Derived.Outline
import Derived.OwnWalk
import Derived.RowKit
import Derived.RowKit3
import Derived.Shelf.Bits.Mul64
import Derived.Shelf.LaysM
import Derived.Shelf.Small.Strs
import Derived.Shelf.Small.Utf8
import Derived.Shelf.Strings.AsciiSet
import Derived.Shelf.Strings.Builder1
import Derived.Shelf.Strings.Builder2
import Derived.Shelf.Strings.BuilderF
import Derived.Shelf.Strings.Count
import Derived.Shelf.Strings.IndexAny
import Derived.Shelf.Strings.IndexAnyAll
import Derived.Shelf.Strings.Prefix
import Derived.Shelf.Strings.Repeat
import Derived.Shelf.Strings.Runes
import Derived.Shelf.Strings.Search1
import Derived.Shelf.Strings.Search2
import Derived.Shelf.Strings.Search3
import Derived.Shelf.Strings.Shaped
import Derived.Shelf.Strings.SlTrimAscii
import Derived.Shelf.Strings.Trim
import Derived.Shelf.Unicode.DecodeSlow
import Derived.Tactics
import Derived.WalkKit
import Derived.WideLaws
import Derived.Test.YtoanbmggffkmgaaDoorProg
import Derived.Test.YtoanbmggffkmgaaDoorWApart
import Derived.Test.YtoanbmggffkmgaaDoorWArr
import Derived.Test.YtoanbmggffkmgaaDoorWAt
import Derived.Test.YtoanbmggffkmgaaDoorWEqStruct
import Derived.Test.YtoanbmggffkmgaaDoorWFoot
import Derived.Test.YtoanbmggffkmgaaDoorWFootNe
import Derived.Test.YtoanbmggffkmgaaDoorWFour
import Derived.Test.YtoanbmggffkmgaaDoorWGuard
import Derived.Test.YtoanbmggffkmgaaDoorWInv
import Derived.Test.YtoanbmggffkmgaaDoorWInvWords
import Derived.Test.YtoanbmggffkmgaaDoorWKept
import Derived.Test.YtoanbmggffkmgaaDoorWLast
import Derived.Test.YtoanbmggffkmgaaDoorWMake0
import Derived.Test.YtoanbmggffkmgaaDoorWMore
import Derived.Test.YtoanbmggffkmgaaDoorWN
import Derived.Test.YtoanbmggffkmgaaDoorWNEv
import Derived.Test.YtoanbmggffkmgaaDoorWQPut
import Derived.Test.YtoanbmggffkmgaaDoorWRepsOne
import Derived.Test.YtoanbmggffkmgaaDoorWShare
import Derived.Test.YtoanbmggffkmgaaDoorWTab
import Derived.Test.YtoanbmggffkmgaaDoorWWords
import Derived.Test.YtoanbmggffkmgaaDoorWZeros
import Derived.Test.YtoanbmggffkmgaaDoorMJlexNumbers1
import Derived.Test.YtoanbmggffkmgaaDoorMJlexNumbers2
import Derived.Test.YtoanbmggffkmgaaDoorMJlexNumbers3
section
namespace Go.Proofs.YtoanbmggffkmgaaDoor.P
open Go.RowKit Go.Proofs.YtoanbmggffkmgaaDoorW.PrintWords Go.Proofs.YtoanbmggffkmgaaDoorW.PrintLast Go.Proofs.YtoanbmggffkmgaaDoorW.PrintMore
attribute [local go_sem] max2_int min2_int max_two min_two max_three min_three max_four min_four   -- for this text's walks alone
set_option linter.unusedVariables false
set_option linter.unusedSimpArgs false
attribute [local go_sem high] eqA30
/-! ### dragomanlaw7_JlexNumbers: function 4 -/
mutual
def dragomanlaw7_JlexNumbers.j0 : Nat → ByteArray → Bool → Option (Bool)
  | 0, _, _ => none
  | k + 1, x0, x18 => if x18 = true then (some true) else (dragomanlaw7_JlexNumbers.l0 k x0 0)
def dragomanlaw7_JlexNumbers.l0 : Nat → ByteArray → Int → Option (Bool)
  | 0, _, _ => none
  | k + 1, x0, x3 => if x3 < (x0.size : Int) then (if 0 ≤ x3 then (if (bt x0 x3) ≥ 48 then (if (bt x0 x3) ≤ 57 then (dragomanlaw7_JlexNumbers.l0 k x0 (wrap64 (x3 + 1))) else (if (bt x0 x3) = 43 then (dragomanlaw7_JlexNumbers.l0 k x0 (wrap64 (x3 + 1))) else (if (bt x0 x3) = 45 then (dragomanlaw7_JlexNumbers.l0 k x0 (wrap64 (x3 + 1))) else (if (bt x0 x3) = 46 then (dragomanlaw7_JlexNumbers.l0 k x0 (wrap64 (x3 + 1))) else (if (bt x0 x3) = 69 then (dragomanlaw7_JlexNumbers.l0 k x0 (wrap64 (x3 + 1))) else (if (bt x0 x3) = 101 then (if x3 > 0 then (dragomanlaw7_JlexNumbers.l0 k x0 (wrap64 (x3 + 1))) else (some true)) else (some true))))))) else (if (bt x0 x3) = 43 then (dragomanlaw7_JlexNumbers.l0 k x0 (wrap64 (x3 + 1))) else (if (bt x0 x3) = 45 then (dragomanlaw7_JlexNumbers.l0 k x0 (wrap64 (x3 + 1))) else (if (bt x0 x3) = 46 then (dragomanlaw7_JlexNumbers.l0 k x0 (wrap64 (x3 + 1))) else (if (bt x0 x3) = 69 then (dragomanlaw7_JlexNumbers.l0 k x0 (wrap64 (x3 + 1))) else (if (bt x0 x3) = 101 then (if x3 > 0 then (dragomanlaw7_JlexNumbers.l0 k x0 (wrap64 (x3 + 1))) else (some true)) else (some true))))))) else (none)) else (if 1 + x0.size ≤ 9223372036854775807 then (if ((⟨#[32]⟩ : ByteArray) ++ x0).size + 1 ≤ 9223372036854775807 then ((jlex_Cut.f k (((⟨#[32]⟩ : ByteArray) ++ x0) ++ (⟨#[32]⟩ : ByteArray))).bind fun bt270 => ((dragomanref1_Form.f k x0).bind fun bt278 => (if bt278.2 = true then (if bt270.2.1 = 6 then (some (bt270.2.2.1 == 1)) else (some false)) else (if bt278.1 = true then (if bt270.2.1 = 0 then (if (bt270.1.length : Int) = 2 then (if 0 < (bt270.1.length : Int) then (some (((rd_T30 bt270.1 0).f0) == 3 && ((((rd_T30 bt270.1 0).f1).toList) == x0.toList && (((rd_T30 bt270.1 0).f2) == 1)))) else (none)) else (some false)) else (some false)) else (if bt270.2.1 = 4 then (some (bt270.2.2.1 == 1)) else (some false)))))) else (none)) else (none))
end
def dragomanlaw7_JlexNumbers.f (k : Nat) (a0 : ByteArray) : Option (Bool) := (dragomanlaw7_awake.f).bind fun t269 => (if t269 = true then (if (a0.size : Int) < 1 then (dragomanlaw7_JlexNumbers.j0 k a0 true) else (dragomanlaw7_JlexNumbers.j0 k a0 (decide ((a0.size : Int) > 390)))) else (some false))
set_option maxHeartbeats 8000000 in
set_option maxRecDepth 100000 in
theorem dragomanlaw7_JlexNumbers.calls (k : Nat) (a0 : ByteArray) (r : Bool) (w : World) (h : dragomanlaw7_JlexNumbers.f k a0 = some r) :
    Calls Tryd.prog 4 #[.string a0] w fun e w' => e = .returned (.bool r) ∧ Below w.heap.size w w' := by
  have hu26 := Tryd.underlying26
  have hu30 := Tryd.underlying30
  have HB := Aside0.mk (Below.refl w.heap.size w)
  have H : ((dragomanlaw7_awake.f).bind fun t269 => (if t269 = true then (if (a0.size : Int) < 1 then (dragomanlaw7_JlexNumbers.j0 k a0 true) else (dragomanlaw7_JlexNumbers.j0 k a0 (decide ((a0.size : Int) > 390)))) else (some false))) = some r := h
  clear h
  replace H := Option.bind_eq_some_iff.mp H
  obtain ⟨t269, A20, H⟩ := H
  replace H : (if t269 = true then (if (a0.size : Int) < 1 then (dragomanlaw7_JlexNumbers.j0 k a0 true) else (dragomanlaw7_JlexNumbers.j0 k a0 (decide ((a0.size : Int) > 390)))) else (some false)) = some r := H
  have A2 := Aside0.mk A20
  clear A20
  by_cases c3 : t269 = true
  · subst c3
    have H1 : (if (a0.size : Int) < 1 then (dragomanlaw7_JlexNumbers.j0 k a0 true) else (dragomanlaw7_JlexNumbers.j0 k a0 (decide ((a0.size : Int) > 390)))) = some r := by rw [if_pos rfl] at H; exact H
    clear H
    have H := H1
    clear H1
    have HC4 := Aside0.mk H
    clear H
    go_enter Tryd.func4, Tryd.ntmps4
    go_upto_region 3 with (first | ((with_reducible refine gate_callee (f := 12) rfl ?_); refine goesL_ (some 9) rfl rfl Tryd.func12 (by kernel_rfl) rfl #[] rfl (by (try simp only [List.map_toArray, List.map_cons, List.map_nil]); first | done | rfl | (simp only [List.length_drop, List.length_take]; rfl)) ?_; (with_reducible refine (dragomanlaw7_awake.calls  true _ A2.out).mono ?_); rintro e w5 ⟨rfl, hb⟩; refine ⟨_, rfl, ?_⟩; have n0_ := Aside0.mk (below_step (by repeat (first | (with_reducible first | exact HB.out | apply below_alloc | apply pw_below_drewN | apply below_drew1) | exact HB.out)) hb); clear HB; have HB := n0_; clear n0_; (try clear hb); (try clear hb2); (try clear hk); (try clear hi)))
    (try simp only [Act.put, List.setIfInBounds_toArray, List.set_cons_zero, List.set_cons_succ])
    go_cut [18] (fun v18 wc => ∃ (kq : Nat) (x18_3 : Bool), v18 = .bool x18_3 ∧ Aside0 (dragomanlaw7_JlexNumbers.j0 kq a0 x18_3 = some r) ∧ Aside0 (kq ≤ k) ∧ Aside0 (Below w.heap.size w wc))
    case first =>
      have H := HC4.out
      clear HC4
      by_cases c6 : (a0.size : Int) < 1
      · rw [if_pos c6] at H
        have c6b0 : decide ((a0.size : Int) < 1) = true := decide_eq_true c6
        have c6b1 : decide (a0.size < 1) = true := decide_eq_true (by omega)
        clear c6
        (first | rw [c6b0] | (simp only [i64_w, i32_w]; rw [c6b0]) | skip)
        have H' := Aside0.mk H
        clear H
        go_wp2
        go_meet
        case rel => exact ⟨_, (true), (by first | rfl | (simp; done) | (simp [*]; done)), H', ⟨by first | omega | exact Nat.le_refl _⟩, ⟨by repeat (first | (with_reducible first | exact HB.out | apply below_alloc | apply pw_below_drewN | apply below_drew1) | exact HB.out)⟩⟩
      · rw [if_neg c6] at H
        have c6b0 : decide ((a0.size : Int) < 1) = false := decide_eq_false c6
        have c6b1 : decide (a0.size < 1) = false := decide_eq_false (by omega)
        clear c6
        (first | rw [c6b0] | (simp only [i64_w, i32_w]; rw [c6b0]) | skip)
        have H' := Aside0.mk H
        clear H
        go_wp2
        go_meet
        case rel => exact ⟨_, (decide ((a0.size : Int) > 390)), (by first | rfl | (simp; done) | (simp [*]; done)), H', ⟨by first | omega | exact Nat.le_refl _⟩, ⟨by repeat (first | (with_reducible first | exact HB.out | apply below_alloc | apply pw_below_drewN | apply below_drew1) | exact HB.out)⟩⟩
    case rest =>
      clear HC4
      try clear c1
      try clear p2
      try clear c3
      try clear c4
      try clear c6
      try clear c6b0
      try clear c6b1
      obtain ⟨kq, x18_3, rfl, HA, HJ3, HB⟩ := hcut
      cases kq with
      | zero => exact absurd HA.out (by simp [dragomanlaw7_JlexNumbers.j0])
      | succ kj3 =>
        have H := HA.out
        clear HA
        simp only [dragomanlaw7_JlexNumbers.j0] at H
        by_cases c7 : x18_3 = true
        · subst c7
          have H1 : (some true) = some r := by rw [if_pos rfl] at H; exact H
          clear H
          have H := H1
          clear H1
          obtain rfl := Option.some.inj H
          go_wp2
          go_ret
          exact ⟨by first | rfl | (simp [errW_none, errW_some] <;> rfl) | (simp [*, errW_none, errW_some, bne]; done) | (simp [*, errW_none, errW_some] <;> rfl), by repeat (first | (with_reducible first | exact HB.out | apply below_alloc | apply pw_below_drewN | apply below_drew1) | exact HB.out)⟩
        · replace c7 := Bool.eq_false_iff.mpr c7
          subst c7
          have H1 : (dragomanlaw7_JlexNumbers.l0 kj3 a0 0) = some r := by rw [if_neg (show ¬ (false = true) by decide)] at H; exact H
          clear H
          have H := H1
          clear H1
          have H' := Aside0.mk H
          clear H
          go_wp2
          go_loopg [3] kj3 (fun kq v3 w' => ∃ (x3_2 : Int), v3 = .int .i64 x3_2 ∧ Aside0 (dragomanlaw7_JlexNumbers.l0 kq a0 x3_2 = some r) ∧ Aside0 (kq ≤ kj3) ∧ Aside0 (Below w.heap.size w w'))
          case atStart => exact ⟨(0), (by first | rfl | (simp; done) | (simp [*]; done)), H', ⟨Nat.le_refl _⟩, ⟨by repeat (first | (with_reducible first | exact HB.out | apply below_alloc | apply pw_below_drewN | apply below_drew1) | exact HB.out)⟩⟩
          case round =>
            clear H'
            try clear c1
            try clear p2
            try clear c3
            try clear c4
            try clear c6
            try clear c6b0
            try clear c6b1
            try clear c7
            try clear p2
            obtain ⟨x3_2, rfl, HA, HK2, HB⟩ := hrel
            cases gk with
            | zero => exact absurd HA.out (by simp [dragomanlaw7_JlexNumbers.l0])
            | succ k2 =>
              have H := HA.out
              clear HA
              simp only [dragomanlaw7_JlexNumbers.l0] at H
              by_cases c8 : x3_2 < (a0.size : Int)
              · rw [if_pos c8] at H
                have c8b0 : decide (x3_2 < (a0.size : Int)) = true := decide_eq_true c8
                clear c8
                by_cases c9 : 0 ≤ x3_2
                · rw [if_pos c9] at H
                  have c9b0 : decide (0 ≤ x3_2) = true := decide_eq_true c9
                  clear c9
                  by_cases c11 : (bt a0 x3_2) ≥ 48
                  · rw [if_pos c11] at H
                    have c11b0 : decide (48 ≤ (bt a0 x3_2)) = true := decide_eq_true c11
                    clear c11
                    by_cases c12 : (bt a0 x3_2) ≤ 57
                    · rw [if_pos c12] at H
                      have c12b0 : decide ((bt a0 x3_2) ≤ 57) = true := decide_eq_true c12
                      clear c12
                      have H' := Aside0.mk H
                      clear H
                      have p10 : 0 ≤ (x3_2 : Int) := of_decide_eq_true (by first | (with_reducible assumption) | assumption)
                      have q10 : x3_2 < (a0.size : Int) := of_decide_eq_true (by first | (with_reducible assumption) | assumption)
                      have hx10 := bt_at a0 x3_2
                      replace p10 := eq_true p10
                      replace q10 := eq_true q10
                      go_wp2
                      go_roundg k2
                      case measure => have := HJ3.out; have := HK2.out; omega
                      case rel => exact ⟨(wrap64 (x3_2 + 1)), (by first | rfl | (simp; done) | (simp [*]; done)), H', ⟨by have := HJ3.out; have := HK2.out; omega⟩, ⟨by repeat (first | (with_reducible first | exact HB.out | apply below_alloc | apply pw_below_drewN | apply below_drew1) | exact HB.out)⟩⟩
                    · rw [if_neg c12] at H
                      have c12b0 : decide ((bt a0 x3_2) ≤ 57) = false := decide_eq_false c12
                      clear c12
                      by_cases c13 : (bt a0 x3_2) = 43
                      · rw [if_pos c13] at H
                        have c13b0 : ((bt a0 x3_2) == 43) = true := beq_iff_eq.mpr c13
                        have c13b1 : ((bt a0 x3_2) != 43) = false := bne_eq_false_iff_eq.mpr c13
                        clear c13
                        have H' := Aside0.mk H
                        clear H
                        have p10 : 0 ≤ (x3_2 : Int) := of_decide_eq_true (by first | (with_reducible assumption) | assumption)
                        have q10 : x3_2 < (a0.size : Int) := of_decide_eq_true (by first | (with_reducible assumption) | assumption)
                        have hx10 := bt_at a0 x3_2
                        replace p10 := eq_true p10
                        replace q10 := eq_true q10
                        go_wp2
                        go_roundg k2
                        case measure => have := HJ3.out; have := HK2.out; omega
                        case rel => exact ⟨(wrap64 (x3_2 + 1)), (by first | rfl | (simp; done) | (simp [*]; done)), H', ⟨by have := HJ3.out; have := HK2.out; omega⟩, ⟨by repeat (first | (with_reducible first | exact HB.out | apply below_alloc | apply pw_below_drewN | apply below_drew1) | exact HB.out)⟩⟩
                      · rw [if_neg c13] at H
                        have c13b0 : ((bt a0 x3_2) == 43) = false := beq_eq_false_iff_ne.mpr c13
                        have c13b1 : ((bt a0 x3_2) != 43) = true := bne_iff_ne.mpr c13
                        by_cases c14 : (bt a0 x3_2) = 45
                        · rw [if_pos c14] at H
                          have c14b0 : ((bt a0 x3_2) == 45) = true := beq_iff_eq.mpr c14
                          have c14b1 : ((bt a0 x3_2) != 45) = false := bne_eq_false_iff_eq.mpr c14
                          clear c14
                          have H' := Aside0.mk H
                          clear H
                          have p10 : 0 ≤ (x3_2 : Int) := of_decide_eq_true (by first | (with_reducible assumption) | assumption)
                          have q10 : x3_2 < (a0.size : Int) := of_decide_eq_true (by first | (with_reducible assumption) | assumption)
                          have hx10 := bt_at a0 x3_2
                          replace p10 := eq_true p10
                          replace q10 := eq_true q10
                          go_wp2
                          go_roundg k2
                          case measure => have := HJ3.out; have := HK2.out; omega
                          case rel => exact ⟨(wrap64 (x3_2 + 1)), (by first | rfl | (simp; done) | (simp [*]; done)), H', ⟨by have := HJ3.out; have := HK2.out; omega⟩, ⟨by repeat (first | (with_reducible first | exact HB.out | apply below_alloc | apply pw_below_drewN | apply below_drew1) | exact HB.out)⟩⟩
                        · rw [if_neg c14] at H
                          have c14b0 : ((bt a0 x3_2) == 45) = false := beq_eq_false_iff_ne.mpr c14
                          have c14b1 : ((bt a0 x3_2) != 45) = true := bne_iff_ne.mpr c14
                          by_cases c15 : (bt a0 x3_2) = 46
                          · rw [if_pos c15] at H
                            have c15b0 : ((bt a0 x3_2) == 46) = true := beq_iff_eq.mpr c15
                            have c15b1 : ((bt a0 x3_2) != 46) = false := bne_eq_false_iff_eq.mpr c15
                            clear c15
                            have H' := Aside0.mk H
                            clear H
                            have p10 : 0 ≤ (x3_2 : Int) := of_decide_eq_true (by first | (with_reducible assumption) | assumption)
                            have q10 : x3_2 < (a0.size : Int) := of_decide_eq_true (by first | (with_reducible assumption) | assumption)
                            have hx10 := bt_at a0 x3_2
                            replace p10 := eq_true p10
                            replace q10 := eq_true q10
                            go_wp2
                            go_roundg k2
                            case measure => have := HJ3.out; have := HK2.out; omega
                            case rel => exact ⟨(wrap64 (x3_2 + 1)), (by first | rfl | (simp; done) | (simp [*]; done)), H', ⟨by have := HJ3.out; have := HK2.out; omega⟩, ⟨by repeat (first | (with_reducible first | exact HB.out | apply below_alloc | apply pw_below_drewN | apply below_drew1) | exact HB.out)⟩⟩
                          · rw [if_neg c15] at H
                            have c15b0 : ((bt a0 x3_2) == 46) = false := beq_eq_false_iff_ne.mpr c15
                            have c15b1 : ((bt a0 x3_2) != 46) = true := bne_iff_ne.mpr c15
                            by_cases c16 : (bt a0 x3_2) = 69
                            · rw [if_pos c16] at H
                              have c16b0 : ((bt a0 x3_2) == 69) = true := beq_iff_eq.mpr c16
                              have c16b1 : ((bt a0 x3_2) != 69) = false := bne_eq_false_iff_eq.mpr c16
                              clear c16
                              have H' := Aside0.mk H
                              clear H
                              have p10 : 0 ≤ (x3_2 : Int) := of_decide_eq_true (by first | (with_reducible assumption) | assumption)
                              have q10 : x3_2 < (a0.size : Int) := of_decide_eq_true (by first | (with_reducible assumption) | assumption)
                              have hx10 := bt_at a0 x3_2
                              replace p10 := eq_true p10
                              replace q10 := eq_true q10
                              go_wp2
                              go_roundg k2
                              case measure => have := HJ3.out; have := HK2.out; omega
                              case rel => exact ⟨(wrap64 (x3_2 + 1)), (by first | rfl | (simp; done) | (simp [*]; done)), H', ⟨by have := HJ3.out; have := HK2.out; omega⟩, ⟨by repeat (first | (with_reducible first | exact HB.out | apply below_alloc | apply pw_below_drewN | apply below_drew1) | exact HB.out)⟩⟩
                            · rw [if_neg c16] at H
                              have c16b0 : ((bt a0 x3_2) == 69) = false := beq_eq_false_iff_ne.mpr c16
                              have c16b1 : ((bt a0 x3_2) != 69) = true := bne_iff_ne.mpr c16
                              by_cases c17 : (bt a0 x3_2) = 101
                              · rw [if_pos c17] at H
                                have c17b0 : ((bt a0 x3_2) == 101) = true := beq_iff_eq.mpr c17
                                have c17b1 : ((bt a0 x3_2) != 101) = false := bne_eq_false_iff_eq.mpr c17
                                clear c17
                                by_cases c18 : x3_2 > 0
                                · rw [if_pos c18] at H
                                  have c18b0 : decide (0 < x3_2) = true := decide_eq_true c18
                                  clear c18
                                  have H' := Aside0.mk H
                                  clear H
                                  have p10 : 0 ≤ (x3_2 : Int) := of_decide_eq_true (by first | (with_reducible assumption) | assumption)
                                  have q10 : x3_2 < (a0.size : Int) := of_decide_eq_true (by first | (with_reducible assumption) | assumption)
                                  have hx10 := bt_at a0 x3_2
                                  replace p10 := eq_true p10
                                  replace q10 := eq_true q10
                                  go_wp2
                                  go_roundg k2
                                  case measure => have := HJ3.out; have := HK2.out; omega
                                  case rel => exact ⟨(wrap64 (x3_2 + 1)), (by first | rfl | (simp; done) | (simp [*]; done)), H', ⟨by have := HJ3.out; have := HK2.out; omega⟩, ⟨by repeat (first | (with_reducible first | exact HB.out | apply below_alloc | apply pw_below_drewN | apply below_drew1) | exact HB.out)⟩⟩
                                · rw [if_neg c18] at H
                                  have c18b0 : decide (0 < x3_2) = false := decide_eq_false c18
                                  clear c18
                                  obtain rfl := Option.some.inj H
                                  have p10 : 0 ≤ (x3_2 : Int) := of_decide_eq_true (by first | (with_reducible assumption) | assumption)
                                  have q10 : x3_2 < (a0.size : Int) := of_decide_eq_true (by first | (with_reducible assumption) | assumption)
                                  have hx10 := bt_at a0 x3_2
                                  replace p10 := eq_true p10
                                  replace q10 := eq_true q10
                                  go_wp2
                                  go_ret
                                  exact ⟨by first | rfl | (simp [errW_none, errW_some] <;> rfl) | (simp [*, errW_none, errW_some, bne]; done) | (simp [*, errW_none, errW_some] <;> rfl), by repeat (first | (with_reducible first | exact HB.out | apply below_alloc | apply pw_below_drewN | apply below_drew1) | exact HB.out)⟩
                              · rw [if_neg c17] at H
                                have c17b0 : ((bt a0 x3_2) == 101) = false := beq_eq_false_iff_ne.mpr c17
                                have c17b1 : ((bt a0 x3_2) != 101) = true := bne_iff_ne.mpr c17
                                obtain rfl := Option.some.inj H
                                have p10 : 0 ≤ (x3_2 : Int) := of_decide_eq_true (by first | (with_reducible assumption) | assumption)
                                have q10 : x3_2 < (a0.size : Int) := of_decide_eq_true (by first | (with_reducible assumption) | assumption)
                                have hx10 := bt_at a0 x3_2
                                replace p10 := eq_true p10
                                replace q10 := eq_true q10
                                go_wp2
                                go_ret
                                exact ⟨by first | rfl | (simp [errW_none, errW_some] <;> rfl) | (simp [*, errW_none, errW_some, bne]; done) | (simp [*, errW_none, errW_some] <;> rfl), by repeat (first | (with_reducible first | exact HB.out | apply below_alloc | apply pw_below_drewN | apply below_drew1) | exact HB.out)⟩
                  · rw [if_neg c11] at H
                    have c11b0 : decide (48 ≤ (bt a0 x3_2)) = false := decide_eq_false c11
                    clear c11
                    by_cases c19 : (bt a0 x3_2) = 43
                    · rw [if_pos c19] at H
                      have c19b0 : ((bt a0 x3_2) == 43) = true := beq_iff_eq.mpr c19
                      have c19b1 : ((bt a0 x3_2) != 43) = false := bne_eq_false_iff_eq.mpr c19
                      clear c19
                      have H' := Aside0.mk H
                      clear H
                      have p10 : 0 ≤ (x3_2 : Int) := of_decide_eq_true (by first | (with_reducible assumption) | assumption)
                      have q10 : x3_2 < (a0.size : Int) := of_decide_eq_true (by first | (with_reducible assumption) | assumption)
                      have hx10 := bt_at a0 x3_2
                      replace p10 := eq_true p10
                      replace q10 := eq_true q10
                      go_wp2
                      go_roundg k2
                      case measure => have := HJ3.out; have := HK2.out; omega
                      case rel => exact ⟨(wrap64 (x3_2 + 1)), (by first | rfl | (simp; done) | (simp [*]; done)), H', ⟨by have := HJ3.out; have := HK2.out; omega⟩, ⟨by repeat (first | (with_reducible first | exact HB.out | apply below_alloc | apply pw_below_drewN | apply below_drew1) | exact HB.out)⟩⟩
                    · rw [if_neg c19] at H
                      have c19b0 : ((bt a0 x3_2) == 43) = false := beq_eq_false_iff_ne.mpr c19
                      have c19b1 : ((bt a0 x3_2) != 43) = true := bne_iff_ne.mpr c19
                      by_cases c20 : (bt a0 x3_2) = 45
                      · rw [if_pos c20] at H
                        have c20b0 : ((bt a0 x3_2) == 45) = true := beq_iff_eq.mpr c20
                        have c20b1 : ((bt a0 x3_2) != 45) = false := bne_eq_false_iff_eq.mpr c20
                        clear c20
                        have H' := Aside0.mk H
                        clear H
                        have p10 : 0 ≤ (x3_2 : Int) := of_decide_eq_true (by first | (with_reducible assumption) | assumption)
                        have q10 : x3_2 < (a0.size : Int) := of_decide_eq_true (by first | (with_reducible assumption) | assumption)
                        have hx10 := bt_at a0 x3_2
                        replace p10 := eq_true p10
                        replace q10 := eq_true q10
                        go_wp2
                        go_roundg k2
                        case measure => have := HJ3.out; have := HK2.out; omega
                        case rel => exact ⟨(wrap64 (x3_2 + 1)), (by first | rfl | (simp; done) | (simp [*]; done)), H', ⟨by have := HJ3.out; have := HK2.out; omega⟩, ⟨by repeat (first | (with_reducible first | exact HB.out | apply below_alloc | apply pw_below_drewN | apply below_drew1) | exact HB.out)⟩⟩
                      · rw [if_neg c20] at H
                        have c20b0 : ((bt a0 x3_2) == 45) = false := beq_eq_false_iff_ne.mpr c20
                        have c20b1 : ((bt a0 x3_2) != 45) = true := bne_iff_ne.mpr c20
                        by_cases c21 : (bt a0 x3_2) = 46
                        · rw [if_pos c21] at H
                          have c21b0 : ((bt a0 x3_2) == 46) = true := beq_iff_eq.mpr c21
                          have c21b1 : ((bt a0 x3_2) != 46) = false := bne_eq_false_iff_eq.mpr c21
                          clear c21
                          have H' := Aside0.mk H
                          clear H
                          have p10 : 0 ≤ (x3_2 : Int) := of_decide_eq_true (by first | (with_reducible assumption) | assumption)
                          have q10 : x3_2 < (a0.size : Int) := of_decide_eq_true (by first | (with_reducible assumption) | assumption)
                          have hx10 := bt_at a0 x3_2
                          replace p10 := eq_true p10
                          replace q10 := eq_true q10
                          go_wp2
                          go_roundg k2
                          case measure => have := HJ3.out; have := HK2.out; omega
                          case rel => exact ⟨(wrap64 (x3_2 + 1)), (by first | rfl | (simp; done) | (simp [*]; done)), H', ⟨by have := HJ3.out; have := HK2.out; omega⟩, ⟨by repeat (first | (with_reducible first | exact HB.out | apply below_alloc | apply pw_below_drewN | apply below_drew1) | exact HB.out)⟩⟩
                        · rw [if_neg c21] at H
                          have c21b0 : ((bt a0 x3_2) == 46) = false := beq_eq_false_iff_ne.mpr c21
                          have c21b1 : ((bt a0 x3_2) != 46) = true := bne_iff_ne.mpr c21
                          by_cases c22 : (bt a0 x3_2) = 69
                          · rw [if_pos c22] at H
                            have c22b0 : ((bt a0 x3_2) == 69) = true := beq_iff_eq.mpr c22
                            have c22b1 : ((bt a0 x3_2) != 69) = false := bne_eq_false_iff_eq.mpr c22
                            clear c22
                            have H' := Aside0.mk H
                            clear H
                            have p10 : 0 ≤ (x3_2 : Int) := of_decide_eq_true (by first | (with_reducible assumption) | assumption)
                            have q10 : x3_2 < (a0.size : Int) := of_decide_eq_true (by first | (with_reducible assumption) | assumption)
                            have hx10 := bt_at a0 x3_2
                            replace p10 := eq_true p10
                            replace q10 := eq_true q10
                            go_wp2
                            go_roundg k2
                            case measure => have := HJ3.out; have := HK2.out; omega
                            case rel => exact ⟨(wrap64 (x3_2 + 1)), (by first | rfl | (simp; done) | (simp [*]; done)), H', ⟨by have := HJ3.out; have := HK2.out; omega⟩, ⟨by repeat (first | (with_reducible first | exact HB.out | apply below_alloc | apply pw_below_drewN | apply below_drew1) | exact HB.out)⟩⟩
                          · rw [if_neg c22] at H
                            have c22b0 : ((bt a0 x3_2) == 69) = false := beq_eq_false_iff_ne.mpr c22
                            have c22b1 : ((bt a0 x3_2) != 69) = true := bne_iff_ne.mpr c22
                            by_cases c23 : (bt a0 x3_2) = 101
                            · rw [if_pos c23] at H
                              have c23b0 : ((bt a0 x3_2) == 101) = true := beq_iff_eq.mpr c23
                              have c23b1 : ((bt a0 x3_2) != 101) = false := bne_eq_false_iff_eq.mpr c23
                              clear c23
                              by_cases c24 : x3_2 > 0
                              · rw [if_pos c24] at H
                                have c24b0 : decide (0 < x3_2) = true := decide_eq_true c24
                                clear c24
                                have H' := Aside0.mk H
                                clear H
                                have p10 : 0 ≤ (x3_2 : Int) := of_decide_eq_true (by first | (with_reducible assumption) | assumption)
                                have q10 : x3_2 < (a0.size : Int) := of_decide_eq_true (by first | (with_reducible assumption) | assumption)
                                have hx10 := bt_at a0 x3_2
                                replace p10 := eq_true p10
                                replace q10 := eq_true q10
                                go_wp2
                                go_roundg k2
                                case measure => have := HJ3.out; have := HK2.out; omega
                                case rel => exact ⟨(wrap64 (x3_2 + 1)), (by first | rfl | (simp; done) | (simp [*]; done)), H', ⟨by have := HJ3.out; have := HK2.out; omega⟩, ⟨by repeat (first | (with_reducible first | exact HB.out | apply below_alloc | apply pw_below_drewN | apply below_drew1) | exact HB.out)⟩⟩
                              · rw [if_neg c24] at H
                                have c24b0 : decide (0 < x3_2) = false := decide_eq_false c24
                                clear c24
                                obtain rfl := Option.some.inj H
                                have p10 : 0 ≤ (x3_2 : Int) := of_decide_eq_true (by first | (with_reducible assumption) | assumption)
                                have q10 : x3_2 < (a0.size : Int) := of_decide_eq_true (by first | (with_reducible assumption) | assumption)
                                have hx10 := bt_at a0 x3_2
                                replace p10 := eq_true p10
                                replace q10 := eq_true q10
                                go_wp2
                                go_ret
                                exact ⟨by first | rfl | (simp [errW_none, errW_some] <;> rfl) | (simp [*, errW_none, errW_some, bne]; done) | (simp [*, errW_none, errW_some] <;> rfl), by repeat (first | (with_reducible first | exact HB.out | apply below_alloc | apply pw_below_drewN | apply below_drew1) | exact HB.out)⟩
                            · rw [if_neg c23] at H
                              have c23b0 : ((bt a0 x3_2) == 101) = false := beq_eq_false_iff_ne.mpr c23
                              have c23b1 : ((bt a0 x3_2) != 101) = true := bne_iff_ne.mpr c23
                              obtain rfl := Option.some.inj H
                              have p10 : 0 ≤ (x3_2 : Int) := of_decide_eq_true (by first | (with_reducible assumption) | assumption)
                              have q10 : x3_2 < (a0.size : Int) := of_decide_eq_true (by first | (with_reducible assumption) | assumption)
                              have hx10 := bt_at a0 x3_2
                              replace p10 := eq_true p10
                              replace q10 := eq_true q10
                              go_wp2
                              go_ret
                              exact ⟨by first | rfl | (simp [errW_none, errW_some] <;> rfl) | (simp [*, errW_none, errW_some, bne]; done) | (simp [*, errW_none, errW_some] <;> rfl), by repeat (first | (with_reducible first | exact HB.out | apply below_alloc | apply pw_below_drewN | apply below_drew1) | exact HB.out)⟩
                · rw [if_neg c9] at H
                  exact absurd H (by simp)
              · rw [if_neg c8] at H
                have c8b0 : decide (x3_2 < (a0.size : Int)) = false := decide_eq_false c8
                clear c8
                by_cases c25 : 1 + a0.size ≤ 9223372036854775807
                · rw [if_pos c25] at H
                  have c25b0 := eq_true c25
                  have c25b1 : decide (1 + a0.size ≤ 9223372036854775807) = true := decide_eq_true c25
                  try have c25b2 : (9223372036854775807 < 1 + a0.size) = False := eq_false (Nat.not_lt.2 c25)
                  by_cases c26 : ((⟨#[32]⟩ : ByteArray) ++ a0).size + 1 ≤ 9223372036854775807
                  · rw [if_pos c26] at H
                    have c26b0 := eq_true c26
                    have c26b1 : decide (((⟨#[32]⟩ : ByteArray) ++ a0).size + 1 ≤ 9223372036854775807) = true := decide_eq_true c26
                    try have c26b2 : (9223372036854775807 < ((⟨#[32]⟩ : ByteArray) ++ a0).size + 1) = False := eq_false (Nat.not_lt.2 c26)
                    try (have c26b4 := c26b2; simp only [ByteArray.size_append, show (⟨#[32]⟩ : ByteArray).size = 1 from rfl] at c26b4)
                    replace H := Option.bind_eq_some_iff.mp H
                    obtain ⟨⟨t270, t273, t274, t275, t276⟩, A270, H⟩ := H
                    replace H : ((dragomanref1_Form.f k2 a0).bind fun bt278 => (if bt278.2 = true then (if t273 = 6 then (some (t274 == 1)) else (some false)) else (if bt278.1 = true then (if t273 = 0 then (if (t270.length : Int) = 2 then (if 0 < (t270.length : Int) then (some (((rd_T30 t270 0).f0) == 3 && ((((rd_T30 t270 0).f1).toList) == a0.toList && (((rd_T30 t270 0).f2) == 1)))) else (none)) else (some false)) else (some false)) else (if t273 = 4 then (some (t274 == 1)) else (some false))))) = some r := H
                    have A27 := Aside0.mk A270
                    clear A270
                    replace H := Option.bind_eq_some_iff.mp H
                    obtain ⟨⟨t278, t279⟩, A280, H⟩ := H
                    replace H : (if t279 = true then (if t273 = 6 then (some (t274 == 1)) else (some false)) else (if t278 = true then (if t273 = 0 then (if (t270.length : Int) = 2 then (if 0 < (t270.length : Int) then (some (((rd_T30 t270 0).f0) == 3 && ((((rd_T30 t270 0).f1).toList) == a0.toList && (((rd_T30 t270 0).f2) == 1)))) else (none)) else (some false)) else (some false)) else (if t273 = 4 then (some (t274 == 1)) else (some false)))) = some r := H
                    have A28 := Aside0.mk A280
                    clear A280
                    by_cases c29 : t279 = true
                    · subst c29
                      have H1 : (if t273 = 6 then (some (t274 == 1)) else (some false)) = some r := by rw [if_pos rfl] at H; exact H
                      clear H
                      have H := H1
                      clear H1
                      by_cases c30 : t273 = 6
                      · rw [if_pos c30] at H
                        have c30b0 : (t273 == 6) = true := beq_iff_eq.mpr c30
                        have c30b1 : (t273 != 6) = false := bne_eq_false_iff_eq.mpr c30
                        clear c30
                        obtain rfl := Option.some.inj H
                        go_wp2_with (first | ((with_reducible refine gate_callee (f := 13) rfl ?_); refine goesL_ (some 63) rfl rfl Tryd.func13 (by kernel_rfl) rfl #[.string (((⟨#[32]⟩ : ByteArray) ++ a0) ++ (⟨#[32]⟩ : ByteArray))] rfl (by (try simp only [List.map_toArray, List.map_cons, List.map_nil]); first | done | rfl | (simp only [List.length_drop, List.length_take]; rfl)) ?_; (with_reducible refine (jlex_Cut.calls k2 (((⟨#[32]⟩ : ByteArray) ++ a0) ++ (⟨#[32]⟩ : ByteArray)) t270 t273 t274 t275 t276 _ A27.out).mono ?_); rintro e w31 ⟨v271, rfl, ho0, hb⟩; refine ⟨_, rfl, ?_⟩; have n0_ := Aside0.mk (Kd.R_lower ho0 (below_size (by repeat (first | (with_reducible first | exact HB.out | apply below_alloc | apply pw_below_drewN | apply below_drew1) | exact HB.out)))); have n1_ := Aside0.mk (below_step (by repeat (first | (with_reducible first | exact HB.out | apply below_alloc | apply pw_below_drewN | apply below_drew1) | exact HB.out)) hb); clear HB; have HO272 := n0_; have HB := n1_; clear n0_ n1_; (try clear hb); (try clear hb2); (try clear hk); (try clear hi); (try clear ho0)) | ((with_reducible refine gate_dst (N := 6) rfl ?_); (try (refine gate_guard (by rfl) ?_; dsimp only)); refine box_event ?hg (N := 6) ?hd (cs := #[.int .i64 0, .int .i64 0, .int .i64 0, .int .i64 0]) (t := 26) ?hr ?_; (case hd => rfl); (case hg => rfl); (case hr => first | (go_simp; done) | (go_simp; rfl)); intro gb277 hg w32 hbox hb; have n0_ := Aside0.mk (Kd.R_below (by (with_reducible repeat (first | apply Kd.R_alloc | apply Kd.R_drewN | apply Kd.R_drew)); exact HO272.out) hb); have n1_ := Aside0.mk (below_step (by repeat (first | (with_reducible first | exact HB.out | apply below_alloc | apply pw_below_drewN | apply below_drew1) | exact HB.out)) hb); have n2_ := Aside0.mk (hbox); have n3_ := Aside0.mk ((by rw [hg]; exact (below_size (by repeat (first | (with_reducible first | exact HB.out | apply below_alloc | apply pw_below_drewN | apply below_drew1) | exact HB.out))) : w.heap.size ≤ gb277)); have n4_ := Aside0.mk ((by rw [hg]; exact (below_size (by repeat (first | (with_reducible first | exact HB.out | apply below_alloc | apply pw_below_drewN | apply below_drew1) | exact HB.out))) : w.heap.size ≤ gb277)); clear HO272; clear HB; have HO272 := n0_; have HB := n1_; have BK277 := n2_; have GW277 := n3_; have GE277 := n4_; clear n0_ n1_ n2_ n3_ n4_; clear hb hbox hg; have hcz33_0 : w32.cell? ⟨gb277, 0, none⟩ = some (.int .i64 0) := (blk_cell BK277.out 0).trans rfl; have hcz33_1 : w32.cell? ⟨gb277, 1, none⟩ = some (.int .i64 0) := (blk_cell BK277.out 1).trans rfl; have hcz33_2 : w32.cell? ⟨gb277, 2, none⟩ = some (.int .i64 0) := (blk_cell BK277.out 2).trans rfl; have hcz33_3 : w32.cell? ⟨gb277, 3, none⟩ = some (.int .i64 0) := (blk_cell BK277.out 3).trans rfl; have hfz33_0 := blk_frozen BK277.out 0; have hfz33_1 := blk_frozen BK277.out 1; have hfz33_2 := blk_frozen BK277.out 2; have hfz33_3 := blk_frozen BK277.out 3) | ((with_reducible refine gate_callee (f := 14) rfl ?_); refine goesL_ (some 68) rfl rfl Tryd.func14 (by kernel_rfl) rfl #[.string a0] rfl (by (try simp only [List.map_toArray, List.map_cons, List.map_nil]); first | done | rfl | (simp only [List.length_drop, List.length_take]; rfl)) ?_; (with_reducible refine (dragomanref1_Form.calls k2 a0 t278 true _ A28.out).mono ?_); rintro e w' ⟨rfl, ⟨nd, rfl⟩⟩; refine ⟨_, rfl, ?_⟩))
                        go_ret
                        exact ⟨by first | rfl | (simp [errW_none, errW_some] <;> rfl) | (simp [*, errW_none, errW_some, bne]; done) | (simp [*, errW_none, errW_some] <;> rfl), by repeat (first | (with_reducible first | exact HB.out | apply below_alloc | apply pw_below_drewN | apply below_drew1 | refine below_set ?_ GE277.out) | exact HB.out)⟩
                      · rw [if_neg c30] at H
                        have c30b0 : (t273 == 6) = false := beq_eq_false_iff_ne.mpr c30
                        have c30b1 : (t273 != 6) = true := bne_iff_ne.mpr c30
                        obtain rfl := Option.some.inj H
                        go_wp2_with (first | ((with_reducible refine gate_callee (f := 13) rfl ?_); refine goesL_ (some 63) rfl rfl Tryd.func13 (by kernel_rfl) rfl #[.string (((⟨#[32]⟩ : ByteArray) ++ a0) ++ (⟨#[32]⟩ : ByteArray))] rfl (by (try simp only [List.map_toArray, List.map_cons, List.map_nil]); first | done | rfl | (simp only [List.length_drop, List.length_take]; rfl)) ?_; (with_reducible refine (jlex_Cut.calls k2 (((⟨#[32]⟩ : ByteArray) ++ a0) ++ (⟨#[32]⟩ : ByteArray)) t270 t273 t274 t275 t276 _ A27.out).mono ?_); rintro e w34 ⟨v271, rfl, ho0, hb⟩; refine ⟨_, rfl, ?_⟩; have n0_ := Aside0.mk (Kd.R_lower ho0 (below_size (by repeat (first | (with_reducible first | exact HB.out | apply below_alloc | apply pw_below_drewN | apply below_drew1) | exact HB.out)))); have n1_ := Aside0.mk (below_step (by repeat (first | (with_reducible first | exact HB.out | apply below_alloc | apply pw_below_drewN | apply below_drew1) | exact HB.out)) hb); clear HB; have HO272 := n0_; have HB := n1_; clear n0_ n1_; (try clear hb); (try clear hb2); (try clear hk); (try clear hi); (try clear ho0)) | ((with_reducible refine gate_dst (N := 6) rfl ?_); (try (refine gate_guard (by rfl) ?_; dsimp only)); refine box_event ?hg (N := 6) ?hd (cs := #[.int .i64 0, .int .i64 0, .int .i64 0, .int .i64 0]) (t := 26) ?hr ?_; (case hd => rfl); (case hg => rfl); (case hr => first | (go_simp; done) | (go_simp; rfl)); intro gb277 hg w35 hbox hb; have n0_ := Aside0.mk (Kd.R_below (by (with_reducible repeat (first | apply Kd.R_alloc | apply Kd.R_drewN | apply Kd.R_drew)); exact HO272.out) hb); have n1_ := Aside0.mk (below_step (by repeat (first | (with_reducible first | exact HB.out | apply below_alloc | apply pw_below_drewN | apply below_drew1) | exact HB.out)) hb); have n2_ := Aside0.mk (hbox); have n3_ := Aside0.mk ((by rw [hg]; exact (below_size (by repeat (first | (with_reducible first | exact HB.out | apply below_alloc | apply pw_below_drewN | apply below_drew1) | exact HB.out))) : w.heap.size ≤ gb277)); have n4_ := Aside0.mk ((by rw [hg]; exact (below_size (by repeat (first | (with_reducible first | exact HB.out | apply below_alloc | apply pw_below_drewN | apply below_drew1) | exact HB.out))) : w.heap.size ≤ gb277)); clear HO272; clear HB; have HO272 := n0_; have HB := n1_; have BK277 := n2_; have GW277 := n3_; have GE277 := n4_; clear n0_ n1_ n2_ n3_ n4_; clear hb hbox hg; have hcz36_0 : w35.cell? ⟨gb277, 0, none⟩ = some (.int .i64 0) := (blk_cell BK277.out 0).trans rfl; have hcz36_1 : w35.cell? ⟨gb277, 1, none⟩ = some (.int .i64 0) := (blk_cell BK277.out 1).trans rfl; have hcz36_2 : w35.cell? ⟨gb277, 2, none⟩ = some (.int .i64 0) := (blk_cell BK277.out 2).trans rfl; have hcz36_3 : w35.cell? ⟨gb277, 3, none⟩ = some (.int .i64 0) := (blk_cell BK277.out 3).trans rfl; have hfz36_0 := blk_frozen BK277.out 0; have hfz36_1 := blk_frozen BK277.out 1; have hfz36_2 := blk_frozen BK277.out 2; have hfz36_3 := blk_frozen BK277.out 3) | ((with_reducible refine gate_callee (f := 14) rfl ?_); refine goesL_ (some 68) rfl rfl Tryd.func14 (by kernel_rfl) rfl #[.string a0] rfl (by (try simp only [List.map_toArray, List.map_cons, List.map_nil]); first | done | rfl | (simp only [List.length_drop, List.length_take]; rfl)) ?_; (with_reducible refine (dragomanref1_Form.calls k2 a0 t278 true _ A28.out).mono ?_); rintro e w' ⟨rfl, ⟨nd, rfl⟩⟩; refine ⟨_, rfl, ?_⟩))
                        go_ret
                        exact ⟨by first | rfl | (simp [errW_none, errW_some] <;> rfl) | (simp [*, errW_none, errW_some, bne]; done) | (simp [*, errW_none, errW_some] <;> rfl), by repeat (first | (with_reducible first | exact HB.out | apply below_alloc | apply pw_below_drewN | apply below_drew1 | refine below_set ?_ GE277.out) | exact HB.out)⟩
                    · replace c29 := Bool.eq_false_iff.mpr c29
                      subst c29
                      have H1 : (if t278 = true then (if t273 = 0 then (if (t270.length : Int) = 2 then (if 0 < (t270.length : Int) then (some (((rd_T30 t270 0).f0) == 3 && ((((rd_T30 t270 0).f1).toList) == a0.toList && (((rd_T30 t270 0).f2) == 1)))) else (none)) else (some false)) else (some false)) else (if t273 = 4 then (some (t274 == 1)) else (some false))) = some r := by rw [if_neg (show ¬ (false = true) by decide)] at H; exact H
                      clear H
                      have H := H1
                      clear H1
                      by_cases c37 : t278 = true
                      · subst c37
                        have H1 : (if t273 = 0 then (if (t270.length : Int) = 2 then (if 0 < (t270.length : Int) then (some (((rd_T30 t270 0).f0) == 3 && ((((rd_T30 t270 0).f1).toList) == a0.toList && (((rd_T30 t270 0).f2) == 1)))) else (none)) else (some false)) else (some false)) = some r := by rw [if_pos rfl] at H; exact H
                        clear H
                        have H := H1
                        clear H1
                        by_cases c38 : t273 = 0
                        · rw [if_pos c38] at H
                          have c38b0 : (t273 == 0) = true := beq_iff_eq.mpr c38
                          have c38b1 : (t273 != 0) = false := bne_eq_false_iff_eq.mpr c38
                          clear c38
                          by_cases c39 : (t270.length : Int) = 2
                          · rw [if_pos c39] at H
                            have c39b0 : ((t270.length : Int) == 2) = true := beq_iff_eq.mpr c39
                            have c39b1 : ((t270.length : Int) != 2) = false := bne_eq_false_iff_eq.mpr c39
                            clear c39
                            by_cases c40 : 0 < (t270.length : Int)
                            · rw [if_pos c40] at H
                              have c40b0 : decide (0 < (t270.length : Int)) = true := decide_eq_true c40
                              have c40b1 : decide (0 < t270.length) = true := decide_eq_true (by omega)
                              clear c40
                              obtain rfl := Option.some.inj H
                              go_wp2_with (first | ((with_reducible refine gate_callee (f := 13) rfl ?_); refine goesL_ (some 63) rfl rfl Tryd.func13 (by kernel_rfl) rfl #[.string (((⟨#[32]⟩ : ByteArray) ++ a0) ++ (⟨#[32]⟩ : ByteArray))] rfl (by (try simp only [List.map_toArray, List.map_cons, List.map_nil]); first | done | rfl | (simp only [List.length_drop, List.length_take]; rfl)) ?_; (with_reducible refine (jlex_Cut.calls k2 (((⟨#[32]⟩ : ByteArray) ++ a0) ++ (⟨#[32]⟩ : ByteArray)) t270 t273 t274 t275 t276 _ A27.out).mono ?_); rintro e w41 ⟨v271, rfl, ho0, hb⟩; refine ⟨_, rfl, ?_⟩; have n0_ := Aside0.mk (Kd.R_lower ho0 (below_size (by repeat (first | (with_reducible first | exact HB.out | apply below_alloc | apply pw_below_drewN | apply below_drew1) | exact HB.out)))); have n1_ := Aside0.mk (below_step (by repeat (first | (with_reducible first | exact HB.out | apply below_alloc | apply pw_below_drewN | apply below_drew1) | exact HB.out)) hb); clear HB; have HO272 := n0_; have HB := n1_; clear n0_ n1_; (try clear hb); (try clear hb2); (try clear hk); (try clear hi); (try clear ho0)) | ((with_reducible refine gate_dst (N := 6) rfl ?_); (try (refine gate_guard (by rfl) ?_; dsimp only)); refine box_event ?hg (N := 6) ?hd (cs := #[.int .i64 0, .int .i64 0, .int .i64 0, .int .i64 0]) (t := 26) ?hr ?_; (case hd => rfl); (case hg => rfl); (case hr => first | (go_simp; done) | (go_simp; rfl)); intro gb277 hg w42 hbox hb; have n0_ := Aside0.mk (Kd.R_below (by (with_reducible repeat (first | apply Kd.R_alloc | apply Kd.R_drewN | apply Kd.R_drew)); exact HO272.out) hb); have n1_ := Aside0.mk (below_step (by repeat (first | (with_reducible first | exact HB.out | apply below_alloc | apply pw_below_drewN | apply below_drew1) | exact HB.out)) hb); have n2_ := Aside0.mk (hbox); have n3_ := Aside0.mk ((by rw [hg]; exact (below_size (by repeat (first | (with_reducible first | exact HB.out | apply below_alloc | apply pw_below_drewN | apply below_drew1) | exact HB.out))) : w.heap.size ≤ gb277)); have n4_ := Aside0.mk ((by rw [hg]; exact (below_size (by repeat (first | (with_reducible first | exact HB.out | apply below_alloc | apply pw_below_drewN | apply below_drew1) | exact HB.out))) : w.heap.size ≤ gb277)); clear HO272; clear HB; have HO272 := n0_; have HB := n1_; have BK277 := n2_; have GW277 := n3_; have GE277 := n4_; clear n0_ n1_ n2_ n3_ n4_; clear hb hbox hg; have hcz43_0 : w42.cell? ⟨gb277, 0, none⟩ = some (.int .i64 0) := (blk_cell BK277.out 0).trans rfl; have hcz43_1 : w42.cell? ⟨gb277, 1, none⟩ = some (.int .i64 0) := (blk_cell BK277.out 1).trans rfl; have hcz43_2 : w42.cell? ⟨gb277, 2, none⟩ = some (.int .i64 0) := (blk_cell BK277.out 2).trans rfl; have hcz43_3 : w42.cell? ⟨gb277, 3, none⟩ = some (.int .i64 0) := (blk_cell BK277.out 3).trans rfl; have hfz43_0 := blk_frozen BK277.out 0; have hfz43_1 := blk_frozen BK277.out 1; have hfz43_2 := blk_frozen BK277.out 2; have hfz43_3 := blk_frozen BK277.out 3) | ((with_reducible refine gate_callee (f := 14) rfl ?_); refine goesL_ (some 68) rfl rfl Tryd.func14 (by kernel_rfl) rfl #[.string a0] rfl (by (try simp only [List.map_toArray, List.map_cons, List.map_nil]); first | done | rfl | (simp only [List.length_drop, List.length_take]; rfl)) ?_; (with_reducible refine (dragomanref1_Form.calls k2 a0 true false _ A28.out).mono ?_); rintro e w' ⟨rfl, ⟨nd, rfl⟩⟩; refine ⟨_, rfl, ?_⟩; obtain ⟨Ao44, co44, eo44⟩ := Kd.R_slice HO272.out; subst eo44; have p280 : 0 ≤ (0 : Int) := (by omega); have q280 : 0 < (t270.length : Int) := of_decide_eq_true (by first | (with_reducible assumption) | assumption); obtain ⟨ad280, e280, hx280_0, hx280_1, hx280_2⟩ := at_T30 (Kd.R_reads' HO272.out).2.2 0 p280 q280; cases e280; have qi280 : (0 < t270.length) = True := eq_true (by omega); (try rw [show ((0 : Int)).toNat = 0 from rfl] at hx280_0); (try rw [show 0 * 3 = 0 from rfl] at hx280_0); (try rw [Addr.add_zero'] at hx280_0); (try rw [show ((0 : Int)).toNat = 0 from rfl] at hx280_1); (try rw [show 0 * 3 = 0 from rfl] at hx280_1); (try rw [Addr.add_zero'] at hx280_1); (try rw [show ((0 : Int)).toNat = 0 from rfl] at hx280_2); (try rw [show 0 * 3 = 0 from rfl] at hx280_2); (try rw [Addr.add_zero'] at hx280_2); have hn280_0 : ad280.block ≠ gb277 := Kd.own_blk (Kd.R_ne HO272.out BK277.out (by decide)); have hn280_1 : ad280.block ≠ gb277 := Kd.own_blk (Kd.R_ne HO272.out BK277.out (by decide)); have hn280_2 : ad280.block ≠ gb277 := Kd.own_blk (Kd.R_ne HO272.out BK277.out (by decide)); have hn280_3 : ad280.block ≠ gb277 := Kd.own_blk (Kd.R_ne HO272.out BK277.out (by decide)); replace hx280_0 := (cell_far (p := ⟨gb277, 0, none⟩) (by first | (rw [add_block]; exact hn280_0) | (show (Addr.add _ _).block ≠ _; rw [add_block]; exact hn280_0) | exact hn280_0) (.int .i64 t273)).trans hx280_0; replace hx280_1 := (cell_far (p := ⟨gb277, 0, none⟩) (by first | (rw [add_block]; exact hn280_0) | (show (Addr.add _ _).block ≠ _; rw [add_block]; exact hn280_0) | exact hn280_0) (.int .i64 t273)).trans hx280_1; replace hx280_2 := (cell_far (p := ⟨gb277, 0, none⟩) (by first | (rw [add_block]; exact hn280_0) | (show (Addr.add _ _).block ≠ _; rw [add_block]; exact hn280_0) | exact hn280_0) (.int .i64 t273)).trans hx280_2; replace hx280_0 := (cell_far (p := ⟨gb277, 1, none⟩) (by first | (rw [add_block]; exact hn280_1) | (show (Addr.add _ _).block ≠ _; rw [add_block]; exact hn280_1) | exact hn280_1) (.int .i64 t274)).trans hx280_0; replace hx280_1 := (cell_far (p := ⟨gb277, 1, none⟩) (by first | (rw [add_block]; exact hn280_1) | (show (Addr.add _ _).block ≠ _; rw [add_block]; exact hn280_1) | exact hn280_1) (.int .i64 t274)).trans hx280_1; replace hx280_2 := (cell_far (p := ⟨gb277, 1, none⟩) (by first | (rw [add_block]; exact hn280_1) | (show (Addr.add _ _).block ≠ _; rw [add_block]; exact hn280_1) | exact hn280_1) (.int .i64 t274)).trans hx280_2; replace hx280_0 := (cell_far (p := ⟨gb277, 2, none⟩) (by first | (rw [add_block]; exact hn280_2) | (show (Addr.add _ _).block ≠ _; rw [add_block]; exact hn280_2) | exact hn280_2) (.int .i64 t275)).trans hx280_0; replace hx280_1 := (cell_far (p := ⟨gb277, 2, none⟩) (by first | (rw [add_block]; exact hn280_2) | (show (Addr.add _ _).block ≠ _; rw [add_block]; exact hn280_2) | exact hn280_2) (.int .i64 t275)).trans hx280_1; replace hx280_2 := (cell_far (p := ⟨gb277, 2, none⟩) (by first | (rw [add_block]; exact hn280_2) | (show (Addr.add _ _).block ≠ _; rw [add_block]; exact hn280_2) | exact hn280_2) (.int .i64 t275)).trans hx280_2; replace hx280_0 := (cell_far (p := ⟨gb277, 3, none⟩) (by first | (rw [add_block]; exact hn280_3) | (show (Addr.add _ _).block ≠ _; rw [add_block]; exact hn280_3) | exact hn280_3) (.int .i64 t276)).trans hx280_0; replace hx280_1 := (cell_far (p := ⟨gb277, 3, none⟩) (by first | (rw [add_block]; exact hn280_3) | (show (Addr.add _ _).block ≠ _; rw [add_block]; exact hn280_3) | exact hn280_3) (.int .i64 t276)).trans hx280_1; replace hx280_2 := (cell_far (p := ⟨gb277, 3, none⟩) (by first | (rw [add_block]; exact hn280_3) | (show (Addr.add _ _).block ≠ _; rw [add_block]; exact hn280_3) | exact hn280_3) (.int .i64 t276)).trans hx280_2; clear hn280_0; clear hn280_1; clear hn280_2; clear hn280_3; replace p280 := eq_true p280; replace q280 := eq_true q280))
                              go_ret
                              exact ⟨by first | rfl | (simp [errW_none, errW_some] <;> rfl) | (simp [*, errW_none, errW_some, bne]; done) | (simp [*, errW_none, errW_some] <;> rfl), by repeat (first | (with_reducible first | exact HB.out | apply below_alloc | apply pw_below_drewN | apply below_drew1 | refine below_set ?_ GE277.out) | exact HB.out)⟩
                            · rw [if_neg c40] at H
                              exact absurd H (by simp)
                          · rw [if_neg c39] at H
                            have c39b0 : ((t270.length : Int) == 2) = false := beq_eq_false_iff_ne.mpr c39
                            have c39b1 : ((t270.length : Int) != 2) = true := bne_iff_ne.mpr c39
                            obtain rfl := Option.some.inj H
                            go_wp2_with (first | ((with_reducible refine gate_callee (f := 13) rfl ?_); refine goesL_ (some 63) rfl rfl Tryd.func13 (by kernel_rfl) rfl #[.string (((⟨#[32]⟩ : ByteArray) ++ a0) ++ (⟨#[32]⟩ : ByteArray))] rfl (by (try simp only [List.map_toArray, List.map_cons, List.map_nil]); first | done | rfl | (simp only [List.length_drop, List.length_take]; rfl)) ?_; (with_reducible refine (jlex_Cut.calls k2 (((⟨#[32]⟩ : ByteArray) ++ a0) ++ (⟨#[32]⟩ : ByteArray)) t270 t273 t274 t275 t276 _ A27.out).mono ?_); rintro e w45 ⟨v271, rfl, ho0, hb⟩; refine ⟨_, rfl, ?_⟩; have n0_ := Aside0.mk (Kd.R_lower ho0 (below_size (by repeat (first | (with_reducible first | exact HB.out | apply below_alloc | apply pw_below_drewN | apply below_drew1) | exact HB.out)))); have n1_ := Aside0.mk (below_step (by repeat (first | (with_reducible first | exact HB.out | apply below_alloc | apply pw_below_drewN | apply below_drew1) | exact HB.out)) hb); clear HB; have HO272 := n0_; have HB := n1_; clear n0_ n1_; (try clear hb); (try clear hb2); (try clear hk); (try clear hi); (try clear ho0)) | ((with_reducible refine gate_dst (N := 6) rfl ?_); (try (refine gate_guard (by rfl) ?_; dsimp only)); refine box_event ?hg (N := 6) ?hd (cs := #[.int .i64 0, .int .i64 0, .int .i64 0, .int .i64 0]) (t := 26) ?hr ?_; (case hd => rfl); (case hg => rfl); (case hr => first | (go_simp; done) | (go_simp; rfl)); intro gb277 hg w46 hbox hb; have n0_ := Aside0.mk (Kd.R_below (by (with_reducible repeat (first | apply Kd.R_alloc | apply Kd.R_drewN | apply Kd.R_drew)); exact HO272.out) hb); have n1_ := Aside0.mk (below_step (by repeat (first | (with_reducible first | exact HB.out | apply below_alloc | apply pw_below_drewN | apply below_drew1) | exact HB.out)) hb); have n2_ := Aside0.mk (hbox); have n3_ := Aside0.mk ((by rw [hg]; exact (below_size (by repeat (first | (with_reducible first | exact HB.out | apply below_alloc | apply pw_below_drewN | apply below_drew1) | exact HB.out))) : w.heap.size ≤ gb277)); have n4_ := Aside0.mk ((by rw [hg]; exact (below_size (by repeat (first | (with_reducible first | exact HB.out | apply below_alloc | apply pw_below_drewN | apply below_drew1) | exact HB.out))) : w.heap.size ≤ gb277)); clear HO272; clear HB; have HO272 := n0_; have HB := n1_; have BK277 := n2_; have GW277 := n3_; have GE277 := n4_; clear n0_ n1_ n2_ n3_ n4_; clear hb hbox hg; have hcz47_0 : w46.cell? ⟨gb277, 0, none⟩ = some (.int .i64 0) := (blk_cell BK277.out 0).trans rfl; have hcz47_1 : w46.cell? ⟨gb277, 1, none⟩ = some (.int .i64 0) := (blk_cell BK277.out 1).trans rfl; have hcz47_2 : w46.cell? ⟨gb277, 2, none⟩ = some (.int .i64 0) := (blk_cell BK277.out 2).trans rfl; have hcz47_3 : w46.cell? ⟨gb277, 3, none⟩ = some (.int .i64 0) := (blk_cell BK277.out 3).trans rfl; have hfz47_0 := blk_frozen BK277.out 0; have hfz47_1 := blk_frozen BK277.out 1; have hfz47_2 := blk_frozen BK277.out 2; have hfz47_3 := blk_frozen BK277.out 3) | ((with_reducible refine gate_callee (f := 14) rfl ?_); refine goesL_ (some 68) rfl rfl Tryd.func14 (by kernel_rfl) rfl #[.string a0] rfl (by (try simp only [List.map_toArray, List.map_cons, List.map_nil]); first | done | rfl | (simp only [List.length_drop, List.length_take]; rfl)) ?_; (with_reducible refine (dragomanref1_Form.calls k2 a0 true false _ A28.out).mono ?_); rintro e w' ⟨rfl, ⟨nd, rfl⟩⟩; refine ⟨_, rfl, ?_⟩; obtain ⟨Ao48, co48, eo48⟩ := Kd.R_slice HO272.out; subst eo48))
                            go_ret
                            exact ⟨by first | rfl | (simp [errW_none, errW_some] <;> rfl) | (simp [*, errW_none, errW_some, bne]; done) | (simp [*, errW_none, errW_some] <;> rfl), by repeat (first | (with_reducible first | exact HB.out | apply below_alloc | apply pw_below_drewN | apply below_drew1 | refine below_set ?_ GE277.out) | exact HB.out)⟩
                        · rw [if_neg c38] at H
                          have c38b0 : (t273 == 0) = false := beq_eq_false_iff_ne.mpr c38
                          have c38b1 : (t273 != 0) = true := bne_iff_ne.mpr c38
                          obtain rfl := Option.some.inj H
                          go_wp2_with (first | ((with_reducible refine gate_callee (f := 13) rfl ?_); refine goesL_ (some 63) rfl rfl Tryd.func13 (by kernel_rfl) rfl #[.string (((⟨#[32]⟩ : ByteArray) ++ a0) ++ (⟨#[32]⟩ : ByteArray))] rfl (by (try simp only [List.map_toArray, List.map_cons, List.map_nil]); first | done | rfl | (simp only [List.length_drop, List.length_take]; rfl)) ?_; (with_reducible refine (jlex_Cut.calls k2 (((⟨#[32]⟩ : ByteArray) ++ a0) ++ (⟨#[32]⟩ : ByteArray)) t270 t273 t274 t275 t276 _ A27.out).mono ?_); rintro e w49 ⟨v271, rfl, ho0, hb⟩; refine ⟨_, rfl, ?_⟩; have n0_ := Aside0.mk (Kd.R_lower ho0 (below_size (by repeat (first | (with_reducible first | exact HB.out | apply below_alloc | apply pw_below_drewN | apply below_drew1) | exact HB.out)))); have n1_ := Aside0.mk (below_step (by repeat (first | (with_reducible first | exact HB.out | apply below_alloc | apply pw_below_drewN | apply below_drew1) | exact HB.out)) hb); clear HB; have HO272 := n0_; have HB := n1_; clear n0_ n1_; (try clear hb); (try clear hb2); (try clear hk); (try clear hi); (try clear ho0)) | ((with_reducible refine gate_dst (N := 6) rfl ?_); (try (refine gate_guard (by rfl) ?_; dsimp only)); refine box_event ?hg (N := 6) ?hd (cs := #[.int .i64 0, .int .i64 0, .int .i64 0, .int .i64 0]) (t := 26) ?hr ?_; (case hd => rfl); (case hg => rfl); (case hr => first | (go_simp; done) | (go_simp; rfl)); intro gb277 hg w50 hbox hb; have n0_ := Aside0.mk (Kd.R_below (by (with_reducible repeat (first | apply Kd.R_alloc | apply Kd.R_drewN | apply Kd.R_drew)); exact HO272.out) hb); have n1_ := Aside0.mk (below_step (by repeat (first | (with_reducible first | exact HB.out | apply below_alloc | apply pw_below_drewN | apply below_drew1) | exact HB.out)) hb); have n2_ := Aside0.mk (hbox); have n3_ := Aside0.mk ((by rw [hg]; exact (below_size (by repeat (first | (with_reducible first | exact HB.out | apply below_alloc | apply pw_below_drewN | apply below_drew1) | exact HB.out))) : w.heap.size ≤ gb277)); have n4_ := Aside0.mk ((by rw [hg]; exact (below_size (by repeat (first | (with_reducible first | exact HB.out | apply below_alloc | apply pw_below_drewN | apply below_drew1) | exact HB.out))) : w.heap.size ≤ gb277)); clear HO272; clear HB; have HO272 := n0_; have HB := n1_; have BK277 := n2_; have GW277 := n3_; have GE277 := n4_; clear n0_ n1_ n2_ n3_ n4_; clear hb hbox hg; have hcz51_0 : w50.cell? ⟨gb277, 0, none⟩ = some (.int .i64 0) := (blk_cell BK277.out 0).trans rfl; have hcz51_1 : w50.cell? ⟨gb277, 1, none⟩ = some (.int .i64 0) := (blk_cell BK277.out 1).trans rfl; have hcz51_2 : w50.cell? ⟨gb277, 2, none⟩ = some (.int .i64 0) := (blk_cell BK277.out 2).trans rfl; have hcz51_3 : w50.cell? ⟨gb277, 3, none⟩ = some (.int .i64 0) := (blk_cell BK277.out 3).trans rfl; have hfz51_0 := blk_frozen BK277.out 0; have hfz51_1 := blk_frozen BK277.out 1; have hfz51_2 := blk_frozen BK277.out 2; have hfz51_3 := blk_frozen BK277.out 3) | ((with_reducible refine gate_callee (f := 14) rfl ?_); refine goesL_ (some 68) rfl rfl Tryd.func14 (by kernel_rfl) rfl #[.string a0] rfl (by (try simp only [List.map_toArray, List.map_cons, List.map_nil]); first | done | rfl | (simp only [List.length_drop, List.length_take]; rfl)) ?_; (with_reducible refine (dragomanref1_Form.calls k2 a0 true false _ A28.out).mono ?_); rintro e w' ⟨rfl, ⟨nd, rfl⟩⟩; refine ⟨_, rfl, ?_⟩))
                          go_ret
                          exact ⟨by first | rfl | (simp [errW_none, errW_some] <;> rfl) | (simp [*, errW_none, errW_some, bne]; done) | (simp [*, errW_none, errW_some] <;> rfl), by repeat (first | (with_reducible first | exact HB.out | apply below_alloc | apply pw_below_drewN | apply below_drew1 | refine below_set ?_ GE277.out) | exact HB.out)⟩
                      · replace c37 := Bool.eq_false_iff.mpr c37
                        subst c37
                        have H1 : (if t273 = 4 then (some (t274 == 1)) else (some false)) = some r := by rw [if_neg (show ¬ (false = true) by decide)] at H; exact H
                        clear H
                        have H := H1
                        clear H1
                        by_cases c52 : t273 = 4
                        · rw [if_pos c52] at H
                          have c52b0 : (t273 == 4) = true := beq_iff_eq.mpr c52
                          have c52b1 : (t273 != 4) = false := bne_eq_false_iff_eq.mpr c52
                          clear c52
                          obtain rfl := Option.some.inj H
                          go_wp2_with (first | ((with_reducible refine gate_callee (f := 13) rfl ?_); refine goesL_ (some 63) rfl rfl Tryd.func13 (by kernel_rfl) rfl #[.string (((⟨#[32]⟩ : ByteArray) ++ a0) ++ (⟨#[32]⟩ : ByteArray))] rfl (by (try simp only [List.map_toArray, List.map_cons, List.map_nil]); first | done | rfl | (simp only [List.length_drop, List.length_take]; rfl)) ?_; (with_reducible refine (jlex_Cut.calls k2 (((⟨#[32]⟩ : ByteArray) ++ a0) ++ (⟨#[32]⟩ : ByteArray)) t270 t273 t274 t275 t276 _ A27.out).mono ?_); rintro e w53 ⟨v271, rfl, ho0, hb⟩; refine ⟨_, rfl, ?_⟩; have n0_ := Aside0.mk (Kd.R_lower ho0 (below_size (by repeat (first | (with_reducible first | exact HB.out | apply below_alloc | apply pw_below_drewN | apply below_drew1) | exact HB.out)))); have n1_ := Aside0.mk (below_step (by repeat (first | (with_reducible first | exact HB.out | apply below_alloc | apply pw_below_drewN | apply below_drew1) | exact HB.out)) hb); clear HB; have HO272 := n0_; have HB := n1_; clear n0_ n1_; (try clear hb); (try clear hb2); (try clear hk); (try clear hi); (try clear ho0)) | ((with_reducible refine gate_dst (N := 6) rfl ?_); (try (refine gate_guard (by rfl) ?_; dsimp only)); refine box_event ?hg (N := 6) ?hd (cs := #[.int .i64 0, .int .i64 0, .int .i64 0, .int .i64 0]) (t := 26) ?hr ?_; (case hd => rfl); (case hg => rfl); (case hr => first | (go_simp; done) | (go_simp; rfl)); intro gb277 hg w54 hbox hb; have n0_ := Aside0.mk (Kd.R_below (by (with_reducible repeat (first | apply Kd.R_alloc | apply Kd.R_drewN | apply Kd.R_drew)); exact HO272.out) hb); have n1_ := Aside0.mk (below_step (by repeat (first | (with_reducible first | exact HB.out | apply below_alloc | apply pw_below_drewN | apply below_drew1) | exact HB.out)) hb); have n2_ := Aside0.mk (hbox); have n3_ := Aside0.mk ((by rw [hg]; exact (below_size (by repeat (first | (with_reducible first | exact HB.out | apply below_alloc | apply pw_below_drewN | apply below_drew1) | exact HB.out))) : w.heap.size ≤ gb277)); have n4_ := Aside0.mk ((by rw [hg]; exact (below_size (by repeat (first | (with_reducible first | exact HB.out | apply below_alloc | apply pw_below_drewN | apply below_drew1) | exact HB.out))) : w.heap.size ≤ gb277)); clear HO272; clear HB; have HO272 := n0_; have HB := n1_; have BK277 := n2_; have GW277 := n3_; have GE277 := n4_; clear n0_ n1_ n2_ n3_ n4_; clear hb hbox hg; have hcz55_0 : w54.cell? ⟨gb277, 0, none⟩ = some (.int .i64 0) := (blk_cell BK277.out 0).trans rfl; have hcz55_1 : w54.cell? ⟨gb277, 1, none⟩ = some (.int .i64 0) := (blk_cell BK277.out 1).trans rfl; have hcz55_2 : w54.cell? ⟨gb277, 2, none⟩ = some (.int .i64 0) := (blk_cell BK277.out 2).trans rfl; have hcz55_3 : w54.cell? ⟨gb277, 3, none⟩ = some (.int .i64 0) := (blk_cell BK277.out 3).trans rfl; have hfz55_0 := blk_frozen BK277.out 0; have hfz55_1 := blk_frozen BK277.out 1; have hfz55_2 := blk_frozen BK277.out 2; have hfz55_3 := blk_frozen BK277.out 3) | ((with_reducible refine gate_callee (f := 14) rfl ?_); refine goesL_ (some 68) rfl rfl Tryd.func14 (by kernel_rfl) rfl #[.string a0] rfl (by (try simp only [List.map_toArray, List.map_cons, List.map_nil]); first | done | rfl | (simp only [List.length_drop, List.length_take]; rfl)) ?_; (with_reducible refine (dragomanref1_Form.calls k2 a0 false false _ A28.out).mono ?_); rintro e w' ⟨rfl, ⟨nd, rfl⟩⟩; refine ⟨_, rfl, ?_⟩))
                          go_ret
                          exact ⟨by first | rfl | (simp [errW_none, errW_some] <;> rfl) | (simp [*, errW_none, errW_some, bne]; done) | (simp [*, errW_none, errW_some] <;> rfl), by repeat (first | (with_reducible first | exact HB.out | apply below_alloc | apply pw_below_drewN | apply below_drew1 | refine below_set ?_ GE277.out) | exact HB.out)⟩
                        · rw [if_neg c52] at H
                          have c52b0 : (t273 == 4) = false := beq_eq_false_iff_ne.mpr c52
                          have c52b1 : (t273 != 4) = true := bne_iff_ne.mpr c52
                          obtain rfl := Option.some.inj H
                          go_wp2_with (first | ((with_reducible refine gate_callee (f := 13) rfl ?_); refine goesL_ (some 63) rfl rfl Tryd.func13 (by kernel_rfl) rfl #[.string (((⟨#[32]⟩ : ByteArray) ++ a0) ++ (⟨#[32]⟩ : ByteArray))] rfl (by (try simp only [List.map_toArray, List.map_cons, List.map_nil]); first | done | rfl | (simp only [List.length_drop, List.length_take]; rfl)) ?_; (with_reducible refine (jlex_Cut.calls k2 (((⟨#[32]⟩ : ByteArray) ++ a0) ++ (⟨#[32]⟩ : ByteArray)) t270 t273 t274 t275 t276 _ A27.out).mono ?_); rintro e w56 ⟨v271, rfl, ho0, hb⟩; refine ⟨_, rfl, ?_⟩; have n0_ := Aside0.mk (Kd.R_lower ho0 (below_size (by repeat (first | (with_reducible first | exact HB.out | apply below_alloc | apply pw_below_drewN | apply below_drew1) | exact HB.out)))); have n1_ := Aside0.mk (below_step (by repeat (first | (with_reducible first | exact HB.out | apply below_alloc | apply pw_below_drewN | apply below_drew1) | exact HB.out)) hb); clear HB; have HO272 := n0_; have HB := n1_; clear n0_ n1_; (try clear hb); (try clear hb2); (try clear hk); (try clear hi); (try clear ho0)) | ((with_reducible refine gate_dst (N := 6) rfl ?_); (try (refine gate_guard (by rfl) ?_; dsimp only)); refine box_event ?hg (N := 6) ?hd (cs := #[.int .i64 0, .int .i64 0, .int .i64 0, .int .i64 0]) (t := 26) ?hr ?_; (case hd => rfl); (case hg => rfl); (case hr => first | (go_simp; done) | (go_simp; rfl)); intro gb277 hg w57 hbox hb; have n0_ := Aside0.mk (Kd.R_below (by (with_reducible repeat (first | apply Kd.R_alloc | apply Kd.R_drewN | apply Kd.R_drew)); exact HO272.out) hb); have n1_ := Aside0.mk (below_step (by repeat (first | (with_reducible first | exact HB.out | apply below_alloc | apply pw_below_drewN | apply below_drew1) | exact HB.out)) hb); have n2_ := Aside0.mk (hbox); have n3_ := Aside0.mk ((by rw [hg]; exact (below_size (by repeat (first | (with_reducible first | exact HB.out | apply below_alloc | apply pw_below_drewN | apply below_drew1) | exact HB.out))) : w.heap.size ≤ gb277)); have n4_ := Aside0.mk ((by rw [hg]; exact (below_size (by repeat (first | (with_reducible first | exact HB.out | apply below_alloc | apply pw_below_drewN | apply below_drew1) | exact HB.out))) : w.heap.size ≤ gb277)); clear HO272; clear HB; have HO272 := n0_; have HB := n1_; have BK277 := n2_; have GW277 := n3_; have GE277 := n4_; clear n0_ n1_ n2_ n3_ n4_; clear hb hbox hg; have hcz58_0 : w57.cell? ⟨gb277, 0, none⟩ = some (.int .i64 0) := (blk_cell BK277.out 0).trans rfl; have hcz58_1 : w57.cell? ⟨gb277, 1, none⟩ = some (.int .i64 0) := (blk_cell BK277.out 1).trans rfl; have hcz58_2 : w57.cell? ⟨gb277, 2, none⟩ = some (.int .i64 0) := (blk_cell BK277.out 2).trans rfl; have hcz58_3 : w57.cell? ⟨gb277, 3, none⟩ = some (.int .i64 0) := (blk_cell BK277.out 3).trans rfl; have hfz58_0 := blk_frozen BK277.out 0; have hfz58_1 := blk_frozen BK277.out 1; have hfz58_2 := blk_frozen BK277.out 2; have hfz58_3 := blk_frozen BK277.out 3) | ((with_reducible refine gate_callee (f := 14) rfl ?_); refine goesL_ (some 68) rfl rfl Tryd.func14 (by kernel_rfl) rfl #[.string a0] rfl (by (try simp only [List.map_toArray, List.map_cons, List.map_nil]); first | done | rfl | (simp only [List.length_drop, List.length_take]; rfl)) ?_; (with_reducible refine (dragomanref1_Form.calls k2 a0 false false _ A28.out).mono ?_); rintro e w' ⟨rfl, ⟨nd, rfl⟩⟩; refine ⟨_, rfl, ?_⟩))
                          go_ret
                          exact ⟨by first | rfl | (simp [errW_none, errW_some] <;> rfl) | (simp [*, errW_none, errW_some, bne]; done) | (simp [*, errW_none, errW_some] <;> rfl), by repeat (first | (with_reducible first | exact HB.out | apply below_alloc | apply pw_below_drewN | apply below_drew1 | refine below_set ?_ GE277.out) | exact HB.out)⟩
                  · rw [if_neg c26] at H
                    exact absurd H (by simp)
                · rw [if_neg c25] at H
                  exact absurd H (by simp)
  · replace c3 := Bool.eq_false_iff.mpr c3
    subst c3
    have H1 : (some false) = some r := by rw [if_neg (show ¬ (false = true) by decide)] at H; exact H
    clear H
    have H := H1
    clear H1
    obtain rfl := Option.some.inj H
    go_enter Tryd.func4, Tryd.ntmps4
    go_wp2_with (first | ((with_reducible refine gate_callee (f := 12) rfl ?_); refine goesL_ (some 9) rfl rfl Tryd.func12 (by kernel_rfl) rfl #[] rfl (by (try simp only [List.map_toArray, List.map_cons, List.map_nil]); first | done | rfl | (simp only [List.length_drop, List.length_take]; rfl)) ?_; (with_reducible refine (dragomanlaw7_awake.calls  false _ A2.out).mono ?_); rintro e w59 ⟨rfl, hb⟩; refine ⟨_, rfl, ?_⟩; have n0_ := Aside0.mk (below_step (by repeat (first | (with_reducible first | exact HB.out | apply below_alloc | apply pw_below_drewN | apply below_drew1) | exact HB.out)) hb); clear HB; have HB := n0_; clear n0_; (try clear hb); (try clear hb2); (try clear hk); (try clear hi)))
    go_ret
    exact ⟨by first | rfl | (simp [errW_none, errW_some] <;> rfl) | (simp [*, errW_none, errW_some, bne]; done) | (simp [*, errW_none, errW_some] <;> rfl), by repeat (first | (with_reducible first | exact HB.out | apply below_alloc | apply pw_below_drewN | apply below_drew1) | exact HB.out)⟩
/-- THE ONE PURE STATEMENT of dragomanlaw7_JlexNumbers: yours. -/
def dragomanlaw7_JlexNumbers.Pure : Prop := ∀ (a0 : ByteArray), a0.size ≤ 140737488351232 → ∃ k, dragomanlaw7_JlexNumbers.f k a0 = some true
theorem dragomanlaw7_JlexNumbers.walk (P : dragomanlaw7_JlexNumbers.Pure) (a0 : ByteArray) (w : World) (w0 : a0.size ≤ 140737488351232) :
    Calls Tryd.prog 4 #[.string a0] w fun e w' => e = .returned (.bool true) ∧ Below w.heap.size w w' := by
  obtain ⟨k, h⟩ := P a0 w0
  refine (dragomanlaw7_JlexNumbers.calls k a0 true w h).mono ?_
  rintro e w' ⟨rfl, hd⟩
  exact ⟨rfl, hd⟩
end Go.Proofs.YtoanbmggffkmgaaDoor.P
end
section
namespace Go.Proofs.YtoanbmggffkmgaaDoor.La
open Go.RowKit Go.Proofs.YtoanbmggffkmgaaDoor.P Go.Proofs.YtoanbmggffkmgaaDoorW.PrintWords Go.Proofs.YtoanbmggffkmgaaDoorW.PrintLast Go.Proofs.YtoanbmggffkmgaaDoorW.PrintMore
/-- What stands behind a number's e (nothing: it has none); none: it has no number's form. -/
def nexp : List Int → Option (List Int)
  | [] => some []
  | c :: p => if c ≠ 101 ∧ c ≠ 69 then none else if noSign p = [] ∨ digs (noSign p) ≠ (noSign p).length then none else some p
def nfrac (l : List Int) : Option (List Int) :=
  if l.head? = some 46 then (if digs (l.drop 1) = 0 then none else some (l.drop (1 + digs (l.drop 1)))) else some l
def nwhole (l : List Int) : Option (List Int) :=
  if digs l = 0 ∨ (1 < digs l ∧ l.head? = some 48) then none else some (l.drop (digs l))
def nneg (l : List Int) : List Int := if l.head? = some 45 then l.drop 1 else l
def nform (l : List Int) : Option (List Int) := (nwhole (nneg l)).bind fun a => (nfrac a).bind nexp
/-- Is the power not too great? -/
def fits (p : List Int) : Bool := (powV 0 (noSign p)).isSome
def ngood (l : List Int) : Bool := (nform l).elim false fits
theorem head_of (s : ByteArray) (h : 0 < s.size) : (bytesOf s).head? = some (bt s 0) := by
  rw [bt_get]
  have : 0 < (bytesOf s).length := by rw [size_of]; exact h
  cases hl : bytesOf s with
  | nil => rw [hl] at this; simp at this
  | cons a t => rfl
theorem cons_of (s : ByteArray) {c : Int} {p : List Int} (h : bytesOf s = c :: p) : 0 < s.size ∧ bt s 0 = c ∧ bytesOf (s.extract 1 s.size) = p ∧ s.size = p.length + 1 := by
  have hz : s.size = p.length + 1 := by rw [← size_of, h]; rfl
  refine ⟨by omega, by rw [bt_get, h]; rfl, by rw [bytesOf_drop, h]; rfl, hz⟩
theorem cutMinus (s : ByteArray) : strings_CutPrefix.f s (⟨#[45]⟩ : ByteArray) = some (if (bytesOf s).head? = some 45 then (s.extract 1 s.size, true) else (s, false)) := by
  unfold strings_CutPrefix.f stringslite_CutPrefix.f
  have h1 : stringslite_HasPrefix.f s (⟨#[45]⟩ : ByteArray) = some (decide ((bytesOf s).head? = some 45)) := by
    have := hasPrefix_eq s (⟨#[45]⟩ : ByteArray)
    unfold strings_HasPrefix.f at this
    have h2 : stringslite_HasPrefix.f s (⟨#[45]⟩ : ByteArray) = (stringslite_HasPrefix.f s (⟨#[45]⟩ : ByteArray)).bind fun t => some t := by cases stringslite_HasPrefix.f s (⟨#[45]⟩ : ByteArray) <;> rfl
    rw [h2, this]
    congr 1
    rw [decide_eq_decide]
    cases bytesOf s with
    | nil => simp [bytesOf]
    | cons a t => simp [bytesOf, ByteArray.size]
  rw [h1, Option.bind_some]
  by_cases h : (bytesOf s).head? = some 45
  · have hz : 0 < s.size := by
      rw [← size_of]
      cases hl : bytesOf s with
      | nil => rw [hl] at h; cases h
      | cons a t => simp
    rw [decide_eq_true h, if_pos rfl, if_pos (by show (0 : Int) ≤ 1; omega), if_pos (by show (1 : Int) ≤ _; omega), Option.bind_some, if_pos h]
    rfl
  · rw [decide_eq_false h, if_neg (by decide), Option.bind_some, if_neg h]
theorem powR_snd (l : List Int) : (powR l).2 = (decide (noSign l ≠ [] ∧ digs (noSign l) = (noSign l).length) && fits l) := by
  unfold powR powT fits
  by_cases h : noSign l = [] ∨ digs (noSign l) ≠ (noSign l).length
  · rw [if_pos h, decide_eq_false (by rintro ⟨h1, h2⟩; exact h.elim h1 (fun g => g h2))]
    rfl
  · have h1 : noSign l ≠ [] := fun e => h (.inl e)
    have h2 : digs (noSign l) = (noSign l).length := Classical.byContradiction fun e => h (.inr e)
    rw [if_neg h, decide_eq_true (show noSign l ≠ [] ∧ digs (noSign l) = (noSign l).length from And.intro h1 h2)]
    cases powV 0 (noSign l) <;> rfl
theorem one48 : (⟨#[48]⟩ : ByteArray).size < 4294967281 := by
  have h : (⟨#[48]⟩ : ByteArray).size = 1 := rfl
  rw [h]
  omega
theorem asc48 : ascii (bytesOf (⟨#[48]⟩ : ByteArray)) = true := by decide
theorem bts48 : bytesOf (⟨#[48]⟩ : ByteArray) = [48] := rfl
theorem trimL0 (s : ByteArray) : strings_TrimLeft.f s (⟨#[48]⟩ : ByteArray) = some (strOfNums (trimL [48] (bytesOf s))) := by
  unfold strings_TrimLeft.f
  rw [if_pos (And.intro one48 asc48), bts48]
theorem trimR0 (s : ByteArray) (h : s.size ≤ 140737488355328) : strings_TrimRight.f s (⟨#[48]⟩ : ByteArray) = some (strOfNums (trimR [48] (bytesOf s))) := by
  unfold strings_TrimRight.f
  rw [if_pos (And.intro h (And.intro one48 asc48)), bts48]
theorem trimL_len (cs l : List Int) : (trimL cs l).length ≤ l.length := (List.dropWhile_suffix _).length_le
theorem parse_j3 (x5 : Bool) (x7 x8 : ByteArray) (x9 : Int) (h7 : x7.size ≤ 1000) (h8 : x8.size ≤ 1000) : ∃ r, r.2.2.2 = true ∧ Ev (fun k => dec_parse.j3 k x5 x7 x8 x9) r := by
  have hsz : (strOfNums (trimL [48] (bytesOf (x7 ++ x8)))).size ≤ 140737488355328 := by
    rw [size_strOfNums (trimL_bytes (bytes_of _))]
    have := trimL_len [48] (bytesOf (x7 ++ x8))
    rw [size_of, size_append'] at this
    omega
  by_cases h : (strOfNums (trimL [48] (bytesOf (x7 ++ x8)))).toList = ([] : List UInt8)
  · refine ⟨_, ?_, Ev.step (fun k => by rw [dec_parse.j3, if_pos (by omega), trimL0, Option.bind_some, if_pos h]) (Ev.now _)⟩
    rfl
  · refine ⟨_, ?_, Ev.step (fun k => by rw [dec_parse.j3, if_pos (by omega), trimL0, Option.bind_some, if_neg h, trimR0 _ hsz, Option.bind_some]) (Ev.now _)⟩
    rfl
theorem parse_j1 (x4 : ByteArray) (x5 : Bool) (x7 x8 : ByteArray) (h4 : x4.size ≤ 1000) (h7 : x7.size ≤ 1000) (h8 : x8.size ≤ 1000) : ∃ r, r.2.2.2 = (nexp (bytesOf x4)).elim false fits ∧ Ev (fun k => dec_parse.j1 k x4 x5 x7 x8 0) r := by
  cases hl : bytesOf x4 with
  | nil =>
    obtain ⟨r, hr, he⟩ := parse_j3 x5 x7 x8 0 h7 h8
    refine ⟨r, by rw [hr]; rfl, Ev.step (fun k => by rw [dec_parse.j1, if_pos ((toList_nil_iff _).2 hl)]) he⟩
  | cons c p =>
    obtain ⟨hz, hb, hp, hn⟩ := cons_of x4 hl
    have hne : ¬ x4.toList = ([] : List UInt8) := fun e => by rw [toList_nil_iff, hl] at e; cases e
    have hj2 : ∃ r, r.2.2.2 = (nexp (c :: p)).elim false fits ∧ Ev (fun k => dec_parse.j2 k x4 x5 x7 x8 (decide (c ≠ 101 ∧ c ≠ 69))) r := by
      by_cases hc : c ≠ 101 ∧ c ≠ 69
      · refine ⟨_, ?_, Ev.step (fun k => by rw [dec_parse.j2, if_pos (decide_eq_true hc)]) (Ev.now _)⟩
        simp only [nexp]
        rw [if_pos hc]
        rfl
      · have hpw : dec_power.f (x4.extract 1 x4.size) = some (powR p) := by
          unfold dec_power.f
          rw [if_pos (by rw [size_drop]; omega), hp]
        have h2 := powR_snd p
        simp only [nexp]
        rw [if_neg hc]
        by_cases hq : noSign p = [] ∨ digs (noSign p) ≠ (noSign p).length
        · rw [decide_eq_false (by rintro ⟨h1, h2⟩; exact hq.elim h1 (fun g => g h2)), Bool.false_and] at h2
          refine ⟨_, ?_, Ev.step (fun k => by rw [dec_parse.j2, if_neg (by simpa using hc), if_pos (by omega), hpw, Option.bind_some, if_neg (by rw [h2]; decide)]) (Ev.now _)⟩
          rw [if_pos hq]
          rfl
        · rw [decide_eq_true ⟨fun e => hq (.inl e), Classical.byContradiction fun e => hq (.inr e)⟩, Bool.true_and] at h2
          rw [if_neg hq]
          simp only [Option.elim_some]
          cases hf : fits p with
          | false =>
            rw [hf] at h2
            refine ⟨_, ?_, Ev.step (fun k => by rw [dec_parse.j2, if_neg (by simpa using hc), if_pos (by omega), hpw, Option.bind_some, if_neg (by rw [h2]; decide)]) (Ev.now _)⟩
            rfl
          | true =>
            rw [hf] at h2
            obtain ⟨r, hr, he⟩ := parse_j3 x5 x7 x8 (powR p).1 h7 h8
            exact ⟨r, hr, Ev.step (fun k => by rw [dec_parse.j2, if_neg (by simpa using hc), if_pos (by omega), hpw, Option.bind_some, if_pos h2]) he⟩
    obtain ⟨r, hr, he⟩ := hj2
    refine ⟨r, hr, Ev.step (fun k => by rw [dec_parse.j1, if_neg hne, if_pos (by omega), hb]) ?_⟩
    by_cases h1 : c = 101
    · rw [decide_eq_false (by simp [h1])] at he
      simp only [if_pos h1]
      exact he
    · simp only [if_neg h1]
      have : (c != 69) = decide (c ≠ 101 ∧ c ≠ 69) := by rw [Bool.eq_iff_iff]; simp [h1]
      rw [this]
      exact he
theorem hasDot (s : ByteArray) : strings_HasPrefix.f s (⟨#[46]⟩ : ByteArray) = some (decide ((bytesOf s).head? = some 46)) := by
  rw [hasPrefix_eq]
  congr 1
  rw [decide_eq_decide]
  cases bytesOf s with
  | nil => simp [bytesOf]
  | cons a t => simp [bytesOf, ByteArray.size]
theorem extract_mid (s : ByteArray) (n : Nat) (_h : 1 + n ≤ s.size) : (s.extract 1 (1 + n)).size ≤ s.size := by
  rw [← size_of, bytesOf_extract, List.length_drop, List.length_take, size_of]
  omega
theorem parse_j0 (x4 : ByteArray) (x5 : Bool) (h4 : x4.size ≤ 1000) : ∃ r, r.2.2.2 = ((nfrac ((bytesOf x4).drop (digs (bytesOf x4)))).bind nexp).elim false fits ∧ Ev (fun k => dec_parse.j0 k x4 x5 (digs (bytesOf x4) : Int) false) r := by
  have hd := digs_le (bytesOf x4)
  rw [size_of] at hd
  generalize hn : digs (bytesOf x4) = n at hd
  have hx : bytesOf (x4.extract ((n : Int)).toNat x4.size) = (bytesOf x4).drop n := by rw [Int.toNat_natCast, bytesOf_drop]
  have hxz : (x4.extract ((n : Int)).toNat x4.size).size = x4.size - n := by rw [Int.toNat_natCast, size_drop]
  generalize hy : x4.extract ((n : Int)).toNat x4.size = y at hx hxz
  rw [← hx]
  have hsz7 : (x4.extract 0 ((n : Int)).toNat).size ≤ 1000 := by rw [Int.toNat_natCast, size_take _ hd]; omega
  generalize hx7 : x4.extract 0 ((n : Int)).toNat = x7 at hsz7
  unfold nfrac
  by_cases hdot : (bytesOf y).head? = some 46
  · rw [if_pos hdot]
    have hy0 : 0 < y.size := by
      rw [← size_of]
      cases hl : bytesOf y with
      | nil => rw [hl] at hdot; cases hdot
      | cons a t => simp
    have hdg := digits_ev (y.extract 1 y.size) (by rw [size_drop]; omega)
    rw [bytesOf_drop] at hdg
    have hdl := digs_le ((bytesOf y).drop 1)
    rw [List.length_drop, size_of] at hdl
    generalize digs ((bytesOf y).drop 1) = m at hdg hdl
    by_cases hm : m = 0
    · rw [if_pos hm]
      refine ⟨(false, ⟨#[]⟩, 0, false), rfl, Ev.step (fun k => by rw [dec_parse.j0, if_neg (by decide), if_pos (by omega), if_pos (by omega), hy, hx7, hasDot, Option.bind_some, if_pos (decide_eq_true hdot), if_pos (by omega)]) ?_⟩
      refine Ev.bind hdg ?_
      simp only [hm, Int.natCast_zero, if_true]
      exact Ev.now _
    · rw [if_neg hm]
      have hw : wrap64 ((m : Int) + 1) = ((1 + m : Nat) : Int) := by rw [wrap_id (by omega) (by omega)]; omega
      have hz8 : (y.extract 1 (1 + m)).size ≤ 1000 := by have := extract_mid y m (by omega); omega
      have hz4 : (y.extract (1 + m) y.size).size ≤ 1000 := by rw [size_drop]; omega
      obtain ⟨r, hr, he⟩ := parse_j1 (y.extract (1 + m) y.size) x5 x7 (y.extract 1 (1 + m)) hz4 hsz7 hz8
      rw [bytesOf_drop] at hr
      refine ⟨r, hr, Ev.step (fun k => by rw [dec_parse.j0, if_neg (by decide), if_pos (by omega), if_pos (by omega), hy, hx7, hasDot, Option.bind_some, if_pos (decide_eq_true hdot), if_pos (by omega)]) ?_⟩
      refine Ev.bind hdg ?_
      simp only [hw, if_neg (show ¬ ((m : Int) = 0) by omega), if_pos (show (1 : Int) ≤ ((1 + m : Nat) : Int) by omega), if_pos (show ((1 + m : Nat) : Int) ≤ (y.size : Int) by omega), if_pos (show (0 : Int) ≤ ((1 + m : Nat) : Int) by omega), Int.toNat_natCast]
      exact he
  · rw [if_neg hdot]
    obtain ⟨r, hr, he⟩ := parse_j1 y x5 x7 (⟨#[]⟩) (by omega) hsz7 (by show 0 ≤ 1000; omega)
    exact ⟨r, hr, Ev.step (fun k => by rw [dec_parse.j0, if_neg (by decide), if_pos (by omega), if_pos (by omega), hy, hx7, hasDot, Option.bind_some, if_neg (by rw [decide_eq_false hdot]; decide)]) he⟩
theorem parse_ev (s : ByteArray) (hs : s.size ≤ 400) : ∃ r, r.2.2.2 = ngood (bytesOf s) ∧ Ev (fun k => dec_parse.f k s) r := by
  have key : ∀ (y : ByteArray) (b : Bool), y.size ≤ 1000 → ∃ r, r.2.2.2 = ((nwhole (bytesOf y)).bind fun a => (nfrac a).bind nexp).elim false fits ∧
      Ev (fun k => (dec_digits.f k y).bind fun t187 => (if t187 = 0 then (dec_parse.j0 k y b t187 true) else (if t187 > 1 then (if 0 < (y.size : Int) then (dec_parse.j0 k y b t187 ((bt y 0) == 48)) else (none)) else (dec_parse.j0 k y b t187 false)))) r := by
    intro y b hy
    have hdg := digits_ev y (by omega)
    have hd := digs_le (bytesOf y)
    rw [size_of] at hd
    unfold nwhole
    have bad : ∀ t : Int, Ev (fun k => dec_parse.j0 k y b t true) (false, (⟨#[]⟩ : ByteArray), 0, false) := fun t => Ev.step (fun k => by rw [dec_parse.j0, if_pos rfl]) (Ev.now _)
    by_cases h0 : digs (bytesOf y) = 0
    · rw [if_pos (.inl h0)]
      refine ⟨(false, ⟨#[]⟩, 0, false), rfl, Ev.bind hdg ?_⟩
      simp only [if_pos (show (digs (bytesOf y) : Int) = 0 by omega)]
      exact bad _
    · have hz : 0 < y.size := by omega
      have hh := head_of y hz
      by_cases h1 : 1 < digs (bytesOf y)
      · by_cases h48 : bt y 0 = 48
        · rw [if_pos (.inr ⟨h1, by rw [hh, h48]⟩)]
          refine ⟨(false, ⟨#[]⟩, 0, false), rfl, Ev.bind hdg ?_⟩
          simp only [if_neg (show ¬ (digs (bytesOf y) : Int) = 0 by omega), if_pos (show (digs (bytesOf y) : Int) > 1 by omega), if_pos (show (0 : Int) < (y.size : Int) by omega), h48, beq_self_eq_true]
          exact bad _
        · rw [if_neg (by rintro (h | ⟨_, h⟩); exact h0 h; rw [hh] at h; exact h48 (Option.some.inj h)), Option.bind_some]
          obtain ⟨r, hr, he⟩ := parse_j0 y b hy
          refine ⟨r, hr, Ev.bind hdg ?_⟩
          simp only [if_neg (show ¬ (digs (bytesOf y) : Int) = 0 by omega), if_pos (show (digs (bytesOf y) : Int) > 1 by omega), if_pos (show (0 : Int) < (y.size : Int) by omega), beq_eq_false_iff_ne.2 h48]
          exact he
      · rw [if_neg (by rintro (h | ⟨h, _⟩); exact h0 h; exact h1 h), Option.bind_some]
        obtain ⟨r, hr, he⟩ := parse_j0 y b hy
        refine ⟨r, hr, Ev.bind hdg ?_⟩
        simp only [if_neg (show ¬ (digs (bytesOf y) : Int) = 0 by omega), if_neg (show ¬ (digs (bytesOf y) : Int) > 1 by omega)]
        exact he
  unfold ngood nform nneg
  by_cases h : (bytesOf s).head? = some 45
  · rw [if_pos h]
    obtain ⟨r, hr, he⟩ := key (s.extract 1 s.size) true (by rw [size_drop]; omega)
    rw [bytesOf_drop] at hr
    exact ⟨r, hr, Ev.congr (fun k => by rw [dec_parse.f, if_neg (by omega), cutMinus, if_pos h, Option.bind_some]) he⟩
  · rw [if_neg h]
    obtain ⟨r, hr, he⟩ := key s false (by omega)
    exact ⟨r, hr, Ev.congr (fun k => by rw [dec_parse.f, if_neg (by omega), cutMinus, if_neg h, Option.bind_some]) he⟩
theorem good_ev (s : ByteArray) (hs : s.size ≤ 400) : Ev (fun k => dec_Good.f k s) (ngood (bytesOf s)) := by
  obtain ⟨r, hr, he⟩ := parse_ev s hs
  refine Ev.congr (fun k => by rw [dec_Good.f]) (Ev.bind he ?_)
  rw [hr]
  exact Ev.now _
end Go.Proofs.YtoanbmggffkmgaaDoor.La
end
section
namespace Go.Proofs.YtoanbmggffkmgaaDoor.La
open Go.RowKit Go.Proofs.YtoanbmggffkmgaaDoor.P Go.Proofs.YtoanbmggffkmgaaDoorW.PrintWords Go.Proofs.YtoanbmggffkmgaaDoorW.PrintLast Go.Proofs.YtoanbmggffkmgaaDoorW.PrintMore
/-- How many bytes of a set stand at a text's beginning. -/
def wh (cs : List Int) : List Int → Nat
  | [] => 0
  | b :: l => if inSet cs b = true then wh cs l + 1 else 0
theorem wh_le (cs l : List Int) : wh cs l ≤ l.length := by
  induction l with
  | nil => simp [wh]
  | cons b l ih => simp only [wh, List.length_cons]; split <;> omega
theorem trimL_wh (cs l : List Int) : trimL cs l = l.drop (wh cs l) := by
  unfold trimL
  induction l with
  | nil => rfl
  | cons b l ih =>
    simp only [List.dropWhile_cons, wh]
    split
    · rw [ih, List.drop_succ_cons]
    · rfl
theorem while_eq (s t : ByteArray) (hs : s.size ≤ 140737488355328) (h : t.size < 4294967281) (ha : ascii (bytesOf t) = true) : jlex_while.f s t = some (wh (bytesOf t) (bytesOf s) : Int) := by
  unfold jlex_while.f strings_TrimLeft.f
  rw [if_pos (And.intro h ha), Option.bind_some, size_strOfNums (trimL_bytes (bytes_of _)), trimL_wh, List.length_drop, size_of]
  have := wh_le (bytesOf t) (bytesOf s)
  rw [size_of] at this
  rw [wrap_id (by omega) (by omega)]
  congr 1
  omega
def tenS : List Int := [48, 49, 50, 51, 52, 53, 54, 55, 56, 57]
theorem ten_dig {b : Int} (_h0 : 0 ≤ b) : inSet tenS b = isDig b := by
  rw [Bool.eq_iff_iff]
  unfold inSet tenS isDig
  simp
  omega
theorem wh_ten {l : List Int} (h : Bytes l) : wh tenS l = digs l := by
  induction l with
  | nil => rfl
  | cons b l ih =>
    simp only [wh, digs, ten_dig (h b List.mem_cons_self).1, ih (fun x hx => h x (List.mem_cons_of_mem _ hx))]
theorem digs_end {l p : List Int} {c : Int} (hc : isDig c = false) : digs (l ++ c :: p) = digs l := by
  induction l with
  | nil => simp only [List.nil_append, digs, hc]; rfl
  | cons b l ih => simp only [List.cons_append, digs, ih]
theorem nneg_app {a p : List Int} {c : Int} (hc : c ≠ 45) : nneg (a ++ c :: p) = nneg a ++ c :: p := by
  unfold nneg
  cases a with
  | nil => rw [List.nil_append, if_neg (by simpa using hc), if_neg (by simp), List.nil_append]
  | cons x t =>
    rw [List.cons_append]
    by_cases h : x = 45
    · rw [if_pos (by simp [h]), if_pos (by simp [h])]; rfl
    · rw [if_neg (by simp [h]), if_neg (by simp [h])]; rfl
theorem nwhole_app {a p : List Int} {c : Int} (hc : isDig c = false) : nwhole (a ++ c :: p) = (nwhole a).map (· ++ c :: p) := by
  unfold nwhole
  rw [digs_end hc]
  have hl := digs_le a
  cases a with
  | nil => rw [if_pos (.inl rfl), if_pos (.inl rfl)]; rfl
  | cons x t =>
    rw [List.cons_append]
    by_cases h : digs (x :: t) = 0 ∨ 1 < digs (x :: t) ∧ x = 48
    · rw [if_pos (by simpa using h), if_pos (by simpa using h)]; rfl
    · rw [if_neg (by simpa using h), if_neg (by simpa using h)]
      simp only [Option.map_some]
      congr 1
      exact List.drop_append_of_le_length hl
theorem nfrac_app {a p : List Int} {c : Int} (hc : isDig c = false) (h46 : c ≠ 46) : nfrac (a ++ c :: p) = (nfrac a).map (· ++ c :: p) := by
  unfold nfrac
  cases a with
  | nil => rw [List.nil_append, if_neg (by simpa using h46), if_neg (by simp)]; rfl
  | cons x t =>
    rw [List.cons_append]
    by_cases h : x = 46
    · have e1 : (x :: (t ++ c :: p)).head? = some 46 := by rw [h]; rfl
      have e2 : (x :: t).head? = some 46 := by rw [h]; rfl
      rw [if_pos e1, if_pos e2, List.drop_succ_cons, List.drop_zero, List.drop_succ_cons, List.drop_zero, digs_end hc]
      by_cases h2 : digs t = 0
      · rw [if_pos h2, if_pos h2]; rfl
      · rw [if_neg h2, if_neg h2, Option.map_some]
        have hl := digs_le t
        rw [Nat.add_comm, List.drop_succ_cons, List.drop_succ_cons, List.drop_append_of_le_length hl]
    · have e1 : ¬ (x :: (t ++ c :: p)).head? = some 46 := fun e => h (Option.some.inj e)
      have e2 : ¬ (x :: t).head? = some 46 := fun e => h (Option.some.inj e)
      rw [if_neg e1, if_neg e2]; rfl
theorem nwhole_sub {a r : List Int} (h : nwhole a = some r) : ∀ x ∈ r, x ∈ a := by
  unfold nwhole at h
  split at h
  · cases h
  · obtain rfl := Option.some.inj h; exact fun x hx => List.mem_of_mem_drop hx
theorem nfrac_sub {a r : List Int} (h : nfrac a = some r) : ∀ x ∈ r, x ∈ a := by
  unfold nfrac at h
  split at h
  · split at h
    · cases h
    · obtain rfl := Option.some.inj h; exact fun x hx => List.mem_of_mem_drop hx
  · obtain rfl := Option.some.inj h; exact fun x hx => hx
theorem nneg_sub (a : List Int) : ∀ x ∈ nneg a, x ∈ a := by
  unfold nneg
  split
  · exact fun x hx => List.mem_of_mem_drop hx
  · exact fun x hx => hx
/-- A text without e has no power. -/
theorem nform_plain {a : List Int} (h : ∀ x ∈ a, x ≠ 101 ∧ x ≠ 69) : nform a = none ∨ nform a = some [] := by
  unfold nform
  cases h1 : nwhole (nneg a) with
  | none => exact .inl rfl
  | some r =>
    rw [Option.bind_some]
    cases h2 : nfrac r with
    | none => exact .inl rfl
    | some q =>
      rw [Option.bind_some]
      cases q with
      | nil => exact .inr rfl
      | cons x t =>
        have := h x (nneg_sub a x (nwhole_sub h1 x (nfrac_sub h2 x List.mem_cons_self)))
        simp only [nexp]
        rw [if_pos this]
        exact .inl rfl
theorem nform_e {a p : List Int} {c : Int} (h : ∀ x ∈ a, x ≠ 101 ∧ x ≠ 69) (hc : c = 101 ∨ c = 69) :
    nform (a ++ c :: p) = if nform a = some [] then (if noSign p = [] ∨ digs (noSign p) ≠ (noSign p).length then none else some p) else none := by
  have hd : isDig c = false := by rcases hc with rfl | rfl <;> rfl
  have key : ∀ o : Option (List Int), (∀ q, o = some q → ∀ x ∈ q, x ≠ 101 ∧ x ≠ 69) → (o.map (· ++ c :: p)).bind nexp = if o.bind nexp = some [] then (if noSign p = [] ∨ digs (noSign p) ≠ (noSign p).length then none else some p) else none := by
    intro o ho
    cases o with
    | none => rw [if_neg (by simp)]; rfl
    | some q =>
      rw [Option.map_some, Option.bind_some, Option.bind_some]
      cases q with
      | nil =>
        rw [if_pos (show nexp [] = some [] from rfl), List.nil_append, nexp, if_neg (by omega)]
      | cons x t =>
        have := ho _ rfl x List.mem_cons_self
        have e1 : nexp (x :: t) = none := by rw [nexp, if_pos this]
        rw [e1, if_neg (by simp), List.cons_append, nexp, if_pos this]
  have hL : nform (a ++ c :: p) = (((nwhole (nneg a)).bind nfrac).map (· ++ c :: p)).bind nexp := by
    unfold nform
    rw [nneg_app (by omega), nwhole_app hd]
    cases nwhole (nneg a) with
    | none => rfl
    | some r =>
      rw [Option.map_some, Option.bind_some, Option.bind_some, nfrac_app hd (by omega)]
  have hR : nform a = ((nwhole (nneg a)).bind nfrac).bind nexp := by
    unfold nform
    cases nwhole (nneg a) <;> rfl
  rw [hL, hR]
  refine key _ (fun q hq x hx => ?_)
  obtain ⟨r, h1, h2⟩ := Option.bind_eq_some_iff.1 hq
  exact h x (nneg_sub a x (nwhole_sub h1 x (nfrac_sub h2 x hx)))
theorem e_split (l : List Int) : ((∀ x ∈ l, x ≠ 101 ∧ x ≠ 69) ∧ idxAny [101, 69] l = -1) ∨ (∃ a c p, l = a ++ c :: p ∧ (∀ x ∈ a, x ≠ 101 ∧ x ≠ 69) ∧ (c = 101 ∨ c = 69) ∧ idxAny [101, 69] l = (a.length : Int)) := by
  induction l with
  | nil => exact .inl ⟨fun x hx => by simp at hx, rfl⟩
  | cons b l ih =>
    have hb : inSet [101, 69] b = decide (b = 101 ∨ b = 69) := by rw [Bool.eq_iff_iff]; unfold inSet; simp; omega
    by_cases h : b = 101 ∨ b = 69
    · right
      refine ⟨[], b, l, rfl, fun x hx => by simp at hx, h, ?_⟩
      simp only [idxAny, hb, decide_eq_true h, if_true]
      rfl
    · simp only [idxAny, hb, decide_eq_false h, Bool.false_eq_true, if_false]
      rcases ih with ⟨h1, h2⟩ | ⟨a, c, p, rfl, h1, h2, h3⟩
      · left
        refine ⟨fun x hx => ?_, by rw [if_pos h2]⟩
        rcases List.mem_cons.1 hx with rfl | hx
        · omega
        · exact h1 x hx
      · right
        refine ⟨b :: a, c, p, rfl, fun x hx => ?_, h2, ?_⟩
        · rcases List.mem_cons.1 hx with rfl | hx
          · omega
          · exact h1 x hx
        · rw [if_neg (by omega), h3, List.length_cons]; omega
/-- Has a text a number's form, with a power? -/
def greatS (l : List Int) : Bool := (nform l).elim false (fun p => decide (p ≠ []))
theorem trim10 (s : ByteArray) : strings_TrimLeft.f s (⟨#[48, 49, 50, 51, 52, 53, 54, 55, 56, 57]⟩ : ByteArray) = some (strOfNums ((bytesOf s).drop (digs (bytesOf s)))) := by
  unfold strings_TrimLeft.f
  have h1 : (⟨#[48, 49, 50, 51, 52, 53, 54, 55, 56, 57]⟩ : ByteArray).size < 4294967281 := by
    have h : (⟨#[48, 49, 50, 51, 52, 53, 54, 55, 56, 57]⟩ : ByteArray).size = 10 := rfl
    rw [h]; omega
  have h2 : ascii (bytesOf (⟨#[48, 49, 50, 51, 52, 53, 54, 55, 56, 57]⟩ : ByteArray)) = true := by decide
  rw [if_pos (And.intro h1 h2), trimL_wh]
  rw [show bytesOf (⟨#[48, 49, 50, 51, 52, 53, 54, 55, 56, 57]⟩ : ByteArray) = tenS from rfl, wh_ten (bytes_of s)]
theorem while10 (s : ByteArray) (hs : s.size ≤ 140737488355328) : jlex_while.f s (⟨#[48, 49, 50, 51, 52, 53, 54, 55, 56, 57]⟩ : ByteArray) = some (digs (bytesOf s) : Int) := by
  have h1 : (⟨#[48, 49, 50, 51, 52, 53, 54, 55, 56, 57]⟩ : ByteArray).size < 4294967281 := by
    have h : (⟨#[48, 49, 50, 51, 52, 53, 54, 55, 56, 57]⟩ : ByteArray).size = 10 := rfl
    rw [h]; omega
  have h2 : ascii (bytesOf (⟨#[48, 49, 50, 51, 52, 53, 54, 55, 56, 57]⟩ : ByteArray)) = true := by decide
  rw [while_eq s _ hs h1 h2]
  rw [show bytesOf (⟨#[48, 49, 50, 51, 52, 53, 54, 55, 56, 57]⟩ : ByteArray) = tenS from rfl, wh_ten (bytes_of s)]
theorem ngood_plain {a : List Int} (h : ∀ x ∈ a, x ≠ 101 ∧ x ≠ 69) : ngood a = decide (nform a = some []) := by
  unfold ngood
  rcases nform_plain h with e | e <;> rw [e] <;> rfl
theorem great_ev (s : ByteArray) (hs : s.size ≤ 400) (ha : ascii (bytesOf s) = true) : Ev (fun k => jlex_great.f k s) (greatS (bytesOf s)) := by
  have hidx : strings_IndexAny.f s (⟨#[101, 69]⟩ : ByteArray) = some (idxAny [101, 69] (bytesOf s)) := by
    unfold strings_IndexAny.f
    have h1 : (⟨#[101, 69]⟩ : ByteArray).size < 4294967281 := by
      have h : (⟨#[101, 69]⟩ : ByteArray).size = 2 := rfl
      rw [h]; omega
    have h2 : ascii (bytesOf (⟨#[101, 69]⟩ : ByteArray)) = true := by decide
    rw [if_pos (And.intro (And.intro (by omega) h1) (And.intro ha h2))]
    rfl
  rcases e_split (bytesOf s) with ⟨h1, h2⟩ | ⟨a, c, p, hl, h1, hc, h2⟩
  · have : greatS (bytesOf s) = false := by
      unfold greatS
      rcases nform_plain h1 with e | e <;> rw [e] <;> rfl
    rw [this]
    exact Ev.congr (fun k => by rw [jlex_great.f, hidx, Option.bind_some, if_pos (by omega)]) (Ev.now _)
  · have hz : s.size = a.length + (p.length + 1) := by rw [← size_of, hl, List.length_append, List.length_cons]
    have hw : wrap64 ((a.length : Int) + 1) = ((a.length + 1 : Nat) : Int) := by rw [wrap_id (by omega) (by omega)]; omega
    have hpb : Bytes p := fun x hx => bytes_of s x (by rw [hl]; exact List.mem_append.2 (.inr (List.mem_cons_of_mem _ hx)))
    have hy : bytesOf (s.extract (a.length + 1) s.size) = p := by
      rw [bytesOf_drop, hl, ← List.drop_drop, List.drop_left]
      rfl
    have hyz : (s.extract (a.length + 1) s.size).size = p.length := by rw [size_drop]; omega
    have ht := trim10 (s.extract (a.length + 1) s.size)
    rw [hy] at ht
    have hgood := good_ev (s.extract 0 a.length) (by rw [size_take _ (by omega)]; omega)
    rw [bytesOf_take, hl, List.take_left, ngood_plain h1] at hgood
    have htz : (strOfNums (p.drop (digs p))).size = p.length - digs p := by rw [size_strOfNums (hpb.drop _), List.length_drop]
    have htb : bytesOf (strOfNums (p.drop (digs p))) = p.drop (digs p) := strOfNums_bytes (hpb.drop _)
    have hdl := digs_le p
    have hgr : greatS (bytesOf s) = (decide (nform a = some []) && decide (noSign p ≠ [] ∧ digs (noSign p) = (noSign p).length)) := by
      unfold greatS
      rw [hl, nform_e h1 hc]
      by_cases hf : nform a = some []
      · rw [if_pos hf, decide_eq_true hf, Bool.true_and]
        by_cases hq : noSign p = [] ∨ digs (noSign p) ≠ (noSign p).length
        · rw [if_pos hq, decide_eq_false (by rintro ⟨g1, g2⟩; exact hq.elim g1 (fun g => g g2))]
          rfl
        · have g1 : noSign p ≠ [] := fun e => hq (.inl e)
          have g2 : digs (noSign p) = (noSign p).length := Classical.byContradiction fun e => hq (.inr e)
          rw [if_neg hq, decide_eq_true (show noSign p ≠ [] ∧ digs (noSign p) = (noSign p).length from And.intro g1 g2)]
          have : p ≠ [] := fun e => g1 (by rw [e]; rfl)
          simp [this]
      · rw [if_neg hf, decide_eq_false hf]
        rfl
    rw [hgr]
    have step1 : ∀ k, jlex_great.f k s = if (strOfNums (p.drop (digs p))).toList = (s.extract (a.length + 1) s.size).toList then (if ((strOfNums (p.drop (digs p))).size : Int) > 0 then (if 0 < ((strOfNums (p.drop (digs p))).size : Int) then (if (bt (strOfNums (p.drop (digs p))) 0) = 43 then (jlex_great.j0 k s (a.length : Int) (strOfNums (p.drop (digs p))) true) else (jlex_great.j0 k s (a.length : Int) (strOfNums (p.drop (digs p))) ((bt (strOfNums (p.drop (digs p))) 0) == 45))) else (none)) else (jlex_great.j0 k s (a.length : Int) (strOfNums (p.drop (digs p))) false)) else (jlex_great.j0 k s (a.length : Int) (strOfNums (p.drop (digs p))) false) := by
      intro k
      rw [jlex_great.f, hidx, Option.bind_some, h2, if_neg (by omega), hw, if_pos (by omega), if_pos (by omega), Int.toNat_natCast, ht, Option.bind_some]
    have fall : digs p ≠ 0 ∨ p = [] ∨ (p.head? ≠ some 43 ∧ p.head? ≠ some 45) → Ev (fun k => jlex_great.j0 k s (a.length : Int) (strOfNums (p.drop (digs p))) false) (decide (nform a = some []) && decide (noSign p ≠ [] ∧ digs (noSign p) = (noSign p).length)) := by
      intro hcase
      have hns : noSign p = p := by
        unfold noSign
        rw [if_neg]
        rintro (h | h)
        · rcases hcase with g | g | ⟨_, g⟩
          · cases p with
            | nil => cases h
            | cons x t =>
              simp at h
              subst h
              simp [digs, isDig] at g
          · rw [g] at h; cases h
          · exact g h
        · rcases hcase with g | g | ⟨g, _⟩
          · cases p with
            | nil => cases h
            | cons x t =>
              simp at h
              subst h
              simp [digs, isDig] at g
          · rw [g] at h; cases h
          · exact g h
      rw [hns]
      by_cases hall : digs p = p.length
      · have hnil : (strOfNums (p.drop (digs p))).toList = ([] : List UInt8) := by rw [toList_nil_iff, htb, hall, List.drop_length]
        by_cases hp0 : p = []
        · rw [decide_eq_false (p := p ≠ [] ∧ digs p = p.length) (fun g => g.1 hp0), Bool.and_false]
          have : p.length = 0 := by rw [hp0]; rfl
          exact Ev.step (fun k => by rw [jlex_great.j0, if_neg (by decide), if_pos hnil, hw, if_neg (by omega)]) (Ev.now _)
        · rw [decide_eq_true (p := p ≠ [] ∧ digs p = p.length) (And.intro hp0 hall), Bool.and_true]
          have : 0 < p.length := List.length_pos_iff.2 hp0
          refine Ev.step (fun k => by rw [jlex_great.j0, if_neg (by decide), if_pos hnil, hw, if_pos (by omega), if_pos (by omega), if_pos (by omega), Int.toNat_natCast]) (Ev.bind hgood ?_)
          exact Ev.now _
      · have hnil : ¬ (strOfNums (p.drop (digs p))).toList = ([] : List UInt8) := by
          rw [toList_nil_iff, htb]
          intro e
          have := congrArg List.length e
          rw [List.length_drop, List.length_nil] at this
          omega
        rw [decide_eq_false (p := p ≠ [] ∧ digs p = p.length) (fun g => hall g.2), Bool.and_false]
        exact Ev.step (fun k => by rw [jlex_great.j0, if_neg (by decide), if_neg hnil]) (Ev.now _)
    refine Ev.congr step1 ?_
    by_cases hd0 : digs p = 0
    · have heq : (strOfNums (p.drop (digs p))).toList = (s.extract (a.length + 1) s.size).toList := by rw [toList_eq_iff, htb, hy, hd0]; rfl
      simp only [if_pos heq, htz]
      rw [hd0, Nat.sub_zero]
      cases p with
      | nil =>
        simp only [List.length_nil, if_neg (show ¬ ((0 : Nat) : Int) > 0 by omega)]
        have := fall (.inr (.inl rfl))
        rw [hd0] at this
        exact this
      | cons x t =>
        have hbx : bt (strOfNums ((x :: t).drop 0)) 0 = x := by
          rw [hd0] at htb
          rw [bt_get, htb]; rfl
        simp only [if_pos (show ((x :: t).length : Int) > 0 by simp), hbx]
        by_cases hsg : x = 43 ∨ x = 45
        · have hj : (if x = 43 then true else (x == 45)) = true := by
            rcases hsg with rfl | rfl <;> rfl
          have hns : noSign (x :: t) = t := by
            unfold noSign
            rw [if_pos (by rcases hsg with rfl | rfl <;> simp)]
            rfl
          have hyt : bytesOf ((strOfNums ((x :: t).drop 0)).extract 1 (strOfNums ((x :: t).drop 0)).size) = t := by
            rw [bytesOf_drop]
            rw [hd0] at htb
            rw [htb]; rfl
          have hz2 : (strOfNums ((x :: t).drop 0)).size = t.length + 1 := by
            rw [hd0] at htz
            rw [htz]; simp
          have htl : t.length ≤ 400 := by rw [List.length_cons] at hz; omega
          have goal : Ev (fun k => jlex_great.j0 k s (a.length : Int) (strOfNums ((x :: t).drop 0)) true) (decide (nform a = some []) && decide (noSign (x :: t) ≠ [] ∧ digs (noSign (x :: t)) = (noSign (x :: t)).length)) := by
            rw [hns]
            generalize strOfNums ((x :: t).drop 0) = y at hyt hz2
            have hyz2 : (y.extract 1 y.size).size = t.length := by rw [size_drop]; omega
            by_cases ht0 : t = []
            · rw [decide_eq_false (p := t ≠ [] ∧ digs t = t.length) (fun g => g.1 ht0), Bool.and_false]
              exact Ev.step (fun k => by rw [jlex_great.j0, if_pos rfl, if_pos (by omega), if_pos ((toList_nil_iff _).2 (by rw [hyt, ht0]))]) (Ev.now _)
            · have hne : ¬ (y.extract 1 y.size).toList = ([] : List UInt8) := fun e => ht0 (by rw [← hyt]; exact (toList_nil_iff _).1 e)
              by_cases hall : digs t = t.length
              · rw [decide_eq_true (p := t ≠ [] ∧ digs t = t.length) (And.intro ht0 hall), Bool.and_true]
                refine Ev.step (fun k => by rw [jlex_great.j0, if_pos rfl, if_pos (by omega), if_neg hne, while10 _ (by omega), Option.bind_some, hyt, hyz2, if_pos (by omega), if_pos (by omega), if_pos (by omega), Int.toNat_natCast]) (Ev.bind hgood ?_)
                exact Ev.now _
              · rw [decide_eq_false (p := t ≠ [] ∧ digs t = t.length) (fun g => hall g.2), Bool.and_false]
                exact Ev.step (fun k => by rw [jlex_great.j0, if_pos rfl, if_pos (by omega), if_neg hne, while10 _ (by omega), Option.bind_some, hyt, hyz2, if_neg (by omega)]) (Ev.now _)
          rcases hsg with rfl | rfl
          · simp only [if_true]
            exact goal
          · simp only [show ¬ ((45 : Int) = 43) by decide, if_false, beq_self_eq_true]
            exact goal
        · have h43 : ¬ x = 43 := fun e => hsg (.inl e)
          have h45 : ¬ x = 45 := fun e => hsg (.inr e)
          simp only [if_neg h43, beq_eq_false_iff_ne.2 h45]
          have := fall (.inr (.inr ⟨by simpa using h43, by simpa using h45⟩))
          rw [hd0] at this
          exact this
    · have hne : ¬ (strOfNums (p.drop (digs p))).toList = (s.extract (a.length + 1) s.size).toList := by
        rw [toList_eq_iff, htb, hy]
        intro e
        have := congrArg List.length e
        rw [List.length_drop] at this
        omega
      simp only [if_neg hne]
      exact fall (.inl hd0)
/-- How a number's text is judged. -/
def numb (l : List Int) : Int := if l.length > 400 then 2 else (nform l).elim 4 (fun p => if fits p = true then 0 else 6)
theorem number_ev (s : ByteArray) (ha : ascii (bytesOf s) = true) : Ev (fun k => jlex_number.f k s) (numb (bytesOf s)) := by
  unfold numb
  rw [size_of]
  by_cases hs : s.size > 400
  · rw [if_pos hs]
    exact Ev.congr (fun k => by rw [jlex_number.f, if_pos (by omega)]) (Ev.now _)
  · rw [if_neg hs]
    refine Ev.congr (fun k => by rw [jlex_number.f, if_neg (by omega)]) (Ev.bind (good_ev s (by omega)) ?_)
    have hg := great_ev s (by omega) ha
    unfold greatS at hg
    cases hf : nform (bytesOf s) with
    | none =>
      rw [hf, Option.elim_none] at hg
      have hng : ngood (bytesOf s) = false := by unfold ngood; rw [hf]; rfl
      rw [hng, Option.elim_none]
      exact Ev.congr (fun k => by rw [if_neg (by decide)]) (Ev.bind hg (Ev.now _))
    | some p =>
      rw [hf, Option.elim_some] at hg
      have hng : ngood (bytesOf s) = fits p := by unfold ngood; rw [hf]; rfl
      rw [hng, Option.elim_some]
      by_cases hp : fits p = true
      · exact Ev.congr (fun k => by rw [if_pos hp]) (by rw [if_pos hp]; exact Ev.now _)
      · have : p ≠ [] := fun e => hp (by rw [e]; rfl)
        rw [decide_eq_true this] at hg
        rw [if_neg hp]
        exact Ev.congr (fun k => by rw [if_neg hp]) (Ev.bind hg (Ev.now _))
end Go.Proofs.YtoanbmggffkmgaaDoor.La
end
section
namespace Go.Proofs.YtoanbmggffkmgaaDoor.La
theorem enc_ne (r : Int) : enc r ≠ [] := fun h => by have := enc_len r; rw [h] at this; simp at this
theorem stp_enc {r : Int} (hr : good r) (m : List Int) : stp (enc r ++ m) = (enc r).length := by
  have := enc_len r
  unfold stp
  rw [tk_enc hr]
  rw [if_neg (by simp only; omega)]
  simp
theorem tk_letter_ne {r : Int} (hr : good r) (m : List Int) : (tk (enc r ++ m)).2 ≠ 0 := by
  have := enc_len r
  rw [tk_enc hr]
  simp only
  omega
theorem bad_enc {r : Int} (hr : good r) (m : List Int) : bad (enc r ++ m) = (bad m).map (· + (enc r).length) := by
  rw [bad_step (by simp [enc_ne]) (tk_letter_ne hr m), stp_enc hr, List.drop_left]
end Go.Proofs.YtoanbmggffkmgaaDoor.La
end
section
namespace Go.Proofs.YtoanbmggffkmgaaDoor.La
/-- Where the last line begins. -/
def lst : List Int → Nat
  | [] => 0
  | b :: t => if 0 < lst t then lst t + 1 else if b = 10 then 1 else 0
def nl (l : List Int) : Nat := cntB l 10
theorem lst_le (l : List Int) : lst l ≤ l.length := by
  induction l with
  | nil => simp [lst]
  | cons b t ih => simp only [lst, List.length_cons]; (repeat' split) <;> omega
theorem lst_append (a b : List Int) : lst (a ++ b) = if 0 < lst b then a.length + lst b else lst a := by
  induction a with
  | nil => simp [lst]
  | cons x a ih =>
    simp only [List.cons_append, lst, ih, List.length_cons]
    by_cases h : 0 < lst b
    · simp only [if_pos h]
      rw [if_pos (by omega)]
      omega
    · simp only [if_neg h]
theorem lst_snoc (a : List Int) (x : Int) : lst (a ++ [x]) = if x = 10 then a.length + 1 else lst a := by
  rw [lst_append]
  by_cases h : x = 10
  · simp [lst, h]
  · simp [lst, h]
end Go.Proofs.YtoanbmggffkmgaaDoor.La
end
section
namespace Go.Proofs.YtoanbmggffkmgaaDoor.La
open Go.RowKit Go.Proofs.YtoanbmggffkmgaaDoor.P Go.Proofs.YtoanbmggffkmgaaDoorW.PrintWords Go.Proofs.YtoanbmggffkmgaaDoorW.PrintLast Go.Proofs.YtoanbmggffkmgaaDoorW.PrintMore
def clamp (size : Nat) (i : Int) : Nat := if i < 0 then 0 else if i > (size : Int) then size else i.toNat
theorem clamp_le (size : Nat) (i : Int) : clamp size i ≤ size := by unfold clamp; (repeat' split) <;> omega
theorem clamp_eq (s : ByteArray) (i : Int) : place_clamp.f s i = some (clamp s.size i : Int) := by
  unfold place_clamp.f mn mx clamp
  congr 1
  (repeat' split) <;> omega
theorem count10 (s : ByteArray) : strings_Count.f s (⟨#[10]⟩ : ByteArray) = some (nl (bytesOf s) : Int) := by
  unfold strings_Count.f
  rw [if_pos (by rfl)]
  rfl
theorem last_l0 (s : ByteArray) (hs : s.size ≤ 140737488355328) (m : Nat) : m ≤ s.size → Ev (fun k => bytealg_LastIndexByteString.l0 k s 10 ((m : Int) - 1)) ((lst ((bytesOf s).take m) : Int) - 1) := by
  induction m with
  | zero =>
    intro _
    refine Ev.step (fun k => by rw [bytealg_LastIndexByteString.l0]) ?_
    simp only [if_neg (show ¬ (((0 : Nat) : Int) - 1 ≥ 0) by omega)]
    exact Ev.now _
  | succ m ih =>
    intro hm
    refine Ev.step (fun k => by rw [bytealg_LastIndexByteString.l0]) ?_
    have e : ((m + 1 : Nat) : Int) - 1 = (m : Int) := by omega
    have hlt : m < (bytesOf s).length := by rw [size_of]; omega
    have hb : bt s (m : Int) = (bytesOf s)[m] := by rw [bt_get]; simp [List.getD_eq_getElem?_getD, hlt]
    simp only [e, if_pos (show (m : Int) ≥ 0 by omega), if_pos (show (m : Int) < (s.size : Int) by omega)]
    rw [List.take_succ_eq_append_getElem hlt, lst_snoc, hb]
    by_cases h : (bytesOf s)[m] = 10
    · simp only [if_pos h, List.length_take, Nat.min_eq_left (Nat.le_of_lt hlt)]
      have : ((m + 1 : Nat) : Int) - 1 = (m : Int) := by omega
      rw [this]
      exact Ev.now _
    · simp only [if_neg h]
      rw [wrap_id (by omega) (by omega)]
      exact ih (by omega)
theorem last_ev (s : ByteArray) (hs : s.size ≤ 140737488355328) : Ev (fun k => strings_LastIndexByte.f k s 10) ((lst (bytesOf s) : Int) - 1) := by
  have h := last_l0 s hs s.size (Nat.le_refl _)
  rw [List.take_of_length_le (by rw [size_of]; omega)] at h
  refine Ev.congr (fun k => by rw [strings_LastIndexByte.f, bytealg_LastIndexByteString.f, wrap_id (by omega) (by omega)]) (Ev.bind h ?_)
  exact Ev.now _
/-- A place's line and column. -/
def lineOf (l : List Int) : Int := (nl l : Int) + 1
def colOf (l : List Int) : Int := (cnt (l.drop (lst l)) : Int) + 1
theorem of_ev (s : ByteArray) (hs : s.size ≤ 8796093022208) (i : Int) : Ev (fun k => place_Of.f k s i) (lineOf ((bytesOf s).take (clamp s.size i)), colOf ((bytesOf s).take (clamp s.size i))) := by
  have hc := clamp_le s.size i
  refine Ev.congr (fun k => by rw [place_Of.f, clamp_eq, Option.bind_some]) ?_
  generalize clamp s.size i = c at *
  have hsz : (s.extract 0 c).size = c := size_take s hc
  have hl := lst_le ((bytesOf s).take c)
  rw [List.length_take, size_of, Nat.min_eq_left hc] at hl
  simp only [if_pos (show (0 : Int) ≤ (c : Int) by omega), if_pos (show (c : Int) ≤ (s.size : Int) by omega), Int.toNat_natCast]
  refine Ev.bind (last_ev (s.extract 0 c) (by rw [hsz]; omega)) ?_
  rw [bytesOf_take]
  have hn : nl ((bytesOf s).take c) ≤ c := by
    have := cntB_le ((bytesOf s).take c) 10
    rw [List.length_take, size_of, Nat.min_eq_left hc] at this
    exact this
  have hw : wrap64 ((lst ((bytesOf s).take c) : Int) - 1 + 1) = (lst ((bytesOf s).take c) : Int) := by rw [wrap_id (by omega) (by omega)]; omega
  simp only [count10, Option.bind_some, hw, hsz, bytesOf_take, if_pos (show (0 : Int) ≤ (lst ((bytesOf s).take c) : Int) by omega), if_pos (show (lst ((bytesOf s).take c) : Int) ≤ (c : Int) by omega), Int.toNat_natCast]
  have hx : bytesOf ((s.extract 0 c).extract (lst ((bytesOf s).take c)) c) = ((bytesOf s).take c).drop (lst ((bytesOf s).take c)) := by
    rw [bytesOf_extract, bytesOf_take, List.take_take, Nat.min_self]
  have hxs : ((s.extract 0 c).extract (lst ((bytesOf s).take c)) c).size ≤ 140737488355328 := by rw [← size_of, hx, List.length_drop, List.length_take, size_of]; omega
  refine Ev.bind (count_ev _ hxs) ?_
  rw [hx]
  have hcn := cnt_le (((bytesOf s).take c).drop (lst ((bytesOf s).take c)))
  rw [List.length_drop, List.length_take, size_of] at hcn
  rw [wrap_id (by omega) (by omega), wrap_id (by omega) (by omega)]
  exact Ev.now _
theorem fault_ev (s : ByteArray) (hs : s.size ≤ 8796093022208) (i e : Int) : Ev (fun k => place_Fault.f k s i e) (e, (clamp s.size i : Int), lineOf ((bytesOf s).take (clamp s.size i)), colOf ((bytesOf s).take (clamp s.size i))) := by
  refine Ev.congr (fun k => by rw [place_Fault.f]) (Ev.bind (of_ev s hs i) ?_)
  rw [clamp_eq, Option.bind_some]
  exact Ev.now _
end Go.Proofs.YtoanbmggffkmgaaDoor.La
end
section
namespace Go.Proofs.YtoanbmggffkmgaaDoor.La
open Go.RowKit Go.Proofs.YtoanbmggffkmgaaDoor.P Go.Proofs.YtoanbmggffkmgaaDoorW.PrintWords Go.Proofs.YtoanbmggffkmgaaDoorW.PrintLast Go.Proofs.YtoanbmggffkmgaaDoorW.PrintMore
def blankS : List Int := [32, 9, 10, 13]
def signS : List Int := [123, 125, 91, 93, 58, 44]
def digitS : List Int := [48, 49, 50, 51, 52, 53, 54, 55, 56, 57, 43, 45, 46, 101, 69]
def smallS : List Int := [97, 98, 99, 100, 101, 102, 103, 104, 105, 106, 107, 108, 109, 110, 111, 112, 113, 114, 115, 116, 117, 118, 119, 120, 121, 122]
def nameS (l : List Int) : Prop := l = [116, 114, 117, 101] ∨ l = [102, 97, 108, 115, 101] ∨ l = [110, 117, 108, 108]
instance (l : List Int) : Decidable (nameS l) := by unfold nameS; infer_instance
/-- The word at a place: an error and where; or its kind, its text, where it goes on. -/
def wd (L : List Int) (i : Nat) : (Int × Nat) ⊕ (Int × List Int × Nat) :=
  if inSet signS (L.getD i 0) = true then .inr (1, [L.getD i 0], i + 1)
  else if L.getD i 0 = 34 then
    (if (jbody L (L.length + 1) (i + 1) []).1 = true then
      (if (jbody L (L.length + 1) (i + 1) []).2.1.length > 4096 then .inl (2, i) else .inr (2, (jbody L (L.length + 1) (i + 1) []).2.1, (jbody L (L.length + 1) (i + 1) []).2.2))
    else .inl (4, (jbody L (L.length + 1) (i + 1) []).2.2))
  else if 97 ≤ L.getD i 0 ∧ L.getD i 0 ≤ 122 then
    (if nameS ((L.drop i).take (wh smallS (L.drop i))) then .inr (4, (L.drop i).take (wh smallS (L.drop i)), i + wh smallS (L.drop i)) else .inl (4, i))
  else if wh digitS (L.drop i) = 0 then .inl (4, i)
  else if numb ((L.drop i).take (wh digitS (L.drop i))) = 0 then .inr (3, (L.drop i).take (wh digitS (L.drop i)), i + wh digitS (L.drop i))
  else .inl (numb ((L.drop i).take (wh digitS (L.drop i))), i)
/-- A text's words from a place on, or its first fault. -/
def cutS (L : List Int) : Nat → Nat → List (Int × List Int × Nat) → List (Int × List Int × Nat) × Option (Int × Nat)
  | 0, _, acc => (acc, none)
  | k + 1, i, acc =>
    if L.length ≤ i then (acc ++ [(0, [], L.length)], none)
    else match wd L i with
      | .inl e => ([], some e)
      | .inr x => cutS L k (x.2.2 + wh blankS (L.drop x.2.2)) (acc ++ [(x.1, x.2.1, i)])
/-- How jlex.word tells it. -/
def wordR (i : Nat) : (Int × Nat) ⊕ (Int × List Int × Nat) → Int × ByteArray × Int × Int × Int × Int
  | .inl e => (0, ⟨#[]⟩, 0, 0, e.1, (e.2 : Int))
  | .inr x => (x.1, strOfNums x.2.1, (i : Int), (x.2.2 : Int), 0, 0)
theorem lt81 (s : ByteArray) (n : Nat) (h : s.size = n) (hn : n < 4294967281) : s.size < 4294967281 := by omega
theorem whileB (s : ByteArray) (hs : s.size ≤ 140737488355328) : jlex_while.f s (⟨#[32, 9, 10, 13]⟩ : ByteArray) = some (wh blankS (bytesOf s) : Int) :=
  while_eq s _ hs (lt81 _ 4 rfl (by omega)) (by decide)
theorem whileS (s : ByteArray) (hs : s.size ≤ 140737488355328) : jlex_while.f s (⟨#[97, 98, 99, 100, 101, 102, 103, 104, 105, 106, 107, 108, 109, 110, 111, 112, 113, 114, 115, 116, 117, 118, 119, 120, 121, 122]⟩ : ByteArray) = some (wh smallS (bytesOf s) : Int) :=
  while_eq s _ hs (lt81 _ 26 rfl (by omega)) (by decide)
theorem whileD (s : ByteArray) (hs : s.size ≤ 140737488355328) : jlex_while.f s (⟨#[48, 49, 50, 51, 52, 53, 54, 55, 56, 57, 43, 45, 46, 101, 69]⟩ : ByteArray) = some (wh digitS (bytesOf s) : Int) :=
  while_eq s _ hs (lt81 _ 15 rfl (by omega)) (by decide)
theorem idx_in (l : List Int) (c : Int) : idx l c ≥ 0 ↔ inSet l c = true := by
  induction l with
  | nil => simp [idx, inSet]
  | cons b l ih =>
    have hge := idx_ge l c
    unfold inSet at ih ⊢
    rw [List.any_cons, Bool.or_eq_true, ← ih, beq_iff_eq, idx]
    by_cases h : b = c
    · rw [if_pos h]; simp [h]
    · rw [if_neg h]
      split <;> omega
theorem sign_idx {c : Int} (h0 : 0 ≤ c) (h1 : c < 256) : ∃ j, strings_IndexByte.f (⟨#[123, 125, 91, 93, 58, 44]⟩ : ByteArray) c = some j ∧ (j ≥ 0 ↔ inSet signS c = true) := by
  unfold strings_IndexByte.f
  rw [if_pos (And.intro h0 h1)]
  refine ⟨_, rfl, ?_⟩
  rw [show bytesOf (⟨#[123, 125, 91, 93, 58, 44]⟩ : ByteArray) = signS from rfl]
  exact idx_in signS c
theorem ascii_take (cs l : List Int) (hc : ∀ x ∈ cs, x < 128) : ascii (l.take (wh cs l)) = true := by
  induction l with
  | nil => rfl
  | cons b l ih =>
    simp only [wh]
    split
    · rename_i hb
      unfold ascii at ih ⊢
      rw [List.take_succ_cons, List.all_cons, ih, Bool.and_true]
      refine decide_eq_true ?_
      unfold inSet at hb
      obtain ⟨c, hcs, hcb⟩ := List.any_eq_true.1 hb
      have := hc c hcs
      have : c = b := by simpa using hcb
      omega
    · rfl
theorem strOf_eq (s : ByteArray) {l : List Int} (h : bytesOf s = l) : s = strOfNums l := by rw [← h, strOfNums_of]
theorem name_iff (s : ByteArray) (l : List Int) (h : bytesOf s = l) : (s.toList = ([116, 114, 117, 101] : List UInt8) ↔ l = [116, 114, 117, 101]) ∧ (s.toList = ([102, 97, 108, 115, 101] : List UInt8) ↔ l = [102, 97, 108, 115, 101]) ∧ (s.toList = ([110, 117, 108, 108] : List UInt8) ↔ l = [110, 117, 108, 108]) := by
  have h1 := toList_eq_iff s (⟨#[116, 114, 117, 101]⟩ : ByteArray)
  have h2 := toList_eq_iff s (⟨#[102, 97, 108, 115, 101]⟩ : ByteArray)
  have h3 := toList_eq_iff s (⟨#[110, 117, 108, 108]⟩ : ByteArray)
  rw [h] at h1 h2 h3
  rw [toList_data' ⟨#[116, 114, 117, 101]⟩] at h1
  rw [toList_data' ⟨#[102, 97, 108, 115, 101]⟩] at h2
  rw [toList_data' ⟨#[110, 117, 108, 108]⟩] at h3
  exact ⟨h1, h2, h3⟩
theorem jbody_bound (L : List Int) (hL : Bytes L) (k : Nat) : ∀ (i : Nat) (acc : List Int), (jbody L k i acc).1 = true → i ≤ L.length → i < (jbody L k i acc).2.2 ∧ (jbody L k i acc).2.2 ≤ L.length := by
  induction k with
  | zero => intro i acc h _; simp [jbody] at h
  | succ k ih =>
    intro i acc h hi
    unfold jbody at h ⊢
    split at h
    · simp at h
    · rename_i h1
      rw [if_neg h1]
      split at h
      · rename_i h2
        rw [if_pos h2]
        simp only
        omega
      · rename_i h2
        rw [if_neg h2]
        split at h
        · simp at h
        · rename_i h3
          rw [if_neg h3]
          split at h
          · rename_i h4
            rw [if_pos h4]
            cases hj : jesc (L.drop i) with
            | none => rw [hj] at h; simp at h
            | some p =>
              rw [hj] at h
              simp only at h ⊢
              have hp := jesc_len hj
              rw [List.length_drop] at hp
              have := ih _ _ h (by omega)
              omega
          · rename_i h4
            rw [if_neg h4]
            split at h
            · rename_i h5
              rw [if_pos h5]
              have hb := tk_bound (L.drop i) (hL.drop i)
              rw [List.length_drop] at hb
              have := ih _ _ h (by omega)
              omega
            · simp at h
theorem jbody_where (L : List Int) (hL : Bytes L) (k : Nat) : ∀ (i : Nat) (acc : List Int), i ≤ L.length → (jbody L k i acc).2.2 ≤ L.length := by
  induction k with
  | zero => intro i acc hi; exact hi
  | succ k ih =>
    intro i acc hi
    unfold jbody
    split
    · exact Nat.le_refl _
    · split
      · show i + 1 ≤ _; omega
      · split
        · exact hi
        · split
          · cases hj : jesc (L.drop i) with
            | none => exact hi
            | some p =>
              have hp := jesc_len hj
              rw [List.length_drop] at hp
              exact ih _ _ (by omega)
          · split
            · have hb := tk_bound (L.drop i) (hL.drop i)
              rw [List.length_drop] at hb
              exact ih _ _ (by omega)
            · exact hi
theorem drop_cons' {L : List Int} {i : Nat} (h : i < L.length) : L.drop i = L.getD i 0 :: L.drop (i + 1) := by
  rw [List.drop_eq_getElem_cons h, List.getD_eq_getElem?_getD, List.getElem?_eq_getElem h]
  rfl
theorem bt_nat' (s : ByteArray) (i : Nat) : bt s (i : Int) = (bytesOf s).getD i 0 := by rw [bt_get]; rfl
/-- What a string says is of bytes. -/
theorem jesc_good {l : List Int} {p : Int × Nat} (h : jesc l = some p) : good p.1 := by
  unfold jesc at h
  split at h
  · cases h
  · split at h
    · rename_i h1
      obtain rfl := Option.some.inj h
      obtain ⟨x, hx⟩ := Option.isSome_iff_exists.1 h1
      rw [hx]
      exact shortJ_good hx
    · split at h
      · cases h
      · split at h
        · split at h
          · rename_i hg
            obtain rfl := Option.some.inj h
            exact hg
          · cases h
        · split at h
          · cases h
          · rename_i h3 h4
            obtain rfl := Option.some.inj h
            have hx := digs4_bound l 2
            have hy := digs4_bound l 8
            have h5 : ¬ (digsAt l 8 4).getD 0 < 56320 := fun e => h4 (.inr (.inr (.inl e)))
            have h6 : ¬ (digsAt l 8 4).getD 0 > 57343 := fun e => h4 (.inr (.inr (.inr e)))
            refine good_iff.2 ?_
            simp only
            omega
theorem jbody_bytes (L : List Int) (k : Nat) : ∀ (i : Nat) (acc : List Int), Bytes acc → (jbody L k i acc).1 = true → Bytes (jbody L k i acc).2.1 := by
  induction k with
  | zero => intro i acc _ h; simp [jbody] at h
  | succ k ih =>
    intro i acc ha h
    unfold jbody at h ⊢
    split at h
    · simp at h
    · rename_i h1
      rw [if_neg h1]
      split at h
      · rename_i h2
        rw [if_pos h2]
        exact ha
      · rename_i h2
        rw [if_neg h2]
        split at h
        · simp at h
        · rename_i h3
          rw [if_neg h3]
          split at h
          · rename_i h4
            rw [if_pos h4]
            cases hj : jesc (L.drop i) with
            | none => rw [hj] at h; simp at h
            | some p =>
              rw [hj] at h
              simp only at h ⊢
              exact ih _ _ (ha.append (enc_bytes (jesc_good hj))) h
          · rename_i h4
            rw [if_neg h4]
            split at h
            · rename_i h5
              rw [if_pos h5]
              exact ih _ _ (ha.append (enc0_bytes _)) h
            · simp at h
theorem word_ev (s : ByteArray) (hs : s.size ≤ 65536) (i : Nat) (hi : i < s.size) : Ev (fun k => jlex_word.f k s (i : Int)) (wordR i (wd (bytesOf s) i)) := by
  have hy : bytesOf (s.extract i s.size) = (bytesOf s).drop i := bytesOf_drop s i
  have hyz : (s.extract i s.size).size = s.size - i := size_drop s i
  have hb : bt (s.extract i s.size) 0 = (bytesOf s).getD i 0 := by
    rw [bt_get, hy, drop_cons' (by rw [size_of]; exact hi)]
    rfl
  have hrange := bt_range s (i : Int)
  rw [bt_nat'] at hrange
  obtain ⟨j, hj, hsign⟩ := sign_idx (c := (bytesOf s).getD i 0) (by omega) (by omega)
  have step1 : ∀ k, jlex_word.f k s (i : Int) = (if j ≥ 0 then (some (1, (s.extract i s.size).extract 0 1, (i : Int), wrap64 ((i : Int) + 1), 0, 0)) else (if ((bytesOf s).getD i 0) = 34 then ((esc_Unquote.f s (i : Int)).bind fun bt208 => (if bt208.2.2 ≥ 0 then (some (0, (⟨#[]⟩ : ByteArray), 0, 0, 4, bt208.2.2)) else (if (bt208.1.size : Int) > 4096 then (some (0, (⟨#[]⟩ : ByteArray), 0, 0, 2, (i : Int))) else (some (2, bt208.1, (i : Int), bt208.2.1, 0, 0))))) else (if ((bytesOf s).getD i 0) ≥ 97 then (jlex_word.j0 k (i : Int) (s.extract i s.size) (decide (((bytesOf s).getD i 0) ≤ 122))) else (jlex_word.j0 k (i : Int) (s.extract i s.size) false)))) := by
    intro k
    rw [jlex_word.f, if_pos (by omega), if_pos (by omega), Int.toNat_natCast, if_pos (by omega), hb, hj, Option.bind_some, if_pos (show (0 : Nat) ≤ 1 by decide), if_pos (show (1 : Int) ≤ ((s.extract i s.size).size : Int) by omega)]
  refine Ev.congr step1 ?_
  unfold wd
  by_cases h1 : inSet signS ((bytesOf s).getD i 0) = true
  · rw [if_pos h1]
    refine Ev.congr (fun k => by rw [if_pos (hsign.2 h1)]) ?_
    have he : (s.extract i s.size).extract 0 1 = strOfNums [(bytesOf s).getD i 0] := strOf_eq _ (by
      rw [bytesOf_take, hy, drop_cons' (by rw [size_of]; exact hi)]
      rfl)
    rw [he, wrap_id (by omega) (by omega)]
    exact Ev.now _
  · rw [if_neg h1]
    have hj0 : ¬ j ≥ 0 := fun e => h1 (hsign.1 e)
    by_cases h2 : (bytesOf s).getD i 0 = 34
    · rw [if_pos h2]
      refine Ev.congr (fun k => by rw [if_neg hj0, if_pos h2]) ?_
      have hu : esc_Unquote.f s (i : Int) = some (unqT (bytesOf s) (i : Int)) := if_pos (by omega)
      have hun : unqT (bytesOf s) (i : Int) = (if (jbody (bytesOf s) ((bytesOf s).length + 1) (i + 1) []).1 = true then (strOfNums (jbody (bytesOf s) ((bytesOf s).length + 1) (i + 1) []).2.1, ((jbody (bytesOf s) ((bytesOf s).length + 1) (i + 1) []).2.2 : Int), -1) else (⟨#[]⟩, 0, ((jbody (bytesOf s) ((bytesOf s).length + 1) (i + 1) []).2.2 : Int))) := by
        unfold unqT
        rw [Int.toNat_natCast, if_neg (by rw [size_of]; rintro (h | h | h) <;> first | omega | exact h h2)]
        generalize jbody (bytesOf s) ((bytesOf s).length + 1) (i + 1) [] = q
        obtain ⟨b, bs, m⟩ := q
        cases b <;> rfl
      have hbd := jbody_where (bytesOf s) (bytes_of s) ((bytesOf s).length + 1) (i + 1) [] (by rw [size_of]; omega)
      have hsz := fun h => (jbody_bytes (bytesOf s) ((bytesOf s).length + 1) (i + 1) [] (fun x hx => by cases hx) h)
      rw [hu, hun]
      generalize jbody (bytesOf s) ((bytesOf s).length + 1) (i + 1) [] = q at hbd hsz
      obtain ⟨b, bs, m⟩ := q
      cases b with
      | false =>
        simp only [Bool.false_eq_true, if_false, Option.bind_some]
        refine Ev.congr (fun k => by rw [if_pos (by show (0 : Int) ≤ (m : Int); omega)]) ?_
        exact Ev.now _
      | true =>
        simp only [if_true, Option.bind_some]
        refine Ev.congr (fun k => by rw [if_neg (by decide)]) ?_
        rw [size_strOfNums (hsz rfl)]
        dsimp only
        by_cases h3 : bs.length > 4096
        · refine Ev.congr (fun k => by rw [if_pos (by omega)]) ?_
          rw [if_pos h3]
          exact Ev.now _
        · refine Ev.congr (fun k => by rw [if_neg (by omega)]) ?_
          rw [if_neg h3]
          exact Ev.now _
    · rw [if_neg h2]
      have hy2 : (s.extract i s.size).size ≤ 140737488355328 := by omega
      generalize s.extract i s.size = y at hy hyz hy2
      have htk : ∀ n : Nat, n ≤ y.size → bytesOf (y.extract 0 n) = ((bytesOf s).drop i).take n := fun n _ => by rw [bytesOf_take, hy]
      by_cases h3 : 97 ≤ (bytesOf s).getD i 0 ∧ (bytesOf s).getD i 0 ≤ 122
      · rw [if_pos h3]
        refine Ev.congr (fun k => by rw [if_neg hj0, if_neg h2, if_pos h3.1, decide_eq_true h3.2]) ?_
        have hwl := wh_le smallS ((bytesOf s).drop i)
        rw [List.length_drop, size_of] at hwl
        have hws := whileS y hy2
        rw [hy] at hws
        generalize wh smallS ((bytesOf s).drop i) = n at hwl hws
        have hbn := htk n (by omega)
        have hzn : (y.extract 0 n).size = n := size_take _ (by omega)
        have hn := name_iff (y.extract 0 n) _ hbn
        have hst := strOf_eq _ hbn
        have hfin : ∀ k, jlex_word.j0 (k + 1) (i : Int) y true = if nameS (((bytesOf s).drop i).take n) then some (4, y.extract 0 n, (i : Int), wrap64 ((i : Int) + (n : Int)), 0, 0) else some (0, (⟨#[]⟩ : ByteArray), 0, 0, 4, (i : Int)) := by
          intro k
          rw [jlex_word.j0, if_pos rfl, hws, Option.bind_some, if_pos (by omega), if_pos (by omega), Int.toNat_natCast, hzn]
          by_cases g1 : ((bytesOf s).drop i).take n = [116, 114, 117, 101]
          · rw [if_pos (hn.1.2 g1), if_pos (show nameS (((bytesOf s).drop i).take n) from .inl g1)]
          · rw [if_neg (fun e => g1 (hn.1.1 e))]
            by_cases g2 : ((bytesOf s).drop i).take n = [102, 97, 108, 115, 101]
            · rw [if_pos (hn.2.1.2 g2), if_pos (show nameS (((bytesOf s).drop i).take n) from .inr (.inl g2))]
            · rw [if_neg (fun e => g2 (hn.2.1.1 e))]
              by_cases g3 : ((bytesOf s).drop i).take n = [110, 117, 108, 108]
              · rw [if_pos (hn.2.2.2 g3), if_pos (show nameS (((bytesOf s).drop i).take n) from .inr (.inr g3))]
              · rw [if_neg (fun e => g3 (hn.2.2.1 e)), if_neg (by rintro (e | e | e); exact g1 e; exact g2 e; exact g3 e)]
        refine Ev.step hfin ?_
        by_cases g : nameS (((bytesOf s).drop i).take n)
        · rw [if_pos g, if_pos g]
          rw [hst, wrap_id (by omega) (by omega)]
          exact Ev.now _
        · rw [if_neg g, if_neg g]
          exact Ev.now _
      · rw [if_neg h3]
        have hwl := wh_le digitS ((bytesOf s).drop i)
        rw [List.length_drop, size_of] at hwl
        have hasc := ascii_take digitS ((bytesOf s).drop i) (by decide)
        have hwd := whileD y hy2
        rw [hy] at hwd
        generalize wh digitS ((bytesOf s).drop i) = n at hwl hwd hasc
        have hbn := htk n (by omega)
        have hzn : (y.extract 0 n).size = n := size_take _ (by omega)
        have hst := strOf_eq _ hbn
        have hnil : (y.extract 0 n).toList = ([] : List UInt8) ↔ n = 0 := by
          rw [toList_nil_iff, ← List.length_eq_zero_iff, size_of, hzn]
        have hnum := number_ev (y.extract 0 n) (by rw [hbn]; exact hasc)
        rw [hbn] at hnum
        have key : Ev (fun k => jlex_word.j0 k (i : Int) y false) (wordR i (if n = 0 then .inl (4, i) else if numb (((bytesOf s).drop i).take n) = 0 then .inr (3, ((bytesOf s).drop i).take n, i + n) else .inl (numb (((bytesOf s).drop i).take n), i))) := by
          refine Ev.step (fun k => by rw [jlex_word.j0, if_neg (by decide), hwd, Option.bind_some, if_pos (by omega), if_pos (by omega), Int.toNat_natCast, hzn]) ?_
          by_cases g : n = 0
          · rw [if_pos g]
            refine Ev.congr (fun k => by rw [if_pos (hnil.2 g)]) ?_
            exact Ev.now _
          · rw [if_neg g]
            refine Ev.congr (fun k => by rw [if_neg (fun e => g (hnil.1 e))]) (Ev.bind hnum ?_)
            by_cases g2 : numb (((bytesOf s).drop i).take n) = 0
            · rw [if_pos g2, if_pos g2]
              rw [hst, wrap_id (by omega) (by omega)]
              exact Ev.now _
            · rw [if_neg g2, if_neg g2]
              exact Ev.now _
        by_cases h4 : 97 ≤ (bytesOf s).getD i 0
        · have h5 : ¬ (bytesOf s).getD i 0 ≤ 122 := fun e => h3 ⟨h4, e⟩
          exact Ev.congr (fun k => by rw [if_neg hj0, if_neg h2, if_pos h4, decide_eq_false h5]) key
        · exact Ev.congr (fun k => by rw [if_neg hj0, if_neg h2, if_neg (by omega)]) key
/-- A word ends behind its beginning, within the text. -/
theorem wd_inr {L : List Int} (hL : Bytes L) {i : Nat} (hi : i < L.length) {x : Int × List Int × Nat} (h : wd L i = .inr x) : i < x.2.2 ∧ x.2.2 ≤ L.length := by
  unfold wd at h
  split at h
  · injection h with h; subst h; show i < i + 1 ∧ i + 1 ≤ _; omega
  · split at h
    · split at h
      · rename_i h3
        have hb := jbody_bound L hL _ (i + 1) [] h3 (by omega)
        split at h
        · cases h
        · injection h with h; subst h; show i < (jbody L (L.length + 1) (i + 1) []).2.2 ∧ (jbody L (L.length + 1) (i + 1) []).2.2 ≤ _; omega
      · cases h
    · split at h
      · split at h
        · rename_i h4
          have hw := wh_le smallS (L.drop i)
          rw [List.length_drop] at hw
          injection h with h
          subst h
          show i < i + _ ∧ i + _ ≤ _
          have : wh smallS (L.drop i) ≠ 0 := fun e => by
            rw [e, List.take_zero] at h4
            unfold nameS at h4
            simp at h4
          omega
        · cases h
      · split at h
        · cases h
        · split at h
          · have hw := wh_le digitS (L.drop i)
            rw [List.length_drop] at hw
            injection h with h
            subst h
            show i < i + _ ∧ i + _ ≤ _
            omega
          · cases h
/-- A fault has an error, and lies within the text. -/
theorem wd_inl {L : List Int} (hL : Bytes L) {i : Nat} (hi : i < L.length) {e : Int × Nat} (h : wd L i = .inl e) : e.1 ≠ 0 ∧ e.2 ≤ L.length := by
  unfold wd at h
  split at h
  · cases h
  · split at h
    · split at h
      · split at h
        · injection h with h; subst h; exact ⟨by simp, by show i ≤ _; omega⟩
        · cases h
      · injection h with h; subst h
        exact ⟨by simp, jbody_where L hL _ _ _ (by omega)⟩
    · split at h
      · split at h
        · cases h
        · injection h with h; subst h; exact ⟨by simp, by show i ≤ _; omega⟩
      · split at h
        · injection h with h; subst h; exact ⟨by simp, by show i ≤ _; omega⟩
        · split at h
          · cases h
          · rename_i h9
            injection h with h; subst h; exact ⟨h9, by show i ≤ _; omega⟩
def toW (x : Int × List Int × Nat) : S30 := ⟨x.1, strOfNums x.2.1, (x.2.2 : Int)⟩
/-- How jlex.Cut tells it. -/
def cutR (s : ByteArray) (o : List (Int × List Int × Nat) × Option (Int × Nat)) : List S30 × Int × Int × Int × Int :=
  match o.2 with
  | none => (o.1.map toW, 0, 0, 0, 0)
  | some e => ([], e.1, (clamp s.size (e.2 : Int) : Int), lineOf ((bytesOf s).take (clamp s.size (e.2 : Int))), colOf ((bytesOf s).take (clamp s.size (e.2 : Int))))
theorem cut_l0 (s : ByteArray) (hs : s.size ≤ 65536) (n : Nat) : ∀ (i K : Nat) (acc : List (Int × List Int × Nat)), i ≤ s.size → s.size - i = n → n < K → acc.length ≤ i →
    Ev (fun k => jlex_Cut.l0 k s (acc.map toW) (i : Int)) (cutR s (cutS (bytesOf s) K i acc)) := by
  induction n using Nat.strongRecOn with
  | _ n ih =>
  intro i K acc hi hn hK hacc
  obtain ⟨K, rfl⟩ : ∃ m, K = m + 1 := ⟨K - 1, by omega⟩
  rw [cutS, size_of]
  by_cases h : i < s.size
  · rw [if_neg (by omega)]
    refine Ev.step (fun k => by rw [jlex_Cut.l0, if_pos (by omega)]) (Ev.bind (word_ev s hs i h) ?_)
    cases hw : wd (bytesOf s) i with
    | inl e =>
      have he := wd_inl (bytes_of s) (by rw [size_of]; exact h) hw
      refine Ev.congr (fun k => by rw [wordR, if_neg he.1]) (Ev.bind (fault_ev s (by omega) (e.2 : Int) e.1) ?_)
      exact Ev.now _
    | inr x =>
      have hx := wd_inr (bytes_of s) (by rw [size_of]; exact h) hw
      rw [size_of] at hx
      have hwh := whileB (s.extract x.2.2 s.size) (by rw [size_drop]; omega)
      rw [bytesOf_drop] at hwh
      have hwl := wh_le blankS ((bytesOf s).drop x.2.2)
      rw [List.length_drop, size_of] at hwl
      have hj : (acc.map toW) ++ [(⟨x.1, strOfNums x.2.1, (i : Int)⟩ : S30)] = (acc ++ [(x.1, x.2.1, i)]).map toW := by simp [toW]
      have r0 : (wordR i (.inr x)).2.2.2.2.1 = 0 := rfl
      have r1 : (wordR i (.inr x)).2.2.2.1 = (x.2.2 : Int) := rfl
      have r2 : (0 : Int) ≤ (wordR i (.inr x)).2.2.2.1 := by rw [r1]; omega
      have r3 : (wordR i (.inr x)).2.2.2.1 ≤ (s.size : Int) := by rw [r1]; omega
      have r4 : (wordR i (.inr x)).1 = x.1 := rfl
      have r5 : (wordR i (.inr x)).2.1 = strOfNums x.2.1 := rfl
      have r6 : (wordR i (.inr x)).2.2.1 = (i : Int) := rfl
      refine Ev.congr (fun k => by
        rw [if_pos r0, if_pos (by rw [List.length_map]; omega), if_pos r2, if_pos r3, r1, Int.toNat_natCast, hwh, Option.bind_some, wrap_id (by omega) (by omega), r4, r5, r6, hj, show (x.2.2 : Int) + (wh blankS ((bytesOf s).drop x.2.2) : Int) = ((x.2.2 + wh blankS ((bytesOf s).drop x.2.2) : Nat) : Int) by omega]) ?_
      exact ih (s.size - (x.2.2 + wh blankS ((bytesOf s).drop x.2.2))) (by omega) _ K _ (by omega) rfl (by omega) (by rw [List.length_append, List.length_singleton]; omega)
  · obtain rfl : i = s.size := by omega
    rw [if_pos (Nat.le_refl _)]
    refine Ev.step (fun k => by rw [jlex_Cut.l0, if_neg (by omega), if_pos (by rw [List.length_map]; omega)]) ?_
    have hj : (acc.map toW) ++ [(⟨0, ⟨#[]⟩, (s.size : Int)⟩ : S30)] = (acc ++ [(0, [], s.size)]).map toW := by
      rw [List.map_append]
      rfl
    rw [hj]
    exact Ev.now _
/-- What Judge tells. -/
def judgeS (L : List Int) : Option (Int × Nat) := (bad L).map fun p => (3, p)
theorem judge_ev (s : ByteArray) (hs : s.size ≤ 65536) : Ev (fun k => jlex_Judge.f k s) ((cutR s ([], judgeS (bytesOf s))).2) := by
  refine Ev.congr (fun k => by rw [jlex_Judge.f, if_neg (by omega)]) (Ev.bind (valid_ev s (by omega)) ?_)
  unfold judgeS
  cases hb : bad (bytesOf s) with
  | none =>
    simp only [badR, if_true]
    exact Ev.now _
  | some p =>
    simp only [badR, Bool.false_eq_true, if_false, Nat.zero_add]
    refine (Ev.bind (fault_ev s (by omega) (p : Int) 3) ?_)
    exact Ev.now _
/-- A text's words, or its first fault. -/
def lexS (L : List Int) : List (Int × List Int × Nat) × Option (Int × Nat) :=
  match judgeS L with
  | some e => ([], some e)
  | none => cutS L (L.length + 1) (wh blankS L) []
theorem lex_ev (s : ByteArray) (hs : s.size ≤ 65536) : Ev (fun k => jlex_Cut.f k s) (cutR s (lexS (bytesOf s))) := by
  refine Ev.congr (fun k => by rw [jlex_Cut.f]) (Ev.bind (judge_ev s hs) ?_)
  unfold lexS
  cases hj : judgeS (bytesOf s) with
  | none =>
    have hw := whileB s (by omega)
    have hwl := wh_le blankS (bytesOf s)
    rw [size_of] at hwl
    simp only [cutR, if_true, hw, Option.bind_some]
    exact cut_l0 s hs _ _ _ [] hwl rfl (by rw [size_of]; omega) (Nat.zero_le _)
  | some e =>
    have he : e.1 = 3 := by
      unfold judgeS at hj
      obtain ⟨p, _, rfl⟩ := Option.map_eq_some_iff.1 hj
      rfl
    have r0 : ¬ (cutR s ([], some e)).2.1 = 0 := by
      show ¬ e.1 = 0
      rw [he]
      decide
    refine Ev.congr (fun k => by rw [if_neg r0]) ?_
    exact Ev.now _
end Go.Proofs.YtoanbmggffkmgaaDoor.La
end
section
namespace Go.Proofs.YtoanbmggffkmgaaDoor.La
open Go.RowKit Go.Proofs.YtoanbmggffkmgaaDoor.P Go.Proofs.YtoanbmggffkmgaaDoorW.PrintWords Go.Proofs.YtoanbmggffkmgaaDoorW.PrintLast Go.Proofs.YtoanbmggffkmgaaDoorW.PrintMore
theorem digit_eq (b : Int) : dragomanref1_digit.f b = some (isDig b) := by
  unfold dragomanref1_digit.f isDig
  by_cases h : b ≥ 48
  · rw [if_pos h, decide_eq_true (show 48 ≤ b by omega), Bool.true_and]
  · rw [if_neg h, decide_eq_false (show ¬ 48 ≤ b by omega), Bool.false_and]
theorem drop_cons {L : List Int} {i : Nat} (h : i < L.length) : L.drop i = L.getD i 0 :: L.drop (i + 1) := by
  rw [List.drop_eq_getElem_cons h, List.getD_eq_getElem?_getD, List.getElem?_eq_getElem h]
  rfl
theorem bt_nat (s : ByteArray) (i : Nat) : bt s (i : Int) = (bytesOf s).getD i 0 := by rw [bt_get]; rfl
theorem run_l0 (s : ByteArray) (hs : s.size ≤ 1073741824) (n : Nat) : ∀ i : Nat, i ≤ s.size → s.size - i = n → Ev (fun k => dragomanref1_run.l0 k s (i : Int)) ((i + digs ((bytesOf s).drop i) : Nat) : Int) := by
  induction n with
  | zero =>
    intro i hi hn
    obtain rfl : i = s.size := by omega
    refine Ev.step (fun k => by rw [dragomanref1_run.l0, if_neg (by omega)]) ?_
    rw [List.drop_eq_nil_of_le (by rw [size_of]; omega)]
    exact Ev.now _
  | succ n ih =>
    intro i hi hn
    refine Ev.step (fun k => by rw [dragomanref1_run.l0, if_pos (by omega), if_pos (by omega), digit_eq, Option.bind_some]) ?_
    rw [drop_cons (by rw [size_of]; omega), ← bt_nat]
    simp only [digs]
    cases isDig (bt s (i : Int)) with
    | true =>
      simp only [if_true]
      rw [wrap_id (by omega) (by omega), show i + (digs ((bytesOf s).drop (i + 1)) + 1) = i + 1 + digs ((bytesOf s).drop (i + 1)) by omega]
      exact ih (i + 1) (by omega) (by omega)
    | false =>
      simp only [Bool.false_eq_true, if_false]
      exact Ev.now _
theorem run_ev (s : ByteArray) (hs : s.size ≤ 1073741824) : Ev (fun k => dragomanref1_run.f k s) (digs (bytesOf s) : Int) := by
  have := run_l0 s hs _ 0 (by omega) rfl
  rw [Nat.zero_add] at this
  exact this
/-- What parts tells of a text's form. -/
def PartsAs (o : Option (List Int)) (r : Bool × ByteArray × ByteArray × ByteArray × Bool) : Prop :=
  (∃ p, o = some p ∧ r.2.2.2.2 = true ∧ bytesOf r.2.2.2.1 = p) ∨ (o = none ∧ r.2.2.2.2 = false ∧ r.2.2.2.1 = ⟨#[]⟩)
theorem parts_j6 (x7 : Bool) (x9 x10 x11 x12 : ByteArray) (hz : x12.size ≤ 1073741824) (h : x12 = x11) :
    ∃ r, PartsAs (if noSign (bytesOf x11) = [] ∨ digs (noSign (bytesOf x11)) ≠ (noSign (bytesOf x11)).length then none else some (bytesOf x11)) r ∧
      Ev (fun k => dragomanref1_parts.j6 k x7 x9 x10 x11 x12 (decide ((bytesOf x12).head? = some 45 ∨ (bytesOf x12).head? = some 43))) r := by
  have key : ∀ (y : ByteArray) (g : Nat → Option (Bool × ByteArray × ByteArray × ByteArray × Bool)), y.size ≤ 1073741824 → noSign (bytesOf x11) = bytesOf y →
      (∀ k, g (k + 1) = if y.toList = ([] : List UInt8) then (some (false, (⟨#[]⟩ : ByteArray), (⟨#[]⟩ : ByteArray), (⟨#[]⟩ : ByteArray), false)) else ((dragomanref1_run.f k y).bind fun t259 => (if t259 = (y.size : Int) then (some (x7, x9, x10, x11, true)) else (some (false, (⟨#[]⟩ : ByteArray), (⟨#[]⟩ : ByteArray), (⟨#[]⟩ : ByteArray), false))))) →
      ∃ r, PartsAs (if noSign (bytesOf x11) = [] ∨ digs (noSign (bytesOf x11)) ≠ (noSign (bytesOf x11)).length then none else some (bytesOf x11)) r ∧ Ev g r := by
    intro y g hy hn hg
    rw [hn, size_of]
    by_cases h0 : bytesOf y = []
    · rw [if_pos (.inl h0)]
      exact ⟨_, .inr ⟨rfl, rfl, rfl⟩, Ev.step (fun k => by rw [hg, if_pos ((toList_nil_iff _).2 h0)]) (Ev.now _)⟩
    · by_cases h1 : digs (bytesOf y) = y.size
      · rw [if_neg (by rintro (h | h); exact h0 h; exact h h1)]
        refine ⟨(x7, x9, x10, x11, true), .inl ⟨_, rfl, rfl, rfl⟩, Ev.step (fun k => by rw [hg, if_neg (fun e => h0 ((toList_nil_iff _).1 e))]) (Ev.bind (run_ev y hy) ?_)⟩
        simp only [if_pos (show (digs (bytesOf y) : Int) = (y.size : Int) by omega)]
        exact Ev.now _
      · rw [if_pos (.inr h1)]
        refine ⟨(false, ⟨#[]⟩, ⟨#[]⟩, ⟨#[]⟩, false), .inr ⟨rfl, rfl, rfl⟩, Ev.step (fun k => by rw [hg, if_neg (fun e => h0 ((toList_nil_iff _).1 e))]) (Ev.bind (run_ev y hy) ?_)⟩
        simp only [if_neg (show ¬ (digs (bytesOf y) : Int) = (y.size : Int) by omega)]
        exact Ev.now _
  subst h
  by_cases hs : (bytesOf x12).head? = some 45 ∨ (bytesOf x12).head? = some 43
  · have h0 : 0 < x12.size := by
      rw [← size_of]
      cases hl : bytesOf x12 with
      | nil => rw [hl] at hs; simp at hs
      | cons a t => simp
    refine key (x12.extract 1 x12.size) _ (by rw [size_drop]; omega) (by unfold noSign; rw [if_pos hs, bytesOf_drop]) (fun k => ?_)
    rw [decide_eq_true hs, dragomanref1_parts.j6, if_pos rfl, if_pos (by omega)]
  · refine key x12 _ hz (by unfold noSign; rw [if_neg hs]) (fun k => ?_)
    rw [decide_eq_false hs, dragomanref1_parts.j6, if_neg (by decide)]
theorem parts_j4 (x0 : ByteArray) (x7 : Bool) (x9 x10 : ByteArray) (hz : x0.size ≤ 1073741824) : ∃ r, PartsAs (nexp (bytesOf x0)) r ∧ Ev (fun k => dragomanref1_parts.j4 k x0 x7 x9 x10) r := by
  cases hl : bytesOf x0 with
  | nil => exact ⟨_, .inl ⟨[], rfl, rfl, rfl⟩, Ev.step (fun k => by rw [dragomanref1_parts.j4, if_pos ((toList_nil_iff _).2 hl)]) (Ev.now _)⟩
  | cons c p =>
    obtain ⟨h0, hb, hp, hn⟩ := cons_of x0 hl
    have hne : ¬ x0.toList = ([] : List UInt8) := fun e => by rw [toList_nil_iff, hl] at e; cases e
    simp only [nexp]
    have hj5 : ∃ r, PartsAs (if c ≠ 101 ∧ c ≠ 69 then none else if noSign p = [] ∨ digs (noSign p) ≠ (noSign p).length then none else some p) r ∧ Ev (fun k => dragomanref1_parts.j5 k x0 x7 x9 x10 (decide (c ≠ 101 ∧ c ≠ 69))) r := by
      by_cases hc : c ≠ 101 ∧ c ≠ 69
      · rw [if_pos hc]
        exact ⟨_, .inr ⟨rfl, rfl, rfl⟩, Ev.step (fun k => by rw [dragomanref1_parts.j5, if_pos (decide_eq_true hc)]) (Ev.now _)⟩
      · rw [if_neg hc]
        obtain ⟨r, hr, he⟩ := parts_j6 x7 x9 x10 (x0.extract 1 x0.size) (x0.extract 1 x0.size) (by rw [size_drop]; omega) rfl
        rw [hp] at hr he
        refine ⟨r, hr, Ev.step (fun k => by rw [dragomanref1_parts.j5, if_neg (by simpa using hc), if_pos (by omega)]) ?_⟩
        cases hl2 : bytesOf (x0.extract 1 x0.size) with
        | nil =>
          rw [hp] at hl2
          subst hl2
          simp only [if_pos ((toList_nil_iff _).2 hp)]
          exact he
        | cons d q =>
          obtain ⟨g0, gb, gp, gn⟩ := cons_of _ hl2
          have gne : ¬ (x0.extract 1 x0.size).toList = ([] : List UInt8) := fun e => by rw [toList_nil_iff, hl2] at e; cases e
          simp only [if_neg gne, if_pos (show (0 : Int) < ((x0.extract 1 x0.size).size : Int) by omega), gb]
          rw [hp] at hl2
          subst hl2
          by_cases hd : d = 43
          · simp only [if_pos hd]
            rw [decide_eq_true (by simp [hd])] at he
            exact he
          · simp only [if_neg hd]
            have : decide ((d :: q).head? = some 45 ∨ (d :: q).head? = some 43) = (d == 45) := by rw [Bool.eq_iff_iff]; simp [hd]
            rw [this] at he
            exact he
    obtain ⟨r, hr, he⟩ := hj5
    refine ⟨r, hr, Ev.step (fun k => by rw [dragomanref1_parts.j4, if_neg hne, if_pos (by omega), hb]) ?_⟩
    by_cases h1 : c = 101
    · rw [decide_eq_false (by simp [h1])] at he
      simp only [if_pos h1]
      exact he
    · simp only [if_neg h1]
      have : (c != 69) = decide (c ≠ 101 ∧ c ≠ 69) := by rw [Bool.eq_iff_iff]; simp [h1]
      rw [this]
      exact he
theorem parts_j2 (x0 : ByteArray) (x7 : Bool) (x9 : ByteArray) (hz : x0.size ≤ 1073741824) : ∃ r, PartsAs ((nfrac (bytesOf x0)).bind nexp) r ∧ Ev (fun k => dragomanref1_parts.j2 k x0 x7 x9 false) r := by
  have hj3 : ∃ r, PartsAs ((nfrac (bytesOf x0)).bind nexp) r ∧ Ev (fun k => dragomanref1_parts.j3 k x0 x7 x9 (⟨#[]⟩ : ByteArray) (decide ((bytesOf x0).head? = some 46))) r := by
    unfold nfrac
    by_cases hdot : (bytesOf x0).head? = some 46
    · rw [if_pos hdot]
      have h0 : 0 < x0.size := by
        rw [← size_of]
        cases hl : bytesOf x0 with
        | nil => rw [hl] at hdot; cases hdot
        | cons a t => simp
      have hrn := run_ev (x0.extract 1 x0.size) (by rw [size_drop]; omega)
      rw [bytesOf_drop] at hrn
      have hdl := digs_le ((bytesOf x0).drop 1)
      rw [List.length_drop, size_of] at hdl
      generalize digs ((bytesOf x0).drop 1) = m at hrn hdl
      have hw : wrap64 (1 + (m : Int)) = ((1 + m : Nat) : Int) := by rw [wrap_id (by omega) (by omega)]; omega
      have hmid : (x0.extract 1 (1 + m)).toList = ([] : List UInt8) ↔ m = 0 := by
        rw [toList_nil_iff, bytesOf_extract, ← List.length_eq_zero_iff, List.length_drop, List.length_take, size_of]
        omega
      by_cases hm : m = 0
      · rw [if_pos hm]
        refine ⟨(false, ⟨#[]⟩, ⟨#[]⟩, ⟨#[]⟩, false), .inr ⟨rfl, rfl, rfl⟩, Ev.step (fun k => by rw [dragomanref1_parts.j3, if_pos (decide_eq_true hdot), if_pos (by omega)]) (Ev.bind hrn ?_)⟩
        simp only [hw, if_pos (show (1 : Int) ≤ ((1 + m : Nat) : Int) by omega), if_pos (show ((1 + m : Nat) : Int) ≤ (x0.size : Int) by omega), if_pos (show (0 : Int) ≤ ((1 + m : Nat) : Int) by omega), Int.toNat_natCast, if_pos (hmid.2 hm)]
        exact Ev.now _
      · rw [if_neg hm]
        obtain ⟨r, hr, he⟩ := parts_j4 (x0.extract (1 + m) x0.size) x7 x9 (x0.extract 1 (1 + m)) (by rw [size_drop]; omega)
        rw [bytesOf_drop] at hr
        refine ⟨r, hr, Ev.step (fun k => by rw [dragomanref1_parts.j3, if_pos (decide_eq_true hdot), if_pos (by omega)]) (Ev.bind hrn ?_)⟩
        simp only [hw, if_pos (show (1 : Int) ≤ ((1 + m : Nat) : Int) by omega), if_pos (show ((1 + m : Nat) : Int) ≤ (x0.size : Int) by omega), if_pos (show (0 : Int) ≤ ((1 + m : Nat) : Int) by omega), Int.toNat_natCast, if_neg (fun e => hm (hmid.1 e))]
        exact he
    · rw [if_neg hdot]
      obtain ⟨r, hr, he⟩ := parts_j4 x0 x7 x9 (⟨#[]⟩) hz
      exact ⟨r, hr, Ev.step (fun k => by rw [dragomanref1_parts.j3, if_neg (by rw [decide_eq_false hdot]; decide)]) he⟩
  obtain ⟨r, hr, he⟩ := hj3
  refine ⟨r, hr, Ev.step (fun k => by rw [dragomanref1_parts.j2, if_neg (by decide)]) ?_⟩
  cases hl : bytesOf x0 with
  | nil =>
    simp only [if_pos ((toList_nil_iff _).2 hl)]
    rw [hl] at he
    exact he
  | cons c p =>
    obtain ⟨h0, hb, hp, hn⟩ := cons_of x0 hl
    have hne : ¬ x0.toList = ([] : List UInt8) := fun e => by rw [toList_nil_iff, hl] at e; cases e
    simp only [if_neg hne, if_pos (show (0 : Int) < (x0.size : Int) by omega), hb]
    rw [hl] at he
    have : decide ((c :: p).head? = some 46) = (c == 46) := by rw [Bool.eq_iff_iff]; simp
    rw [this] at he
    exact he
theorem parts_j1 (x0 : ByteArray) (x7 : Bool) (hz : x0.size ≤ 1073741824) : ∃ r, PartsAs ((nwhole (bytesOf x0)).bind fun a => (nfrac a).bind nexp) r ∧ Ev (fun k => dragomanref1_parts.j1 k x0 x7) r := by
  have hrn := run_ev x0 hz
  have hd := digs_le (bytesOf x0)
  rw [size_of] at hd
  unfold nwhole
  have hx : bytesOf (x0.extract (digs (bytesOf x0)) x0.size) = (bytesOf x0).drop (digs (bytesOf x0)) := bytesOf_drop _ _
  have hx9 : bytesOf (x0.extract 0 (digs (bytesOf x0))) = (bytesOf x0).take (digs (bytesOf x0)) := bytesOf_take _ _
  have hz9 : (x0.extract 0 (digs (bytesOf x0))).size = digs (bytesOf x0) := size_take _ hd
  have bad : ∀ x x9 : ByteArray, Ev (fun k => dragomanref1_parts.j2 k x x7 x9 true) (false, (⟨#[]⟩ : ByteArray), (⟨#[]⟩ : ByteArray), (⟨#[]⟩ : ByteArray), false) := fun x x9 => Ev.step (fun k => by rw [dragomanref1_parts.j2, if_pos rfl]) (Ev.now _)
  generalize hn : digs (bytesOf x0) = n at hrn hd hx hx9 hz9
  have hnil : (x0.extract 0 n).toList = ([] : List UInt8) ↔ n = 0 := by
    rw [toList_nil_iff, ← List.length_eq_zero_iff, size_of, hz9]
  by_cases h0 : n = 0
  · rw [if_pos (.inl h0)]
    refine ⟨(false, ⟨#[]⟩, ⟨#[]⟩, ⟨#[]⟩, false), .inr ⟨rfl, rfl, rfl⟩, Ev.step (fun k => by rw [dragomanref1_parts.j1]) (Ev.bind hrn ?_)⟩
    simp only [if_pos (show (0 : Int) ≤ (n : Int) by omega), if_pos (show (n : Int) ≤ (x0.size : Int) by omega), Int.toNat_natCast, if_pos (hnil.2 h0)]
    exact bad _ _
  · have hz0 : 0 < x0.size := by omega
    have hh := head_of x0 hz0
    have hb9 : bt (x0.extract 0 n) 0 = bt x0 0 := by
      rw [bt_get, bt_get, hx9, List.getD_eq_getElem?_getD, List.getD_eq_getElem?_getD, List.getElem?_take_of_lt (by show 0 < n; omega)]
    by_cases h1 : 1 < n
    · by_cases h48 : bt x0 0 = 48
      · rw [if_pos (.inr ⟨h1, by rw [hh, h48]⟩)]
        refine ⟨(false, ⟨#[]⟩, ⟨#[]⟩, ⟨#[]⟩, false), .inr ⟨rfl, rfl, rfl⟩, Ev.step (fun k => by rw [dragomanref1_parts.j1]) (Ev.bind hrn ?_)⟩
        simp only [if_pos (show (0 : Int) ≤ (n : Int) by omega), if_pos (show (n : Int) ≤ (x0.size : Int) by omega), Int.toNat_natCast, if_neg (fun e => h0 (hnil.1 e)), hz9, if_pos (show (n : Int) > 1 by omega), if_pos (show (0 : Int) < (n : Int) by omega), hb9, h48, beq_self_eq_true]
        exact bad _ _
      · rw [if_neg (by rintro (h | ⟨_, h⟩); exact h0 h; rw [hh] at h; exact h48 (Option.some.inj h)), Option.bind_some]
        obtain ⟨r, hr, he⟩ := parts_j2 (x0.extract n x0.size) x7 (x0.extract 0 n) (by rw [size_drop]; omega)
        rw [hx] at hr
        refine ⟨r, hr, Ev.step (fun k => by rw [dragomanref1_parts.j1]) (Ev.bind hrn ?_)⟩
        simp only [if_pos (show (0 : Int) ≤ (n : Int) by omega), if_pos (show (n : Int) ≤ (x0.size : Int) by omega), Int.toNat_natCast, if_neg (fun e => h0 (hnil.1 e)), hz9, if_pos (show (n : Int) > 1 by omega), if_pos (show (0 : Int) < (n : Int) by omega), hb9, beq_eq_false_iff_ne.2 h48]
        exact he
    · rw [if_neg (by rintro (h | ⟨h, _⟩); exact h0 h; exact h1 h), Option.bind_some]
      obtain ⟨r, hr, he⟩ := parts_j2 (x0.extract n x0.size) x7 (x0.extract 0 n) (by rw [size_drop]; omega)
      rw [hx] at hr
      refine ⟨r, hr, Ev.step (fun k => by rw [dragomanref1_parts.j1]) (Ev.bind hrn ?_)⟩
      simp only [if_pos (show (0 : Int) ≤ (n : Int) by omega), if_pos (show (n : Int) ≤ (x0.size : Int) by omega), Int.toNat_natCast, if_neg (fun e => h0 (hnil.1 e)), hz9, if_neg (show ¬ (n : Int) > 1 by omega)]
      exact he
theorem parts_ev (s : ByteArray) (hs : s.size ≤ 1073741824) : ∃ r, PartsAs (nform (bytesOf s)) r ∧ Ev (fun k => dragomanref1_parts.f k s) r := by
  have hj0 : ∃ r, PartsAs (nform (bytesOf s)) r ∧ Ev (fun k => dragomanref1_parts.j0 k s (decide ((bytesOf s).head? = some 45))) r := by
    unfold nform nneg
    by_cases h : (bytesOf s).head? = some 45
    · rw [if_pos h]
      have h0 : 0 < s.size := by
        rw [← size_of]
        cases hl : bytesOf s with
        | nil => rw [hl] at h; cases h
        | cons a t => simp
      obtain ⟨r, hr, he⟩ := parts_j1 (s.extract 1 s.size) true (by rw [size_drop]; omega)
      rw [bytesOf_drop] at hr
      exact ⟨r, hr, Ev.step (fun k => by rw [decide_eq_true h, dragomanref1_parts.j0, if_pos rfl, if_pos (by omega)]) he⟩
    · rw [if_neg h]
      obtain ⟨r, hr, he⟩ := parts_j1 s false hs
      exact ⟨r, hr, Ev.step (fun k => by rw [decide_eq_false h, dragomanref1_parts.j0, if_neg (by decide)]) he⟩
  obtain ⟨r, hr, he⟩ := hj0
  refine ⟨r, hr, ?_⟩
  cases hl : bytesOf s with
  | nil =>
    refine Ev.congr (fun k => by rw [dragomanref1_parts.f, if_pos ((toList_nil_iff _).2 hl)]) ?_
    rw [hl] at he
    exact he
  | cons c p =>
    obtain ⟨h0, hb, hp, hn⟩ := cons_of s hl
    have hne : ¬ s.toList = ([] : List UInt8) := fun e => by rw [toList_nil_iff, hl] at e; cases e
    refine Ev.congr (fun k => by rw [dragomanref1_parts.f, if_neg hne, if_pos (by omega), hb]) ?_
    rw [hl] at he
    have : decide ((c :: p).head? = some 45) = (c == 45) := by rw [Bool.eq_iff_iff]; simp
    rw [this] at he
    exact he
/-- The power, where only digits are left. -/
theorem pow_l0 (s : ByteArray) (hs : s.size ≤ 1073741824) (n : Nat) : ∀ (i : Nat) (v : Int), i ≤ s.size → s.size - i = n → digs ((bytesOf s).drop i) = s.size - i → 0 ≤ v → v ≤ 100000 →
    ∃ x, Ev (fun k => dragomanref1_power.l0 k s v (i : Int)) (x, (powV v ((bytesOf s).drop i)).isSome) := by
  induction n with
  | zero =>
    intro i v hi hn _ v0 v1
    obtain rfl : i = s.size := by omega
    rw [List.drop_eq_nil_of_le (by rw [size_of]; omega), show (powV v []).isSome = true from rfl]
    cases hl : bytesOf s with
    | nil => exact ⟨v, Ev.step (fun k => by rw [dragomanref1_power.l0, if_neg (by omega), if_pos ((toList_nil_iff _).2 hl)]) (Ev.now _)⟩
    | cons c p =>
      obtain ⟨h0, hb, hp, hn⟩ := cons_of s hl
      have hne : ¬ s.toList = ([] : List UInt8) := fun e => by rw [toList_nil_iff, hl] at e; cases e
      by_cases hc : c = 45
      · exact ⟨_, Ev.step (fun k => by rw [dragomanref1_power.l0, if_neg (by omega), if_neg hne, if_pos (by omega), hb, if_pos hc]) (Ev.now _)⟩
      · exact ⟨_, Ev.step (fun k => by rw [dragomanref1_power.l0, if_neg (by omega), if_neg hne, if_pos (by omega), hb, if_neg hc]) (Ev.now _)⟩
  | succ n ih =>
    intro i v hi hn hd v0 v1
    have hlt : i < (bytesOf s).length := by rw [size_of]; omega
    rw [drop_cons hlt] at hd ⊢
    simp only [digs] at hd
    split at hd
    · rename_i hdig
      have hdig2 := hdig
      rw [← bt_nat] at hdig2
      have hrange : 48 ≤ bt s (i : Int) ∧ bt s (i : Int) ≤ 57 := by
        unfold isDig at hdig2
        simpa using hdig2
      rw [← bt_nat]
      simp only [powV]
      have e1 : wrap64 (wrap64 (10 * v) + (bt s (i : Int) - 48) % 256) = v * 10 + (bt s (i : Int) - 48) := by
        rw [wrap_id (n := 10 * v) (by omega) (by omega), wrap_id (by omega) (by omega)]
        omega
      by_cases hg : v * 10 + (bt s (i : Int) - 48) > 100000
      · refine ⟨0, Ev.step (fun k => by rw [dragomanref1_power.l0, if_pos (by omega), if_pos (by omega), digit_eq, Option.bind_some, if_pos hdig2, e1, if_pos hg]) ?_⟩
        rw [if_pos hg]
        exact Ev.now _
      · obtain ⟨x, hx⟩ := ih (i + 1) (v * 10 + (bt s (i : Int) - 48)) (by omega) (by omega) (by omega) (by omega) (by omega)
        refine ⟨x, Ev.step (fun k => by rw [dragomanref1_power.l0, if_pos (by omega), if_pos (by omega), digit_eq, Option.bind_some, if_pos hdig2, e1, if_neg hg]) ?_⟩
        rw [if_neg hg]
        rw [wrap_id (by omega) (by omega)]
        exact hx
    · omega
theorem power_ev (s : ByteArray) (hs : s.size ≤ 1073741824) (hd : digs (noSign (bytesOf s)) = (noSign (bytesOf s)).length) : ∃ x, Ev (fun k => dragomanref1_power.f k s) (x, fits (bytesOf s)) := by
  unfold fits
  unfold noSign at hd ⊢
  by_cases h : (bytesOf s).head? = some 45 ∨ (bytesOf s).head? = some 43
  · rw [if_pos h] at hd ⊢
    cases hl : bytesOf s with
    | nil => rw [hl] at h; simp at h
    | cons c p =>
      obtain ⟨h0, hb, hp, hn⟩ := cons_of s hl
      rw [List.length_drop, size_of] at hd
      obtain ⟨x, hx⟩ := pow_l0 s hs _ 1 0 (by omega) rfl hd (by omega) (by omega)
      rw [hl] at h hx
      refine ⟨x, Ev.step (fun k => by
        show dragomanref1_power.l0 (k + 1) s 0 0 = _
        rw [dragomanref1_power.l0, if_pos (by omega), if_pos (by omega), digit_eq, Option.bind_some, if_neg (by
          rw [hb]
          simp at h
          rcases h with rfl | rfl <;> decide), wrap_id (by omega) (by omega)]
        rfl) hx⟩
  · rw [if_neg h] at hd ⊢
    rw [size_of] at hd
    obtain ⟨x, hx⟩ := pow_l0 s hs _ 0 0 (by omega) rfl (by rw [List.drop_zero]; omega) (by omega) (by omega)
    rw [List.drop_zero] at hx
    exact ⟨x, hx⟩
theorem nexp_digs {l p : List Int} (h : nexp l = some p) : digs (noSign p) = (noSign p).length := by
  cases l with
  | nil => obtain rfl := Option.some.inj h; rfl
  | cons c q =>
    simp only [nexp] at h
    split at h
    · cases h
    · split at h
      · cases h
      · rename_i h2
        obtain rfl := Option.some.inj h
        exact Classical.byContradiction fun e => h2 (.inr e)
theorem nform_digs {l p : List Int} (h : nform l = some p) : digs (noSign p) = (noSign p).length := by
  unfold nform at h
  obtain ⟨a, _, h⟩ := Option.bind_eq_some_iff.1 h
  obtain ⟨b, _, h⟩ := Option.bind_eq_some_iff.1 h
  exact nexp_digs h
theorem nexp_len {l p : List Int} (h : nexp l = some p) : p.length ≤ l.length := by
  cases l with
  | nil => obtain rfl := Option.some.inj h; exact Nat.le_refl _
  | cons c q =>
    simp only [nexp] at h
    split at h
    · cases h
    · split at h
      · cases h
      · obtain rfl := Option.some.inj h; simp
theorem nform_len {l p : List Int} (h : nform l = some p) : p.length ≤ l.length := by
  unfold nform nneg at h
  obtain ⟨a, ha, h⟩ := Option.bind_eq_some_iff.1 h
  obtain ⟨b, hb, h⟩ := Option.bind_eq_some_iff.1 h
  have h1 := nexp_len h
  have h2 : b.length ≤ a.length := by
    unfold nfrac at hb
    split at hb
    · split at hb
      · cases hb
      · obtain rfl := Option.some.inj hb; rw [List.length_drop]; omega
    · obtain rfl := Option.some.inj hb; exact Nat.le_refl _
  have h3 : a.length ≤ l.length := by
    have hw : ∀ m : List Int, nwhole m = some a → a.length ≤ m.length := by
      intro m hm
      unfold nwhole at hm
      split at hm
      · cases hm
      · obtain rfl := Option.some.inj hm
        rw [List.length_drop]
        omega
    have := hw _ ha
    split at this
    · rw [List.length_drop] at this; omega
    · exact this
  omega
theorem form_ev (s : ByteArray) (hs : s.size ≤ 1073741824) : Ev (fun k => dragomanref1_Form.f k s) ((nform (bytesOf s)).isSome, (nform (bytesOf s)).elim false (fun p => !fits p)) := by
  obtain ⟨r, hr, he⟩ := parts_ev s hs
  refine Ev.congr (fun k => by rw [dragomanref1_Form.f]) (Ev.bind he ?_)
  rcases hr with ⟨p, hf, h1, h2⟩ | ⟨hf, h1, h2⟩
  · have hd := nform_digs hf
    have hl := nform_len hf
    rw [size_of] at hl
    rw [hf, h1]
    subst h2
    obtain ⟨x, hx⟩ := power_ev r.2.2.2.1 (by rw [size_of] at hl; omega) hd
    refine Ev.bind hx ?_
    exact Ev.now _
  · rw [hf, h1, h2]
    obtain ⟨x, hx⟩ := power_ev ⟨#[]⟩ (by show 0 ≤ _; omega) rfl
    refine Ev.bind hx ?_
    exact Ev.now _
end Go.Proofs.YtoanbmggffkmgaaDoor.La
end
section
namespace Go.Proofs.YtoanbmggffkmgaaDoor.Pure
open Go.RowKit Go.Proofs.YtoanbmggffkmgaaDoor.P Go.Proofs.YtoanbmggffkmgaaDoor.La Go.Proofs.YtoanbmggffkmgaaDoorW.PrintWords Go.Proofs.YtoanbmggffkmgaaDoorW.PrintLast
/-- A byte that may stand at that place in such a row. -/
def numB (i : Nat) (b : Int) : Prop := (48 ≤ b ∧ b ≤ 57) ∨ b = 43 ∨ b = 45 ∨ b = 46 ∨ b = 69 ∨ (b = 101 ∧ 0 < i)
theorem bad_ascii {l : List Int} (h : ∀ x ∈ l, 0 ≤ x ∧ x < 128) : bad l = none := by
  induction l with
  | nil => exact bad_nil
  | cons x t ih =>
    have hx := h x List.mem_cons_self
    have he : enc x = [x] := by unfold enc; rw [if_pos hx.2]
    have := bad_enc (r := x) (good_iff.2 (by omega)) t
    rw [he, ih (fun y hy => h y (List.mem_cons_of_mem _ hy))] at this
    exact this
theorem numB_digit {i : Nat} {b : Int} (h : numB i b) : inSet digitS b = true := by
  unfold numB at h
  unfold inSet digitS
  simp
  omega
theorem numB_first {b : Int} (h : numB 0 b) : inSet signS b = false ∧ b ≠ 34 ∧ ¬ (97 ≤ b ∧ b ≤ 122) ∧ inSet blankS b = false := by
  unfold numB at h
  refine ⟨?_, by omega, by omega, ?_⟩
  · rw [Bool.eq_false_iff]
    unfold inSet signS
    simp
    omega
  · rw [Bool.eq_false_iff]
    unfold inSet blankS
    simp
    omega
theorem wh_all {cs l m : List Int} {c : Int} (h : ∀ x ∈ l, inSet cs x = true) (hc : inSet cs c = false) : wh cs (l ++ c :: m) = l.length := by
  induction l with
  | nil => simp [wh, hc]
  | cons b l ih =>
    simp only [List.cons_append, wh, h b List.mem_cons_self, if_true, List.length_cons]
    rw [ih (fun x hx => h x (List.mem_cons_of_mem _ hx))]
/-- What the row between two blanks is. -/
theorem lex_row {S : List Int} (hS : S ≠ []) (h : ∀ (i : Nat) (b : Int), S[i]? = some b → numB i b) :
    lexS (32 :: (S ++ [32])) = if numb S = 0 then ([(3, S, 1), (0, [], S.length + 2)], none) else ([], some (numb S, 1)) := by
  obtain ⟨b, t, rfl⟩ : ∃ b t, S = b :: t := by cases S with
    | nil => exact absurd rfl hS
    | cons b t => exact ⟨b, t, rfl⟩
  have hb := numB_first (h 0 b rfl)
  have hall : ∀ x ∈ b :: t, inSet digitS x = true := by
    intro x hx
    obtain ⟨i, hi⟩ := List.getElem?_of_mem hx
    exact numB_digit (h i x hi)
  have hrange : ∀ x ∈ b :: t, 0 ≤ x ∧ x < 128 := by
    intro x hx
    obtain ⟨i, hi⟩ := List.getElem?_of_mem hx
    have := h i x hi
    unfold numB at this
    omega
  have hbad : bad (32 :: ((b :: t) ++ [32])) = none := by
    refine bad_ascii (fun x hx => ?_)
    rcases List.mem_cons.1 hx with rfl | hx
    · omega
    · rcases List.mem_append.1 hx with hx | hx
      · exact hrange x hx
      · obtain rfl := List.mem_singleton.1 hx; omega
  have hwb : wh blankS (32 :: ((b :: t) ++ [32])) = 1 := by
    rw [List.cons_append]
    simp only [wh, hb.2.2.2, Bool.false_eq_true, if_false]
    rfl
  have hlen : (32 :: ((b :: t) ++ [32])).length = (b :: t).length + 2 := by simp
  unfold lexS judgeS
  rw [hbad, Option.map_none]
  simp only
  rw [hwb, hlen]
  generalize hT : b :: t = T at *
  have hd1 : (32 :: (T ++ [32])).drop 1 = T ++ [32] := rfl
  have hg1 : (32 :: (T ++ [32])).getD 1 0 = b := by rw [← hT]; rfl
  have hwd : wh digitS ((32 :: (T ++ [32])).drop 1) = T.length := by rw [hd1]; exact wh_all hall (by rfl)
  have htk : ((32 :: (T ++ [32])).drop 1).take T.length = T := by rw [hd1, List.take_left]
  have hT0 : T.length ≠ 0 := by rw [← hT]; simp
  have hword : wd (32 :: (T ++ [32])) 1 = if numb T = 0 then .inr (3, T, 1 + T.length) else .inl (numb T, 1) := by
    unfold wd
    rw [hg1, hb.1, if_neg (by decide), if_neg hb.2.1, if_neg hb.2.2.1, hwd, if_neg hT0, htk]
  rw [cutS, hlen, if_neg (by omega), hword]
  by_cases hn : numb T = 0
  · rw [if_pos hn, if_pos hn]
    simp only
    have hdr : (32 :: (T ++ [32])).drop (1 + T.length) = [32] := by
      rw [Nat.add_comm, List.drop_succ_cons, List.drop_left]
    rw [hdr, show wh blankS [32] = 1 from rfl, show T.length + 2 = (T.length + 1) + 1 by omega, cutS, hlen, if_pos (by omega)]
    rfl
  · rw [if_neg hn, if_neg hn]
theorem numbers_end (s : ByteArray) (h1 : 1 ≤ s.size) (h2 : s.size ≤ 390) (h : ∀ (i : Nat) (b : Int), (bytesOf s)[i]? = some b → numB i b) : Ev (fun k => dragomanlaw7_JlexNumbers.l0 k s (s.size : Int)) true := by
  have hz1 : (⟨#[32]⟩ : ByteArray).size = 1 := rfl
  have hb : bytesOf (((⟨#[32]⟩ : ByteArray) ++ s) ++ (⟨#[32]⟩ : ByteArray)) = 32 :: (bytesOf s ++ [32]) := by
    rw [bytesOf_append, bytesOf_append]
    rfl
  have hz : (((⟨#[32]⟩ : ByteArray) ++ s) ++ (⟨#[32]⟩ : ByteArray)).size = s.size + 2 := by
    rw [size_append', size_append', hz1]; omega
  have hzz : ((⟨#[32]⟩ : ByteArray) ++ s).size = s.size + 1 := by rw [size_append', hz1]; omega
  have hlex := lex_ev (((⟨#[32]⟩ : ByteArray) ++ s) ++ (⟨#[32]⟩ : ByteArray)) (by omega)
  have hne : bytesOf s ≠ [] := fun e => by have := size_of s; rw [e] at this; simp at this; omega
  rw [hb, lex_row hne h] at hlex
  have hnum : numb (bytesOf s) = (nform (bytesOf s)).elim 4 (fun p => if fits p = true then 0 else 6) := by
    unfold numb
    rw [size_of, if_neg (by omega)]
  have hcl : (clamp (((⟨#[32]⟩ : ByteArray) ++ s) ++ (⟨#[32]⟩ : ByteArray)).size ((1 : Nat) : Int) : Int) = 1 := by
    rw [hz]; unfold clamp; (repeat' split) <;> omega
  have hform := form_ev s (by omega)
  refine Ev.step (fun k => by rw [dragomanlaw7_JlexNumbers.l0, if_neg (by omega), if_pos (by omega), if_pos (by omega)]) ?_
  generalize ((⟨#[32]⟩ : ByteArray) ++ s) ++ (⟨#[32]⟩ : ByteArray) = y at hcl hlex
  rw [hnum] at hlex
  cases hf : nform (bytesOf s) with
  | none =>
    rw [hf] at hlex hform
    rw [Option.elim_none, if_neg (by decide), cutR] at hlex
    dsimp only at hlex
    rw [hcl] at hlex
    exact Ev.bind hlex (Ev.bind hform (Ev.now true))
  | some p =>
    rw [hf, Option.elim_some] at hlex
    rw [hf, Option.elim_some] at hform
    by_cases hp : fits p = true
    · rw [if_pos hp, if_pos rfl, cutR] at hlex
      rw [hp] at hform
      dsimp only at hlex
      have hj : List.map toW [(3, bytesOf s, 1), (0, [], (bytesOf s).length + 2)] = [⟨3, s, ((1 : Nat) : Int)⟩, ⟨0, strOfNums [], (((bytesOf s).length + 2 : Nat) : Int)⟩] := by
        rw [List.map_cons, List.map_cons, List.map_nil]
        unfold toW
        dsimp only
        rw [strOfNums_of]
      rw [hj] at hlex
      refine Ev.bind hlex (Ev.bind hform ?_)
      have e : (s.toList == s.toList) = true := beq_self_eq_true _
      refine Ev.congr (fun k => by
        show some ((3 : Int) == 3 && (s.toList == s.toList && (((1 : Nat) : Int) == 1))) = some true
        rw [e]
        rfl) (Ev.now true)
    · rw [if_neg hp, if_neg (by decide), cutR] at hlex
      dsimp only at hlex
      rw [hcl] at hlex
      rw [Bool.not_eq_true] at hp
      rw [hp] at hform
      exact Ev.bind hlex (Ev.bind hform (Ev.now true))
theorem numbers_l0 (s : ByteArray) (h1 : 1 ≤ s.size) (h2 : s.size ≤ 390) (n : Nat) : ∀ i : Nat, i ≤ s.size → s.size - i = n → (∀ (j : Nat) (b : Int), j < i → (bytesOf s)[j]? = some b → numB j b) → Ev (fun k => dragomanlaw7_JlexNumbers.l0 k s (i : Int)) true := by
  induction n with
  | zero =>
    intro i hi hn h
    obtain rfl : i = s.size := by omega
    refine numbers_end s h1 h2 (fun j b hb => h j b ?_ hb)
    obtain ⟨hl, _⟩ := List.getElem?_eq_some_iff.1 hb
    rw [size_of] at hl
    exact hl
  | succ n ih =>
    intro i hi hn h
    have hlt : i < (bytesOf s).length := by rw [size_of]; omega
    have hb : bt s (i : Int) = (bytesOf s)[i] := by rw [bt_get]; simp [List.getD_eq_getElem?_getD, hlt]
    have hgo : numB i (bt s (i : Int)) → Ev (fun k => dragomanlaw7_JlexNumbers.l0 k s (wrap64 ((i : Int) + 1))) true := by
      intro hok
      rw [wrap_id (by omega) (by omega)]
      refine ih (i + 1) (by omega) (by omega) (fun j b hj hjb => ?_)
      by_cases e : j = i
      · subst e
        rw [List.getElem?_eq_getElem hlt] at hjb
        obtain rfl := Option.some.inj hjb
        rw [← hb]
        exact hok
      · exact h j b (by omega) hjb
    refine Ev.step (fun k => by rw [dragomanlaw7_JlexNumbers.l0, if_pos (by omega), if_pos (by omega)]) ?_
    unfold numB at hgo
    generalize bt s (i : Int) = b at hgo
    have hend : ∀ c : Prop, [Decidable c] → (c → Ev (fun k => dragomanlaw7_JlexNumbers.l0 k s (wrap64 ((i : Int) + 1))) true) → Ev (fun k => if c then dragomanlaw7_JlexNumbers.l0 k s (wrap64 ((i : Int) + 1)) else some true) true := by
      intro c _ hc
      by_cases g : c
      · exact Ev.congr (fun k => by rw [if_pos g]) (hc g)
      · exact Ev.congr (fun k => by rw [if_neg g]) (Ev.now _)
    have rest : Ev (fun k => (if b = 43 then (dragomanlaw7_JlexNumbers.l0 k s (wrap64 ((i : Int) + 1))) else (if b = 45 then (dragomanlaw7_JlexNumbers.l0 k s (wrap64 ((i : Int) + 1))) else (if b = 46 then (dragomanlaw7_JlexNumbers.l0 k s (wrap64 ((i : Int) + 1))) else (if b = 69 then (dragomanlaw7_JlexNumbers.l0 k s (wrap64 ((i : Int) + 1))) else (if b = 101 then (if (i : Int) > 0 then (dragomanlaw7_JlexNumbers.l0 k s (wrap64 ((i : Int) + 1))) else (some true)) else (some true))))))) true := by
      by_cases g1 : b = 43
      · exact Ev.congr (fun k => by rw [if_pos g1]) (hgo (by omega))
      · by_cases g2 : b = 45
        · exact Ev.congr (fun k => by rw [if_neg g1, if_pos g2]) (hgo (by omega))
        · by_cases g3 : b = 46
          · exact Ev.congr (fun k => by rw [if_neg g1, if_neg g2, if_pos g3]) (hgo (by omega))
          · by_cases g4 : b = 69
            · exact Ev.congr (fun k => by rw [if_neg g1, if_neg g2, if_neg g3, if_pos g4]) (hgo (by omega))
            · by_cases g5 : b = 101
              · exact Ev.congr (fun k => by rw [if_neg g1, if_neg g2, if_neg g3, if_neg g4, if_pos g5]) (hend _ (fun g => hgo (by omega)))
              · exact Ev.congr (fun k => by rw [if_neg g1, if_neg g2, if_neg g3, if_neg g4, if_neg g5]) (Ev.now _)
    by_cases g1 : b ≥ 48
    · by_cases g2 : b ≤ 57
      · exact Ev.congr (fun k => by rw [if_pos g1, if_pos g2]) (hgo (by omega))
      · exact Ev.congr (fun k => by rw [if_pos g1, if_neg g2]) rest
    · exact Ev.congr (fun k => by rw [if_neg g1]) rest
theorem JlexNumbers : dragomanlaw7_JlexNumbers.Pure := by
  intro s _
  refine Ev.rounds (Ev.congr (fun k => by rw [dragomanlaw7_JlexNumbers.f, dragomanlaw7_awake.f, Option.bind_some, if_pos rfl]) ?_)
  have stop : Ev (fun k => dragomanlaw7_JlexNumbers.j0 k s true) true := Ev.step (fun k => by rw [dragomanlaw7_JlexNumbers.j0, if_pos rfl]) (Ev.now _)
  by_cases h1 : (s.size : Int) < 1
  · exact Ev.congr (fun k => by rw [if_pos h1]) stop
  · by_cases h2 : (s.size : Int) > 390
    · exact Ev.congr (fun k => by rw [if_neg h1, decide_eq_true h2]) stop
    · refine Ev.congr (fun k => by rw [if_neg h1, decide_eq_false h2]) (Ev.step (fun k => by rw [dragomanlaw7_JlexNumbers.j0, if_neg (by decide)]) ?_)
      exact numbers_l0 s (by omega) (by omega) _ 0 (by omega) rfl (fun j b hj => by omega)
end Go.Proofs.YtoanbmggffkmgaaDoor.Pure
end
