/- The parts of this claim's proof, in one text: what each Go function answers and that its call comes to it; plain facts of lists of numbers. Conditions as each theorem names them. -/
import Derived.ArgAppend
import Derived.Below
import Derived.BigQuiet
import Derived.Deep.AppendLies
import Derived.Deep.CutBlock
import Derived.Deep.DeepCutAuto
import Derived.Deep.Draws
import Derived.Deep.LoopGhost
import Derived.Deep.OwnRows
import Derived.Deep.QuietTactic
import Derived.Deep.RegionHeld3
import Derived.KernelRfl
import Derived.Laws.BitsLemmas
import Derived.Laws.BytesArg
import Derived.Laws.IdiomCopy
import Derived.Laws.MakeOwn
import Derived.Laws.OwnMore
import Derived.Laws.Rows
import Derived.Laws.Slices
import Derived.Lib.AppendStr
import Derived.Lib.Bytealg
import Derived.Lib.Bytes
import Derived.Lib.ConvBytes
import Derived.Lib.Hide
import Derived.Maps.AppendAt
import Derived.OrdersHeld
import Derived.Outline
import Derived.OwnWalk
import Derived.RowKit
import Derived.RowKit3
import Derived.Shelf.Bits.Mul64
import Derived.Shelf.LaysM
import Derived.Shelf.Small.Strs
import Derived.Shelf.Small.Utf8
import Derived.Shelf.Strings.AsciiSet
import Derived.Shelf.Strings.Builder1
import Derived.Shelf.Strings.Builder2
import Derived.Shelf.Strings.BuilderF
import Derived.Shelf.Strings.BuilderK
import Derived.Shelf.Strings.Count
import Derived.Shelf.Strings.IndexAny
import Derived.Shelf.Strings.IndexAnyAll
import Derived.Shelf.Strings.Prefix
import Derived.Shelf.Strings.Repeat
import Derived.Shelf.Strings.Runes
import Derived.Shelf.Strings.Search1
import Derived.Shelf.Strings.Search2
import Derived.Shelf.Strings.Search3
import Derived.Shelf.Strings.Shaped
import Derived.Shelf.Strings.Split
import Derived.Shelf.Strings.Trim
import Derived.Shelf.Unicode.DecodeSlow
import Derived.Tactics
import Derived.WalkKit
import Derived.WideLaws
import Derived.Test.YtoanbmggffkmgaaDoorProg
import Derived.Test.YtoanbmggffkmgaaDoorWApart
import Derived.Test.YtoanbmggffkmgaaDoorWArr
import Derived.Test.YtoanbmggffkmgaaDoorWAt
import Derived.Test.YtoanbmggffkmgaaDoorWEqStruct
import Derived.Test.YtoanbmggffkmgaaDoorWFoot
import Derived.Test.YtoanbmggffkmgaaDoorWFootNe
import Derived.Test.YtoanbmggffkmgaaDoorWFour
import Derived.Test.YtoanbmggffkmgaaDoorWGuard
import Derived.Test.YtoanbmggffkmgaaDoorWInv
import Derived.Test.YtoanbmggffkmgaaDoorWInvWords
import Derived.Test.YtoanbmggffkmgaaDoorWKept
import Derived.Test.YtoanbmggffkmgaaDoorWLast
import Derived.Test.YtoanbmggffkmgaaDoorWMake0
import Derived.Test.YtoanbmggffkmgaaDoorWMore
import Derived.Test.YtoanbmggffkmgaaDoorWN
import Derived.Test.YtoanbmggffkmgaaDoorWNEv
import Derived.Test.YtoanbmggffkmgaaDoorWQPut
import Derived.Test.YtoanbmggffkmgaaDoorWRepsOne
import Derived.Test.YtoanbmggffkmgaaDoorWShare
import Derived.Test.YtoanbmggffkmgaaDoorWTab
import Derived.Test.YtoanbmggffkmgaaDoorWWords
import Derived.Test.YtoanbmggffkmgaaDoorWZeros
import Derived.Test.YtoanbmggffkmgaaDoorMEscWrites1
section
namespace Go.Proofs.YtoanbmggffkmgaaDoor.P
open Go.RowKit Go.Proofs.YtoanbmggffkmgaaDoorW.PrintWords Go.Proofs.YtoanbmggffkmgaaDoorW.PrintLast Go.Proofs.YtoanbmggffkmgaaDoorW.PrintMore
attribute [local go_sem] max2_int min2_int max_two min_two max_three min_three max_four min_four   -- for this text's walks alone
attribute [-simp] ByteArray.size_extract
theorem pxdragomanref5hex4_empty (l : List UInt8) : l.isEmpty = !(l != []) := by cases l <;> rfl
set_option linter.unusedVariables false
set_option linter.unusedSimpArgs false
/-! ### dragomanref5_hex4: function 48 -/
def dragomanref5_hex4.f (a0 : Int) : Option (ByteArray) := if 0 ≤ (Go.bits .and .i64 (a0 / 4096) 15) then (if (Go.bits .and .i64 (a0 / 4096) 15) < 16 then (if 0 ≤ (Go.bits .and .i64 (a0 / 256) 15) then (if (Go.bits .and .i64 (a0 / 256) 15) < 16 then (if 0 ≤ (Go.bits .and .i64 (a0 / 16) 15) then (if (Go.bits .and .i64 (a0 / 16) 15) < 16 then (if 0 ≤ (Go.bits .and .i64 a0 15) then (if (Go.bits .and .i64 a0 15) < 16 then (some (strOfNums (([bt (⟨#[48, 49, 50, 51, 52, 53, 54, 55, 56, 57, 97, 98, 99, 100, 101, 102]⟩ : ByteArray) (Go.bits .and .i64 (a0 / 4096) 15), bt (⟨#[48, 49, 50, 51, 52, 53, 54, 55, 56, 57, 97, 98, 99, 100, 101, 102]⟩ : ByteArray) (Go.bits .and .i64 (a0 / 256) 15), bt (⟨#[48, 49, 50, 51, 52, 53, 54, 55, 56, 57, 97, 98, 99, 100, 101, 102]⟩ : ByteArray) (Go.bits .and .i64 (a0 / 16) 15), bt (⟨#[48, 49, 50, 51, 52, 53, 54, 55, 56, 57, 97, 98, 99, 100, 101, 102]⟩ : ByteArray) (Go.bits .and .i64 a0 15)] : List Int)))) else (none)) else (none)) else (none)) else (none)) else (none)) else (none)) else (none)) else (none)
def dragomanref5_hex4.T2 : Bool × List (List Nat × List Nat) := (true, [([], []), ([], []), ([1], [1]), ([2], [2]), ([0, 3], [0, 3]), ([], []), ([], []), ([6], [6]), ([7], [7]), ([5, 8], [5, 8]), ([], []), ([], []), ([11], [11]), ([12], [12]), ([10, 13], [10, 13]), ([], []), ([], []), ([16], [16]), ([15, 17], [15, 17]), ([4, 9, 14, 18], [4, 9, 14, 18]), ([19], [19]), ([20, 0, 1, 2, 3, 4, 5, 6, 7, 8, 9, 10, 11, 12, 13, 14, 15, 16, 17, 18, 19, 20], [20])])
def dragomanref5_hex4.B2 : List Nat := [0, 0, 2, 6, 15, 0, 0, 64, 192, 480, 0, 0, 2048, 6144, 15360, 0, 0, 65536, 229376, 524287, 1048575, 2097151]
theorem dragomanref5_hex4.tab2 : rtab .any (opsOf Tryd.f48 2) = dragomanref5_hex4.T2 := by kernel_rfl
theorem dragomanref5_hex4.bits2 : waitsOk dragomanref5_hex4.T2.2 dragomanref5_hex4.B2 = true := by kernel_rfl
set_option maxHeartbeats 8000000 in
set_option maxRecDepth 100000 in
theorem dragomanref5_hex4.calls (a0 : Int) (r : ByteArray) (w : World) (h : dragomanref5_hex4.f a0 = some r) :
    Calls Tryd.prog 48 #[.int .i64 a0] w fun e w' => e = .returned (.string r) ∧ Below w.heap.size w w' := by
  have HB := Aside0.mk (Below.refl w.heap.size w)
  have H : (if 0 ≤ (Go.bits .and .i64 (a0 / 4096) 15) then (if (Go.bits .and .i64 (a0 / 4096) 15) < 16 then (if 0 ≤ (Go.bits .and .i64 (a0 / 256) 15) then (if (Go.bits .and .i64 (a0 / 256) 15) < 16 then (if 0 ≤ (Go.bits .and .i64 (a0 / 16) 15) then (if (Go.bits .and .i64 (a0 / 16) 15) < 16 then (if 0 ≤ (Go.bits .and .i64 a0 15) then (if (Go.bits .and .i64 a0 15) < 16 then (some (strOfNums (([bt (⟨#[48, 49, 50, 51, 52, 53, 54, 55, 56, 57, 97, 98, 99, 100, 101, 102]⟩ : ByteArray) (Go.bits .and .i64 (a0 / 4096) 15), bt (⟨#[48, 49, 50, 51, 52, 53, 54, 55, 56, 57, 97, 98, 99, 100, 101, 102]⟩ : ByteArray) (Go.bits .and .i64 (a0 / 256) 15), bt (⟨#[48, 49, 50, 51, 52, 53, 54, 55, 56, 57, 97, 98, 99, 100, 101, 102]⟩ : ByteArray) (Go.bits .and .i64 (a0 / 16) 15), bt (⟨#[48, 49, 50, 51, 52, 53, 54, 55, 56, 57, 97, 98, 99, 100, 101, 102]⟩ : ByteArray) (Go.bits .and .i64 a0 15)] : List Int)))) else (none)) else (none)) else (none)) else (none)) else (none)) else (none)) else (none)) else (none)) = some r := h
  clear h
  obtain ⟨ji2, hji2⟩ : ∃ j_ : Int, (Go.bits .and .i64 (a0 / 4096) 15) = j_ := ⟨_, rfl⟩
  replace H : (if 0 ≤ (ji2) then (if (ji2) < 16 then (if 0 ≤ (Go.bits .and .i64 (a0 / 256) 15) then (if (Go.bits .and .i64 (a0 / 256) 15) < 16 then (if 0 ≤ (Go.bits .and .i64 (a0 / 16) 15) then (if (Go.bits .and .i64 (a0 / 16) 15) < 16 then (if 0 ≤ (Go.bits .and .i64 a0 15) then (if (Go.bits .and .i64 a0 15) < 16 then (some (strOfNums (([bt (⟨#[48, 49, 50, 51, 52, 53, 54, 55, 56, 57, 97, 98, 99, 100, 101, 102]⟩ : ByteArray) (ji2), bt (⟨#[48, 49, 50, 51, 52, 53, 54, 55, 56, 57, 97, 98, 99, 100, 101, 102]⟩ : ByteArray) (Go.bits .and .i64 (a0 / 256) 15), bt (⟨#[48, 49, 50, 51, 52, 53, 54, 55, 56, 57, 97, 98, 99, 100, 101, 102]⟩ : ByteArray) (Go.bits .and .i64 (a0 / 16) 15), bt (⟨#[48, 49, 50, 51, 52, 53, 54, 55, 56, 57, 97, 98, 99, 100, 101, 102]⟩ : ByteArray) (Go.bits .and .i64 a0 15)] : List Int)))) else (none)) else (none)) else (none)) else (none)) else (none)) else (none)) else (none)) else (none)) = some r := by first | (rw [hji2] at H; exact H) | (simp only [hji2] at H ⊢; exact H)
  by_cases c3 : 0 ≤ (ji2)
  · rw [if_pos c3] at H
    have c3b0 : decide (0 ≤ (ji2)) = true := decide_eq_true c3
    clear c3
    by_cases c4 : (ji2) < 16
    · rw [if_pos c4] at H
      have c4b0 : decide ((ji2) < 16) = true := decide_eq_true c4
      clear c4
      obtain ⟨ji6, hji6⟩ : ∃ j_ : Int, (Go.bits .and .i64 (a0 / 256) 15) = j_ := ⟨_, rfl⟩
      replace H : (if 0 ≤ (ji6) then (if (ji6) < 16 then (if 0 ≤ (Go.bits .and .i64 (a0 / 16) 15) then (if (Go.bits .and .i64 (a0 / 16) 15) < 16 then (if 0 ≤ (Go.bits .and .i64 a0 15) then (if (Go.bits .and .i64 a0 15) < 16 then (some (strOfNums (([bt (⟨#[48, 49, 50, 51, 52, 53, 54, 55, 56, 57, 97, 98, 99, 100, 101, 102]⟩ : ByteArray) (ji2), bt (⟨#[48, 49, 50, 51, 52, 53, 54, 55, 56, 57, 97, 98, 99, 100, 101, 102]⟩ : ByteArray) (ji6), bt (⟨#[48, 49, 50, 51, 52, 53, 54, 55, 56, 57, 97, 98, 99, 100, 101, 102]⟩ : ByteArray) (Go.bits .and .i64 (a0 / 16) 15), bt (⟨#[48, 49, 50, 51, 52, 53, 54, 55, 56, 57, 97, 98, 99, 100, 101, 102]⟩ : ByteArray) (Go.bits .and .i64 a0 15)] : List Int)))) else (none)) else (none)) else (none)) else (none)) else (none)) else (none)) = some r := by first | (rw [hji6] at H; exact H) | (simp only [hji6] at H ⊢; exact H)
      by_cases c7 : 0 ≤ (ji6)
      · rw [if_pos c7] at H
        have c7b0 : decide (0 ≤ (ji6)) = true := decide_eq_true c7
        clear c7
        by_cases c8 : (ji6) < 16
        · rw [if_pos c8] at H
          have c8b0 : decide ((ji6) < 16) = true := decide_eq_true c8
          clear c8
          obtain ⟨ji10, hji10⟩ : ∃ j_ : Int, (Go.bits .and .i64 (a0 / 16) 15) = j_ := ⟨_, rfl⟩
          replace H : (if 0 ≤ (ji10) then (if (ji10) < 16 then (if 0 ≤ (Go.bits .and .i64 a0 15) then (if (Go.bits .and .i64 a0 15) < 16 then (some (strOfNums (([bt (⟨#[48, 49, 50, 51, 52, 53, 54, 55, 56, 57, 97, 98, 99, 100, 101, 102]⟩ : ByteArray) (ji2), bt (⟨#[48, 49, 50, 51, 52, 53, 54, 55, 56, 57, 97, 98, 99, 100, 101, 102]⟩ : ByteArray) (ji6), bt (⟨#[48, 49, 50, 51, 52, 53, 54, 55, 56, 57, 97, 98, 99, 100, 101, 102]⟩ : ByteArray) (ji10), bt (⟨#[48, 49, 50, 51, 52, 53, 54, 55, 56, 57, 97, 98, 99, 100, 101, 102]⟩ : ByteArray) (Go.bits .and .i64 a0 15)] : List Int)))) else (none)) else (none)) else (none)) else (none)) = some r := by first | (rw [hji10] at H; exact H) | (simp only [hji10] at H ⊢; exact H)
          by_cases c11 : 0 ≤ (ji10)
          · rw [if_pos c11] at H
            have c11b0 : decide (0 ≤ (ji10)) = true := decide_eq_true c11
            clear c11
            by_cases c12 : (ji10) < 16
            · rw [if_pos c12] at H
              have c12b0 : decide ((ji10) < 16) = true := decide_eq_true c12
              clear c12
              by_cases c14 : 0 ≤ (Go.bits .and .i64 a0 15)
              · rw [if_pos c14] at H
                have c14b0 : decide (0 ≤ (Go.bits .and .i64 a0 15)) = true := decide_eq_true c14
                clear c14
                by_cases c15 : (Go.bits .and .i64 a0 15) < 16
                · rw [if_pos c15] at H
                  have c15b0 : decide ((Go.bits .and .i64 a0 15) < 16) = true := decide_eq_true c15
                  clear c15
                  obtain ⟨y528, hy528⟩ : ∃ y_ : List Int, y_ = (([bt (⟨#[48, 49, 50, 51, 52, 53, 54, 55, 56, 57, 97, 98, 99, 100, 101, 102]⟩ : ByteArray) (ji2), bt (⟨#[48, 49, 50, 51, 52, 53, 54, 55, 56, 57, 97, 98, 99, 100, 101, 102]⟩ : ByteArray) (ji6), bt (⟨#[48, 49, 50, 51, 52, 53, 54, 55, 56, 57, 97, 98, 99, 100, 101, 102]⟩ : ByteArray) (ji10), bt (⟨#[48, 49, 50, 51, 52, 53, 54, 55, 56, 57, 97, 98, 99, 100, 101, 102]⟩ : ByteArray) (Go.bits .and .i64 a0 15)] : List Int)) := ⟨_, rfl⟩
                  replace H : (some (strOfNums y528)) = some r := by first | (rw [hy528]; with_reducible exact H) | (have H2_ := (Option.bind_some _ _).symm.trans H; rw [hy528]; with_reducible exact H2_) | (have H2_ := (Option.bind_some _ _).symm.trans H; with_reducible exact H2_) | with_reducible exact H | (rw [hy528]; exact H) | exact H
                  have Ny528 := Aside0.mk hy528
                  clear hy528
                  obtain rfl := Option.some.inj H
                  go_enter Tryd.func48, Tryd.ntmps48
                  try go_wp2
                  have n0_ := Aside0.mk (below_drew1 HB.out)
                  clear HB
                  have HB := n0_
                  clear n0_
                  have p5 : 0 ≤ ((ji2) : Int) := of_decide_eq_true (by first | (with_reducible assumption) | assumption)
                  have q5 : (ji2) < (16 : Int) := of_decide_eq_true (by first | (with_reducible assumption) | assumption)
                  have hx5 := bt_at (⟨#[48, 49, 50, 51, 52, 53, 54, 55, 56, 57, 97, 98, 99, 100, 101, 102]⟩ : ByteArray) (ji2)
                  replace p5 := eq_true p5
                  replace q5 := eq_true q5
                  have p9 : 0 ≤ ((ji6) : Int) := of_decide_eq_true (by first | (with_reducible assumption) | assumption)
                  have q9 : (ji6) < (16 : Int) := of_decide_eq_true (by first | (with_reducible assumption) | assumption)
                  have hx9 := bt_at (⟨#[48, 49, 50, 51, 52, 53, 54, 55, 56, 57, 97, 98, 99, 100, 101, 102]⟩ : ByteArray) (ji6)
                  replace p9 := eq_true p9
                  replace q9 := eq_true q9
                  have p13 : 0 ≤ ((ji10) : Int) := of_decide_eq_true (by first | (with_reducible assumption) | assumption)
                  have q13 : (ji10) < (16 : Int) := of_decide_eq_true (by first | (with_reducible assumption) | assumption)
                  have hx13 := bt_at (⟨#[48, 49, 50, 51, 52, 53, 54, 55, 56, 57, 97, 98, 99, 100, 101, 102]⟩ : ByteArray) (ji10)
                  replace p13 := eq_true p13
                  replace q13 := eq_true q13
                  have p16 : 0 ≤ ((Go.bits .and .i64 a0 15) : Int) := of_decide_eq_true (by first | (with_reducible assumption) | assumption)
                  have q16 : (Go.bits .and .i64 a0 15) < (16 : Int) := of_decide_eq_true (by first | (with_reducible assumption) | assumption)
                  have hx16 := bt_at (⟨#[48, 49, 50, 51, 52, 53, 54, 55, 56, 57, 97, 98, 99, 100, 101, 102]⟩ : ByteArray) (Go.bits .and .i64 a0 15)
                  replace p16 := eq_true p16
                  replace q16 := eq_true q16
                  refine start_ (n := 22) (S := fun w' => True) (ds := []) #[false, false, false, false, false, false, false, false, false, false, false, false, false, false, false, false, false, false, false, false, false, false] (by kernel_rfl) rfl rfl trivial (fun hHeld => ?_); refine with_tabW dragomanref5_hex4.tab2 dragomanref5_hex4.bits2 (fun HT_ HW_ => ?_)
                  generalize w.drew = w17 at HB hHeld ⊢
                  refine pure_ (i := 0) (N := some 4) (v := ?_) (a' := ?_) #[true, false, false, false, false, false, false, false, false, false, false, false, false, false, false, false, false, false, false, false, false, false] rfl rfl (any_of HT_.out (by kernel_rfl)) (fun _ _ _ h => h) (Or.inl ⟨by rfl, ?_⟩) ?_ ?_
                  rotate_left
                  · intro w'
                    go_simp
                    with_reducible rfl
                  rotate_left
                  · simp only [Act.put, List.setIfInBounds_toArray, List.set_cons_zero, List.set_cons_succ, i64_w, i32_w]
                    rfl
                  refine pure_ (i := 1) (N := some 5) (v := ?_) (a' := ?_) #[true, true, false, false, false, false, false, false, false, false, false, false, false, false, false, false, false, false, false, false, false, false] rfl rfl (any_of HT_.out (by kernel_rfl)) (fun _ _ _ h => h) (Or.inl ⟨by rfl, ?_⟩) ?_ ?_
                  rotate_left
                  · intro w'
                    go_simp
                    with_reducible rfl
                  rotate_left
                  · simp only [Act.put, List.setIfInBounds_toArray, List.set_cons_zero, List.set_cons_succ, i64_w, i32_w]
                    rfl
                  refine pure_ (i := 2) (N := some 6) (v := ?_) (a' := ?_) #[true, true, true, false, false, false, false, false, false, false, false, false, false, false, false, false, false, false, false, false, false, false] rfl rfl (any_of HT_.out (by kernel_rfl)) (fun _ _ _ h => h) (Or.inl ⟨by rfl, ?_⟩) ?_ ?_
                  rotate_left
                  · intro w'
                    go_simp
                    with_reducible rfl
                  rotate_left
                  · simp only [Act.put, List.setIfInBounds_toArray, List.set_cons_zero, List.set_cons_succ, i64_w, i32_w]
                    rfl
                  refine pure_ (i := 3) (N := some 7) (v := ?_) (a' := ?_) #[true, true, true, true, false, false, false, false, false, false, false, false, false, false, false, false, false, false, false, false, false, false] rfl rfl (any_of HT_.out (by kernel_rfl)) (fun _ _ _ h => h) (Or.inl ⟨by rfl, ?_⟩) ?_ ?_
                  rotate_left
                  · intro w'
                    go_simp
                    with_reducible rfl
                  rotate_left
                  · simp only [Act.put, List.setIfInBounds_toArray, List.set_cons_zero, List.set_cons_succ, i64_w, i32_w]
                    rfl
                  refine pure_ (i := 5) (N := some 9) (v := ?_) (a' := ?_) #[true, true, true, true, false, true, false, false, false, false, false, false, false, false, false, false, false, false, false, false, false, false] rfl rfl (any_of HT_.out (by kernel_rfl)) (fun _ _ _ h => h) (Or.inl ⟨by rfl, ?_⟩) ?_ ?_
                  rotate_left
                  · intro w'
                    go_simp
                    with_reducible rfl
                  rotate_left
                  · simp only [Act.put, List.setIfInBounds_toArray, List.set_cons_zero, List.set_cons_succ, i64_w, i32_w]
                    rfl
                  refine pure_ (i := 6) (N := some 10) (v := ?_) (a' := ?_) #[true, true, true, true, false, true, true, false, false, false, false, false, false, false, false, false, false, false, false, false, false, false] rfl rfl (any_of HT_.out (by kernel_rfl)) (fun _ _ _ h => h) (Or.inl ⟨by rfl, ?_⟩) ?_ ?_
                  rotate_left
                  · intro w'
                    go_simp
                    with_reducible rfl
                  rotate_left
                  · simp only [Act.put, List.setIfInBounds_toArray, List.set_cons_zero, List.set_cons_succ, i64_w, i32_w]
                    rfl
                  refine pure_ (i := 7) (N := some 11) (v := ?_) (a' := ?_) #[true, true, true, true, false, true, true, true, false, false, false, false, false, false, false, false, false, false, false, false, false, false] rfl rfl (any_of HT_.out (by kernel_rfl)) (fun _ _ _ h => h) (Or.inl ⟨by rfl, ?_⟩) ?_ ?_
                  rotate_left
                  · intro w'
                    go_simp
                    with_reducible rfl
                  rotate_left
                  · simp only [Act.put, List.setIfInBounds_toArray, List.set_cons_zero, List.set_cons_succ, i64_w, i32_w]
                    rfl
                  refine pure_ (i := 8) (N := some 12) (v := ?_) (a' := ?_) #[true, true, true, true, false, true, true, true, true, false, false, false, false, false, false, false, false, false, false, false, false, false] rfl rfl (any_of HT_.out (by kernel_rfl)) (fun _ _ _ h => h) (Or.inl ⟨by rfl, ?_⟩) ?_ ?_
                  rotate_left
                  · intro w'
                    go_simp
                    with_reducible rfl
                  rotate_left
                  · simp only [Act.put, List.setIfInBounds_toArray, List.set_cons_zero, List.set_cons_succ, i64_w, i32_w]
                    rfl
                  refine pure_ (i := 10) (N := some 14) (v := ?_) (a' := ?_) #[true, true, true, true, false, true, true, true, true, false, true, false, false, false, false, false, false, false, false, false, false, false] rfl rfl (any_of HT_.out (by kernel_rfl)) (fun _ _ _ h => h) (Or.inl ⟨by rfl, ?_⟩) ?_ ?_
                  rotate_left
                  · intro w'
                    go_simp
                    with_reducible rfl
                  rotate_left
                  · simp only [Act.put, List.setIfInBounds_toArray, List.set_cons_zero, List.set_cons_succ, i64_w, i32_w]
                    rfl
                  refine pure_ (i := 11) (N := some 15) (v := ?_) (a' := ?_) #[true, true, true, true, false, true, true, true, true, false, true, true, false, false, false, false, false, false, false, false, false, false] rfl rfl (any_of HT_.out (by kernel_rfl)) (fun _ _ _ h => h) (Or.inl ⟨by rfl, ?_⟩) ?_ ?_
                  rotate_left
                  · intro w'
                    go_simp
                    with_reducible rfl
                  rotate_left
                  · simp only [Act.put, List.setIfInBounds_toArray, List.set_cons_zero, List.set_cons_succ, i64_w, i32_w]
                    rfl
                  refine pure_ (i := 12) (N := some 16) (v := ?_) (a' := ?_) #[true, true, true, true, false, true, true, true, true, false, true, true, true, false, false, false, false, false, false, false, false, false] rfl rfl (any_of HT_.out (by kernel_rfl)) (fun _ _ _ h => h) (Or.inl ⟨by rfl, ?_⟩) ?_ ?_
                  rotate_left
                  · intro w'
                    go_simp
                    with_reducible rfl
                  rotate_left
                  · simp only [Act.put, List.setIfInBounds_toArray, List.set_cons_zero, List.set_cons_succ, i64_w, i32_w]
                    rfl
                  refine pure_ (i := 13) (N := some 17) (v := ?_) (a' := ?_) #[true, true, true, true, false, true, true, true, true, false, true, true, true, true, false, false, false, false, false, false, false, false] rfl rfl (any_of HT_.out (by kernel_rfl)) (fun _ _ _ h => h) (Or.inl ⟨by rfl, ?_⟩) ?_ ?_
                  rotate_left
                  · intro w'
                    go_simp
                    with_reducible rfl
                  rotate_left
                  · simp only [Act.put, List.setIfInBounds_toArray, List.set_cons_zero, List.set_cons_succ, i64_w, i32_w]
                    rfl
                  refine pure_ (i := 15) (N := some 19) (v := ?_) (a' := ?_) #[true, true, true, true, false, true, true, true, true, false, true, true, true, true, false, true, false, false, false, false, false, false] rfl rfl (any_of HT_.out (by kernel_rfl)) (fun _ _ _ h => h) (Or.inl ⟨by rfl, ?_⟩) ?_ ?_
                  rotate_left
                  · intro w'
                    go_simp
                    with_reducible rfl
                  rotate_left
                  · simp only [Act.put, List.setIfInBounds_toArray, List.set_cons_zero, List.set_cons_succ, i64_w, i32_w]
                    rfl
                  refine pure_ (i := 16) (N := some 20) (v := ?_) (a' := ?_) #[true, true, true, true, false, true, true, true, true, false, true, true, true, true, false, true, true, false, false, false, false, false] rfl rfl (any_of HT_.out (by kernel_rfl)) (fun _ _ _ h => h) (Or.inl ⟨by rfl, ?_⟩) ?_ ?_
                  rotate_left
                  · intro w'
                    go_simp
                    with_reducible rfl
                  rotate_left
                  · simp only [Act.put, List.setIfInBounds_toArray, List.set_cons_zero, List.set_cons_succ, i64_w, i32_w]
                    rfl
                  refine pure_ (i := 17) (N := some 21) (v := ?_) (a' := ?_) #[true, true, true, true, false, true, true, true, true, false, true, true, true, true, false, true, true, true, false, false, false, false] rfl rfl (any_of HT_.out (by kernel_rfl)) (fun _ _ _ h => h) (Or.inl ⟨by rfl, ?_⟩) ?_ ?_
                  rotate_left
                  · intro w'
                    go_simp
                    with_reducible rfl
                  rotate_left
                  · simp only [Act.put, List.setIfInBounds_toArray, List.set_cons_zero, List.set_cons_succ, i64_w, i32_w]
                    rfl
                  refine take_ (i := 4) (N := some 8) (v := ?_) (a' := ?_) #[true, true, true, true, true, true, true, true, true, false, true, true, true, true, false, true, true, true, false, false, false, false] rfl rfl (take_ofW HT_.out HW_.out (by kernel_rfl)) (fun _ _ _ h => h) (Or.inl ⟨by rfl, ?_⟩) hHeld ?_ ?_
                  rotate_left
                  · intro w' _
                    go_simp
                    with_reducible rfl
                  rotate_left
                  · simp only [Act.put, List.setIfInBounds_toArray, List.set_cons_zero, List.set_cons_succ, i64_w, i32_w]
                    rfl
                  refine take_ (i := 9) (N := some 13) (v := ?_) (a' := ?_) #[true, true, true, true, true, true, true, true, true, true, true, true, true, true, false, true, true, true, false, false, false, false] rfl rfl (take_ofW HT_.out HW_.out (by kernel_rfl)) (fun _ _ _ h => h) (Or.inl ⟨by rfl, ?_⟩) hHeld ?_ ?_
                  rotate_left
                  · intro w' _
                    go_simp
                    with_reducible rfl
                  rotate_left
                  · simp only [Act.put, List.setIfInBounds_toArray, List.set_cons_zero, List.set_cons_succ, i64_w, i32_w]
                    rfl
                  refine take_ (i := 14) (N := some 18) (v := ?_) (a' := ?_) #[true, true, true, true, true, true, true, true, true, true, true, true, true, true, true, true, true, true, false, false, false, false] rfl rfl (take_ofW HT_.out HW_.out (by kernel_rfl)) (fun _ _ _ h => h) (Or.inl ⟨by rfl, ?_⟩) hHeld ?_ ?_
                  rotate_left
                  · intro w' _
                    go_simp
                    with_reducible rfl
                  rotate_left
                  · simp only [Act.put, List.setIfInBounds_toArray, List.set_cons_zero, List.set_cons_succ, i64_w, i32_w]
                    rfl
                  refine take_ (i := 18) (N := some 22) (v := ?_) (a' := ?_) #[true, true, true, true, true, true, true, true, true, true, true, true, true, true, true, true, true, true, true, false, false, false] rfl rfl (take_ofW HT_.out HW_.out (by kernel_rfl)) (fun _ _ _ h => h) (Or.inl ⟨by rfl, ?_⟩) hHeld ?_ ?_
                  rotate_left
                  · intro w' _
                    go_simp
                    with_reducible rfl
                  rotate_left
                  · simp only [Act.put, List.setIfInBounds_toArray, List.set_cons_zero, List.set_cons_succ, i64_w, i32_w]
                    rfl
                  refine one_ (i := 19) (N := some 23) #[true, true, true, true, true, true, true, true, true, true, true, true, true, true, true, true, true, true, true, true, false, false] rfl rfl (one_of HT_.out (by kernel_rfl)) (by decide) (fun K hK => ?_)
                  refine Kd.R_lit_step (Kd.int .u8) _ 5 ?hg (N := 23) ?hd (xs := ([bt (⟨#[48, 49, 50, 51, 52, 53, 54, 55, 56, 57, 97, 98, 99, 100, 101, 102]⟩ : ByteArray) (ji2), bt (⟨#[48, 49, 50, 51, 52, 53, 54, 55, 56, 57, 97, 98, 99, 100, 101, 102]⟩ : ByteArray) (ji6), bt (⟨#[48, 49, 50, 51, 52, 53, 54, 55, 56, 57, 97, 98, 99, 100, 101, 102]⟩ : ByteArray) (ji10), bt (⟨#[48, 49, 50, 51, 52, 53, 54, 55, 56, 57, 97, 98, 99, 100, 101, 102]⟩ : ByteArray) (Go.bits .and .i64 a0 15)] : List Int)) (inner := [.int .u8 (bt (⟨#[48, 49, 50, 51, 52, 53, 54, 55, 56, 57, 97, 98, 99, 100, 101, 102]⟩ : ByteArray) (ji2)), .int .u8 (bt (⟨#[48, 49, 50, 51, 52, 53, 54, 55, 56, 57, 97, 98, 99, 100, 101, 102]⟩ : ByteArray) (ji6)), .int .u8 (bt (⟨#[48, 49, 50, 51, 52, 53, 54, 55, 56, 57, 97, 98, 99, 100, 101, 102]⟩ : ByteArray) (ji10)), .int .u8 (bt (⟨#[48, 49, 50, 51, 52, 53, 54, 55, 56, 57, 97, 98, 99, 100, 101, 102]⟩ : ByteArray) (Go.bits .and .i64 a0 15))]) (ok := fun _ => True) (okp := fun _ => True) ?hr ?hp (fun _ hk => hk) trivial (Below.refl _ _) (Nat.le_refl _) (by simp) ?_; (case hd => rfl); (case hg => rfl); (case hr => first | (go_simp; done) | (go_simp; rfl)); (case hp => exact (Reps.one (show Kd.M (Kd.int .u8) _ _ _ (bt (⟨#[48, 49, 50, 51, 52, 53, 54, 55, 56, 57, 97, 98, 99, 100, 101, 102]⟩ : ByteArray) (ji2)) [.int .u8 (bt (⟨#[48, 49, 50, 51, 52, 53, 54, 55, 56, 57, 97, 98, 99, 100, 101, 102]⟩ : ByteArray) (ji2))] from rfl) (Reps.one (show Kd.M (Kd.int .u8) _ _ _ (bt (⟨#[48, 49, 50, 51, 52, 53, 54, 55, 56, 57, 97, 98, 99, 100, 101, 102]⟩ : ByteArray) (ji6)) [.int .u8 (bt (⟨#[48, 49, 50, 51, 52, 53, 54, 55, 56, 57, 97, 98, 99, 100, 101, 102]⟩ : ByteArray) (ji6))] from rfl) (Reps.one (show Kd.M (Kd.int .u8) _ _ _ (bt (⟨#[48, 49, 50, 51, 52, 53, 54, 55, 56, 57, 97, 98, 99, 100, 101, 102]⟩ : ByteArray) (ji10)) [.int .u8 (bt (⟨#[48, 49, 50, 51, 52, 53, 54, 55, 56, 57, 97, 98, 99, 100, 101, 102]⟩ : ByteArray) (ji10))] from rfl) (Reps.one (show Kd.M (Kd.int .u8) _ _ _ (bt (⟨#[48, 49, 50, 51, 52, 53, 54, 55, 56, 57, 97, 98, 99, 100, 101, 102]⟩ : ByteArray) (Go.bits .and .i64 a0 15)) [.int .u8 (bt (⟨#[48, 49, 50, 51, 52, 53, 54, 55, 56, 57, 97, 98, 99, 100, 101, 102]⟩ : ByteArray) (Go.bits .and .i64 a0 15))] from rfl) (Reps.none _ _))))))
                  intro v529 w18 ho19 hb hg_ hnew_
                  clear hg_ hnew_
                  (first | rw [← Ny528.out] at ho19 | (simp only [Int.reduceToNat] at ho19; rw [← Ny528.out] at ho19))
                  have n0_ := Aside0.mk (Kd.R_lower ho19 (below_size (by repeat (first | (with_reducible first | exact HB.out | apply below_alloc | apply pw_below_drewN | apply below_drew1) | exact HB.out))))
                  have n1_ := Aside0.mk (below_step (by repeat (first | (with_reducible first | exact HB.out | apply below_alloc | apply pw_below_drewN | apply below_drew1) | exact HB.out)) hb)
                  clear HB
                  have HO530 := n0_
                  have HB := n1_
                  clear n0_ n1_
                  clear hb ho19
                  refine hK.out _ _ trivial (fun hHeld => ?_)
                  clear hK K
                  refine norm_ (a' := ?_) ?_ ?_
                  rotate_left
                  · show Act.put _ (some 23) _ = _
                    simp only [Act.put, List.setIfInBounds_toArray, List.set_cons_zero, List.set_cons_succ, i64_w, i32_w]
                    rfl
                  refine one_ (i := 20) (N := some 24) #[true, true, true, true, true, true, true, true, true, true, true, true, true, true, true, true, true, true, true, true, true, false] rfl rfl (one_of HT_.out (by kernel_rfl)) (by decide) (fun K hK => ?_)
                  have hcv20 := own_string (P := Tryd.prog) Tryd.underlying46 Tryd.underlying5 Tryd.underlying9 (Kd.own_of_R HO530.out)
                  refine value_ (w1 := ?_) (v := ?_) (by rfl) rfl ?_ ?_
                  rotate_left 2
                  · go_simp
                    constructor
                    · rfl
                    · rfl
                  clear hcv20
                  refine hK.out _ _ trivial (fun hHeld => ?_)
                  clear hK K
                  refine norm_ (a' := ?_) ?_ ?_
                  rotate_left
                  · show Act.put _ (some 24) _ = _
                    simp only [Act.put, List.setIfInBounds_toArray, List.set_cons_zero, List.set_cons_succ, i64_w, i32_w]
                    rfl
                  refine pure_ (i := 21) (N := some 2) (v := ?_) (a' := ?_) #[true, true, true, true, true, true, true, true, true, true, true, true, true, true, true, true, true, true, true, true, true, true] rfl rfl (any_of HT_.out (by kernel_rfl)) (fun _ _ _ h => h) (Or.inl ⟨by rfl, ?_⟩) ?_ ?_
                  rotate_left
                  · intro w'
                    go_simp
                    with_reducible rfl
                  rotate_left
                  · simp only [Act.put, List.setIfInBounds_toArray, List.set_cons_zero, List.set_cons_succ, i64_w, i32_w]
                    rfl
                  refine done_ (done_of HT_.out (by kernel_rfl)) ?_
                  try go_wp2
                  go_ret
                  exact ⟨by first | rfl | (simp only [bne, Bool.not_not]; done) | (rw [pxdragomanref5hex4_empty]; done) | (simp; exact pxdragomanref5hex4_empty _) | (simp [errW_none, errW_some] <;> rfl) | (simp [*, errW_none, errW_some, bne]; done) | (simp only [← hji2, ← hji6, ← hji10]; first | rfl | (simp [errW_none, errW_some] <;> rfl)) | (simp [*, errW_none, errW_some] <;> rfl), by repeat (first | (with_reducible first | exact HB.out | apply below_alloc | apply pw_below_drewN | apply below_drew1) | exact HB.out)⟩
                · rw [if_neg c15] at H
                  exact absurd H (by simp)
              · rw [if_neg c14] at H
                exact absurd H (by simp)
            · rw [if_neg c12] at H
              exact absurd H (by simp)
          · rw [if_neg c11] at H
            exact absurd H (by simp)
        · rw [if_neg c8] at H
          exact absurd H (by simp)
      · rw [if_neg c7] at H
        exact absurd H (by simp)
    · rw [if_neg c4] at H
      exact absurd H (by simp)
  · rw [if_neg c3] at H
    exact absurd H (by simp)
end Go.Proofs.YtoanbmggffkmgaaDoor.P
end
section
namespace Go.Proofs.YtoanbmggffkmgaaDoor.P
open Go.RowKit Go.Proofs.YtoanbmggffkmgaaDoorW.PrintWords Go.Proofs.YtoanbmggffkmgaaDoorW.PrintLast Go.Proofs.YtoanbmggffkmgaaDoorW.PrintMore
attribute [local go_sem] max2_int min2_int max_two min_two max_three min_three max_four min_four   -- for this text's walks alone
attribute [-simp] ByteArray.size_extract
theorem pxdragomanref5quote_empty (l : List UInt8) : l.isEmpty = !(l != []) := by cases l <;> rfl
set_option linter.unusedVariables false
set_option linter.unusedSimpArgs false
/-! ### dragomanref5_Quote: function 21 -/
mutual
def dragomanref5_Quote.l0 : Nat → ByteArray → Bool → ByteArray → List Int → Int → Option (ByteArray)
  | 0, _, _, _, _, _ => none
  | k + 1, x0, x1, x5, x6, x7 => if (wrap64 (x7 + 1)) < (x6.length : Int) then (if 0 ≤ x7 then (if x7 < (x6.length : Int) then (if 0 ≤ (wrap64 (x7 + 1)) then (if 0 ≤ (rd x6 x7) then (if (rd x6 x7) ≤ (rd x6 (wrap64 (x7 + 1))) then (if (rd x6 (wrap64 (x7 + 1))) ≤ (x0.size : Int) then ((dragomanref1_Take.f k (x0.extract ((rd x6 x7) : Int).toNat ((rd x6 (wrap64 (x7 + 1))) : Int).toNat)).bind fun bt536 => (if 0 < ((x0.extract ((rd x6 x7) : Int).toNat ((rd x6 (wrap64 (x7 + 1))) : Int).toNat).size : Int) then (if bt536.2 = 0 then (if x5.size + 3 ≤ 9223372036854775807 then (dragomanref5_Quote.l0 k x0 x1 (x5 ++ (⟨#[239, 191, 189]⟩ : ByteArray)) x6 (wrap64 (x7 + 1))) else (none)) else (if (bt (x0.extract ((rd x6 x7) : Int).toNat ((rd x6 (wrap64 (x7 + 1))) : Int).toNat) 0) = 34 then (dragomanref5_Quote.j1 k x0 x1 x5 x6 x7 (x0.extract ((rd x6 x7) : Int).toNat ((rd x6 (wrap64 (x7 + 1))) : Int).toNat) (bt (x0.extract ((rd x6 x7) : Int).toNat ((rd x6 (wrap64 (x7 + 1))) : Int).toNat) 0) true) else (dragomanref5_Quote.j1 k x0 x1 x5 x6 x7 (x0.extract ((rd x6 x7) : Int).toNat ((rd x6 (wrap64 (x7 + 1))) : Int).toNat) (bt (x0.extract ((rd x6 x7) : Int).toNat ((rd x6 (wrap64 (x7 + 1))) : Int).toNat) 0) ((bt (x0.extract ((rd x6 x7) : Int).toNat ((rd x6 (wrap64 (x7 + 1))) : Int).toNat) 0) == 92)))) else (none))) else (none)) else (none)) else (none)) else (none)) else (none)) else (none)) else (if x5.size + 1 ≤ 9223372036854775807 then (some (x5 ++ (⟨#[34]⟩ : ByteArray))) else (none))
def dragomanref5_Quote.j1 : Nat → ByteArray → Bool → ByteArray → List Int → Int → ByteArray → Int → Bool → Option (ByteArray)
  | 0, _, _, _, _, _, _, _, _ => none
  | k + 1, x0, x1, x5, x6, x7, x8, x11, x47 => if x47 = true then (if x5.size + 1 ≤ 9223372036854775807 then (if (x5 ++ (⟨#[92]⟩ : ByteArray)).size + x8.size ≤ 9223372036854775807 then (dragomanref5_Quote.l0 k x0 x1 ((x5 ++ (⟨#[92]⟩ : ByteArray)) ++ x8) x6 (wrap64 (x7 + 1))) else (none)) else (none)) else (if x11 = 8 then (if x5.size + 2 ≤ 9223372036854775807 then (dragomanref5_Quote.l0 k x0 x1 (x5 ++ (⟨#[92, 98]⟩ : ByteArray)) x6 (wrap64 (x7 + 1))) else (none)) else (if x11 = 9 then (if x5.size + 2 ≤ 9223372036854775807 then (dragomanref5_Quote.l0 k x0 x1 (x5 ++ (⟨#[92, 116]⟩ : ByteArray)) x6 (wrap64 (x7 + 1))) else (none)) else (if x11 = 10 then (if x5.size + 2 ≤ 9223372036854775807 then (dragomanref5_Quote.l0 k x0 x1 (x5 ++ (⟨#[92, 110]⟩ : ByteArray)) x6 (wrap64 (x7 + 1))) else (none)) else (if x11 = 12 then (if x5.size + 2 ≤ 9223372036854775807 then (dragomanref5_Quote.l0 k x0 x1 (x5 ++ (⟨#[92, 102]⟩ : ByteArray)) x6 (wrap64 (x7 + 1))) else (none)) else (if x11 = 13 then (if x5.size + 2 ≤ 9223372036854775807 then (dragomanref5_Quote.l0 k x0 x1 (x5 ++ (⟨#[92, 114]⟩ : ByteArray)) x6 (wrap64 (x7 + 1))) else (none)) else (if x11 < 32 then (if x5.size + 2 ≤ 9223372036854775807 then ((dragomanref5_hex4.f (wrap64 (x11))).bind fun t538 => (if (x5 ++ (⟨#[92, 117]⟩ : ByteArray)).size + t538.size ≤ 9223372036854775807 then (dragomanref5_Quote.l0 k x0 x1 ((x5 ++ (⟨#[92, 117]⟩ : ByteArray)) ++ t538) x6 (wrap64 (x7 + 1))) else (none))) else (none)) else (if x1 = true then (if x11 = 127 then (if x5.size + 2 ≤ 9223372036854775807 then ((dragomanref5_hex4.f (wrap64 (x11))).bind fun t539 => (if (x5 ++ (⟨#[92, 117]⟩ : ByteArray)).size + t539.size ≤ 9223372036854775807 then (dragomanref5_Quote.l0 k x0 x1 ((x5 ++ (⟨#[92, 117]⟩ : ByteArray)) ++ t539) x6 (wrap64 (x7 + 1))) else (none))) else (none)) else (if x5.size + x8.size ≤ 9223372036854775807 then (dragomanref5_Quote.l0 k x0 x1 (x5 ++ x8) x6 (wrap64 (x7 + 1))) else (none))) else (if x5.size + x8.size ≤ 9223372036854775807 then (dragomanref5_Quote.l0 k x0 x1 (x5 ++ x8) x6 (wrap64 (x7 + 1))) else (none)))))))))
end
def dragomanref5_Quote.f (k : Nat) (a0 : ByteArray) (a1 : Bool) : Option (ByteArray) := (dragomanref1_Starts.f k a0).bind fun t531 => (dragomanref5_Quote.l0 k a0 a1 (⟨#[34]⟩ : ByteArray) t531 0)
set_option maxHeartbeats 8000000 in
set_option maxRecDepth 100000 in
theorem dragomanref5_Quote.calls (k : Nat) (a0 : ByteArray) (a1 : Bool) (r : ByteArray) (w : World) (h : dragomanref5_Quote.f k a0 a1 = some r) :
    Calls Tryd.prog 21 #[.string a0, .bool a1] w fun e w' => e = .returned (.string r) ∧ Below w.heap.size w w' := by
  have HB := Aside0.mk (Below.refl w.heap.size w)
  have H : ((dragomanref1_Starts.f k a0).bind fun t531 => (dragomanref5_Quote.l0 k a0 a1 (⟨#[34]⟩ : ByteArray) t531 0)) = some r := h
  clear h
  replace H := Option.bind_eq_some_iff.mp H
  obtain ⟨t531, A30, H⟩ := H
  replace H : (dragomanref5_Quote.l0 k a0 a1 (⟨#[34]⟩ : ByteArray) t531 0) = some r := H
  have A3 := Aside0.mk A30
  clear A30
  have H' := Aside0.mk H
  clear H
  go_enter Tryd.func21, Tryd.ntmps21
  go_wp2_with (first | (go_at_call 46; (with_reducible refine (dragomanref1_Starts.calls k a0 t531 _ A3.out).mono ?_); rintro e w4 ⟨v532, rfl, ho0, hb⟩; have n0_ := Aside0.mk (Kd.R_lower ho0 (below_size (by repeat (first | (with_reducible first | exact HB.out | apply below_alloc | apply pw_below_drewN | apply below_drew1) | exact HB.out)))); have n1_ := Aside0.mk (below_step (by repeat (first | (with_reducible first | exact HB.out | apply below_alloc | apply pw_below_drewN | apply below_drew1) | exact HB.out)) hb); clear HB; have HO533 := n0_; have HB := n1_; clear n0_ n1_; (try clear hb); (try clear hb2); (try clear hk); (try clear hi); (try clear ho0)))
  repeat (go_quiet (first | (go_at_call 46; (with_reducible refine (dragomanref1_Starts.calls k a0 t531 _ A3.out).mono ?_); rintro e w4 ⟨v532, rfl, ho0, hb⟩; have n0_ := Aside0.mk (Kd.R_lower ho0 (below_size (by repeat (first | (with_reducible first | exact HB.out | apply below_alloc | apply pw_below_drewN | apply below_drew1) | exact HB.out)))); have n1_ := Aside0.mk (below_step (by repeat (first | (with_reducible first | exact HB.out | apply below_alloc | apply pw_below_drewN | apply below_drew1) | exact HB.out)) hb); clear HB; have HO533 := n0_; have HB := n1_; clear n0_ n1_; (try clear hb); (try clear hb2); (try clear hk); (try clear hi); (try clear ho0))); try go_wp2_with (first | (go_at_call 46; (with_reducible refine (dragomanref1_Starts.calls k a0 t531 _ A3.out).mono ?_); rintro e w4 ⟨v532, rfl, ho0, hb⟩; have n0_ := Aside0.mk (Kd.R_lower ho0 (below_size (by repeat (first | (with_reducible first | exact HB.out | apply below_alloc | apply pw_below_drewN | apply below_drew1) | exact HB.out)))); have n1_ := Aside0.mk (below_step (by repeat (first | (with_reducible first | exact HB.out | apply below_alloc | apply pw_below_drewN | apply below_drew1) | exact HB.out)) hb); clear HB; have HO533 := n0_; have HB := n1_; clear n0_ n1_; (try clear hb); (try clear hb2); (try clear hk); (try clear hi); (try clear ho0))))
  go_loopg [5, 7] k (fun kq v5 v7 w' => ∃ (x5_1 : ByteArray) (x7_1 : Int), v5 = .string x5_1 ∧ v7 = .int .i64 x7_1 ∧ Aside0 (dragomanref5_Quote.l0 kq a0 a1 x5_1 t531 x7_1 = some r) ∧ Aside0 (kq ≤ k) ∧ Aside0 (Kd.R (Kd.int .i64) 3 w' w.heap.size (fun _ => True) v532 t531) ∧ Aside0 (Below w.heap.size w w'))
  case atStart => exact ⟨((⟨#[34]⟩ : ByteArray)), (0), (by first | rfl | (simp; done) | (simp [*]; done)), (by first | rfl | (simp; done) | (simp [*]; done)), H', ⟨Nat.le_refl _⟩, ⟨by (with_reducible repeat (first | apply Kd.R_alloc | apply Kd.R_drewN | apply Kd.R_drew)); exact HO533.out⟩, ⟨by repeat (first | (with_reducible first | exact HB.out | apply below_alloc | apply pw_below_drewN | apply below_drew1) | exact HB.out)⟩⟩
  case round =>
    clear H'
    try clear c2
    try clear p2
    obtain ⟨x5_1, x7_1, rfl, rfl, HA, HK1, HO_6, HB⟩ := hrel
    cases gk with
    | zero => exact absurd HA.out (by simp [dragomanref5_Quote.l0])
    | succ k1 =>
      have H := HA.out
      clear HA
      simp only [dragomanref5_Quote.l0] at H
      by_cases c5 : (wrap64 (x7_1 + 1)) < (t531.length : Int)
      · rw [if_pos c5] at H
        have c5b0 : decide ((wrap64 (x7_1 + 1)) < (t531.length : Int)) = true := decide_eq_true c5
        clear c5
        by_cases c6 : 0 ≤ x7_1
        · rw [if_pos c6] at H
          have c6b0 : decide (0 ≤ x7_1) = true := decide_eq_true c6
          clear c6
          by_cases c7 : x7_1 < (t531.length : Int)
          · rw [if_pos c7] at H
            have c7b0 : decide (x7_1 < (t531.length : Int)) = true := decide_eq_true c7
            clear c7
            obtain ⟨ji8, hji8⟩ : ∃ j_ : Int, (wrap64 (x7_1 + 1)) = j_ := ⟨_, rfl⟩
            replace H : (if 0 ≤ (ji8) then (if 0 ≤ (rd t531 x7_1) then (if (rd t531 x7_1) ≤ (rd t531 (ji8)) then (if (rd t531 (ji8)) ≤ (a0.size : Int) then ((dragomanref1_Take.f k1 (a0.extract ((rd t531 x7_1) : Int).toNat ((rd t531 (ji8)) : Int).toNat)).bind fun bt536 => (if 0 < ((a0.extract ((rd t531 x7_1) : Int).toNat ((rd t531 (ji8)) : Int).toNat).size : Int) then (if bt536.2 = 0 then (if x5_1.size + 3 ≤ 9223372036854775807 then (dragomanref5_Quote.l0 k1 a0 a1 (x5_1 ++ (⟨#[239, 191, 189]⟩ : ByteArray)) t531 ji8) else (none)) else (if (bt (a0.extract ((rd t531 x7_1) : Int).toNat ((rd t531 (ji8)) : Int).toNat) 0) = 34 then (dragomanref5_Quote.j1 k1 a0 a1 x5_1 t531 x7_1 (a0.extract ((rd t531 x7_1) : Int).toNat ((rd t531 (ji8)) : Int).toNat) (bt (a0.extract ((rd t531 x7_1) : Int).toNat ((rd t531 (ji8)) : Int).toNat) 0) true) else (dragomanref5_Quote.j1 k1 a0 a1 x5_1 t531 x7_1 (a0.extract ((rd t531 x7_1) : Int).toNat ((rd t531 (ji8)) : Int).toNat) (bt (a0.extract ((rd t531 x7_1) : Int).toNat ((rd t531 (ji8)) : Int).toNat) 0) ((bt (a0.extract ((rd t531 x7_1) : Int).toNat ((rd t531 (ji8)) : Int).toNat) 0) == 92)))) else (none))) else (none)) else (none)) else (none)) else (none)) = some r := by first | (rw [hji8] at H; exact H) | (simp only [hji8] at H ⊢; exact H)
            (try rw [hji8] at c5b0)
            have hji8w : (IntKind.i64.wrap (x7_1 + 1)) = ji8 := (i64_w _).trans hji8
            by_cases c9 : 0 ≤ (ji8)
            · rw [if_pos c9] at H
              have c9b0 : decide (0 ≤ (ji8)) = true := decide_eq_true c9
              clear c9
              by_cases c10 : 0 ≤ (rd t531 x7_1)
              · rw [if_pos c10] at H
                have c10b0 := eq_true c10
                have c10b1 : decide (0 ≤ (rd t531 x7_1)) = true := decide_eq_true c10
                clear c10
                by_cases c11 : (rd t531 x7_1) ≤ (rd t531 (ji8))
                · rw [if_pos c11] at H
                  have c11b0 := eq_true c11
                  have c11b1 : decide ((rd t531 x7_1) ≤ (rd t531 (ji8))) = true := decide_eq_true c11
                  clear c11
                  by_cases c12 : (rd t531 (ji8)) ≤ (a0.size : Int)
                  · rw [if_pos c12] at H
                    have c12b0 := eq_true c12
                    have c12b1 : decide ((rd t531 (ji8)) ≤ (a0.size : Int)) = true := decide_eq_true c12
                    clear c12
                    replace H := Option.bind_eq_some_iff.mp H
                    obtain ⟨⟨t536, t537⟩, A130, H⟩ := H
                    replace H : (if 0 < ((a0.extract ((rd t531 x7_1) : Int).toNat ((rd t531 (ji8)) : Int).toNat).size : Int) then (if t537 = 0 then (if x5_1.size + 3 ≤ 9223372036854775807 then (dragomanref5_Quote.l0 k1 a0 a1 (x5_1 ++ (⟨#[239, 191, 189]⟩ : ByteArray)) t531 ji8) else (none)) else (if (bt (a0.extract ((rd t531 x7_1) : Int).toNat ((rd t531 (ji8)) : Int).toNat) 0) = 34 then (dragomanref5_Quote.j1 k1 a0 a1 x5_1 t531 x7_1 (a0.extract ((rd t531 x7_1) : Int).toNat ((rd t531 (ji8)) : Int).toNat) (bt (a0.extract ((rd t531 x7_1) : Int).toNat ((rd t531 (ji8)) : Int).toNat) 0) true) else (dragomanref5_Quote.j1 k1 a0 a1 x5_1 t531 x7_1 (a0.extract ((rd t531 x7_1) : Int).toNat ((rd t531 (ji8)) : Int).toNat) (bt (a0.extract ((rd t531 x7_1) : Int).toNat ((rd t531 (ji8)) : Int).toNat) 0) ((bt (a0.extract ((rd t531 x7_1) : Int).toNat ((rd t531 (ji8)) : Int).toNat) 0) == 92)))) else (none)) = some r := H
                    have A13 := Aside0.mk A130
                    clear A130
                    by_cases c14 : 0 < ((a0.extract ((rd t531 x7_1) : Int).toNat ((rd t531 (ji8)) : Int).toNat).size : Int)
                    · rw [if_pos c14] at H
                      have c14b0 : decide (0 < ((a0.extract ((rd t531 x7_1) : Int).toNat ((rd t531 (ji8)) : Int).toNat).size : Int)) = true := decide_eq_true c14
                      have c14b1 : decide (0 < (a0.extract ((rd t531 x7_1) : Int).toNat ((rd t531 (ji8)) : Int).toNat).size) = true := decide_eq_true (by omega)
                      clear c14
                      by_cases c16 : t537 = 0
                      · rw [if_pos c16] at H
                        have c16b0 : (t537 == 0) = true := beq_iff_eq.mpr c16
                        have c16b1 : (t537 != 0) = false := bne_eq_false_iff_eq.mpr c16
                        clear c16
                        by_cases c17 : x5_1.size + 3 ≤ 9223372036854775807
                        · rw [if_pos c17] at H
                          have c17b0 := eq_true c17
                          have c17b1 : decide (x5_1.size + 3 ≤ 9223372036854775807) = true := decide_eq_true c17
                          try have c17b2 : (9223372036854775807 < x5_1.size + 3) = False := eq_false (Nat.not_lt.2 c17)
                          have H' := Aside0.mk H
                          clear H
                          obtain ⟨Ao18, co18, eo18⟩ := Kd.R_slice HO_6.out
                          subst eo18
                          have p534 : 0 ≤ (x7_1 : Int) := of_decide_eq_true (by first | (with_reducible assumption) | assumption)
                          have q534 : x7_1 < (t531.length : Int) := of_decide_eq_true (by first | (with_reducible assumption) | assumption)
                          obtain ⟨ad534, e534, hx534_0⟩ := Kd.at_int (Kd.R_reads' HO_6.out).2.2 x7_1 p534 q534
                          cases e534
                          replace p534 := eq_true p534
                          replace q534 := eq_true q534
                          have p535 : 0 ≤ ((ji8) : Int) := of_decide_eq_true (by first | (with_reducible assumption) | assumption)
                          have q535 : (ji8) < (t531.length : Int) := of_decide_eq_true (by first | (with_reducible assumption) | assumption)
                          obtain ⟨ad535, e535, hx535_0⟩ := Kd.at_int (Kd.R_reads' HO_6.out).2.2 (ji8) p535 q535
                          obtain rfl : ad534 = ad535 := (by injection e535)
                          replace p535 := eq_true p535
                          replace q535 := eq_true q535
                          go_wp2_with (first | (go_at_call 47; (with_reducible refine (dragomanref1_Take.calls k1 (a0.extract ((rd t531 x7_1) : Int).toNat ((rd t531 (ji8)) : Int).toNat) t536 t537 _ A13.out).mono ?_); rintro e w19 ⟨rfl, hb⟩; have n0_ := Aside0.mk (Kd.R_below (by (with_reducible repeat (first | apply Kd.R_alloc | apply Kd.R_drewN | apply Kd.R_drew)); exact HO_6.out) hb); have n1_ := Aside0.mk (below_step (by repeat (first | (with_reducible first | exact HB.out | apply below_alloc | apply pw_below_drewN | apply below_drew1) | exact HB.out)) hb); clear HO_6; clear HB; have HO_6 := n0_; have HB := n1_; clear n0_ n1_; (try clear hb); (try clear hb2); (try clear hk); (try clear hi); have p15 : 0 ≤ (0 : Int) := (by omega); have q15 : 0 < (a0.extract ((rd t531 x7_1) : Int).toNat ((rd t531 (ji8)) : Int).toNat).size := (by have : (0 : Int) < ((a0.extract ((rd t531 x7_1) : Int).toNat ((rd t531 (ji8)) : Int).toNat).size : Int) := of_decide_eq_true (by first | (with_reducible assumption) | assumption); omega); have hx15 : ∀ h : 0 < (a0.extract ((rd t531 x7_1) : Int).toNat ((rd t531 (ji8)) : Int).toNat).size, (((a0.extract ((rd t531 x7_1) : Int).toNat ((rd t531 (ji8)) : Int).toNat)[0]'h).toNat : Int) = bt (a0.extract ((rd t531 x7_1) : Int).toNat ((rd t531 (ji8)) : Int).toNat) 0 := bt_at (a0.extract ((rd t531 x7_1) : Int).toNat ((rd t531 (ji8)) : Int).toNat) 0; clear p15; have qi15 : (0 < ((a0.extract ((rd t531 x7_1) : Int).toNat ((rd t531 (ji8)) : Int).toNat).size : Int)) = True := eq_true (of_decide_eq_true (by first | (with_reducible assumption) | assumption)); replace q15 := eq_true q15))
                          repeat (go_quiet (first | (go_at_call 47; (with_reducible refine (dragomanref1_Take.calls k1 (a0.extract ((rd t531 x7_1) : Int).toNat ((rd t531 (ji8)) : Int).toNat) t536 t537 _ A13.out).mono ?_); rintro e w19 ⟨rfl, hb⟩; have n0_ := Aside0.mk (Kd.R_below (by (with_reducible repeat (first | apply Kd.R_alloc | apply Kd.R_drewN | apply Kd.R_drew)); exact HO_6.out) hb); have n1_ := Aside0.mk (below_step (by repeat (first | (with_reducible first | exact HB.out | apply below_alloc | apply pw_below_drewN | apply below_drew1) | exact HB.out)) hb); clear HO_6; clear HB; have HO_6 := n0_; have HB := n1_; clear n0_ n1_; (try clear hb); (try clear hb2); (try clear hk); (try clear hi); have p15 : 0 ≤ (0 : Int) := (by omega); have q15 : 0 < (a0.extract ((rd t531 x7_1) : Int).toNat ((rd t531 (ji8)) : Int).toNat).size := (by have : (0 : Int) < ((a0.extract ((rd t531 x7_1) : Int).toNat ((rd t531 (ji8)) : Int).toNat).size : Int) := of_decide_eq_true (by first | (with_reducible assumption) | assumption); omega); have hx15 : ∀ h : 0 < (a0.extract ((rd t531 x7_1) : Int).toNat ((rd t531 (ji8)) : Int).toNat).size, (((a0.extract ((rd t531 x7_1) : Int).toNat ((rd t531 (ji8)) : Int).toNat)[0]'h).toNat : Int) = bt (a0.extract ((rd t531 x7_1) : Int).toNat ((rd t531 (ji8)) : Int).toNat) 0 := bt_at (a0.extract ((rd t531 x7_1) : Int).toNat ((rd t531 (ji8)) : Int).toNat) 0; clear p15; have qi15 : (0 < ((a0.extract ((rd t531 x7_1) : Int).toNat ((rd t531 (ji8)) : Int).toNat).size : Int)) = True := eq_true (of_decide_eq_true (by first | (with_reducible assumption) | assumption)); replace q15 := eq_true q15)); try go_wp2_with (first | (go_at_call 47; (with_reducible refine (dragomanref1_Take.calls k1 (a0.extract ((rd t531 x7_1) : Int).toNat ((rd t531 (ji8)) : Int).toNat) t536 t537 _ A13.out).mono ?_); rintro e w19 ⟨rfl, hb⟩; have n0_ := Aside0.mk (Kd.R_below (by (with_reducible repeat (first | apply Kd.R_alloc | apply Kd.R_drewN | apply Kd.R_drew)); exact HO_6.out) hb); have n1_ := Aside0.mk (below_step (by repeat (first | (with_reducible first | exact HB.out | apply below_alloc | apply pw_below_drewN | apply below_drew1) | exact HB.out)) hb); clear HO_6; clear HB; have HO_6 := n0_; have HB := n1_; clear n0_ n1_; (try clear hb); (try clear hb2); (try clear hk); (try clear hi); have p15 : 0 ≤ (0 : Int) := (by omega); have q15 : 0 < (a0.extract ((rd t531 x7_1) : Int).toNat ((rd t531 (ji8)) : Int).toNat).size := (by have : (0 : Int) < ((a0.extract ((rd t531 x7_1) : Int).toNat ((rd t531 (ji8)) : Int).toNat).size : Int) := of_decide_eq_true (by first | (with_reducible assumption) | assumption); omega); have hx15 : ∀ h : 0 < (a0.extract ((rd t531 x7_1) : Int).toNat ((rd t531 (ji8)) : Int).toNat).size, (((a0.extract ((rd t531 x7_1) : Int).toNat ((rd t531 (ji8)) : Int).toNat)[0]'h).toNat : Int) = bt (a0.extract ((rd t531 x7_1) : Int).toNat ((rd t531 (ji8)) : Int).toNat) 0 := bt_at (a0.extract ((rd t531 x7_1) : Int).toNat ((rd t531 (ji8)) : Int).toNat) 0; clear p15; have qi15 : (0 < ((a0.extract ((rd t531 x7_1) : Int).toNat ((rd t531 (ji8)) : Int).toNat).size : Int)) = True := eq_true (of_decide_eq_true (by first | (with_reducible assumption) | assumption)); replace q15 := eq_true q15)))
                          go_roundg k1
                          case measure => have := HK1.out; omega
                          case rel => exact ⟨(x5_1 ++ (⟨#[239, 191, 189]⟩ : ByteArray)), (ji8), (by first | rfl | (simp; done) | (simp [*]; done)), (by first | rfl | (simp; done) | (simp only [← hji8] <;> (first | rfl | simp)) | (simp [*]; done)), H', ⟨by have := HK1.out; omega⟩, ⟨by (with_reducible repeat (first | apply Kd.R_alloc | apply Kd.R_drewN | apply Kd.R_drew)); exact HO_6.out⟩, ⟨by repeat (first | (with_reducible first | exact HB.out | apply below_alloc | apply pw_below_drewN | apply below_drew1) | exact HB.out)⟩⟩
                        · rw [if_neg c17] at H
                          exact absurd H (by simp)
                      · rw [if_neg c16] at H
                        have c16b0 : (t537 == 0) = false := beq_eq_false_iff_ne.mpr c16
                        have c16b1 : (t537 != 0) = true := bne_iff_ne.mpr c16
                        have HC20 := Aside0.mk H
                        clear H
                        obtain ⟨Ao21, co21, eo21⟩ := Kd.R_slice HO_6.out
                        subst eo21
                        have p534 : 0 ≤ (x7_1 : Int) := of_decide_eq_true (by first | (with_reducible assumption) | assumption)
                        have q534 : x7_1 < (t531.length : Int) := of_decide_eq_true (by first | (with_reducible assumption) | assumption)
                        obtain ⟨ad534, e534, hx534_0⟩ := Kd.at_int (Kd.R_reads' HO_6.out).2.2 x7_1 p534 q534
                        cases e534
                        replace p534 := eq_true p534
                        replace q534 := eq_true q534
                        have p535 : 0 ≤ ((ji8) : Int) := of_decide_eq_true (by first | (with_reducible assumption) | assumption)
                        have q535 : (ji8) < (t531.length : Int) := of_decide_eq_true (by first | (with_reducible assumption) | assumption)
                        obtain ⟨ad535, e535, hx535_0⟩ := Kd.at_int (Kd.R_reads' HO_6.out).2.2 (ji8) p535 q535
                        obtain rfl : ad534 = ad535 := (by injection e535)
                        replace p535 := eq_true p535
                        replace q535 := eq_true q535
                        go_upto_region 12 with (first | (go_at_call 47; (with_reducible refine (dragomanref1_Take.calls k1 (a0.extract ((rd t531 x7_1) : Int).toNat ((rd t531 (ji8)) : Int).toNat) t536 t537 _ A13.out).mono ?_); rintro e w22 ⟨rfl, hb⟩; have n0_ := Aside0.mk (Kd.R_below (by (with_reducible repeat (first | apply Kd.R_alloc | apply Kd.R_drewN | apply Kd.R_drew)); exact HO_6.out) hb); have n1_ := Aside0.mk (below_step (by repeat (first | (with_reducible first | exact HB.out | apply below_alloc | apply pw_below_drewN | apply below_drew1) | exact HB.out)) hb); clear HO_6; clear HB; have HO_6 := n0_; have HB := n1_; clear n0_ n1_; (try clear hb); (try clear hb2); (try clear hk); (try clear hi); have p15 : 0 ≤ (0 : Int) := (by omega); have q15 : 0 < (a0.extract ((rd t531 x7_1) : Int).toNat ((rd t531 (ji8)) : Int).toNat).size := (by have : (0 : Int) < ((a0.extract ((rd t531 x7_1) : Int).toNat ((rd t531 (ji8)) : Int).toNat).size : Int) := of_decide_eq_true (by first | (with_reducible assumption) | assumption); omega); have hx15 : ∀ h : 0 < (a0.extract ((rd t531 x7_1) : Int).toNat ((rd t531 (ji8)) : Int).toNat).size, (((a0.extract ((rd t531 x7_1) : Int).toNat ((rd t531 (ji8)) : Int).toNat)[0]'h).toNat : Int) = bt (a0.extract ((rd t531 x7_1) : Int).toNat ((rd t531 (ji8)) : Int).toNat) 0 := bt_at (a0.extract ((rd t531 x7_1) : Int).toNat ((rd t531 (ji8)) : Int).toNat) 0; clear p15; have qi15 : (0 < ((a0.extract ((rd t531 x7_1) : Int).toNat ((rd t531 (ji8)) : Int).toNat).size : Int)) = True := eq_true (of_decide_eq_true (by first | (with_reducible assumption) | assumption)); replace q15 := eq_true q15))
                        repeat (go_quiet (first | (go_at_call 47; (with_reducible refine (dragomanref1_Take.calls k1 (a0.extract ((rd t531 x7_1) : Int).toNat ((rd t531 (ji8)) : Int).toNat) t536 t537 _ A13.out).mono ?_); rintro e w22 ⟨rfl, hb⟩; have n0_ := Aside0.mk (Kd.R_below (by (with_reducible repeat (first | apply Kd.R_alloc | apply Kd.R_drewN | apply Kd.R_drew)); exact HO_6.out) hb); have n1_ := Aside0.mk (below_step (by repeat (first | (with_reducible first | exact HB.out | apply below_alloc | apply pw_below_drewN | apply below_drew1) | exact HB.out)) hb); clear HO_6; clear HB; have HO_6 := n0_; have HB := n1_; clear n0_ n1_; (try clear hb); (try clear hb2); (try clear hk); (try clear hi); have p15 : 0 ≤ (0 : Int) := (by omega); have q15 : 0 < (a0.extract ((rd t531 x7_1) : Int).toNat ((rd t531 (ji8)) : Int).toNat).size := (by have : (0 : Int) < ((a0.extract ((rd t531 x7_1) : Int).toNat ((rd t531 (ji8)) : Int).toNat).size : Int) := of_decide_eq_true (by first | (with_reducible assumption) | assumption); omega); have hx15 : ∀ h : 0 < (a0.extract ((rd t531 x7_1) : Int).toNat ((rd t531 (ji8)) : Int).toNat).size, (((a0.extract ((rd t531 x7_1) : Int).toNat ((rd t531 (ji8)) : Int).toNat)[0]'h).toNat : Int) = bt (a0.extract ((rd t531 x7_1) : Int).toNat ((rd t531 (ji8)) : Int).toNat) 0 := bt_at (a0.extract ((rd t531 x7_1) : Int).toNat ((rd t531 (ji8)) : Int).toNat) 0; clear p15; have qi15 : (0 < ((a0.extract ((rd t531 x7_1) : Int).toNat ((rd t531 (ji8)) : Int).toNat).size : Int)) = True := eq_true (of_decide_eq_true (by first | (with_reducible assumption) | assumption)); replace q15 := eq_true q15)); go_upto_region 12 with (first | (go_at_call 47; (with_reducible refine (dragomanref1_Take.calls k1 (a0.extract ((rd t531 x7_1) : Int).toNat ((rd t531 (ji8)) : Int).toNat) t536 t537 _ A13.out).mono ?_); rintro e w22 ⟨rfl, hb⟩; have n0_ := Aside0.mk (Kd.R_below (by (with_reducible repeat (first | apply Kd.R_alloc | apply Kd.R_drewN | apply Kd.R_drew)); exact HO_6.out) hb); have n1_ := Aside0.mk (below_step (by repeat (first | (with_reducible first | exact HB.out | apply below_alloc | apply pw_below_drewN | apply below_drew1) | exact HB.out)) hb); clear HO_6; clear HB; have HO_6 := n0_; have HB := n1_; clear n0_ n1_; (try clear hb); (try clear hb2); (try clear hk); (try clear hi); have p15 : 0 ≤ (0 : Int) := (by omega); have q15 : 0 < (a0.extract ((rd t531 x7_1) : Int).toNat ((rd t531 (ji8)) : Int).toNat).size := (by have : (0 : Int) < ((a0.extract ((rd t531 x7_1) : Int).toNat ((rd t531 (ji8)) : Int).toNat).size : Int) := of_decide_eq_true (by first | (with_reducible assumption) | assumption); omega); have hx15 : ∀ h : 0 < (a0.extract ((rd t531 x7_1) : Int).toNat ((rd t531 (ji8)) : Int).toNat).size, (((a0.extract ((rd t531 x7_1) : Int).toNat ((rd t531 (ji8)) : Int).toNat)[0]'h).toNat : Int) = bt (a0.extract ((rd t531 x7_1) : Int).toNat ((rd t531 (ji8)) : Int).toNat) 0 := bt_at (a0.extract ((rd t531 x7_1) : Int).toNat ((rd t531 (ji8)) : Int).toNat) 0; clear p15; have qi15 : (0 < ((a0.extract ((rd t531 x7_1) : Int).toNat ((rd t531 (ji8)) : Int).toNat).size : Int)) = True := eq_true (of_decide_eq_true (by first | (with_reducible assumption) | assumption)); replace q15 := eq_true q15)))
                        (try simp only [Act.put, List.setIfInBounds_toArray, List.set_cons_zero, List.set_cons_succ])
                        go_cut [47] (fun v47 wc => ∃ (kq : Nat) (x47_19 : Bool), v47 = .bool x47_19 ∧ Aside0 (dragomanref5_Quote.j1 kq a0 a1 x5_1 t531 x7_1 (a0.extract ((rd t531 x7_1) : Int).toNat ((rd t531 (ji8)) : Int).toNat) (bt (a0.extract ((rd t531 x7_1) : Int).toNat ((rd t531 (ji8)) : Int).toNat) 0) x47_19 = some r) ∧ Aside0 (kq ≤ k1) ∧ Aside0 (Kd.R (Kd.int .i64) 3 wc w.heap.size (fun _ => True) (.slice (some ad534) t531.length co21) t531) ∧ Aside0 (Below w.heap.size w wc))
                        case first =>
                          have H := HC20.out
                          clear HC20
                          by_cases c23 : (bt (a0.extract ((rd t531 x7_1) : Int).toNat ((rd t531 (ji8)) : Int).toNat) 0) = 34
                          · rw [if_pos c23] at H
                            have c23b0 : ((bt (a0.extract ((rd t531 x7_1) : Int).toNat ((rd t531 (ji8)) : Int).toNat) 0) == 34) = true := beq_iff_eq.mpr c23
                            have c23b1 : ((bt (a0.extract ((rd t531 x7_1) : Int).toNat ((rd t531 (ji8)) : Int).toNat) 0) != 34) = false := bne_eq_false_iff_eq.mpr c23
                            clear c23
                            (first | rw [c23b0] | (simp only [i64_w, i32_w]; rw [c23b0]) | skip)
                            have H' := Aside0.mk H
                            clear H
                            go_wp2
                            repeat (go_quiet (fail); try go_wp2)
                            go_meet
                            case rel => exact ⟨_, (true), (by first | rfl | (simp; done) | (simp [*]; done)), H', ⟨by have := HK1.out; first | omega | exact Nat.le_refl _⟩, ⟨by (with_reducible repeat (first | apply Kd.R_alloc | apply Kd.R_drewN | apply Kd.R_drew)); exact HO_6.out⟩, ⟨by repeat (first | (with_reducible first | exact HB.out | apply below_alloc | apply pw_below_drewN | apply below_drew1) | exact HB.out)⟩⟩
                          · rw [if_neg c23] at H
                            have c23b0 : ((bt (a0.extract ((rd t531 x7_1) : Int).toNat ((rd t531 (ji8)) : Int).toNat) 0) == 34) = false := beq_eq_false_iff_ne.mpr c23
                            have c23b1 : ((bt (a0.extract ((rd t531 x7_1) : Int).toNat ((rd t531 (ji8)) : Int).toNat) 0) != 34) = true := bne_iff_ne.mpr c23
                            (first | rw [c23b0] | (simp only [i64_w, i32_w]; rw [c23b0]) | skip)
                            have H' := Aside0.mk H
                            clear H
                            go_wp2
                            repeat (go_quiet (fail); try go_wp2)
                            go_meet
                            case rel => exact ⟨_, (((bt (a0.extract ((rd t531 x7_1) : Int).toNat ((rd t531 (ji8)) : Int).toNat) 0) == 92)), (by first | rfl | (simp; done) | (simp only [← hji8] <;> (first | rfl | simp)) | (simp [*]; done)), H', ⟨by have := HK1.out; first | omega | exact Nat.le_refl _⟩, ⟨by (with_reducible repeat (first | apply Kd.R_alloc | apply Kd.R_drewN | apply Kd.R_drew)); exact HO_6.out⟩, ⟨by repeat (first | (with_reducible first | exact HB.out | apply below_alloc | apply pw_below_drewN | apply below_drew1) | exact HB.out)⟩⟩
                        case rest =>
                          clear HC20
                          try clear c1
                          try clear p1
                          try clear q1
                          try clear hx1
                          try clear qi1
                          try clear c2
                          try clear p2
                          try clear c5
                          try clear c5b0
                          try clear p5
                          try clear q5
                          try clear hx5
                          try clear c6
                          try clear c6b0
                          try clear p6
                          try clear c7
                          try clear c7b0
                          try clear c9
                          try clear c9b0
                          try clear c10
                          try clear c10b0
                          try clear c10b1
                          try clear c11
                          try clear c11b0
                          try clear c11b1
                          try clear c12
                          try clear c12b0
                          try clear c12b1
                          try clear c14
                          try clear c14b0
                          try clear c14b1
                          try clear p15
                          try clear q15
                          try clear hx15
                          try clear qi15
                          try clear c16
                          try clear c16b0
                          try clear c16b1
                          try clear c17
                          try clear c17b0
                          try clear c17b1
                          try clear c17b2
                          try clear c21
                          try clear c23
                          try clear c23b0
                          try clear c23b1
                          try clear hx534_0
                          try clear hx535_0
                          try clear p15
                          try clear p2
                          try clear p534
                          try clear p535
                          try clear q15
                          try clear q534
                          try clear q535
                          obtain ⟨kq, x47_19, rfl, HA, HJ19, HO_6, HB⟩ := hcut
                          cases kq with
                          | zero => exact absurd HA.out (by simp [dragomanref5_Quote.j1])
                          | succ kj19 =>
                            have H := HA.out
                            clear HA
                            simp only [dragomanref5_Quote.j1] at H
                            by_cases c24 : x47_19 = true
                            · subst c24
                              have H1 : (if x5_1.size + 1 ≤ 9223372036854775807 then (if (x5_1 ++ (⟨#[92]⟩ : ByteArray)).size + (a0.extract ((rd t531 x7_1) : Int).toNat ((rd t531 (ji8)) : Int).toNat).size ≤ 9223372036854775807 then (dragomanref5_Quote.l0 kj19 a0 a1 ((x5_1 ++ (⟨#[92]⟩ : ByteArray)) ++ (a0.extract ((rd t531 x7_1) : Int).toNat ((rd t531 (ji8)) : Int).toNat)) t531 (wrap64 (x7_1 + 1))) else (none)) else (none)) = some r := by rw [if_pos rfl] at H; exact H
                              clear H
                              have H := H1
                              clear H1
                              by_cases c25 : x5_1.size + 1 ≤ 9223372036854775807
                              · rw [if_pos c25] at H
                                have c25b0 := eq_true c25
                                have c25b1 : decide (x5_1.size + 1 ≤ 9223372036854775807) = true := decide_eq_true c25
                                try have c25b2 : (9223372036854775807 < x5_1.size + 1) = False := eq_false (Nat.not_lt.2 c25)
                                by_cases c26 : (x5_1 ++ (⟨#[92]⟩ : ByteArray)).size + (a0.extract ((rd t531 x7_1) : Int).toNat ((rd t531 (ji8)) : Int).toNat).size ≤ 9223372036854775807
                                · rw [if_pos c26] at H
                                  have c26b0 := eq_true c26
                                  have c26b1 : decide ((x5_1 ++ (⟨#[92]⟩ : ByteArray)).size + (a0.extract ((rd t531 x7_1) : Int).toNat ((rd t531 (ji8)) : Int).toNat).size ≤ 9223372036854775807) = true := decide_eq_true c26
                                  try have c26b2 : (9223372036854775807 < (x5_1 ++ (⟨#[92]⟩ : ByteArray)).size + (a0.extract ((rd t531 x7_1) : Int).toNat ((rd t531 (ji8)) : Int).toNat).size) = False := eq_false (Nat.not_lt.2 c26)
                                  have H' := Aside0.mk H
                                  clear H
                                  go_wp2
                                  repeat (go_quiet (fail); try go_wp2)
                                  go_roundg kj19
                                  case measure => have := HK1.out; have := HJ19.out; omega
                                  case rel => exact ⟨((x5_1 ++ (⟨#[92]⟩ : ByteArray)) ++ (a0.extract ((rd t531 x7_1) : Int).toNat ((rd t531 (ji8)) : Int).toNat)), (wrap64 (x7_1 + 1)), (by first | rfl | (simp; done) | (simp only [← hji8] <;> (first | rfl | simp)) | (simp [*]; done)), (by first | rfl | (simp; done) | (simp [*]; done)), H', ⟨by have := HK1.out; have := HJ19.out; omega⟩, ⟨by (with_reducible repeat (first | apply Kd.R_alloc | apply Kd.R_drewN | apply Kd.R_drew)); exact HO_6.out⟩, ⟨by repeat (first | (with_reducible first | exact HB.out | apply below_alloc | apply pw_below_drewN | apply below_drew1) | exact HB.out)⟩⟩
                                · rw [if_neg c26] at H
                                  exact absurd H (by simp)
                              · rw [if_neg c25] at H
                                exact absurd H (by simp)
                            · replace c24 := Bool.eq_false_iff.mpr c24
                              subst c24
                              have H1 : (if (bt (a0.extract ((rd t531 x7_1) : Int).toNat ((rd t531 (ji8)) : Int).toNat) 0) = 8 then (if x5_1.size + 2 ≤ 9223372036854775807 then (dragomanref5_Quote.l0 kj19 a0 a1 (x5_1 ++ (⟨#[92, 98]⟩ : ByteArray)) t531 (wrap64 (x7_1 + 1))) else (none)) else (if (bt (a0.extract ((rd t531 x7_1) : Int).toNat ((rd t531 (ji8)) : Int).toNat) 0) = 9 then (if x5_1.size + 2 ≤ 9223372036854775807 then (dragomanref5_Quote.l0 kj19 a0 a1 (x5_1 ++ (⟨#[92, 116]⟩ : ByteArray)) t531 (wrap64 (x7_1 + 1))) else (none)) else (if (bt (a0.extract ((rd t531 x7_1) : Int).toNat ((rd t531 (ji8)) : Int).toNat) 0) = 10 then (if x5_1.size + 2 ≤ 9223372036854775807 then (dragomanref5_Quote.l0 kj19 a0 a1 (x5_1 ++ (⟨#[92, 110]⟩ : ByteArray)) t531 (wrap64 (x7_1 + 1))) else (none)) else (if (bt (a0.extract ((rd t531 x7_1) : Int).toNat ((rd t531 (ji8)) : Int).toNat) 0) = 12 then (if x5_1.size + 2 ≤ 9223372036854775807 then (dragomanref5_Quote.l0 kj19 a0 a1 (x5_1 ++ (⟨#[92, 102]⟩ : ByteArray)) t531 (wrap64 (x7_1 + 1))) else (none)) else (if (bt (a0.extract ((rd t531 x7_1) : Int).toNat ((rd t531 (ji8)) : Int).toNat) 0) = 13 then (if x5_1.size + 2 ≤ 9223372036854775807 then (dragomanref5_Quote.l0 kj19 a0 a1 (x5_1 ++ (⟨#[92, 114]⟩ : ByteArray)) t531 (wrap64 (x7_1 + 1))) else (none)) else (if (bt (a0.extract ((rd t531 x7_1) : Int).toNat ((rd t531 (ji8)) : Int).toNat) 0) < 32 then (if x5_1.size + 2 ≤ 9223372036854775807 then ((dragomanref5_hex4.f (wrap64 ((bt (a0.extract ((rd t531 x7_1) : Int).toNat ((rd t531 (ji8)) : Int).toNat) 0)))).bind fun t538 => (if (x5_1 ++ (⟨#[92, 117]⟩ : ByteArray)).size + t538.size ≤ 9223372036854775807 then (dragomanref5_Quote.l0 kj19 a0 a1 ((x5_1 ++ (⟨#[92, 117]⟩ : ByteArray)) ++ t538) t531 (wrap64 (x7_1 + 1))) else (none))) else (none)) else (if a1 = true then (if (bt (a0.extract ((rd t531 x7_1) : Int).toNat ((rd t531 (ji8)) : Int).toNat) 0) = 127 then (if x5_1.size + 2 ≤ 9223372036854775807 then ((dragomanref5_hex4.f (wrap64 ((bt (a0.extract ((rd t531 x7_1) : Int).toNat ((rd t531 (ji8)) : Int).toNat) 0)))).bind fun t539 => (if (x5_1 ++ (⟨#[92, 117]⟩ : ByteArray)).size + t539.size ≤ 9223372036854775807 then (dragomanref5_Quote.l0 kj19 a0 a1 ((x5_1 ++ (⟨#[92, 117]⟩ : ByteArray)) ++ t539) t531 (wrap64 (x7_1 + 1))) else (none))) else (none)) else (if x5_1.size + (a0.extract ((rd t531 x7_1) : Int).toNat ((rd t531 (ji8)) : Int).toNat).size ≤ 9223372036854775807 then (dragomanref5_Quote.l0 kj19 a0 a1 (x5_1 ++ (a0.extract ((rd t531 x7_1) : Int).toNat ((rd t531 (ji8)) : Int).toNat)) t531 (wrap64 (x7_1 + 1))) else (none))) else (if x5_1.size + (a0.extract ((rd t531 x7_1) : Int).toNat ((rd t531 (ji8)) : Int).toNat).size ≤ 9223372036854775807 then (dragomanref5_Quote.l0 kj19 a0 a1 (x5_1 ++ (a0.extract ((rd t531 x7_1) : Int).toNat ((rd t531 (ji8)) : Int).toNat)) t531 (wrap64 (x7_1 + 1))) else (none))))))))) = some r := by rw [if_neg (show ¬ (false = true) by decide)] at H; exact H
                              clear H
                              have H := H1
                              clear H1
                              by_cases c27 : (bt (a0.extract ((rd t531 x7_1) : Int).toNat ((rd t531 (ji8)) : Int).toNat) 0) = 8
                              · rw [if_pos c27] at H
                                have c27b0 : ((bt (a0.extract ((rd t531 x7_1) : Int).toNat ((rd t531 (ji8)) : Int).toNat) 0) == 8) = true := beq_iff_eq.mpr c27
                                have c27b1 : ((bt (a0.extract ((rd t531 x7_1) : Int).toNat ((rd t531 (ji8)) : Int).toNat) 0) != 8) = false := bne_eq_false_iff_eq.mpr c27
                                clear c27
                                by_cases c28 : x5_1.size + 2 ≤ 9223372036854775807
                                · rw [if_pos c28] at H
                                  have c28b0 := eq_true c28
                                  have c28b1 : decide (x5_1.size + 2 ≤ 9223372036854775807) = true := decide_eq_true c28
                                  try have c28b2 : (9223372036854775807 < x5_1.size + 2) = False := eq_false (Nat.not_lt.2 c28)
                                  have H' := Aside0.mk H
                                  clear H
                                  go_wp2
                                  repeat (go_quiet (fail); try go_wp2)
                                  go_roundg kj19
                                  case measure => have := HK1.out; have := HJ19.out; omega
                                  case rel => exact ⟨(x5_1 ++ (⟨#[92, 98]⟩ : ByteArray)), (wrap64 (x7_1 + 1)), (by first | rfl | (simp; done) | (simp [*]; done)), (by first | rfl | (simp; done) | (simp [*]; done)), H', ⟨by have := HK1.out; have := HJ19.out; omega⟩, ⟨by (with_reducible repeat (first | apply Kd.R_alloc | apply Kd.R_drewN | apply Kd.R_drew)); exact HO_6.out⟩, ⟨by repeat (first | (with_reducible first | exact HB.out | apply below_alloc | apply pw_below_drewN | apply below_drew1) | exact HB.out)⟩⟩
                                · rw [if_neg c28] at H
                                  exact absurd H (by simp)
                              · rw [if_neg c27] at H
                                have c27b0 : ((bt (a0.extract ((rd t531 x7_1) : Int).toNat ((rd t531 (ji8)) : Int).toNat) 0) == 8) = false := beq_eq_false_iff_ne.mpr c27
                                have c27b1 : ((bt (a0.extract ((rd t531 x7_1) : Int).toNat ((rd t531 (ji8)) : Int).toNat) 0) != 8) = true := bne_iff_ne.mpr c27
                                by_cases c29 : (bt (a0.extract ((rd t531 x7_1) : Int).toNat ((rd t531 (ji8)) : Int).toNat) 0) = 9
                                · rw [if_pos c29] at H
                                  have c29b0 : ((bt (a0.extract ((rd t531 x7_1) : Int).toNat ((rd t531 (ji8)) : Int).toNat) 0) == 9) = true := beq_iff_eq.mpr c29
                                  have c29b1 : ((bt (a0.extract ((rd t531 x7_1) : Int).toNat ((rd t531 (ji8)) : Int).toNat) 0) != 9) = false := bne_eq_false_iff_eq.mpr c29
                                  clear c29
                                  by_cases c30 : x5_1.size + 2 ≤ 9223372036854775807
                                  · rw [if_pos c30] at H
                                    have c30b0 := eq_true c30
                                    have c30b1 : decide (x5_1.size + 2 ≤ 9223372036854775807) = true := decide_eq_true c30
                                    try have c30b2 : (9223372036854775807 < x5_1.size + 2) = False := eq_false (Nat.not_lt.2 c30)
                                    have H' := Aside0.mk H
                                    clear H
                                    go_wp2
                                    repeat (go_quiet (fail); try go_wp2)
                                    go_roundg kj19
                                    case measure => have := HK1.out; have := HJ19.out; omega
                                    case rel => exact ⟨(x5_1 ++ (⟨#[92, 116]⟩ : ByteArray)), (wrap64 (x7_1 + 1)), (by first | rfl | (simp; done) | (simp [*]; done)), (by first | rfl | (simp; done) | (simp [*]; done)), H', ⟨by have := HK1.out; have := HJ19.out; omega⟩, ⟨by (with_reducible repeat (first | apply Kd.R_alloc | apply Kd.R_drewN | apply Kd.R_drew)); exact HO_6.out⟩, ⟨by repeat (first | (with_reducible first | exact HB.out | apply below_alloc | apply pw_below_drewN | apply below_drew1) | exact HB.out)⟩⟩
                                  · rw [if_neg c30] at H
                                    exact absurd H (by simp)
                                · rw [if_neg c29] at H
                                  have c29b0 : ((bt (a0.extract ((rd t531 x7_1) : Int).toNat ((rd t531 (ji8)) : Int).toNat) 0) == 9) = false := beq_eq_false_iff_ne.mpr c29
                                  have c29b1 : ((bt (a0.extract ((rd t531 x7_1) : Int).toNat ((rd t531 (ji8)) : Int).toNat) 0) != 9) = true := bne_iff_ne.mpr c29
                                  by_cases c31 : (bt (a0.extract ((rd t531 x7_1) : Int).toNat ((rd t531 (ji8)) : Int).toNat) 0) = 10
                                  · rw [if_pos c31] at H
                                    have c31b0 : ((bt (a0.extract ((rd t531 x7_1) : Int).toNat ((rd t531 (ji8)) : Int).toNat) 0) == 10) = true := beq_iff_eq.mpr c31
                                    have c31b1 : ((bt (a0.extract ((rd t531 x7_1) : Int).toNat ((rd t531 (ji8)) : Int).toNat) 0) != 10) = false := bne_eq_false_iff_eq.mpr c31
                                    clear c31
                                    by_cases c32 : x5_1.size + 2 ≤ 9223372036854775807
                                    · rw [if_pos c32] at H
                                      have c32b0 := eq_true c32
                                      have c32b1 : decide (x5_1.size + 2 ≤ 9223372036854775807) = true := decide_eq_true c32
                                      try have c32b2 : (9223372036854775807 < x5_1.size + 2) = False := eq_false (Nat.not_lt.2 c32)
                                      have H' := Aside0.mk H
                                      clear H
                                      go_wp2
                                      repeat (go_quiet (fail); try go_wp2)
                                      go_roundg kj19
                                      case measure => have := HK1.out; have := HJ19.out; omega
                                      case rel => exact ⟨(x5_1 ++ (⟨#[92, 110]⟩ : ByteArray)), (wrap64 (x7_1 + 1)), (by first | rfl | (simp; done) | (simp [*]; done)), (by first | rfl | (simp; done) | (simp [*]; done)), H', ⟨by have := HK1.out; have := HJ19.out; omega⟩, ⟨by (with_reducible repeat (first | apply Kd.R_alloc | apply Kd.R_drewN | apply Kd.R_drew)); exact HO_6.out⟩, ⟨by repeat (first | (with_reducible first | exact HB.out | apply below_alloc | apply pw_below_drewN | apply below_drew1) | exact HB.out)⟩⟩
                                    · rw [if_neg c32] at H
                                      exact absurd H (by simp)
                                  · rw [if_neg c31] at H
                                    have c31b0 : ((bt (a0.extract ((rd t531 x7_1) : Int).toNat ((rd t531 (ji8)) : Int).toNat) 0) == 10) = false := beq_eq_false_iff_ne.mpr c31
                                    have c31b1 : ((bt (a0.extract ((rd t531 x7_1) : Int).toNat ((rd t531 (ji8)) : Int).toNat) 0) != 10) = true := bne_iff_ne.mpr c31
                                    by_cases c33 : (bt (a0.extract ((rd t531 x7_1) : Int).toNat ((rd t531 (ji8)) : Int).toNat) 0) = 12
                                    · rw [if_pos c33] at H
                                      have c33b0 : ((bt (a0.extract ((rd t531 x7_1) : Int).toNat ((rd t531 (ji8)) : Int).toNat) 0) == 12) = true := beq_iff_eq.mpr c33
                                      have c33b1 : ((bt (a0.extract ((rd t531 x7_1) : Int).toNat ((rd t531 (ji8)) : Int).toNat) 0) != 12) = false := bne_eq_false_iff_eq.mpr c33
                                      clear c33
                                      by_cases c34 : x5_1.size + 2 ≤ 9223372036854775807
                                      · rw [if_pos c34] at H
                                        have c34b0 := eq_true c34
                                        have c34b1 : decide (x5_1.size + 2 ≤ 9223372036854775807) = true := decide_eq_true c34
                                        try have c34b2 : (9223372036854775807 < x5_1.size + 2) = False := eq_false (Nat.not_lt.2 c34)
                                        have H' := Aside0.mk H
                                        clear H
                                        go_wp2
                                        repeat (go_quiet (fail); try go_wp2)
                                        go_roundg kj19
                                        case measure => have := HK1.out; have := HJ19.out; omega
                                        case rel => exact ⟨(x5_1 ++ (⟨#[92, 102]⟩ : ByteArray)), (wrap64 (x7_1 + 1)), (by first | rfl | (simp; done) | (simp [*]; done)), (by first | rfl | (simp; done) | (simp [*]; done)), H', ⟨by have := HK1.out; have := HJ19.out; omega⟩, ⟨by (with_reducible repeat (first | apply Kd.R_alloc | apply Kd.R_drewN | apply Kd.R_drew)); exact HO_6.out⟩, ⟨by repeat (first | (with_reducible first | exact HB.out | apply below_alloc | apply pw_below_drewN | apply below_drew1) | exact HB.out)⟩⟩
                                      · rw [if_neg c34] at H
                                        exact absurd H (by simp)
                                    · rw [if_neg c33] at H
                                      have c33b0 : ((bt (a0.extract ((rd t531 x7_1) : Int).toNat ((rd t531 (ji8)) : Int).toNat) 0) == 12) = false := beq_eq_false_iff_ne.mpr c33
                                      have c33b1 : ((bt (a0.extract ((rd t531 x7_1) : Int).toNat ((rd t531 (ji8)) : Int).toNat) 0) != 12) = true := bne_iff_ne.mpr c33
                                      by_cases c35 : (bt (a0.extract ((rd t531 x7_1) : Int).toNat ((rd t531 (ji8)) : Int).toNat) 0) = 13
                                      · rw [if_pos c35] at H
                                        have c35b0 : ((bt (a0.extract ((rd t531 x7_1) : Int).toNat ((rd t531 (ji8)) : Int).toNat) 0) == 13) = true := beq_iff_eq.mpr c35
                                        have c35b1 : ((bt (a0.extract ((rd t531 x7_1) : Int).toNat ((rd t531 (ji8)) : Int).toNat) 0) != 13) = false := bne_eq_false_iff_eq.mpr c35
                                        clear c35
                                        by_cases c36 : x5_1.size + 2 ≤ 9223372036854775807
                                        · rw [if_pos c36] at H
                                          have c36b0 := eq_true c36
                                          have c36b1 : decide (x5_1.size + 2 ≤ 9223372036854775807) = true := decide_eq_true c36
                                          try have c36b2 : (9223372036854775807 < x5_1.size + 2) = False := eq_false (Nat.not_lt.2 c36)
                                          have H' := Aside0.mk H
                                          clear H
                                          go_wp2
                                          repeat (go_quiet (fail); try go_wp2)
                                          go_roundg kj19
                                          case measure => have := HK1.out; have := HJ19.out; omega
                                          case rel => exact ⟨(x5_1 ++ (⟨#[92, 114]⟩ : ByteArray)), (wrap64 (x7_1 + 1)), (by first | rfl | (simp; done) | (simp [*]; done)), (by first | rfl | (simp; done) | (simp [*]; done)), H', ⟨by have := HK1.out; have := HJ19.out; omega⟩, ⟨by (with_reducible repeat (first | apply Kd.R_alloc | apply Kd.R_drewN | apply Kd.R_drew)); exact HO_6.out⟩, ⟨by repeat (first | (with_reducible first | exact HB.out | apply below_alloc | apply pw_below_drewN | apply below_drew1) | exact HB.out)⟩⟩
                                        · rw [if_neg c36] at H
                                          exact absurd H (by simp)
                                      · rw [if_neg c35] at H
                                        have c35b0 : ((bt (a0.extract ((rd t531 x7_1) : Int).toNat ((rd t531 (ji8)) : Int).toNat) 0) == 13) = false := beq_eq_false_iff_ne.mpr c35
                                        have c35b1 : ((bt (a0.extract ((rd t531 x7_1) : Int).toNat ((rd t531 (ji8)) : Int).toNat) 0) != 13) = true := bne_iff_ne.mpr c35
                                        by_cases c37 : (bt (a0.extract ((rd t531 x7_1) : Int).toNat ((rd t531 (ji8)) : Int).toNat) 0) < 32
                                        · rw [if_pos c37] at H
                                          have c37b0 : decide ((bt (a0.extract ((rd t531 x7_1) : Int).toNat ((rd t531 (ji8)) : Int).toNat) 0) < 32) = true := decide_eq_true c37
                                          clear c37
                                          by_cases c38 : x5_1.size + 2 ≤ 9223372036854775807
                                          · rw [if_pos c38] at H
                                            have c38b0 := eq_true c38
                                            have c38b1 : decide (x5_1.size + 2 ≤ 9223372036854775807) = true := decide_eq_true c38
                                            try have c38b2 : (9223372036854775807 < x5_1.size + 2) = False := eq_false (Nat.not_lt.2 c38)
                                            replace H := Option.bind_eq_some_iff.mp H
                                            obtain ⟨t538, A390, H⟩ := H
                                            replace H : (if (x5_1 ++ (⟨#[92, 117]⟩ : ByteArray)).size + t538.size ≤ 9223372036854775807 then (dragomanref5_Quote.l0 kj19 a0 a1 ((x5_1 ++ (⟨#[92, 117]⟩ : ByteArray)) ++ t538) t531 (wrap64 (x7_1 + 1))) else (none)) = some r := H
                                            have A39 := Aside0.mk A390
                                            clear A390
                                            by_cases c40 : (x5_1 ++ (⟨#[92, 117]⟩ : ByteArray)).size + t538.size ≤ 9223372036854775807
                                            · rw [if_pos c40] at H
                                              have c40b0 := eq_true c40
                                              have c40b1 : decide ((x5_1 ++ (⟨#[92, 117]⟩ : ByteArray)).size + t538.size ≤ 9223372036854775807) = true := decide_eq_true c40
                                              try have c40b2 : (9223372036854775807 < (x5_1 ++ (⟨#[92, 117]⟩ : ByteArray)).size + t538.size) = False := eq_false (Nat.not_lt.2 c40)
                                              have H' := Aside0.mk H
                                              clear H
                                              go_wp2_with (first | (go_at_call 48; (with_reducible refine (dragomanref5_hex4.calls (wrap64 ((bt (a0.extract ((rd t531 x7_1) : Int).toNat ((rd t531 (ji8)) : Int).toNat) 0))) t538 _ A39.out).mono ?_); rintro e w41 ⟨rfl, hb⟩; have n0_ := Aside0.mk (Kd.R_below (by (with_reducible repeat (first | apply Kd.R_alloc | apply Kd.R_drewN | apply Kd.R_drew)); exact HO_6.out) hb); have n1_ := Aside0.mk (below_step (by repeat (first | (with_reducible first | exact HB.out | apply below_alloc | apply pw_below_drewN | apply below_drew1) | exact HB.out)) hb); clear HO_6; clear HB; have HO_6 := n0_; have HB := n1_; clear n0_ n1_; (try clear hb); (try clear hb2); (try clear hk); (try clear hi)))
                                              repeat (go_quiet (first | (go_at_call 48; (with_reducible refine (dragomanref5_hex4.calls (wrap64 ((bt (a0.extract ((rd t531 x7_1) : Int).toNat ((rd t531 (ji8)) : Int).toNat) 0))) t538 _ A39.out).mono ?_); rintro e w41 ⟨rfl, hb⟩; have n0_ := Aside0.mk (Kd.R_below (by (with_reducible repeat (first | apply Kd.R_alloc | apply Kd.R_drewN | apply Kd.R_drew)); exact HO_6.out) hb); have n1_ := Aside0.mk (below_step (by repeat (first | (with_reducible first | exact HB.out | apply below_alloc | apply pw_below_drewN | apply below_drew1) | exact HB.out)) hb); clear HO_6; clear HB; have HO_6 := n0_; have HB := n1_; clear n0_ n1_; (try clear hb); (try clear hb2); (try clear hk); (try clear hi))); try go_wp2_with (first | (go_at_call 48; (with_reducible refine (dragomanref5_hex4.calls (wrap64 ((bt (a0.extract ((rd t531 x7_1) : Int).toNat ((rd t531 (ji8)) : Int).toNat) 0))) t538 _ A39.out).mono ?_); rintro e w41 ⟨rfl, hb⟩; have n0_ := Aside0.mk (Kd.R_below (by (with_reducible repeat (first | apply Kd.R_alloc | apply Kd.R_drewN | apply Kd.R_drew)); exact HO_6.out) hb); have n1_ := Aside0.mk (below_step (by repeat (first | (with_reducible first | exact HB.out | apply below_alloc | apply pw_below_drewN | apply below_drew1) | exact HB.out)) hb); clear HO_6; clear HB; have HO_6 := n0_; have HB := n1_; clear n0_ n1_; (try clear hb); (try clear hb2); (try clear hk); (try clear hi))))
                                              go_roundg kj19
                                              case measure => have := HK1.out; have := HJ19.out; omega
                                              case rel => exact ⟨((x5_1 ++ (⟨#[92, 117]⟩ : ByteArray)) ++ t538), (wrap64 (x7_1 + 1)), (by first | rfl | (simp; done) | (simp [*]; done)), (by first | rfl | (simp; done) | (simp [*]; done)), H', ⟨by have := HK1.out; have := HJ19.out; omega⟩, ⟨by (with_reducible repeat (first | apply Kd.R_alloc | apply Kd.R_drewN | apply Kd.R_drew)); exact HO_6.out⟩, ⟨by repeat (first | (with_reducible first | exact HB.out | apply below_alloc | apply pw_below_drewN | apply below_drew1) | exact HB.out)⟩⟩
                                            · rw [if_neg c40] at H
                                              exact absurd H (by simp)
                                          · rw [if_neg c38] at H
                                            exact absurd H (by simp)
                                        · rw [if_neg c37] at H
                                          have c37b0 : decide ((bt (a0.extract ((rd t531 x7_1) : Int).toNat ((rd t531 (ji8)) : Int).toNat) 0) < 32) = false := decide_eq_false c37
                                          clear c37
                                          by_cases c42 : a1 = true
                                          · subst c42
                                            have H1 : (if (bt (a0.extract ((rd t531 x7_1) : Int).toNat ((rd t531 (ji8)) : Int).toNat) 0) = 127 then (if x5_1.size + 2 ≤ 9223372036854775807 then ((dragomanref5_hex4.f (wrap64 ((bt (a0.extract ((rd t531 x7_1) : Int).toNat ((rd t531 (ji8)) : Int).toNat) 0)))).bind fun t539 => (if (x5_1 ++ (⟨#[92, 117]⟩ : ByteArray)).size + t539.size ≤ 9223372036854775807 then (dragomanref5_Quote.l0 kj19 a0 true ((x5_1 ++ (⟨#[92, 117]⟩ : ByteArray)) ++ t539) t531 (wrap64 (x7_1 + 1))) else (none))) else (none)) else (if x5_1.size + (a0.extract ((rd t531 x7_1) : Int).toNat ((rd t531 (ji8)) : Int).toNat).size ≤ 9223372036854775807 then (dragomanref5_Quote.l0 kj19 a0 true (x5_1 ++ (a0.extract ((rd t531 x7_1) : Int).toNat ((rd t531 (ji8)) : Int).toNat)) t531 (wrap64 (x7_1 + 1))) else (none))) = some r := by rw [if_pos rfl] at H; exact H
                                            clear H
                                            have H := H1
                                            clear H1
                                            by_cases c43 : (bt (a0.extract ((rd t531 x7_1) : Int).toNat ((rd t531 (ji8)) : Int).toNat) 0) = 127
                                            · rw [if_pos c43] at H
                                              have c43b0 : ((bt (a0.extract ((rd t531 x7_1) : Int).toNat ((rd t531 (ji8)) : Int).toNat) 0) == 127) = true := beq_iff_eq.mpr c43
                                              have c43b1 : ((bt (a0.extract ((rd t531 x7_1) : Int).toNat ((rd t531 (ji8)) : Int).toNat) 0) != 127) = false := bne_eq_false_iff_eq.mpr c43
                                              clear c43
                                              by_cases c44 : x5_1.size + 2 ≤ 9223372036854775807
                                              · rw [if_pos c44] at H
                                                have c44b0 := eq_true c44
                                                have c44b1 : decide (x5_1.size + 2 ≤ 9223372036854775807) = true := decide_eq_true c44
                                                try have c44b2 : (9223372036854775807 < x5_1.size + 2) = False := eq_false (Nat.not_lt.2 c44)
                                                replace H := Option.bind_eq_some_iff.mp H
                                                obtain ⟨t539, A450, H⟩ := H
                                                replace H : (if (x5_1 ++ (⟨#[92, 117]⟩ : ByteArray)).size + t539.size ≤ 9223372036854775807 then (dragomanref5_Quote.l0 kj19 a0 true ((x5_1 ++ (⟨#[92, 117]⟩ : ByteArray)) ++ t539) t531 (wrap64 (x7_1 + 1))) else (none)) = some r := H
                                                have A45 := Aside0.mk A450
                                                clear A450
                                                by_cases c46 : (x5_1 ++ (⟨#[92, 117]⟩ : ByteArray)).size + t539.size ≤ 9223372036854775807
                                                · rw [if_pos c46] at H
                                                  have c46b0 := eq_true c46
                                                  have c46b1 : decide ((x5_1 ++ (⟨#[92, 117]⟩ : ByteArray)).size + t539.size ≤ 9223372036854775807) = true := decide_eq_true c46
                                                  try have c46b2 : (9223372036854775807 < (x5_1 ++ (⟨#[92, 117]⟩ : ByteArray)).size + t539.size) = False := eq_false (Nat.not_lt.2 c46)
                                                  have H' := Aside0.mk H
                                                  clear H
                                                  go_wp2_with (first | (go_at_call 48; (with_reducible refine (dragomanref5_hex4.calls (wrap64 ((bt (a0.extract ((rd t531 x7_1) : Int).toNat ((rd t531 (ji8)) : Int).toNat) 0))) t539 _ A45.out).mono ?_); rintro e w47 ⟨rfl, hb⟩; have n0_ := Aside0.mk (Kd.R_below (by (with_reducible repeat (first | apply Kd.R_alloc | apply Kd.R_drewN | apply Kd.R_drew)); exact HO_6.out) hb); have n1_ := Aside0.mk (below_step (by repeat (first | (with_reducible first | exact HB.out | apply below_alloc | apply pw_below_drewN | apply below_drew1) | exact HB.out)) hb); clear HO_6; clear HB; have HO_6 := n0_; have HB := n1_; clear n0_ n1_; (try clear hb); (try clear hb2); (try clear hk); (try clear hi)))
                                                  repeat (go_quiet (first | (go_at_call 48; (with_reducible refine (dragomanref5_hex4.calls (wrap64 ((bt (a0.extract ((rd t531 x7_1) : Int).toNat ((rd t531 (ji8)) : Int).toNat) 0))) t539 _ A45.out).mono ?_); rintro e w47 ⟨rfl, hb⟩; have n0_ := Aside0.mk (Kd.R_below (by (with_reducible repeat (first | apply Kd.R_alloc | apply Kd.R_drewN | apply Kd.R_drew)); exact HO_6.out) hb); have n1_ := Aside0.mk (below_step (by repeat (first | (with_reducible first | exact HB.out | apply below_alloc | apply pw_below_drewN | apply below_drew1) | exact HB.out)) hb); clear HO_6; clear HB; have HO_6 := n0_; have HB := n1_; clear n0_ n1_; (try clear hb); (try clear hb2); (try clear hk); (try clear hi))); try go_wp2_with (first | (go_at_call 48; (with_reducible refine (dragomanref5_hex4.calls (wrap64 ((bt (a0.extract ((rd t531 x7_1) : Int).toNat ((rd t531 (ji8)) : Int).toNat) 0))) t539 _ A45.out).mono ?_); rintro e w47 ⟨rfl, hb⟩; have n0_ := Aside0.mk (Kd.R_below (by (with_reducible repeat (first | apply Kd.R_alloc | apply Kd.R_drewN | apply Kd.R_drew)); exact HO_6.out) hb); have n1_ := Aside0.mk (below_step (by repeat (first | (with_reducible first | exact HB.out | apply below_alloc | apply pw_below_drewN | apply below_drew1) | exact HB.out)) hb); clear HO_6; clear HB; have HO_6 := n0_; have HB := n1_; clear n0_ n1_; (try clear hb); (try clear hb2); (try clear hk); (try clear hi))))
                                                  go_roundg kj19
                                                  case measure => have := HK1.out; have := HJ19.out; omega
                                                  case rel => exact ⟨((x5_1 ++ (⟨#[92, 117]⟩ : ByteArray)) ++ t539), (wrap64 (x7_1 + 1)), (by first | rfl | (simp; done) | (simp [*]; done)), (by first | rfl | (simp; done) | (simp [*]; done)), H', ⟨by have := HK1.out; have := HJ19.out; omega⟩, ⟨by (with_reducible repeat (first | apply Kd.R_alloc | apply Kd.R_drewN | apply Kd.R_drew)); exact HO_6.out⟩, ⟨by repeat (first | (with_reducible first | exact HB.out | apply below_alloc | apply pw_below_drewN | apply below_drew1) | exact HB.out)⟩⟩
                                                · rw [if_neg c46] at H
                                                  exact absurd H (by simp)
                                              · rw [if_neg c44] at H
                                                exact absurd H (by simp)
                                            · rw [if_neg c43] at H
                                              have c43b0 : ((bt (a0.extract ((rd t531 x7_1) : Int).toNat ((rd t531 (ji8)) : Int).toNat) 0) == 127) = false := beq_eq_false_iff_ne.mpr c43
                                              have c43b1 : ((bt (a0.extract ((rd t531 x7_1) : Int).toNat ((rd t531 (ji8)) : Int).toNat) 0) != 127) = true := bne_iff_ne.mpr c43
                                              by_cases c48 : x5_1.size + (a0.extract ((rd t531 x7_1) : Int).toNat ((rd t531 (ji8)) : Int).toNat).size ≤ 9223372036854775807
                                              · rw [if_pos c48] at H
                                                have c48b0 := eq_true c48
                                                have c48b1 : decide (x5_1.size + (a0.extract ((rd t531 x7_1) : Int).toNat ((rd t531 (ji8)) : Int).toNat).size ≤ 9223372036854775807) = true := decide_eq_true c48
                                                try have c48b2 : (9223372036854775807 < x5_1.size + (a0.extract ((rd t531 x7_1) : Int).toNat ((rd t531 (ji8)) : Int).toNat).size) = False := eq_false (Nat.not_lt.2 c48)
                                                have H' := Aside0.mk H
                                                clear H
                                                go_wp2
                                                repeat (go_quiet (fail); try go_wp2)
                                                go_roundg kj19
                                                case measure => have := HK1.out; have := HJ19.out; omega
                                                case rel => exact ⟨(x5_1 ++ (a0.extract ((rd t531 x7_1) : Int).toNat ((rd t531 (ji8)) : Int).toNat)), (wrap64 (x7_1 + 1)), (by first | rfl | (simp; done) | (simp only [← hji8] <;> (first | rfl | simp)) | (simp [*]; done)), (by first | rfl | (simp; done) | (simp [*]; done)), H', ⟨by have := HK1.out; have := HJ19.out; omega⟩, ⟨by (with_reducible repeat (first | apply Kd.R_alloc | apply Kd.R_drewN | apply Kd.R_drew)); exact HO_6.out⟩, ⟨by repeat (first | (with_reducible first | exact HB.out | apply below_alloc | apply pw_below_drewN | apply below_drew1) | exact HB.out)⟩⟩
                                              · rw [if_neg c48] at H
                                                exact absurd H (by simp)
                                          · replace c42 := Bool.eq_false_iff.mpr c42
                                            subst c42
                                            have H1 : (if x5_1.size + (a0.extract ((rd t531 x7_1) : Int).toNat ((rd t531 (ji8)) : Int).toNat).size ≤ 9223372036854775807 then (dragomanref5_Quote.l0 kj19 a0 false (x5_1 ++ (a0.extract ((rd t531 x7_1) : Int).toNat ((rd t531 (ji8)) : Int).toNat)) t531 (wrap64 (x7_1 + 1))) else (none)) = some r := by rw [if_neg (show ¬ (false = true) by decide)] at H; exact H
                                            clear H
                                            have H := H1
                                            clear H1
                                            by_cases c49 : x5_1.size + (a0.extract ((rd t531 x7_1) : Int).toNat ((rd t531 (ji8)) : Int).toNat).size ≤ 9223372036854775807
                                            · rw [if_pos c49] at H
                                              have c49b0 := eq_true c49
                                              have c49b1 : decide (x5_1.size + (a0.extract ((rd t531 x7_1) : Int).toNat ((rd t531 (ji8)) : Int).toNat).size ≤ 9223372036854775807) = true := decide_eq_true c49
                                              try have c49b2 : (9223372036854775807 < x5_1.size + (a0.extract ((rd t531 x7_1) : Int).toNat ((rd t531 (ji8)) : Int).toNat).size) = False := eq_false (Nat.not_lt.2 c49)
                                              have H' := Aside0.mk H
                                              clear H
                                              go_wp2
                                              repeat (go_quiet (fail); try go_wp2)
                                              go_roundg kj19
                                              case measure => have := HK1.out; have := HJ19.out; omega
                                              case rel => exact ⟨(x5_1 ++ (a0.extract ((rd t531 x7_1) : Int).toNat ((rd t531 (ji8)) : Int).toNat)), (wrap64 (x7_1 + 1)), (by first | rfl | (simp; done) | (simp only [← hji8] <;> (first | rfl | simp)) | (simp [*]; done)), (by first | rfl | (simp; done) | (simp [*]; done)), H', ⟨by have := HK1.out; have := HJ19.out; omega⟩, ⟨by (with_reducible repeat (first | apply Kd.R_alloc | apply Kd.R_drewN | apply Kd.R_drew)); exact HO_6.out⟩, ⟨by repeat (first | (with_reducible first | exact HB.out | apply below_alloc | apply pw_below_drewN | apply below_drew1) | exact HB.out)⟩⟩
                                            · rw [if_neg c49] at H
                                              exact absurd H (by simp)
                    · rw [if_neg c14] at H
                      exact absurd H (by simp)
                  · rw [if_neg c12] at H
                    exact absurd H (by simp)
                · rw [if_neg c11] at H
                  exact absurd H (by simp)
              · rw [if_neg c10] at H
                exact absurd H (by simp)
            · rw [if_neg c9] at H
              exact absurd H (by simp)
          · rw [if_neg c7] at H
            exact absurd H (by simp)
        · rw [if_neg c6] at H
          exact absurd H (by simp)
      · rw [if_neg c5] at H
        have c5b0 : decide ((wrap64 (x7_1 + 1)) < (t531.length : Int)) = false := decide_eq_false c5
        clear c5
        by_cases c50 : x5_1.size + 1 ≤ 9223372036854775807
        · rw [if_pos c50] at H
          have c50b0 := eq_true c50
          have c50b1 : decide (x5_1.size + 1 ≤ 9223372036854775807) = true := decide_eq_true c50
          try have c50b2 : (9223372036854775807 < x5_1.size + 1) = False := eq_false (Nat.not_lt.2 c50)
          obtain rfl := Option.some.inj H
          obtain ⟨Ao51, co51, eo51⟩ := Kd.R_slice HO_6.out
          subst eo51
          go_wp2
          repeat (go_quiet (fail); try go_wp2)
          go_ret
          exact ⟨by first | rfl | (simp only [bne, Bool.not_not]; done) | (rw [pxdragomanref5quote_empty]; done) | (simp; exact pxdragomanref5quote_empty _) | (simp [errW_none, errW_some] <;> rfl) | (simp [*, errW_none, errW_some, bne]; done) | (simp [*, errW_none, errW_some] <;> rfl), by repeat (first | (with_reducible first | exact HB.out | apply below_alloc | apply pw_below_drewN | apply below_drew1) | exact HB.out)⟩
        · rw [if_neg c50] at H
          exact absurd H (by simp)
end Go.Proofs.YtoanbmggffkmgaaDoor.P
end
section
namespace Go.Proofs.YtoanbmggffkmgaaDoor.P
open Go.RowKit Go.Proofs.YtoanbmggffkmgaaDoorW.PrintWords Go.Proofs.YtoanbmggffkmgaaDoorW.PrintLast Go.Proofs.YtoanbmggffkmgaaDoorW.PrintMore
attribute [local go_sem] max2_int min2_int max_two min_two max_three min_three max_four min_four   -- for this text's walks alone
attribute [-simp] ByteArray.size_extract
theorem pxdragomanref5bare_empty (l : List UInt8) : l.isEmpty = !(l != []) := by cases l <;> rfl
set_option linter.unusedVariables false
set_option linter.unusedSimpArgs false
/-! ### dragomanref5_Bare: function 23 -/
def dragomanref5_Bare.l0 : Nat → ByteArray → Int → Option (Bool)
  | 0, _, _ => none
  | k + 1, x0, x3 => if x3 < (x0.size : Int) then (if 0 ≤ x3 then (if (bt x0 x3) ≥ 97 then (if (bt x0 x3) ≤ 122 then (dragomanref5_Bare.l0 k x0 (wrap64 (x3 + 1))) else (if (bt x0 x3) ≥ 65 then (if (bt x0 x3) ≤ 90 then (dragomanref5_Bare.l0 k x0 (wrap64 (x3 + 1))) else (if (bt x0 x3) ≥ 48 then (if (bt x0 x3) ≤ 57 then (dragomanref5_Bare.l0 k x0 (wrap64 (x3 + 1))) else (if (bt x0 x3) = 95 then (dragomanref5_Bare.l0 k x0 (wrap64 (x3 + 1))) else (if ((bt x0 x3) = 45) then (dragomanref5_Bare.l0 k x0 (wrap64 (x3 + 1))) else (some false)))) else (if (bt x0 x3) = 95 then (dragomanref5_Bare.l0 k x0 (wrap64 (x3 + 1))) else (if ((bt x0 x3) = 45) then (dragomanref5_Bare.l0 k x0 (wrap64 (x3 + 1))) else (some false))))) else (if (bt x0 x3) ≥ 48 then (if (bt x0 x3) ≤ 57 then (dragomanref5_Bare.l0 k x0 (wrap64 (x3 + 1))) else (if (bt x0 x3) = 95 then (dragomanref5_Bare.l0 k x0 (wrap64 (x3 + 1))) else (if ((bt x0 x3) = 45) then (dragomanref5_Bare.l0 k x0 (wrap64 (x3 + 1))) else (some false)))) else (if (bt x0 x3) = 95 then (dragomanref5_Bare.l0 k x0 (wrap64 (x3 + 1))) else (if ((bt x0 x3) = 45) then (dragomanref5_Bare.l0 k x0 (wrap64 (x3 + 1))) else (some false)))))) else (if (bt x0 x3) ≥ 65 then (if (bt x0 x3) ≤ 90 then (dragomanref5_Bare.l0 k x0 (wrap64 (x3 + 1))) else (if (bt x0 x3) ≥ 48 then (if (bt x0 x3) ≤ 57 then (dragomanref5_Bare.l0 k x0 (wrap64 (x3 + 1))) else (if (bt x0 x3) = 95 then (dragomanref5_Bare.l0 k x0 (wrap64 (x3 + 1))) else (if ((bt x0 x3) = 45) then (dragomanref5_Bare.l0 k x0 (wrap64 (x3 + 1))) else (some false)))) else (if (bt x0 x3) = 95 then (dragomanref5_Bare.l0 k x0 (wrap64 (x3 + 1))) else (if ((bt x0 x3) = 45) then (dragomanref5_Bare.l0 k x0 (wrap64 (x3 + 1))) else (some false))))) else (if (bt x0 x3) ≥ 48 then (if (bt x0 x3) ≤ 57 then (dragomanref5_Bare.l0 k x0 (wrap64 (x3 + 1))) else (if (bt x0 x3) = 95 then (dragomanref5_Bare.l0 k x0 (wrap64 (x3 + 1))) else (if ((bt x0 x3) = 45) then (dragomanref5_Bare.l0 k x0 (wrap64 (x3 + 1))) else (some false)))) else (if (bt x0 x3) = 95 then (dragomanref5_Bare.l0 k x0 (wrap64 (x3 + 1))) else (if ((bt x0 x3) = 45) then (dragomanref5_Bare.l0 k x0 (wrap64 (x3 + 1))) else (some false)))))) else (none)) else (some (x0.toList != ([] : List UInt8)))
def dragomanref5_Bare.f (k : Nat) (a0 : ByteArray) : Option (Bool) := dragomanref5_Bare.l0 k a0 0
set_option maxHeartbeats 8000000 in
set_option maxRecDepth 100000 in
theorem dragomanref5_Bare.calls (k : Nat) (a0 : ByteArray) (r : Bool) (w : World) (h : dragomanref5_Bare.f k a0 = some r) :
    Calls Tryd.prog 23 #[.string a0] w fun e w' => e = .returned (.bool r) ∧ Drawn0 w w' := by
  have H : (dragomanref5_Bare.l0 k a0 0) = some r := h
  clear h
  have H' := Aside0.mk H
  clear H
  go_enter Tryd.func23, Tryd.ntmps23
  go_wp2
  go_loopg [3] k (fun kq v3 w' => ∃ (x3_1 : Int), v3 = .int .i64 x3_1 ∧ Aside0 (dragomanref5_Bare.l0 kq a0 x3_1 = some r) ∧ Aside0 (kq ≤ k) ∧ Drawn0 w w')
  case atStart => exact ⟨(0), (by first | rfl | (simp; done) | (simp [*]; done)), H', ⟨Nat.le_refl _⟩, by repeat (first | exact Drawn0.refl _ | apply Drawn0.step)⟩
  case round =>
    clear H'
    obtain ⟨x3_1, rfl, HA, HK1, ⟨m1, rfl⟩⟩ := hrel
    cases gk with
    | zero => exact absurd HA.out (by simp [dragomanref5_Bare.l0])
    | succ k1 =>
      have H := HA.out
      clear HA
      simp only [dragomanref5_Bare.l0] at H
      by_cases c2 : x3_1 < (a0.size : Int)
      · rw [if_pos c2] at H
        have c2b0 : decide (x3_1 < (a0.size : Int)) = true := decide_eq_true c2
        clear c2
        by_cases c3 : 0 ≤ x3_1
        · rw [if_pos c3] at H
          have c3b0 : decide (0 ≤ x3_1) = true := decide_eq_true c3
          clear c3
          by_cases c5 : (bt a0 x3_1) ≥ 97
          · rw [if_pos c5] at H
            have c5b0 : decide (97 ≤ (bt a0 x3_1)) = true := decide_eq_true c5
            clear c5
            by_cases c6 : (bt a0 x3_1) ≤ 122
            · rw [if_pos c6] at H
              have c6b0 : decide ((bt a0 x3_1) ≤ 122) = true := decide_eq_true c6
              clear c6
              have H' := Aside0.mk H
              clear H
              have p4 : 0 ≤ (x3_1 : Int) := of_decide_eq_true (by first | (with_reducible assumption) | assumption)
              have q4 : x3_1 < (a0.size : Int) := of_decide_eq_true (by first | (with_reducible assumption) | assumption)
              have hx4 := bt_at a0 x3_1
              replace p4 := eq_true p4
              replace q4 := eq_true q4
              go_wp2
              go_roundg k1
              case measure => have := HK1.out; omega
              case rel => exact ⟨(wrap64 (x3_1 + 1)), (by first | rfl | (simp; done) | (simp [*]; done)), H', ⟨by have := HK1.out; omega⟩, by repeat (first | exact Drawn0.refl _ | apply Drawn0.step)⟩
            · rw [if_neg c6] at H
              have c6b0 : decide ((bt a0 x3_1) ≤ 122) = false := decide_eq_false c6
              clear c6
              by_cases c7 : (bt a0 x3_1) ≥ 65
              · rw [if_pos c7] at H
                have c7b0 : decide (65 ≤ (bt a0 x3_1)) = true := decide_eq_true c7
                clear c7
                by_cases c8 : (bt a0 x3_1) ≤ 90
                · rw [if_pos c8] at H
                  have c8b0 : decide ((bt a0 x3_1) ≤ 90) = true := decide_eq_true c8
                  clear c8
                  have H' := Aside0.mk H
                  clear H
                  have p4 : 0 ≤ (x3_1 : Int) := of_decide_eq_true (by first | (with_reducible assumption) | assumption)
                  have q4 : x3_1 < (a0.size : Int) := of_decide_eq_true (by first | (with_reducible assumption) | assumption)
                  have hx4 := bt_at a0 x3_1
                  replace p4 := eq_true p4
                  replace q4 := eq_true q4
                  go_wp2
                  go_roundg k1
                  case measure => have := HK1.out; omega
                  case rel => exact ⟨(wrap64 (x3_1 + 1)), (by first | rfl | (simp; done) | (simp [*]; done)), H', ⟨by have := HK1.out; omega⟩, by repeat (first | exact Drawn0.refl _ | apply Drawn0.step)⟩
                · rw [if_neg c8] at H
                  have c8b0 : decide ((bt a0 x3_1) ≤ 90) = false := decide_eq_false c8
                  clear c8
                  by_cases c9 : (bt a0 x3_1) ≥ 48
                  · rw [if_pos c9] at H
                    have c9b0 : decide (48 ≤ (bt a0 x3_1)) = true := decide_eq_true c9
                    clear c9
                    by_cases c10 : (bt a0 x3_1) ≤ 57
                    · rw [if_pos c10] at H
                      have c10b0 : decide ((bt a0 x3_1) ≤ 57) = true := decide_eq_true c10
                      clear c10
                      have H' := Aside0.mk H
                      clear H
                      have p4 : 0 ≤ (x3_1 : Int) := of_decide_eq_true (by first | (with_reducible assumption) | assumption)
                      have q4 : x3_1 < (a0.size : Int) := of_decide_eq_true (by first | (with_reducible assumption) | assumption)
                      have hx4 := bt_at a0 x3_1
                      replace p4 := eq_true p4
                      replace q4 := eq_true q4
                      go_wp2
                      go_roundg k1
                      case measure => have := HK1.out; omega
                      case rel => exact ⟨(wrap64 (x3_1 + 1)), (by first | rfl | (simp; done) | (simp [*]; done)), H', ⟨by have := HK1.out; omega⟩, by repeat (first | exact Drawn0.refl _ | apply Drawn0.step)⟩
                    · rw [if_neg c10] at H
                      have c10b0 : decide ((bt a0 x3_1) ≤ 57) = false := decide_eq_false c10
                      clear c10
                      by_cases c11 : (bt a0 x3_1) = 95
                      · rw [if_pos c11] at H
                        have c11b0 : ((bt a0 x3_1) == 95) = true := beq_iff_eq.mpr c11
                        have c11b1 : ((bt a0 x3_1) != 95) = false := bne_eq_false_iff_eq.mpr c11
                        clear c11
                        have H' := Aside0.mk H
                        clear H
                        have p4 : 0 ≤ (x3_1 : Int) := of_decide_eq_true (by first | (with_reducible assumption) | assumption)
                        have q4 : x3_1 < (a0.size : Int) := of_decide_eq_true (by first | (with_reducible assumption) | assumption)
                        have hx4 := bt_at a0 x3_1
                        replace p4 := eq_true p4
                        replace q4 := eq_true q4
                        go_wp2
                        go_roundg k1
                        case measure => have := HK1.out; omega
                        case rel => exact ⟨(wrap64 (x3_1 + 1)), (by first | rfl | (simp; done) | (simp [*]; done)), H', ⟨by have := HK1.out; omega⟩, by repeat (first | exact Drawn0.refl _ | apply Drawn0.step)⟩
                      · rw [if_neg c11] at H
                        have c11b0 : ((bt a0 x3_1) == 95) = false := beq_eq_false_iff_ne.mpr c11
                        have c11b1 : ((bt a0 x3_1) != 95) = true := bne_iff_ne.mpr c11
                        by_cases c12 : ((bt a0 x3_1) = 45)
                        · rw [if_pos c12] at H
                          have c12b0 : ((bt a0 x3_1) == 45) = true := beq_iff_eq.mpr c12
                          have c12b1 : ((bt a0 x3_1) != 45) = false := bne_eq_false_iff_eq.mpr c12
                          clear c12
                          have H' := Aside0.mk H
                          clear H
                          have p4 : 0 ≤ (x3_1 : Int) := of_decide_eq_true (by first | (with_reducible assumption) | assumption)
                          have q4 : x3_1 < (a0.size : Int) := of_decide_eq_true (by first | (with_reducible assumption) | assumption)
                          have hx4 := bt_at a0 x3_1
                          replace p4 := eq_true p4
                          replace q4 := eq_true q4
                          go_wp2
                          go_roundg k1
                          case measure => have := HK1.out; omega
                          case rel => exact ⟨(wrap64 (x3_1 + 1)), (by first | rfl | (simp; done) | (simp [*]; done)), H', ⟨by have := HK1.out; omega⟩, by repeat (first | exact Drawn0.refl _ | apply Drawn0.step)⟩
                        · rw [if_neg c12] at H
                          have c12b0 : ((bt a0 x3_1) == 45) = false := beq_eq_false_iff_ne.mpr c12
                          have c12b1 : ((bt a0 x3_1) != 45) = true := bne_iff_ne.mpr c12
                          obtain rfl := Option.some.inj H
                          have p4 : 0 ≤ (x3_1 : Int) := of_decide_eq_true (by first | (with_reducible assumption) | assumption)
                          have q4 : x3_1 < (a0.size : Int) := of_decide_eq_true (by first | (with_reducible assumption) | assumption)
                          have hx4 := bt_at a0 x3_1
                          replace p4 := eq_true p4
                          replace q4 := eq_true q4
                          go_wp2
                          go_ret
                          exact ⟨by first | rfl | (simp only [bne, Bool.not_not]; done) | (rw [pxdragomanref5bare_empty]; done) | (simp; exact pxdragomanref5bare_empty _) | (simp; done) | (simp [*]; done), by repeat (first | exact Drawn0.refl _ | apply Drawn0.step)⟩
                  · rw [if_neg c9] at H
                    have c9b0 : decide (48 ≤ (bt a0 x3_1)) = false := decide_eq_false c9
                    clear c9
                    by_cases c13 : (bt a0 x3_1) = 95
                    · rw [if_pos c13] at H
                      have c13b0 : ((bt a0 x3_1) == 95) = true := beq_iff_eq.mpr c13
                      have c13b1 : ((bt a0 x3_1) != 95) = false := bne_eq_false_iff_eq.mpr c13
                      clear c13
                      have H' := Aside0.mk H
                      clear H
                      have p4 : 0 ≤ (x3_1 : Int) := of_decide_eq_true (by first | (with_reducible assumption) | assumption)
                      have q4 : x3_1 < (a0.size : Int) := of_decide_eq_true (by first | (with_reducible assumption) | assumption)
                      have hx4 := bt_at a0 x3_1
                      replace p4 := eq_true p4
                      replace q4 := eq_true q4
                      go_wp2
                      go_roundg k1
                      case measure => have := HK1.out; omega
                      case rel => exact ⟨(wrap64 (x3_1 + 1)), (by first | rfl | (simp; done) | (simp [*]; done)), H', ⟨by have := HK1.out; omega⟩, by repeat (first | exact Drawn0.refl _ | apply Drawn0.step)⟩
                    · rw [if_neg c13] at H
                      have c13b0 : ((bt a0 x3_1) == 95) = false := beq_eq_false_iff_ne.mpr c13
                      have c13b1 : ((bt a0 x3_1) != 95) = true := bne_iff_ne.mpr c13
                      by_cases c14 : ((bt a0 x3_1) = 45)
                      · rw [if_pos c14] at H
                        have c14b0 : ((bt a0 x3_1) == 45) = true := beq_iff_eq.mpr c14
                        have c14b1 : ((bt a0 x3_1) != 45) = false := bne_eq_false_iff_eq.mpr c14
                        clear c14
                        have H' := Aside0.mk H
                        clear H
                        have p4 : 0 ≤ (x3_1 : Int) := of_decide_eq_true (by first | (with_reducible assumption) | assumption)
                        have q4 : x3_1 < (a0.size : Int) := of_decide_eq_true (by first | (with_reducible assumption) | assumption)
                        have hx4 := bt_at a0 x3_1
                        replace p4 := eq_true p4
                        replace q4 := eq_true q4
                        go_wp2
                        go_roundg k1
                        case measure => have := HK1.out; omega
                        case rel => exact ⟨(wrap64 (x3_1 + 1)), (by first | rfl | (simp; done) | (simp [*]; done)), H', ⟨by have := HK1.out; omega⟩, by repeat (first | exact Drawn0.refl _ | apply Drawn0.step)⟩
                      · rw [if_neg c14] at H
                        have c14b0 : ((bt a0 x3_1) == 45) = false := beq_eq_false_iff_ne.mpr c14
                        have c14b1 : ((bt a0 x3_1) != 45) = true := bne_iff_ne.mpr c14
                        obtain rfl := Option.some.inj H
                        have p4 : 0 ≤ (x3_1 : Int) := of_decide_eq_true (by first | (with_reducible assumption) | assumption)
                        have q4 : x3_1 < (a0.size : Int) := of_decide_eq_true (by first | (with_reducible assumption) | assumption)
                        have hx4 := bt_at a0 x3_1
                        replace p4 := eq_true p4
                        replace q4 := eq_true q4
                        go_wp2
                        go_ret
                        exact ⟨by first | rfl | (simp only [bne, Bool.not_not]; done) | (rw [pxdragomanref5bare_empty]; done) | (simp; exact pxdragomanref5bare_empty _) | (simp; done) | (simp [*]; done), by repeat (first | exact Drawn0.refl _ | apply Drawn0.step)⟩
              · rw [if_neg c7] at H
                have c7b0 : decide (65 ≤ (bt a0 x3_1)) = false := decide_eq_false c7
                clear c7
                by_cases c15 : (bt a0 x3_1) ≥ 48
                · rw [if_pos c15] at H
                  have c15b0 : decide (48 ≤ (bt a0 x3_1)) = true := decide_eq_true c15
                  clear c15
                  by_cases c16 : (bt a0 x3_1) ≤ 57
                  · rw [if_pos c16] at H
                    have c16b0 : decide ((bt a0 x3_1) ≤ 57) = true := decide_eq_true c16
                    clear c16
                    have H' := Aside0.mk H
                    clear H
                    have p4 : 0 ≤ (x3_1 : Int) := of_decide_eq_true (by first | (with_reducible assumption) | assumption)
                    have q4 : x3_1 < (a0.size : Int) := of_decide_eq_true (by first | (with_reducible assumption) | assumption)
                    have hx4 := bt_at a0 x3_1
                    replace p4 := eq_true p4
                    replace q4 := eq_true q4
                    go_wp2
                    go_roundg k1
                    case measure => have := HK1.out; omega
                    case rel => exact ⟨(wrap64 (x3_1 + 1)), (by first | rfl | (simp; done) | (simp [*]; done)), H', ⟨by have := HK1.out; omega⟩, by repeat (first | exact Drawn0.refl _ | apply Drawn0.step)⟩
                  · rw [if_neg c16] at H
                    have c16b0 : decide ((bt a0 x3_1) ≤ 57) = false := decide_eq_false c16
                    clear c16
                    by_cases c17 : (bt a0 x3_1) = 95
                    · rw [if_pos c17] at H
                      have c17b0 : ((bt a0 x3_1) == 95) = true := beq_iff_eq.mpr c17
                      have c17b1 : ((bt a0 x3_1) != 95) = false := bne_eq_false_iff_eq.mpr c17
                      clear c17
                      have H' := Aside0.mk H
                      clear H
                      have p4 : 0 ≤ (x3_1 : Int) := of_decide_eq_true (by first | (with_reducible assumption) | assumption)
                      have q4 : x3_1 < (a0.size : Int) := of_decide_eq_true (by first | (with_reducible assumption) | assumption)
                      have hx4 := bt_at a0 x3_1
                      replace p4 := eq_true p4
                      replace q4 := eq_true q4
                      go_wp2
                      go_roundg k1
                      case measure => have := HK1.out; omega
                      case rel => exact ⟨(wrap64 (x3_1 + 1)), (by first | rfl | (simp; done) | (simp [*]; done)), H', ⟨by have := HK1.out; omega⟩, by repeat (first | exact Drawn0.refl _ | apply Drawn0.step)⟩
                    · rw [if_neg c17] at H
                      have c17b0 : ((bt a0 x3_1) == 95) = false := beq_eq_false_iff_ne.mpr c17
                      have c17b1 : ((bt a0 x3_1) != 95) = true := bne_iff_ne.mpr c17
                      by_cases c18 : ((bt a0 x3_1) = 45)
                      · rw [if_pos c18] at H
                        have c18b0 : ((bt a0 x3_1) == 45) = true := beq_iff_eq.mpr c18
                        have c18b1 : ((bt a0 x3_1) != 45) = false := bne_eq_false_iff_eq.mpr c18
                        clear c18
                        have H' := Aside0.mk H
                        clear H
                        have p4 : 0 ≤ (x3_1 : Int) := of_decide_eq_true (by first | (with_reducible assumption) | assumption)
                        have q4 : x3_1 < (a0.size : Int) := of_decide_eq_true (by first | (with_reducible assumption) | assumption)
                        have hx4 := bt_at a0 x3_1
                        replace p4 := eq_true p4
                        replace q4 := eq_true q4
                        go_wp2
                        go_roundg k1
                        case measure => have := HK1.out; omega
                        case rel => exact ⟨(wrap64 (x3_1 + 1)), (by first | rfl | (simp; done) | (simp [*]; done)), H', ⟨by have := HK1.out; omega⟩, by repeat (first | exact Drawn0.refl _ | apply Drawn0.step)⟩
                      · rw [if_neg c18] at H
                        have c18b0 : ((bt a0 x3_1) == 45) = false := beq_eq_false_iff_ne.mpr c18
                        have c18b1 : ((bt a0 x3_1) != 45) = true := bne_iff_ne.mpr c18
                        obtain rfl := Option.some.inj H
                        have p4 : 0 ≤ (x3_1 : Int) := of_decide_eq_true (by first | (with_reducible assumption) | assumption)
                        have q4 : x3_1 < (a0.size : Int) := of_decide_eq_true (by first | (with_reducible assumption) | assumption)
                        have hx4 := bt_at a0 x3_1
                        replace p4 := eq_true p4
                        replace q4 := eq_true q4
                        go_wp2
                        go_ret
                        exact ⟨by first | rfl | (simp only [bne, Bool.not_not]; done) | (rw [pxdragomanref5bare_empty]; done) | (simp; exact pxdragomanref5bare_empty _) | (simp; done) | (simp [*]; done), by repeat (first | exact Drawn0.refl _ | apply Drawn0.step)⟩
                · rw [if_neg c15] at H
                  have c15b0 : decide (48 ≤ (bt a0 x3_1)) = false := decide_eq_false c15
                  clear c15
                  by_cases c19 : (bt a0 x3_1) = 95
                  · rw [if_pos c19] at H
                    have c19b0 : ((bt a0 x3_1) == 95) = true := beq_iff_eq.mpr c19
                    have c19b1 : ((bt a0 x3_1) != 95) = false := bne_eq_false_iff_eq.mpr c19
                    clear c19
                    have H' := Aside0.mk H
                    clear H
                    have p4 : 0 ≤ (x3_1 : Int) := of_decide_eq_true (by first | (with_reducible assumption) | assumption)
                    have q4 : x3_1 < (a0.size : Int) := of_decide_eq_true (by first | (with_reducible assumption) | assumption)
                    have hx4 := bt_at a0 x3_1
                    replace p4 := eq_true p4
                    replace q4 := eq_true q4
                    go_wp2
                    go_roundg k1
                    case measure => have := HK1.out; omega
                    case rel => exact ⟨(wrap64 (x3_1 + 1)), (by first | rfl | (simp; done) | (simp [*]; done)), H', ⟨by have := HK1.out; omega⟩, by repeat (first | exact Drawn0.refl _ | apply Drawn0.step)⟩
                  · rw [if_neg c19] at H
                    have c19b0 : ((bt a0 x3_1) == 95) = false := beq_eq_false_iff_ne.mpr c19
                    have c19b1 : ((bt a0 x3_1) != 95) = true := bne_iff_ne.mpr c19
                    by_cases c20 : ((bt a0 x3_1) = 45)
                    · rw [if_pos c20] at H
                      have c20b0 : ((bt a0 x3_1) == 45) = true := beq_iff_eq.mpr c20
                      have c20b1 : ((bt a0 x3_1) != 45) = false := bne_eq_false_iff_eq.mpr c20
                      clear c20
                      have H' := Aside0.mk H
                      clear H
                      have p4 : 0 ≤ (x3_1 : Int) := of_decide_eq_true (by first | (with_reducible assumption) | assumption)
                      have q4 : x3_1 < (a0.size : Int) := of_decide_eq_true (by first | (with_reducible assumption) | assumption)
                      have hx4 := bt_at a0 x3_1
                      replace p4 := eq_true p4
                      replace q4 := eq_true q4
                      go_wp2
                      go_roundg k1
                      case measure => have := HK1.out; omega
                      case rel => exact ⟨(wrap64 (x3_1 + 1)), (by first | rfl | (simp; done) | (simp [*]; done)), H', ⟨by have := HK1.out; omega⟩, by repeat (first | exact Drawn0.refl _ | apply Drawn0.step)⟩
                    · rw [if_neg c20] at H
                      have c20b0 : ((bt a0 x3_1) == 45) = false := beq_eq_false_iff_ne.mpr c20
                      have c20b1 : ((bt a0 x3_1) != 45) = true := bne_iff_ne.mpr c20
                      obtain rfl := Option.some.inj H
                      have p4 : 0 ≤ (x3_1 : Int) := of_decide_eq_true (by first | (with_reducible assumption) | assumption)
                      have q4 : x3_1 < (a0.size : Int) := of_decide_eq_true (by first | (with_reducible assumption) | assumption)
                      have hx4 := bt_at a0 x3_1
                      replace p4 := eq_true p4
                      replace q4 := eq_true q4
                      go_wp2
                      go_ret
                      exact ⟨by first | rfl | (simp only [bne, Bool.not_not]; done) | (rw [pxdragomanref5bare_empty]; done) | (simp; exact pxdragomanref5bare_empty _) | (simp; done) | (simp [*]; done), by repeat (first | exact Drawn0.refl _ | apply Drawn0.step)⟩
          · rw [if_neg c5] at H
            have c5b0 : decide (97 ≤ (bt a0 x3_1)) = false := decide_eq_false c5
            clear c5
            by_cases c21 : (bt a0 x3_1) ≥ 65
            · rw [if_pos c21] at H
              have c21b0 : decide (65 ≤ (bt a0 x3_1)) = true := decide_eq_true c21
              clear c21
              by_cases c22 : (bt a0 x3_1) ≤ 90
              · rw [if_pos c22] at H
                have c22b0 : decide ((bt a0 x3_1) ≤ 90) = true := decide_eq_true c22
                clear c22
                have H' := Aside0.mk H
                clear H
                have p4 : 0 ≤ (x3_1 : Int) := of_decide_eq_true (by first | (with_reducible assumption) | assumption)
                have q4 : x3_1 < (a0.size : Int) := of_decide_eq_true (by first | (with_reducible assumption) | assumption)
                have hx4 := bt_at a0 x3_1
                replace p4 := eq_true p4
                replace q4 := eq_true q4
                go_wp2
                go_roundg k1
                case measure => have := HK1.out; omega
                case rel => exact ⟨(wrap64 (x3_1 + 1)), (by first | rfl | (simp; done) | (simp [*]; done)), H', ⟨by have := HK1.out; omega⟩, by repeat (first | exact Drawn0.refl _ | apply Drawn0.step)⟩
              · rw [if_neg c22] at H
                have c22b0 : decide ((bt a0 x3_1) ≤ 90) = false := decide_eq_false c22
                clear c22
                by_cases c23 : (bt a0 x3_1) ≥ 48
                · rw [if_pos c23] at H
                  have c23b0 : decide (48 ≤ (bt a0 x3_1)) = true := decide_eq_true c23
                  clear c23
                  by_cases c24 : (bt a0 x3_1) ≤ 57
                  · rw [if_pos c24] at H
                    have c24b0 : decide ((bt a0 x3_1) ≤ 57) = true := decide_eq_true c24
                    clear c24
                    have H' := Aside0.mk H
                    clear H
                    have p4 : 0 ≤ (x3_1 : Int) := of_decide_eq_true (by first | (with_reducible assumption) | assumption)
                    have q4 : x3_1 < (a0.size : Int) := of_decide_eq_true (by first | (with_reducible assumption) | assumption)
                    have hx4 := bt_at a0 x3_1
                    replace p4 := eq_true p4
                    replace q4 := eq_true q4
                    go_wp2
                    go_roundg k1
                    case measure => have := HK1.out; omega
                    case rel => exact ⟨(wrap64 (x3_1 + 1)), (by first | rfl | (simp; done) | (simp [*]; done)), H', ⟨by have := HK1.out; omega⟩, by repeat (first | exact Drawn0.refl _ | apply Drawn0.step)⟩
                  · rw [if_neg c24] at H
                    have c24b0 : decide ((bt a0 x3_1) ≤ 57) = false := decide_eq_false c24
                    clear c24
                    by_cases c25 : (bt a0 x3_1) = 95
                    · rw [if_pos c25] at H
                      have c25b0 : ((bt a0 x3_1) == 95) = true := beq_iff_eq.mpr c25
                      have c25b1 : ((bt a0 x3_1) != 95) = false := bne_eq_false_iff_eq.mpr c25
                      clear c25
                      have H' := Aside0.mk H
                      clear H
                      have p4 : 0 ≤ (x3_1 : Int) := of_decide_eq_true (by first | (with_reducible assumption) | assumption)
                      have q4 : x3_1 < (a0.size : Int) := of_decide_eq_true (by first | (with_reducible assumption) | assumption)
                      have hx4 := bt_at a0 x3_1
                      replace p4 := eq_true p4
                      replace q4 := eq_true q4
                      go_wp2
                      go_roundg k1
                      case measure => have := HK1.out; omega
                      case rel => exact ⟨(wrap64 (x3_1 + 1)), (by first | rfl | (simp; done) | (simp [*]; done)), H', ⟨by have := HK1.out; omega⟩, by repeat (first | exact Drawn0.refl _ | apply Drawn0.step)⟩
                    · rw [if_neg c25] at H
                      have c25b0 : ((bt a0 x3_1) == 95) = false := beq_eq_false_iff_ne.mpr c25
                      have c25b1 : ((bt a0 x3_1) != 95) = true := bne_iff_ne.mpr c25
                      by_cases c26 : ((bt a0 x3_1) = 45)
                      · rw [if_pos c26] at H
                        have c26b0 : ((bt a0 x3_1) == 45) = true := beq_iff_eq.mpr c26
                        have c26b1 : ((bt a0 x3_1) != 45) = false := bne_eq_false_iff_eq.mpr c26
                        clear c26
                        have H' := Aside0.mk H
                        clear H
                        have p4 : 0 ≤ (x3_1 : Int) := of_decide_eq_true (by first | (with_reducible assumption) | assumption)
                        have q4 : x3_1 < (a0.size : Int) := of_decide_eq_true (by first | (with_reducible assumption) | assumption)
                        have hx4 := bt_at a0 x3_1
                        replace p4 := eq_true p4
                        replace q4 := eq_true q4
                        go_wp2
                        go_roundg k1
                        case measure => have := HK1.out; omega
                        case rel => exact ⟨(wrap64 (x3_1 + 1)), (by first | rfl | (simp; done) | (simp [*]; done)), H', ⟨by have := HK1.out; omega⟩, by repeat (first | exact Drawn0.refl _ | apply Drawn0.step)⟩
                      · rw [if_neg c26] at H
                        have c26b0 : ((bt a0 x3_1) == 45) = false := beq_eq_false_iff_ne.mpr c26
                        have c26b1 : ((bt a0 x3_1) != 45) = true := bne_iff_ne.mpr c26
                        obtain rfl := Option.some.inj H
                        have p4 : 0 ≤ (x3_1 : Int) := of_decide_eq_true (by first | (with_reducible assumption) | assumption)
                        have q4 : x3_1 < (a0.size : Int) := of_decide_eq_true (by first | (with_reducible assumption) | assumption)
                        have hx4 := bt_at a0 x3_1
                        replace p4 := eq_true p4
                        replace q4 := eq_true q4
                        go_wp2
                        go_ret
                        exact ⟨by first | rfl | (simp only [bne, Bool.not_not]; done) | (rw [pxdragomanref5bare_empty]; done) | (simp; exact pxdragomanref5bare_empty _) | (simp; done) | (simp [*]; done), by repeat (first | exact Drawn0.refl _ | apply Drawn0.step)⟩
                · rw [if_neg c23] at H
                  have c23b0 : decide (48 ≤ (bt a0 x3_1)) = false := decide_eq_false c23
                  clear c23
                  by_cases c27 : (bt a0 x3_1) = 95
                  · rw [if_pos c27] at H
                    have c27b0 : ((bt a0 x3_1) == 95) = true := beq_iff_eq.mpr c27
                    have c27b1 : ((bt a0 x3_1) != 95) = false := bne_eq_false_iff_eq.mpr c27
                    clear c27
                    have H' := Aside0.mk H
                    clear H
                    have p4 : 0 ≤ (x3_1 : Int) := of_decide_eq_true (by first | (with_reducible assumption) | assumption)
                    have q4 : x3_1 < (a0.size : Int) := of_decide_eq_true (by first | (with_reducible assumption) | assumption)
                    have hx4 := bt_at a0 x3_1
                    replace p4 := eq_true p4
                    replace q4 := eq_true q4
                    go_wp2
                    go_roundg k1
                    case measure => have := HK1.out; omega
                    case rel => exact ⟨(wrap64 (x3_1 + 1)), (by first | rfl | (simp; done) | (simp [*]; done)), H', ⟨by have := HK1.out; omega⟩, by repeat (first | exact Drawn0.refl _ | apply Drawn0.step)⟩
                  · rw [if_neg c27] at H
                    have c27b0 : ((bt a0 x3_1) == 95) = false := beq_eq_false_iff_ne.mpr c27
                    have c27b1 : ((bt a0 x3_1) != 95) = true := bne_iff_ne.mpr c27
                    by_cases c28 : ((bt a0 x3_1) = 45)
                    · rw [if_pos c28] at H
                      have c28b0 : ((bt a0 x3_1) == 45) = true := beq_iff_eq.mpr c28
                      have c28b1 : ((bt a0 x3_1) != 45) = false := bne_eq_false_iff_eq.mpr c28
                      clear c28
                      have H' := Aside0.mk H
                      clear H
                      have p4 : 0 ≤ (x3_1 : Int) := of_decide_eq_true (by first | (with_reducible assumption) | assumption)
                      have q4 : x3_1 < (a0.size : Int) := of_decide_eq_true (by first | (with_reducible assumption) | assumption)
                      have hx4 := bt_at a0 x3_1
                      replace p4 := eq_true p4
                      replace q4 := eq_true q4
                      go_wp2
                      go_roundg k1
                      case measure => have := HK1.out; omega
                      case rel => exact ⟨(wrap64 (x3_1 + 1)), (by first | rfl | (simp; done) | (simp [*]; done)), H', ⟨by have := HK1.out; omega⟩, by repeat (first | exact Drawn0.refl _ | apply Drawn0.step)⟩
                    · rw [if_neg c28] at H
                      have c28b0 : ((bt a0 x3_1) == 45) = false := beq_eq_false_iff_ne.mpr c28
                      have c28b1 : ((bt a0 x3_1) != 45) = true := bne_iff_ne.mpr c28
                      obtain rfl := Option.some.inj H
                      have p4 : 0 ≤ (x3_1 : Int) := of_decide_eq_true (by first | (with_reducible assumption) | assumption)
                      have q4 : x3_1 < (a0.size : Int) := of_decide_eq_true (by first | (with_reducible assumption) | assumption)
                      have hx4 := bt_at a0 x3_1
                      replace p4 := eq_true p4
                      replace q4 := eq_true q4
                      go_wp2
                      go_ret
                      exact ⟨by first | rfl | (simp only [bne, Bool.not_not]; done) | (rw [pxdragomanref5bare_empty]; done) | (simp; exact pxdragomanref5bare_empty _) | (simp; done) | (simp [*]; done), by repeat (first | exact Drawn0.refl _ | apply Drawn0.step)⟩
            · rw [if_neg c21] at H
              have c21b0 : decide (65 ≤ (bt a0 x3_1)) = false := decide_eq_false c21
              clear c21
              by_cases c29 : (bt a0 x3_1) ≥ 48
              · rw [if_pos c29] at H
                have c29b0 : decide (48 ≤ (bt a0 x3_1)) = true := decide_eq_true c29
                clear c29
                by_cases c30 : (bt a0 x3_1) ≤ 57
                · rw [if_pos c30] at H
                  have c30b0 : decide ((bt a0 x3_1) ≤ 57) = true := decide_eq_true c30
                  clear c30
                  have H' := Aside0.mk H
                  clear H
                  have p4 : 0 ≤ (x3_1 : Int) := of_decide_eq_true (by first | (with_reducible assumption) | assumption)
                  have q4 : x3_1 < (a0.size : Int) := of_decide_eq_true (by first | (with_reducible assumption) | assumption)
                  have hx4 := bt_at a0 x3_1
                  replace p4 := eq_true p4
                  replace q4 := eq_true q4
                  go_wp2
                  go_roundg k1
                  case measure => have := HK1.out; omega
                  case rel => exact ⟨(wrap64 (x3_1 + 1)), (by first | rfl | (simp; done) | (simp [*]; done)), H', ⟨by have := HK1.out; omega⟩, by repeat (first | exact Drawn0.refl _ | apply Drawn0.step)⟩
                · rw [if_neg c30] at H
                  have c30b0 : decide ((bt a0 x3_1) ≤ 57) = false := decide_eq_false c30
                  clear c30
                  by_cases c31 : (bt a0 x3_1) = 95
                  · rw [if_pos c31] at H
                    have c31b0 : ((bt a0 x3_1) == 95) = true := beq_iff_eq.mpr c31
                    have c31b1 : ((bt a0 x3_1) != 95) = false := bne_eq_false_iff_eq.mpr c31
                    clear c31
                    have H' := Aside0.mk H
                    clear H
                    have p4 : 0 ≤ (x3_1 : Int) := of_decide_eq_true (by first | (with_reducible assumption) | assumption)
                    have q4 : x3_1 < (a0.size : Int) := of_decide_eq_true (by first | (with_reducible assumption) | assumption)
                    have hx4 := bt_at a0 x3_1
                    replace p4 := eq_true p4
                    replace q4 := eq_true q4
                    go_wp2
                    go_roundg k1
                    case measure => have := HK1.out; omega
                    case rel => exact ⟨(wrap64 (x3_1 + 1)), (by first | rfl | (simp; done) | (simp [*]; done)), H', ⟨by have := HK1.out; omega⟩, by repeat (first | exact Drawn0.refl _ | apply Drawn0.step)⟩
                  · rw [if_neg c31] at H
                    have c31b0 : ((bt a0 x3_1) == 95) = false := beq_eq_false_iff_ne.mpr c31
                    have c31b1 : ((bt a0 x3_1) != 95) = true := bne_iff_ne.mpr c31
                    by_cases c32 : ((bt a0 x3_1) = 45)
                    · rw [if_pos c32] at H
                      have c32b0 : ((bt a0 x3_1) == 45) = true := beq_iff_eq.mpr c32
                      have c32b1 : ((bt a0 x3_1) != 45) = false := bne_eq_false_iff_eq.mpr c32
                      clear c32
                      have H' := Aside0.mk H
                      clear H
                      have p4 : 0 ≤ (x3_1 : Int) := of_decide_eq_true (by first | (with_reducible assumption) | assumption)
                      have q4 : x3_1 < (a0.size : Int) := of_decide_eq_true (by first | (with_reducible assumption) | assumption)
                      have hx4 := bt_at a0 x3_1
                      replace p4 := eq_true p4
                      replace q4 := eq_true q4
                      go_wp2
                      go_roundg k1
                      case measure => have := HK1.out; omega
                      case rel => exact ⟨(wrap64 (x3_1 + 1)), (by first | rfl | (simp; done) | (simp [*]; done)), H', ⟨by have := HK1.out; omega⟩, by repeat (first | exact Drawn0.refl _ | apply Drawn0.step)⟩
                    · rw [if_neg c32] at H
                      have c32b0 : ((bt a0 x3_1) == 45) = false := beq_eq_false_iff_ne.mpr c32
                      have c32b1 : ((bt a0 x3_1) != 45) = true := bne_iff_ne.mpr c32
                      obtain rfl := Option.some.inj H
                      have p4 : 0 ≤ (x3_1 : Int) := of_decide_eq_true (by first | (with_reducible assumption) | assumption)
                      have q4 : x3_1 < (a0.size : Int) := of_decide_eq_true (by first | (with_reducible assumption) | assumption)
                      have hx4 := bt_at a0 x3_1
                      replace p4 := eq_true p4
                      replace q4 := eq_true q4
                      go_wp2
                      go_ret
                      exact ⟨by first | rfl | (simp only [bne, Bool.not_not]; done) | (rw [pxdragomanref5bare_empty]; done) | (simp; exact pxdragomanref5bare_empty _) | (simp; done) | (simp [*]; done), by repeat (first | exact Drawn0.refl _ | apply Drawn0.step)⟩
              · rw [if_neg c29] at H
                have c29b0 : decide (48 ≤ (bt a0 x3_1)) = false := decide_eq_false c29
                clear c29
                by_cases c33 : (bt a0 x3_1) = 95
                · rw [if_pos c33] at H
                  have c33b0 : ((bt a0 x3_1) == 95) = true := beq_iff_eq.mpr c33
                  have c33b1 : ((bt a0 x3_1) != 95) = false := bne_eq_false_iff_eq.mpr c33
                  clear c33
                  have H' := Aside0.mk H
                  clear H
                  have p4 : 0 ≤ (x3_1 : Int) := of_decide_eq_true (by first | (with_reducible assumption) | assumption)
                  have q4 : x3_1 < (a0.size : Int) := of_decide_eq_true (by first | (with_reducible assumption) | assumption)
                  have hx4 := bt_at a0 x3_1
                  replace p4 := eq_true p4
                  replace q4 := eq_true q4
                  go_wp2
                  go_roundg k1
                  case measure => have := HK1.out; omega
                  case rel => exact ⟨(wrap64 (x3_1 + 1)), (by first | rfl | (simp; done) | (simp [*]; done)), H', ⟨by have := HK1.out; omega⟩, by repeat (first | exact Drawn0.refl _ | apply Drawn0.step)⟩
                · rw [if_neg c33] at H
                  have c33b0 : ((bt a0 x3_1) == 95) = false := beq_eq_false_iff_ne.mpr c33
                  have c33b1 : ((bt a0 x3_1) != 95) = true := bne_iff_ne.mpr c33
                  by_cases c34 : ((bt a0 x3_1) = 45)
                  · rw [if_pos c34] at H
                    have c34b0 : ((bt a0 x3_1) == 45) = true := beq_iff_eq.mpr c34
                    have c34b1 : ((bt a0 x3_1) != 45) = false := bne_eq_false_iff_eq.mpr c34
                    clear c34
                    have H' := Aside0.mk H
                    clear H
                    have p4 : 0 ≤ (x3_1 : Int) := of_decide_eq_true (by first | (with_reducible assumption) | assumption)
                    have q4 : x3_1 < (a0.size : Int) := of_decide_eq_true (by first | (with_reducible assumption) | assumption)
                    have hx4 := bt_at a0 x3_1
                    replace p4 := eq_true p4
                    replace q4 := eq_true q4
                    go_wp2
                    go_roundg k1
                    case measure => have := HK1.out; omega
                    case rel => exact ⟨(wrap64 (x3_1 + 1)), (by first | rfl | (simp; done) | (simp [*]; done)), H', ⟨by have := HK1.out; omega⟩, by repeat (first | exact Drawn0.refl _ | apply Drawn0.step)⟩
                  · rw [if_neg c34] at H
                    have c34b0 : ((bt a0 x3_1) == 45) = false := beq_eq_false_iff_ne.mpr c34
                    have c34b1 : ((bt a0 x3_1) != 45) = true := bne_iff_ne.mpr c34
                    obtain rfl := Option.some.inj H
                    have p4 : 0 ≤ (x3_1 : Int) := of_decide_eq_true (by first | (with_reducible assumption) | assumption)
                    have q4 : x3_1 < (a0.size : Int) := of_decide_eq_true (by first | (with_reducible assumption) | assumption)
                    have hx4 := bt_at a0 x3_1
                    replace p4 := eq_true p4
                    replace q4 := eq_true q4
                    go_wp2
                    go_ret
                    exact ⟨by first | rfl | (simp only [bne, Bool.not_not]; done) | (rw [pxdragomanref5bare_empty]; done) | (simp; exact pxdragomanref5bare_empty _) | (simp; done) | (simp [*]; done), by repeat (first | exact Drawn0.refl _ | apply Drawn0.step)⟩
        · rw [if_neg c3] at H
          exact absurd H (by simp)
      · rw [if_neg c2] at H
        have c2b0 : decide (x3_1 < (a0.size : Int)) = false := decide_eq_false c2
        clear c2
        obtain rfl := Option.some.inj H
        go_wp2
        go_ret
        exact ⟨by first | rfl | (simp only [bne, Bool.not_not]; done) | (rw [pxdragomanref5bare_empty]; done) | (simp; exact pxdragomanref5bare_empty _) | (simp; done) | (simp [*]; done), by repeat (first | exact Drawn0.refl _ | apply Drawn0.step)⟩
end Go.Proofs.YtoanbmggffkmgaaDoor.P
end
section
namespace Go.Proofs.YtoanbmggffkmgaaDoor.La
def good (r : Int) : Prop := 0 ≤ r ∧ r ≤ 1114111 ∧ (r < 55296 ∨ 57343 < r)
theorem good_iff {r : Int} : good r ↔ 0 ≤ r ∧ r ≤ 1114111 ∧ (r < 55296 ∨ 57343 < r) := Iff.rfl
instance (r : Int) : Decidable (good r) := by unfold good; infer_instance
def enc (r : Int) : List Int :=
  if r < 128 then [r] else if r < 2048 then [192 + r / 64, 128 + r % 64]
  else if r < 65536 then [224 + r / 4096, 128 + r / 64 % 64, 128 + r % 64]
  else [240 + r / 262144, 128 + r / 4096 % 64, 128 + r / 64 % 64, 128 + r % 64]
def tk2 (a b : Int) : Int := (a - 192) * 64 + (b - 128)
def tk3 (a b c : Int) : Int := (a - 224) * 4096 + (b - 128) * 64 + (c - 128)
def tk4 (a b c d : Int) : Int := (a - 240) * 262144 + (b - 128) * 4096 + (c - 128) * 64 + (d - 128)
/-- The letter that a list begins with, and how many bytes it has; 0, 0: none. -/
def tk : List Int → Int × Int
  | [] => (0, 0)
  | a :: t =>
    if a < 128 then (a, 1)
    else if a < 192 then (0, 0)
    else if a < 224 then
      match t with
      | b :: _ => if 128 ≤ b ∧ b < 192 ∧ 128 ≤ tk2 a b then (tk2 a b, 2) else (0, 0)
      | [] => (0, 0)
    else if a < 240 then
      match t with
      | b :: c :: _ => if 128 ≤ b ∧ b < 192 ∧ 128 ≤ c ∧ c < 192 ∧ 2048 ≤ tk3 a b c ∧ (tk3 a b c < 55296 ∨ 57343 < tk3 a b c) then (tk3 a b c, 3) else (0, 0)
      | _ => (0, 0)
    else if a < 248 then
      match t with
      | b :: c :: d :: _ => if 128 ≤ b ∧ b < 192 ∧ 128 ≤ c ∧ c < 192 ∧ 128 ≤ d ∧ d < 192 ∧ 65536 ≤ tk4 a b c d ∧ tk4 a b c d ≤ 1114111 then (tk4 a b c d, 4) else (0, 0)
      | _ => (0, 0)
    else (0, 0)
theorem enc_len (r : Int) : 1 ≤ (enc r).length ∧ (enc r).length ≤ 4 := by
  unfold enc
  split
  · simp
  · split
    · simp
    · split <;> simp
theorem enc_bytes {r : Int} (h : good r) : ∀ x ∈ enc r, 0 ≤ x ∧ x < 256 := by
  unfold good at h
  intro x hx
  unfold enc at hx
  split at hx
  · simp at hx; omega
  · split at hx
    · simp at hx; omega
    · split at hx <;> (simp at hx; omega)
theorem tk_enc {r : Int} (h : good r) (m : List Int) : tk (enc r ++ m) = (r, ((enc r).length : Int)) := by
  unfold good at h
  unfold enc
  split
  · rename_i h1
    simp [tk, h1]
  · rename_i h1
    split
    · rename_i h2
      have e1 : ¬ (192 + r / 64 < 128) := by omega
      have e2 : ¬ (192 + r / 64 < 192) := by omega
      have e3 : 192 + r / 64 < 224 := by omega
      have e4 : tk2 (192 + r / 64) (128 + r % 64) = r := by unfold tk2; omega
      simp only [List.cons_append, List.nil_append, tk, if_neg e1, if_neg e2, if_pos e3, e4]
      rw [if_pos (by omega)]
      simp
    · rename_i h2
      split
      · rename_i h3
        have e1 : ¬ (224 + r / 4096 < 128) := by omega
        have e2 : ¬ (224 + r / 4096 < 192) := by omega
        have e3 : ¬ (224 + r / 4096 < 224) := by omega
        have e3' : 224 + r / 4096 < 240 := by omega
        have e4 : tk3 (224 + r / 4096) (128 + r / 64 % 64) (128 + r % 64) = r := by unfold tk3; omega
        simp only [List.cons_append, List.nil_append, tk, if_neg e1, if_neg e2, if_neg e3, if_pos e3', e4]
        rw [if_pos (by omega)]
        simp
      · rename_i h3
        have e1 : ¬ (240 + r / 262144 < 128) := by omega
        have e2 : ¬ (240 + r / 262144 < 192) := by omega
        have e3 : ¬ (240 + r / 262144 < 224) := by omega
        have e3' : ¬ (240 + r / 262144 < 240) := by omega
        have e3'' : 240 + r / 262144 < 248 := by omega
        have e4 : tk4 (240 + r / 262144) (128 + r / 4096 % 64) (128 + r / 64 % 64) (128 + r % 64) = r := by unfold tk4; omega
        simp only [List.cons_append, List.nil_append, tk, if_neg e1, if_neg e2, if_neg e3, if_neg e3', if_pos e3'', e4]
        rw [if_pos (by omega)]
        simp
/-- What is read was written. -/
theorem tk_inv (l : List Int) (hl : ∀ x ∈ l, 0 ≤ x ∧ x < 256) : tk l = (0, 0) ∨ (good (tk l).1 ∧ (tk l).2 = ((enc (tk l).1).length : Int) ∧ ∃ m, l = enc (tk l).1 ++ m) := by
  match l with
  | [] => exact .inl rfl
  | a :: t =>
    have ha := hl a List.mem_cons_self
    simp only [tk]
    split
    · rename_i h1
      refine .inr ⟨by unfold good; omega, ?_, t, ?_⟩ <;> simp [enc, h1]
    · rename_i h1
      split
      · exact .inl rfl
      · rename_i h2
        split
        · rename_i h3
          match t with
          | [] => exact .inl rfl
          | b :: t =>
            simp only
            split
            · rename_i h4
              have hr : ¬ (tk2 a b < 128) := by omega
              have hr' : tk2 a b < 2048 := by unfold tk2; omega
              refine .inr ⟨by unfold good; omega, ?_, t, ?_⟩
              · simp [enc, hr, hr']
              · simp only [enc, if_neg hr, if_pos hr']
                have e1 : 192 + tk2 a b / 64 = a := by unfold tk2; omega
                have e2 : 128 + tk2 a b % 64 = b := by unfold tk2; omega
                rw [e1, e2]
                rfl
            · exact .inl rfl
        · rename_i h3
          split
          · rename_i h4
            match t with
            | [] => exact .inl rfl
            | [_] => exact .inl rfl
            | b :: c :: t =>
              simp only
              split
              · rename_i h5
                have hr : ¬ (tk3 a b c < 128) := by omega
                have hr' : ¬ (tk3 a b c < 2048) := by omega
                have hr'' : tk3 a b c < 65536 := by unfold tk3; omega
                refine .inr ⟨by unfold good; omega, ?_, t, ?_⟩
                · simp [enc, hr, hr', hr'']
                · simp only [enc, if_neg hr, if_neg hr', if_pos hr'']
                  have e1 : 224 + tk3 a b c / 4096 = a := by unfold tk3; omega
                  have e2 : 128 + tk3 a b c / 64 % 64 = b := by unfold tk3; omega
                  have e3 : 128 + tk3 a b c % 64 = c := by unfold tk3; omega
                  rw [e1, e2, e3]
                  rfl
              · exact .inl rfl
          · rename_i h4
            split
            · rename_i h4'
              match t with
              | [] => exact .inl rfl
              | [_] => exact .inl rfl
              | [_, _] => exact .inl rfl
              | b :: c :: d :: t =>
                simp only
                split
                · rename_i h5
                  have hr : ¬ (tk4 a b c d < 128) := by omega
                  have hr' : ¬ (tk4 a b c d < 2048) := by omega
                  have hr'' : ¬ (tk4 a b c d < 65536) := by omega
                  refine .inr ⟨by unfold good; omega, ?_, t, ?_⟩
                  · simp [enc, hr, hr', hr'']
                  · simp only [enc, if_neg hr, if_neg hr', if_neg hr'']
                    have e1 : 240 + tk4 a b c d / 262144 = a := by unfold tk4; omega
                    have e2 : 128 + tk4 a b c d / 4096 % 64 = b := by unfold tk4; omega
                    have e3 : 128 + tk4 a b c d / 64 % 64 = c := by unfold tk4; omega
                    have e4 : 128 + tk4 a b c d % 64 = d := by unfold tk4; omega
                    rw [e1, e2, e3, e4]
                    rfl
                · exact .inl rfl
            · exact .inl rfl
/-- How far the reading goes on. -/
def stp (l : List Int) : Nat := if (tk l).2 = 0 then 1 else (tk l).2.toNat
theorem tk_bound (l : List Int) (hl : ∀ x ∈ l, 0 ≤ x ∧ x < 256) : 0 ≤ (tk l).2 ∧ (tk l).2 ≤ 4 ∧ (tk l).2 ≤ l.length ∧ 0 ≤ (tk l).1 ∧ (tk l).1 ≤ 1114111 := by
  rcases tk_inv l hl with h | ⟨hg, hn, m, hm⟩
  · rw [h]; simp
  · have := enc_len (tk l).1
    have h2 : l.length = (enc (tk l).1).length + m.length := by
      have := congrArg List.length hm
      rwa [List.length_append] at this
    unfold good at hg
    omega
theorem stp_pos (l : List Int) (hl : ∀ x ∈ l, 0 ≤ x ∧ x < 256) : 1 ≤ stp l ∧ stp l ≤ 4 := by
  have := tk_bound l hl
  unfold stp
  split <;> omega
theorem stp_pos' (l : List Int) : 1 ≤ stp l := by
  unfold stp
  split
  · omega
  · have : 0 ≤ (tk l).2 := by
      match l with
      | [] => simp [tk]
      | a :: t =>
        unfold tk
        (repeat' split) <;> simp
    omega
theorem stp_le {l : List Int} (hl : ∀ x ∈ l, 0 ≤ x ∧ x < 256) (h : l ≠ []) : stp l ≤ l.length := by
  have := tk_bound l hl
  have : 0 < l.length := List.length_pos_iff.2 h
  unfold stp
  split <;> omega
theorem drop_lt {l : List Int} (h : l ≠ []) : (l.drop (stp l)).length < l.length := by
  have := stp_pos' l
  have : 0 < l.length := List.length_pos_iff.2 h
  rw [List.length_drop]
  omega
/-- How many letters. -/
def cnt (l : List Int) : Nat := if _h : l = [] then 0 else cnt (l.drop (stp l)) + 1
termination_by l.length
decreasing_by exact drop_lt (by assumption)
/-- Where the first byte stands that begins none. -/
def bad (l : List Int) : Option Nat := if _h : l = [] then none else if (tk l).2 = 0 then some 0 else (bad (l.drop (stp l))).map (· + stp l)
termination_by l.length
decreasing_by exact drop_lt (by assumption)
/-- Where letters begin, and the end. -/
def sts (l : List Int) : List Nat := if _h : l = [] then [0] else 0 :: (sts (l.drop (stp l))).map (· + stp l)
termination_by l.length
decreasing_by exact drop_lt (by assumption)
theorem cnt_nil : cnt [] = 0 := by rw [cnt]; simp
theorem cnt_step {l : List Int} (h : l ≠ []) : cnt l = cnt (l.drop (stp l)) + 1 := by rw [cnt, dif_neg h]
theorem sts_nil : sts [] = [0] := by rw [sts]; simp
theorem sts_step {l : List Int} (h : l ≠ []) : sts l = 0 :: (sts (l.drop (stp l))).map (· + stp l) := by rw [sts, dif_neg h]
theorem bad_nil : bad [] = none := by rw [bad]; simp
theorem bad_none {l : List Int} (h : l ≠ []) (h0 : (tk l).2 = 0) : bad l = some 0 := by rw [bad, dif_neg h, if_pos h0]
theorem bad_step {l : List Int} (h : l ≠ []) (h0 : (tk l).2 ≠ 0) : bad l = (bad (l.drop (stp l))).map (· + stp l) := by rw [bad, dif_neg h, if_neg h0]
theorem sts_len (l : List Int) : (sts l).length = cnt l + 1 := by
  by_cases h : l = []
  · subst h; rw [sts_nil, cnt_nil]; rfl
  · rw [sts_step h, cnt_step h, List.length_cons, List.length_map, sts_len (l.drop (stp l))]
termination_by l.length
decreasing_by exact drop_lt h
theorem cnt_le (l : List Int) : cnt l ≤ l.length := by
  by_cases h : l = []
  · subst h; rw [cnt_nil]; simp
  · have := cnt_le (l.drop (stp l))
    have := drop_lt h
    rw [cnt_step h]
    omega
termination_by l.length
decreasing_by exact drop_lt h
end Go.Proofs.YtoanbmggffkmgaaDoor.La
end
section
namespace Go.Proofs.YtoanbmggffkmgaaDoor.La
open Go.RowKit Go.Proofs.YtoanbmggffkmgaaDoor.P Go.Proofs.YtoanbmggffkmgaaDoorW.PrintWords Go.Proofs.YtoanbmggffkmgaaDoorW.PrintLast Go.Proofs.YtoanbmggffkmgaaDoorW.PrintMore
theorem wraps_i64 (n : Int) (h₀ : 0 ≤ n) (h₁ : n < 2 ^ 62) : IntKind.i64.wrap n = n := by rw [IntKind.wrap_i64]; omega
theorem i64_or6 {x y : Int} (hx₀ : 0 ≤ x) (hx : x % 64 = 0) (hx₁ : x < 2 ^ 62) (h₀ : 0 ≤ y) (h₁ : y < 64) : Go.bits .or .i64 x y = x + y :=
  bits_join .i64 62 (by decide) wraps_i64 6 x y hx₀ hx hx₁ h₀ h₁ (by omega)
theorem i64_and63 {x : Int} (h₀ : 0 ≤ x) (h₁ : x < 2 ^ 62) : Go.bits .and .i64 x 63 = x % 64 := bits_mask .i64 62 (by decide) wraps_i64 6 (by decide) x h₀ h₁
theorem i64_or128 {y : Int} (h₀ : 0 ≤ y) (h₁ : y < 64) : Go.bits .or .i64 128 y = 128 + y := bits_join .i64 62 (by decide) wraps_i64 6 128 y (by decide) (by decide) (by decide) h₀ h₁ (by omega)
theorem i64_or192 {y : Int} (h₀ : 0 ≤ y) (h₁ : y < 32) : Go.bits .or .i64 192 y = 192 + y := bits_join .i64 62 (by decide) wraps_i64 5 192 y (by decide) (by decide) (by decide) h₀ h₁ (by omega)
theorem i64_or224 {y : Int} (h₀ : 0 ≤ y) (h₁ : y < 16) : Go.bits .or .i64 224 y = 224 + y := bits_join .i64 62 (by decide) wraps_i64 4 224 y (by decide) (by decide) (by decide) h₀ h₁ (by omega)
theorem i64_or240 {y : Int} (h₀ : 0 ≤ y) (h₁ : y < 8) : Go.bits .or .i64 240 y = 240 + y := bits_join .i64 62 (by decide) wraps_i64 3 240 y (by decide) (by decide) (by decide) h₀ h₁ (by omega)
theorem byte_cont : ∀ b : Fin 256, decide (Go.bits .and .u8 (b.val : Int) 192 = 128) = decide (128 ≤ b.val ∧ b.val < 192) := by decide +kernel
theorem cont_iff {b : Int} (h0 : 0 ≤ b) (h1 : b < 256) : Go.bits .and .u8 b 192 = 128 ↔ 128 ≤ b ∧ b < 192 := by
  obtain ⟨n, rfl⟩ := Int.eq_ofNat_of_zero_le h0
  have := decide_eq_decide.1 (byte_cont ⟨n, by omega⟩)
  simp only at this
  rw [this]
  omega
theorem byte_not : ∀ b : Fin 256, (192 ≤ b.val → b.val < 224 → Go.bits .andNot .u8 (b.val : Int) 192 = (b.val : Int) - 192) ∧ (224 ≤ b.val → b.val < 240 → Go.bits .andNot .u8 (b.val : Int) 224 = (b.val : Int) - 224) ∧ (240 ≤ b.val → b.val < 248 → Go.bits .andNot .u8 (b.val : Int) 240 = (b.val : Int) - 240) := by
  decide +kernel
theorem not192 {b : Int} (h0 : 192 ≤ b) (h1 : b < 224) : Go.bits .andNot .u8 b 192 = b - 192 := by
  obtain ⟨n, rfl⟩ := Int.eq_ofNat_of_zero_le (show 0 ≤ b by omega)
  exact (byte_not ⟨n, by omega⟩).1 (by simp only; omega) (by simp only; omega)
theorem not224 {b : Int} (h0 : 224 ≤ b) (h1 : b < 240) : Go.bits .andNot .u8 b 224 = b - 224 := by
  obtain ⟨n, rfl⟩ := Int.eq_ofNat_of_zero_le (show 0 ≤ b by omega)
  exact (byte_not ⟨n, by omega⟩).2.1 (by simp only; omega) (by simp only; omega)
theorem not240 {b : Int} (h0 : 240 ≤ b) (h1 : b < 248) : Go.bits .andNot .u8 b 240 = b - 240 := by
  obtain ⟨n, rfl⟩ := Int.eq_ofNat_of_zero_le (show 0 ≤ b by omega)
  exact (byte_not ⟨n, by omega⟩).2.2 (by simp only; omega) (by simp only; omega)
theorem good_eq (r : Int) : utf_Good.f r = some (decide (good r)) := by
  unfold utf_Good.f
  split
  · split
    · split
      · rw [decide_eq_true (good_iff.2 (by omega))]
      · exact congrArg some (decide_eq_decide.2 (by rw [good_iff]; omega))
    · rw [decide_eq_false (fun h => by rw [good_iff] at h; omega)]
  · rw [decide_eq_false (fun h => by rw [good_iff] at h; omega)]
def siz (r : Int) : Int := if r < 128 then 1 else if r < 2048 then 2 else if r < 65536 then 3 else 4
theorem size_eq (r : Int) : utf_size.f r = some (siz r) := by
  unfold utf_size.f siz
  (repeat' split) <;> rfl
theorem begins_eq {b : Int} (h0 : 0 ≤ b) (h1 : b < 256) : utf_begins.f b = some (if b < 128 then (1, b) else if b < 192 then (0, 0) else if b < 224 then (2, b - 192) else if b < 240 then (3, b - 224) else if b < 248 then (4, b - 240) else (0, 0)) := by
  unfold utf_begins.f
  split
  · rw [wrap_id (by omega) (by omega)]
  · split
    · rfl
    · split
      · rw [not192 (by omega) (by omega), wrap_id (by omega) (by omega)]
      · split
        · rw [not224 (by omega) (by omega), wrap_id (by omega) (by omega)]
        · split
          · rw [not240 (by omega) (by omega), wrap_id (by omega) (by omega)]
          · rfl
theorem siz1 {r : Int} : siz r = 1 ↔ r < 128 := by unfold siz; (repeat' split) <;> omega
theorem siz2 {r : Int} : siz r = 2 ↔ 128 ≤ r ∧ r < 2048 := by unfold siz; (repeat' split) <;> omega
theorem siz3 {r : Int} : siz r = 3 ↔ 2048 ≤ r ∧ r < 65536 := by unfold siz; (repeat' split) <;> omega
theorem siz4 {r : Int} : siz r = 4 ↔ 65536 ≤ r := by unfold siz; (repeat' split) <;> omega
def ends (r n : Int) : Int × Int := if good r ∧ siz r = n then (r, n) else (0, 0)
theorem l0_end (k : Nat) (s : ByteArray) {n r i : Int} (h : ¬ i < n) : utf_Take.l0 (k + 1) s n r i = some (ends r n) := by
  simp only [utf_Take.l0]
  rw [if_neg h, good_eq, Option.bind_some, size_eq, Option.bind_some]
  unfold ends
  by_cases hg : good r
  · rw [if_pos (decide_eq_true hg)]
    by_cases hs : siz r = n
    · rw [if_pos hs, if_pos ⟨hg, hs⟩]
    · rw [if_neg hs, if_neg (fun h => hs h.2)]
  · rw [if_neg (by simpa using hg), if_neg (fun h => hg h.1)]
theorem l0_bad (k : Nat) (s : ByteArray) {n r i : Int} (h : i < n) (h0 : 0 ≤ i) (hs : i < s.size) (hb : ¬ (128 ≤ bt s i ∧ bt s i < 192)) : utf_Take.l0 (k + 1) s n r i = some (0, 0) := by
  have hr := bt_range s i
  simp only [utf_Take.l0]
  rw [if_pos h, if_pos h0, if_pos hs, if_neg (fun he => hb ((cont_iff (by omega) (by omega)).1 he))]
theorem l0_more (k : Nat) (s : ByteArray) {n r i : Int} (h : i < n) (h0 : 0 ≤ i) (hs : i < s.size) (hb : 128 ≤ bt s i ∧ bt s i < 192) (r0 : 0 ≤ r) (r1 : r < 2097152) (i1 : i < 10) : utf_Take.l0 (k + 1) s n r i = utf_Take.l0 k s n (r * 64 + (bt s i - 128)) (i + 1) := by
  simp only [utf_Take.l0]
  rw [if_pos h, if_pos h0, if_pos hs, if_pos ((cont_iff (by omega) (by omega)).2 hb), u8_and63 _ (by omega) (by omega), wrap_id (n := r * 64) (by omega) (by omega), wrap_id (n := bt s i % 64) (by omega) (by omega), wrap_id (n := i + 1) (by omega) (by omega),
    i64_or6 (by omega) (by omega) (by omega) (by omega) (by omega), show bt s i % 64 = bt s i - 128 by omega]
theorem take_eq (k : Nat) (s : ByteArray) : utf_Take.f (k + 6) s = some (tk (bytesOf s)) := by
  have hB := bytes_of s
  have hS := size_of s
  generalize hl : bytesOf s = l at hB hS
  have hbt : ∀ i, bt s i = l.getD i.toNat 0 := fun i => by rw [bt_get, hl]
  unfold utf_Take.f
  match l with
  | [] => rw [if_pos ((toList_nil_iff s).2 hl)]; rfl
  | a :: t =>
    have ha := hB a List.mem_cons_self
    have h0 : bt s 0 = a := by rw [hbt]; rfl
    rw [if_neg (fun h => by rw [toList_nil_iff, hl] at h; cases h), if_pos (by rw [← hS]; simp), h0, begins_eq ha.1 ha.2, Option.bind_some]
    have hsz : (s.size : Int) = (t.length : Int) + 1 := by rw [← hS]; simp
    simp only [tk]
    by_cases c1 : a < 128
    · simp only [if_pos c1]
      rw [if_neg (by decide), decide_eq_false (by omega)]
      simp only [utf_Take.j0]
      rw [if_neg (by decide), l0_end _ _ (by decide)]
      unfold ends
      rw [if_pos ⟨good_iff.2 (by omega), siz1.2 c1⟩]
    · simp only [if_neg c1]
      by_cases c2 : a < 192
      · simp only [if_pos c2]
        rw [if_pos trivial]
        simp only [utf_Take.j0]
        rw [if_pos trivial]
      · simp only [if_neg c2]
        by_cases c3 : a < 224
        · simp only [if_pos c3]
          rw [if_neg (by decide)]
          simp only [utf_Take.j0]
          match t with
          | [] =>
            simp at hsz
            dsimp only
            rw [if_pos (decide_eq_true (by omega))]
          | b :: t =>
            simp at hsz
            dsimp only
            have hb : bt s 1 = b := by rw [hbt]; rfl
            rw [if_neg (by simp; omega)]
            have hr := hB b (by simp)
            by_cases k1 : 128 ≤ b ∧ b < 192
            · rw [l0_more _ _ (by decide) (by decide) (by omega) (by rw [hb]; exact k1) (by omega) (by omega) (by decide), l0_end _ _ (by decide), hb]
              have e : (a - 192) * 64 + (b - 128) = tk2 a b := rfl
              rw [e]
              unfold ends
              simp only [siz2, good_iff]
              have e1 : 0 ≤ tk2 a b ∧ tk2 a b < 2048 := by unfold tk2; omega
              by_cases k2 : 128 ≤ tk2 a b
              · rw [if_pos (by omega), if_pos (by omega)]
              · rw [if_neg (by omega), if_neg (by omega)]
            · rw [l0_bad _ _ (by decide) (by decide) (by omega) (by rw [hb]; exact k1), if_neg (by omega)]
        · simp only [if_neg c3]
          by_cases c4 : a < 240
          · simp only [if_pos c4]
            rw [if_neg (by decide)]
            simp only [utf_Take.j0]
            match t with
            | [] =>
              simp at hsz
              dsimp only
              rw [if_pos (decide_eq_true (by omega))]
            | [b] =>
              simp at hsz
              dsimp only
              rw [if_pos (decide_eq_true (by omega))]
            | b :: c :: t =>
              simp at hsz
              dsimp only
              have hb : bt s 1 = b := by rw [hbt]; rfl
              have hc : bt s 2 = c := by rw [hbt]; rfl
              rw [if_neg (by simp; omega)]
              have hr := hB b (by simp)
              have hr2 := hB c (by simp)
              by_cases k1 : 128 ≤ b ∧ b < 192
              · rw [l0_more _ _ (by decide) (by decide) (by omega) (by rw [hb]; exact k1) (by omega) (by omega) (by decide), hb]
                by_cases k2 : 128 ≤ c ∧ c < 192
                · rw [l0_more _ _ (by decide) (by decide) (by omega) (by rw [show (1 : Int) + 1 = 2 by decide, hc]; exact k2) (by omega) (by omega) (by decide), l0_end _ _ (by decide), show (1 : Int) + 1 = 2 by decide, hc]
                  have e : ((a - 224) * 64 + (b - 128)) * 64 + (c - 128) = tk3 a b c := by unfold tk3; omega
                  rw [e]
                  unfold ends
                  simp only [siz3, good_iff]
                  have e1 : 0 ≤ tk3 a b c ∧ tk3 a b c < 65536 := by unfold tk3; omega
                  by_cases k3 : 2048 ≤ tk3 a b c ∧ (tk3 a b c < 55296 ∨ 57343 < tk3 a b c)
                  · rw [if_pos (by omega), if_pos (by omega)]
                  · rw [if_neg (by omega), if_neg (by omega)]
                · rw [l0_bad _ _ (by decide) (by decide) (by omega) (by rw [show (1 : Int) + 1 = 2 by decide, hc]; exact k2), if_neg (by omega)]
              · rw [l0_bad _ _ (by decide) (by decide) (by omega) (by rw [hb]; exact k1), if_neg (by omega)]
          · simp only [if_neg c4]
            by_cases c5 : a < 248
            · simp only [if_pos c5]
              rw [if_neg (by decide)]
              simp only [utf_Take.j0]
              match t with
              | [] =>
                simp at hsz
                dsimp only
                rw [if_pos (decide_eq_true (by omega))]
              | [b] =>
                simp at hsz
                dsimp only
                rw [if_pos (decide_eq_true (by omega))]
              | [b, c] =>
                simp at hsz
                dsimp only
                rw [if_pos (decide_eq_true (by omega))]
              | b :: c :: d :: t =>
                simp at hsz
                dsimp only
                have hb : bt s 1 = b := by rw [hbt]; rfl
                have hc : bt s 2 = c := by rw [hbt]; rfl
                have hd : bt s 3 = d := by rw [hbt]; rfl
                rw [if_neg (by simp; omega)]
                have hr := hB b (by simp)
                have hr2 := hB c (by simp)
                have hr3 := hB d (by simp)
                by_cases k1 : 128 ≤ b ∧ b < 192
                · rw [l0_more _ _ (by decide) (by decide) (by omega) (by rw [hb]; exact k1) (by omega) (by omega) (by decide), hb]
                  by_cases k2 : 128 ≤ c ∧ c < 192
                  · rw [l0_more _ _ (by decide) (by decide) (by omega) (by rw [show (1 : Int) + 1 = 2 by decide, hc]; exact k2) (by omega) (by omega) (by decide), show (1 : Int) + 1 = 2 by decide, hc]
                    by_cases k3 : 128 ≤ d ∧ d < 192
                    · rw [l0_more _ _ (by decide) (by decide) (by omega) (by rw [show (2 : Int) + 1 = 3 by decide, hd]; exact k3) (by omega) (by omega) (by decide), l0_end _ _ (by decide), show (2 : Int) + 1 = 3 by decide, hd]
                      have e : (((a - 240) * 64 + (b - 128)) * 64 + (c - 128)) * 64 + (d - 128) = tk4 a b c d := by unfold tk4; omega
                      rw [e]
                      unfold ends
                      simp only [siz4, good_iff]
                      have e1 : 0 ≤ tk4 a b c d := by unfold tk4; omega
                      by_cases k3 : 65536 ≤ tk4 a b c d ∧ tk4 a b c d ≤ 1114111
                      · rw [if_pos (by omega), if_pos (by omega)]
                      · rw [if_neg (by omega), if_neg (by omega)]
                    · rw [l0_bad _ _ (by decide) (by decide) (by omega) (by rw [show (2 : Int) + 1 = 3 by decide, hd]; exact k3), if_neg (by omega)]
                  · rw [l0_bad _ _ (by decide) (by decide) (by omega) (by rw [show (1 : Int) + 1 = 2 by decide, hc]; exact k2), if_neg (by omega)]
                · rw [l0_bad _ _ (by decide) (by decide) (by omega) (by rw [hb]; exact k1), if_neg (by omega)]
            · simp only [if_neg c5]
              rw [if_pos trivial]
              simp only [utf_Take.j0]
              rw [if_pos trivial]
theorem take_ev (s : ByteArray) : Ev (fun k => utf_Take.f k s) (tk (bytesOf s)) := ⟨6, fun k hk => by
  obtain ⟨m, rfl⟩ : ∃ m, k = m + 6 := ⟨k - 6, by omega⟩
  exact take_eq m s⟩
end Go.Proofs.YtoanbmggffkmgaaDoor.La
end
section
namespace Go.Proofs.YtoanbmggffkmgaaDoor.La
open Go.RowKit Go.Proofs.YtoanbmggffkmgaaDoor.P Go.Proofs.YtoanbmggffkmgaaDoorW.PrintWords Go.Proofs.YtoanbmggffkmgaaDoorW.PrintLast Go.Proofs.YtoanbmggffkmgaaDoorW.PrintMore
theorem stp_int {l : List Int} (hl : Bytes l) (h : (tk l).2 ≠ 0) : (tk l).2 = (stp l : Int) := by
  have := tk_bound l hl
  unfold stp
  rw [if_neg h]
  omega
theorem put_eq (l : List Int) (r : Int) (hl : l.length ≤ 140737488355000) : utf_Put.f l r = some (if good r then l ++ enc r else l) := by
  unfold utf_Put.f
  have hw : wrap64 ((l.length : Int) + 4) = (l.length : Int) + 4 := wrap_id (by omega) (by omega)
  rw [hw, if_pos (by omega), if_pos (by omega)]
  simp only [Option.bind_some, List.length_nil, List.nil_append]
  rw [if_pos (by omega)]
  by_cases hg : good r
  · have hg' := good_iff.1 hg
    rw [good_eq, Option.bind_some, if_pos (decide_eq_true hg), size_eq, Option.bind_some, if_pos hg]
    unfold enc
    by_cases c1 : r < 128
    · rw [if_pos (siz1.2 c1), if_pos (by omega), if_pos c1, show r % 256 = r by omega]
    · rw [if_neg (fun h => c1 (siz1.1 h)), if_neg c1]
      by_cases c2 : r < 2048
      · rw [if_pos (siz2.2 (by omega)), if_pos c2]
        rw [if_pos (by simp; omega), i64_and63 (by omega) (by omega), i64_or128 (by omega) (by omega), i64_or192 (by omega) (by omega), show (192 + r / 64) % 256 = 192 + r / 64 by omega, show (128 + r % 64) % 256 = 128 + r % 64 by omega]
      · rw [if_neg (fun h => by have := siz2.1 h; omega), if_neg c2]
        by_cases c3 : r < 65536
        · rw [if_pos (siz3.2 (by omega)), if_pos c3]
          rw [if_pos (by simp; omega), i64_and63 (by omega) (by omega), i64_and63 (by omega) (by omega), i64_or128 (by omega) (by omega), i64_or128 (by omega) (by omega), i64_or224 (by omega) (by omega), show (224 + r / 4096) % 256 = 224 + r / 4096 by omega, show (128 + r / 64 % 64) % 256 = 128 + r / 64 % 64 by omega, show (128 + r % 64) % 256 = 128 + r % 64 by omega]
        · rw [if_neg (fun h => by have := siz3.1 h; omega), if_neg c3]
          rw [if_pos (by simp; omega), i64_and63 (by omega) (by omega), i64_and63 (by omega) (by omega), i64_and63 (by omega) (by omega), i64_or128 (by omega) (by omega), i64_or128 (by omega) (by omega), i64_or128 (by omega) (by omega), i64_or240 (by omega) (by omega), show (240 + r / 262144) % 256 = 240 + r / 262144 by omega, show (128 + r / 4096 % 64) % 256 = 128 + r / 4096 % 64 by omega, show (128 + r / 64 % 64) % 256 = 128 + r / 64 % 64 by omega, show (128 + r % 64) % 256 = 128 + r % 64 by omega]
  · rw [good_eq, Option.bind_some, if_neg (by simpa using hg), if_neg hg]
end Go.Proofs.YtoanbmggffkmgaaDoor.La
end
section
namespace Go.Proofs.YtoanbmggffkmgaaDoor.P
open Go.RowKit Go.Proofs.YtoanbmggffkmgaaDoor.La Go.Proofs.YtoanbmggffkmgaaDoorW.PrintWords Go.Proofs.YtoanbmggffkmgaaDoorW.PrintLast Go.Proofs.YtoanbmggffkmgaaDoorW.PrintMore
/-- Block g holds a reader: its text, its place, and a row of its own that reads as bs. -/
def Rdr (B : Nat) (w : World) (g : Nat) (text : ByteArray) (at_ : Int) (bs : List Int) : Prop :=
  B ≤ g ∧ ∃ bv, w.heap[g]? = some (.cells #[.string text, .int .i64 at_, bv] 63 (0, 0)) ∧ Kd.R (Kd.int .u8) 5 w B (fun k => k ≠ g) bv bs
theorem rblk_set {w : World} {g t : Nat} {cs : Array Value} (h : w.heap[g]? = some (.cells cs t (0, 0))) (i : Nat) (u : Value) : (w.setCell ⟨g, i, none⟩ u).heap[g]? = some (.cells (cs.setIfInBounds i u) t (0, 0)) := by
  simp [World.setCell, Array.getElem?_modify, h]
theorem rblk_far {w : World} {g k i : Nat} (hne : k ≠ g) (u : Value) : (w.setCell ⟨g, i, none⟩ u).heap[k]? = w.heap[k]? := by
  simp [World.setCell, Array.getElem?_modify, Ne.symm hne]
theorem rblk_lt {w : World} {g : Nat} {o : Obj} (h : w.heap[g]? = some o) : g < w.heap.size := by
  rcases Nat.lt_or_ge g w.heap.size with hlt | hge
  · exact hlt
  · rw [Array.getElem?_eq_none hge] at h; cases h
theorem rblk_cell {w : World} {g t : Nat} {cs : Array Value} (h : w.heap[g]? = some (.cells cs t (0, 0))) (i : Nat) : w.cell? ⟨g, i, none⟩ = cs[i]? := cell_of_row w g i cs t (0, 0) h
theorem rblk_free {w : World} {g t : Nat} {cs : Array Value} (h : w.heap[g]? = some (.cells cs t (0, 0))) (i : Nat) : w.frozen? ⟨g, i, none⟩ = false := by simp [World.frozen?, h]
theorem Rdr.open_ {B : Nat} {w : World} {g : Nat} {text : ByteArray} {at_ : Int} {bs : List Int} (h : Rdr B w g text at_ bs) :
    ∃ A c, w.cell? ⟨g, 0, none⟩ = some (.string text) ∧ w.cell? ⟨g, 1, none⟩ = some (.int .i64 at_) ∧ w.cell? ⟨g, 2, none⟩ = some (.slice A bs.length c) ∧
      w.frozen? ⟨g, 1, none⟩ = false ∧ w.frozen? ⟨g, 2, none⟩ = false ∧ g < w.heap.size ∧ bs.length ≤ c ∧ Kd.C (Kd.int .u8) w A bs.length bs := by
  obtain ⟨_, bv, hh, hr⟩ := h
  obtain ⟨A, c, rfl, hl, hC⟩ := Kd.R_reads hr
  exact ⟨A, c, by rw [rblk_cell hh]; rfl, by rw [rblk_cell hh]; rfl, by rw [rblk_cell hh]; rfl, rblk_free hh 1, rblk_free hh 2, rblk_lt hh, hl, hC⟩
/-- A new row and a new place are stored. -/
theorem Rdr.stored {B : Nat} {w w1 : World} {g : Nat} {text : ByteArray} {at_ : Int} {bs : List Int} (h : Rdr B w g text at_ bs) {v1 : Value} {bs1 : List Int} (hb : Below w.heap.size w w1) (ho : Kd.R (Kd.int .u8) 5 w1 w.heap.size (fun _ => True) v1 bs1) (at1 : Int) :
    Rdr B ((w1.setCell ⟨g, 2, none⟩ v1).setCell ⟨g, 1, none⟩ (.int .i64 at1)) g text at1 bs1 ∧ Below B w ((w1.setCell ⟨g, 2, none⟩ v1).setCell ⟨g, 1, none⟩ (.int .i64 at1)) := by
  obtain ⟨hB, bv, hh, hr⟩ := h
  have hlt := rblk_lt hh
  have hh1 : w1.heap[g]? = some (.cells #[.string text, .int .i64 at_, bv] 63 (0, 0)) := (hb.block g hlt).trans hh
  have hh2 := rblk_set hh1 2 v1
  have hh3 := rblk_set hh2 1 (.int .i64 at1)
  refine ⟨⟨hB, v1, hh3, ?_⟩, ?_⟩
  · have h1 := Kd.R_lower ho (Nat.le_trans hB (Nat.le_of_lt hlt))
    have hne : ∀ k, v1.ownBlock = some k → k ≠ g := fun k hk e => by
      have := Kd.R_base ho k hk
      omega
    have h2 : Kd.R (Kd.int .u8) 5 w1 B (fun k => k ≠ g) v1 bs1 := by
      refine ⟨fun k hk => hne k hk, ?_⟩
      exact h1.2.imp_ (fun p c hp => hp)
    exact Kd.R_move h2 (fun k hk => by rw [rblk_far hk, rblk_far hk])
  · exact ((hb.mono (Nat.le_trans hB (Nat.le_of_lt hlt))).setCell hB _).setCell hB _
end Go.Proofs.YtoanbmggffkmgaaDoor.P
end
section
namespace Go.Proofs.YtoanbmggffkmgaaDoor.La
def hexVal (b : Int) : Option Int := if 48 ≤ b ∧ b ≤ 57 then some (b - 48) else if 97 ≤ b ∧ b ≤ 102 then some (b - 87) else if 65 ≤ b ∧ b ≤ 70 then some (b - 55) else none
def hexI : Int → List Int → Option Int
  | x, [] => some x
  | x, b :: l => (hexVal b).bind fun d => hexI (x * 16 + d) l
theorem hexVal_lt {b d : Int} (h : hexVal b = some d) : 0 ≤ d ∧ d < 16 := by
  unfold hexVal at h
  (repeat' split at h) <;> first | (cases h; done) | (have := Option.some.inj h; omega)
end Go.Proofs.YtoanbmggffkmgaaDoor.La
namespace Go.Proofs.YtoanbmggffkmgaaDoor.P
open Go.RowKit Go.Proofs.YtoanbmggffkmgaaDoor.La Go.Proofs.YtoanbmggffkmgaaDoorW.PrintWords Go.Proofs.YtoanbmggffkmgaaDoorW.PrintLast Go.Proofs.YtoanbmggffkmgaaDoorW.PrintMore
theorem i64_or4 {x y : Int} (hx₀ : 0 ≤ x) (hx₁ : x < 4294967296) (h₀ : 0 ≤ y) (h₁ : y < 16) : Go.bits .or .i64 (x * 16) y = x * 16 + y :=
  bits_join .i64 62 (by decide) wraps_i64 4 (x * 16) y (by omega) (by omega) (by omega) h₀ h₁ (by omega)
theorem hex_next {s : ByteArray} {k : Nat} {x b : Int} {o : Option Int} (hlt : k < s.size) (hb : b = (bytesOf s).getD k 0) (hx : hexI 0 (bytesOf s) = hexI x ((bytesOf s).drop k)) (hd : hexVal b = o) :
    hexI 0 (bytesOf s) = o.bind fun d => hexI (x * 16 + d) ((bytesOf s).drop (k + 1)) := by
  have hl : k < (bytesOf s).length := by rw [size_of]; exact hlt
  have hg : (bytesOf s)[k] = b := by rw [hb]; simp [List.getD_eq_getElem?_getD, hl]
  rw [hx, List.drop_eq_getElem_cons hl, hexI, hg, hd]
theorem hex_grow {k : Nat} {x d : Int} (x0 : 0 ≤ x) (x1 : x < 16 ^ k) (d0 : 0 ≤ d ∧ d < 16) : 0 ≤ x * 16 + d ∧ x * 16 + d < 16 ^ (k + 1) := by
  rw [Int.pow_succ]
  omega
def HexRel (s : ByteArray) (v i : Value) : Prop := ∃ (k : Nat) (x : Int), k ≤ s.size ∧ i = .int .i64 k ∧ v = .int .i64 x ∧ hexI 0 (bytesOf s) = hexI x ((bytesOf s).drop k) ∧ 0 ≤ x ∧ x < 16 ^ k
theorem hex_rel {s : ByteArray} {k : Nat} {x b d : Int} {v : Int} (hlt : k < s.size) (hb : b = (bytesOf s).getD k 0) (hx : hexI 0 (bytesOf s) = hexI x ((bytesOf s).drop k)) (hd : hexVal b = some d) (x0 : 0 ≤ x) (x1 : x < 16 ^ k) (hv : v = x * 16 + d) :
    HexRel s (.int .i64 v) (.int .i64 ((k : Int) + 1)) := by
  have h := hex_next hlt hb hx hd
  have h2 := hex_grow x0 x1 (hexVal_lt hd)
  exact ⟨k + 1, x * 16 + d, hlt, by go_num, by rw [hv], h, h2.1, h2.2⟩
set_option maxRecDepth 100000 in
set_option maxHeartbeats 4000000 in
theorem hex_walk (s : ByteArray) (h1 : 1 ≤ s.size) (h8 : s.size ≤ 8) (w : World) :
    Calls Tryd.prog 18 #[.string s] w fun e w' => e = .returned (.tuple #[.int .i64 ((hexI 0 (bytesOf s)).getD 0), .bool (hexI 0 (bytesOf s)).isSome]) ∧ Below w.heap.size w w' := by
  have kb := print_bytes (P := Tryd.prog) 9 46 5 Tryd.underlying9 Tryd.underlying46 Tryd.underlying5 s w
  have hr := bytes_reads w 5 s (by omega)
  have hb := bytes_below (Below.refl w.heap.size w) (Nat.le_refl _) 5 s
  generalize Lib.bytesWorld w 5 s = W1 at kb hr hb
  generalize grownCap w s.size 0 5 = cp at kb
  have g1 : decide ((s.size : Int) < 1) = false := decide_eq_false (by omega)
  have g2 : decide ((s.size : Int) > 8) = false := decide_eq_false (by omega)
  go_enter Tryd.func18, Tryd.ntmps18
  go_wp2_with fail
  go_loop [4, 18] (HexRel s) (fun _ i => s.size - (intOf i).toNat)
  case atStart => exact ⟨0, 0, Nat.zero_le _, rfl, rfl, rfl, Int.le_refl _, by decide⟩
  case round =>
    obtain ⟨k, x, hk, rfl, rfl, hx, x0, x1⟩ := hrel
    have HX := Lib.hid hx
    clear hx
    by_cases hlt : k < s.size
    · have hx7 : x < 268435456 := Int.lt_of_lt_of_le x1 (by
        have : 16 ^ k ≤ 16 ^ 7 := Nat.pow_le_pow_right (by decide) (by omega)
        have h2 : ((16 ^ k : Nat) : Int) ≤ ((16 ^ 7 : Nat) : Int) := by omega
        simpa using h2)
      have hc : W1.cell? ⟨w.heap.size, k, none⟩ = some (.int .u8 (bt s k)) := by
        obtain ⟨ad, e, h⟩ := hr.2.2 (by omega)
        obtain rfl := Option.some.inj e
        have := h k hlt
        rw [add_plain] at this
        rw [this, bt_get]
        rfl
      have hbr := bt_range s k
      have hbt : bt s (k : Int) = (bytesOf s).getD k 0 := by rw [bt_get]; rfl
      have HB := Lib.hid hbt
      clear hbt
      generalize bt s (k : Int) = b at hc hbr HB
      by_cases c1 : 48 ≤ b ∧ b ≤ 57
      · have hv := Lib.hid (show hexVal b = some (b - 48) from if_pos c1)
        obtain ⟨c1, c2⟩ := c1
        go_wp2
        go_round
        case rel => exact hex_rel hlt HB.out HX.out hv.out x0 x1 (i64_or4 x0 (by omega) (by omega) (by omega))
        case measure => simp [intOf]; omega
      · by_cases c2 : 97 ≤ b ∧ b ≤ 102
        · have hv := Lib.hid (show hexVal b = some (b - 87) by unfold hexVal; rw [if_neg c1, if_pos c2])
          clear c1
          obtain ⟨c1, c2⟩ := c2
          go_wp2
          go_round
          case rel => exact hex_rel hlt HB.out HX.out hv.out x0 x1 (by rw [show b - 97 + 10 = b - 87 by omega]; exact i64_or4 x0 (by omega) (by omega) (by omega))
          case measure => simp [intOf]; omega
        · by_cases c3 : 65 ≤ b ∧ b ≤ 70
          · have hv := Lib.hid (show hexVal b = some (b - 55) by unfold hexVal; rw [if_neg c1, if_neg c2, if_pos c3])
            clear c1 c2
            obtain ⟨c1, c2⟩ := c3
            go_wp2
            go_round
            case rel => exact hex_rel hlt HB.out HX.out hv.out x0 x1 (by rw [show b - 65 + 10 = b - 55 by omega]; exact i64_or4 x0 (by omega) (by omega) (by omega))
            case measure => simp [intOf]; omega
          · have hv := Lib.hid (show hexVal b = none by unfold hexVal; rw [if_neg c1, if_neg c2, if_neg c3])
            have hn := Lib.hid (hex_next hlt HB.out HX.out hv.out)
            have cases4 : b < 48 ∨ (58 ≤ b ∧ b < 65) ∨ (71 ≤ b ∧ b < 97) ∨ 103 ≤ b := by omega
            clear c1 c2 c3
            rcases cases4 with c1 | ⟨c1, c2⟩ | ⟨c1, c2⟩ | c1
            all_goals
              go_wp2
              go_ret2
              exact ⟨by rw [hn.out]; rfl, hb⟩
    · obtain rfl : k = s.size := by omega
      have hx : hexI 0 (bytesOf s) = some x := by
        rw [HX.out, List.drop_eq_nil_of_le (by rw [size_of]; omega)]
        rfl
      have HX2 := Lib.hid hx
      clear hx HX
      go_wp2
      go_ret2
      exact ⟨by rw [HX2.out]; rfl, hb⟩
def esc_Hex.f (a0 : ByteArray) : Option (Int × Bool) := some (if a0.size < 1 ∨ a0.size > 8 then (0, false) else ((hexI 0 (bytesOf a0)).getD 0, (hexI 0 (bytesOf a0)).isSome))
theorem esc_Hex.calls (a0 : ByteArray) (r1 : Int) (r2 : Bool) (w : World) (h : esc_Hex.f a0 = some (r1, r2)) :
    Calls Tryd.prog 18 #[.string a0] w fun e w' => e = .returned (.tuple #[.int .i64 r1, .bool r2]) ∧ Below w.heap.size w w' := by
  have h := Option.some.inj h
  split at h
  · rename_i hc
    obtain ⟨rfl, rfl⟩ := Prod.mk.inj h
    clear h
    by_cases h1 : a0.size < 1
    · have g1 : decide ((a0.size : Int) < 1) = true := decide_eq_true (by omega)
      clear hc h1
      go_enter Tryd.func18, Tryd.ntmps18
      go_wp2
      go_ret2
      exact ⟨rfl, Below.refl _ _⟩
    · have g1 : decide ((a0.size : Int) < 1) = false := decide_eq_false (by omega)
      have g2 : decide ((a0.size : Int) > 8) = true := decide_eq_true (by omega)
      clear hc h1
      go_enter Tryd.func18, Tryd.ntmps18
      go_wp2
      go_ret2
      exact ⟨rfl, Below.refl _ _⟩
  · rename_i hc
    obtain ⟨rfl, rfl⟩ := Prod.mk.inj h
    exact hex_walk a0 (by omega) (by omega) w
end Go.Proofs.YtoanbmggffkmgaaDoor.P
end
section
namespace Go.Proofs.YtoanbmggffkmgaaDoor.P
open Go.RowKit Go.Proofs.YtoanbmggffkmgaaDoorW.PrintWords Go.Proofs.YtoanbmggffkmgaaDoorW.PrintLast Go.Proofs.YtoanbmggffkmgaaDoorW.PrintMore
attribute [local go_sem] max2_int min2_int max_two min_two max_three min_three max_four min_four   -- for this text's walks alone
set_option linter.unusedVariables false
set_option linter.unusedSimpArgs false
/-! ### stringslite_HasPrefix: function 86 -/
def stringslite_HasPrefix.f (a0 : ByteArray) (a1 : ByteArray) : Option (Bool) := if (a0.size : Int) ≥ (a1.size : Int) then (if 0 ≤ (a1.size : Int) then (if (a1.size : Int) ≤ (a0.size : Int) then (some ((a0.extract 0 ((a1.size : Int) : Int).toNat).toList == a1.toList)) else (none)) else (none)) else (some false)
set_option maxHeartbeats 8000000 in
set_option maxRecDepth 100000 in
theorem stringslite_HasPrefix.calls (a0 : ByteArray) (a1 : ByteArray) (r : Bool) (w : World) (h : stringslite_HasPrefix.f a0 a1 = some r) :
    Calls Tryd.prog 86 #[.string a0, .string a1] w fun e w' => e = .returned (.bool r) ∧ Drawn0 w w' := by
  have H : (if (a0.size : Int) ≥ (a1.size : Int) then (if 0 ≤ (a1.size : Int) then (if (a1.size : Int) ≤ (a0.size : Int) then (some ((a0.extract 0 ((a1.size : Int) : Int).toNat).toList == a1.toList)) else (none)) else (none)) else (some false)) = some r := h
  clear h
  by_cases c3 : (a0.size : Int) ≥ (a1.size : Int)
  · rw [if_pos c3] at H
    have c3b0 : decide ((a1.size : Int) ≤ (a0.size : Int)) = true := decide_eq_true c3
    have c3b1 : decide (a1.size ≤ a0.size) = true := decide_eq_true (Int.ofNat_le.mp c3)
    clear c3
    by_cases c4 : 0 ≤ (a1.size : Int)
    · rw [if_pos c4] at H
      have c4b0 := eq_true c4
      have c4b1 : decide (0 ≤ (a1.size : Int)) = true := decide_eq_true c4
      clear c4
      by_cases c5 : (a1.size : Int) ≤ (a0.size : Int)
      · rw [if_pos c5] at H
        have c5b0 := eq_true c5
        have c5b1 : decide ((a1.size : Int) ≤ (a0.size : Int)) = true := decide_eq_true c5
        clear c5
        obtain rfl := Option.some.inj H
        go_enter Tryd.func86, Tryd.ntmps86
        go_wp2
        go_ret
        exact ⟨by first | rfl | (simp; done) | (simp [*]; done), by repeat (first | exact Drawn0.refl _ | apply Drawn0.step)⟩
      · rw [if_neg c5] at H
        exact absurd H (by simp)
    · rw [if_neg c4] at H
      exact absurd H (by simp)
  · rw [if_neg c3] at H
    have c3b0 : decide ((a1.size : Int) ≤ (a0.size : Int)) = false := decide_eq_false c3
    have c3b1 : decide (a1.size ≤ a0.size) = false := decide_eq_false (fun h => c3 (Int.ofNat_le.mpr h))
    clear c3
    obtain rfl := Option.some.inj H
    go_enter Tryd.func86, Tryd.ntmps86
    go_wp2
    go_ret
    exact ⟨by first | rfl | (simp; done) | (simp [*]; done), by repeat (first | exact Drawn0.refl _ | apply Drawn0.step)⟩
end Go.Proofs.YtoanbmggffkmgaaDoor.P
end
section
namespace Go.Proofs.YtoanbmggffkmgaaDoor.P
open Go.RowKit Go.Proofs.YtoanbmggffkmgaaDoorW.PrintWords Go.Proofs.YtoanbmggffkmgaaDoorW.PrintLast Go.Proofs.YtoanbmggffkmgaaDoorW.PrintMore
attribute [local go_sem] max2_int min2_int max_two min_two max_three min_three max_four min_four   -- for this text's walks alone
set_option linter.unusedVariables false
set_option linter.unusedSimpArgs false
/-! ### strings_HasPrefix: function 62 -/
def strings_HasPrefix.f (a0 : ByteArray) (a1 : ByteArray) : Option (Bool) := (stringslite_HasPrefix.f a0 a1).bind fun t135 => (some t135)
set_option maxHeartbeats 8000000 in
set_option maxRecDepth 100000 in
theorem strings_HasPrefix.calls (a0 : ByteArray) (a1 : ByteArray) (r : Bool) (w : World) (h : strings_HasPrefix.f a0 a1 = some r) :
    Calls Tryd.prog 62 #[.string a0, .string a1] w fun e w' => e = .returned (.bool r) ∧ Drawn0 w w' := by
  have H : ((stringslite_HasPrefix.f a0 a1).bind fun t135 => (some t135)) = some r := h
  clear h
  replace H := Option.bind_eq_some_iff.mp H
  obtain ⟨t135, A30, H⟩ := H
  replace H : (some t135) = some r := H
  have A3 := Aside0.mk A30
  clear A30
  obtain rfl := Option.some.inj H
  go_enter Tryd.func62, Tryd.ntmps62
  go_wp2_with (first | ((with_reducible refine gate_callee (f := 86) rfl ?_); refine goesL_ (some 7) rfl rfl Tryd.func86 (by kernel_rfl) rfl #[.string a0, .string a1] rfl (by (try simp only [List.map_toArray, List.map_cons, List.map_nil]); first | done | rfl | (simp only [List.length_drop, List.length_take]; rfl)) ?_; (with_reducible refine (stringslite_HasPrefix.calls a0 a1 t135 _ A3.out).mono ?_); rintro e w' ⟨rfl, ⟨nd, rfl⟩⟩; refine ⟨_, rfl, ?_⟩))
  go_ret
  exact ⟨by first | rfl | (simp; done) | (simp [*]; done), by repeat (first | exact Drawn0.refl _ | apply Drawn0.step)⟩
end Go.Proofs.YtoanbmggffkmgaaDoor.P
end
section
namespace Go.Proofs.YtoanbmggffkmgaaDoor.La
open Go.RowKit Go.Proofs.YtoanbmggffkmgaaDoor.P Go.Proofs.YtoanbmggffkmgaaDoorW.PrintWords Go.Proofs.YtoanbmggffkmgaaDoorW.PrintLast Go.Proofs.YtoanbmggffkmgaaDoorW.PrintMore
theorem hasPrefix_eq (s p : ByteArray) : strings_HasPrefix.f s p = some (decide ((bytesOf s).take p.size = bytesOf p)) := by
  unfold strings_HasPrefix.f stringslite_HasPrefix.f
  by_cases h : (s.size : Int) ≥ (p.size : Int)
  · rw [if_pos h, if_pos (by omega), if_pos h, Option.bind_some]
    congr 1
    rw [Bool.eq_iff_iff, beq_iff_eq, decide_eq_true_eq, toList_eq_iff, bytesOf_take, Int.toNat_natCast]
  · rw [if_neg h, Option.bind_some]
    congr 1
    rw [eq_comm, decide_eq_false_iff_not]
    intro e
    have := congrArg List.length e
    rw [List.length_take, size_of, size_of] at this
    omega
end Go.Proofs.YtoanbmggffkmgaaDoor.La
end
section
namespace Go.Proofs.YtoanbmggffkmgaaDoor.La
open Go.RowKit Go.Proofs.YtoanbmggffkmgaaDoor.P Go.Proofs.YtoanbmggffkmgaaDoorW.PrintWords Go.Proofs.YtoanbmggffkmgaaDoorW.PrintLast Go.Proofs.YtoanbmggffkmgaaDoorW.PrintMore
theorem ref_good_eq (r : Int) : dragomanref1_Good.f r = some (decide (good r)) := good_eq r
def enc0 (r : Int) : List Int := if good r then enc r else []
theorem enc0_bytes (r : Int) : Bytes (enc0 r) := by
  unfold enc0
  split
  · rename_i h; exact enc_bytes h
  · intro x hx; cases hx
theorem ref_put_eq (r : Int) : dragomanref1_Put.f r = some (strOfNums (enc0 r)) := by
  unfold dragomanref1_Put.f enc0
  rw [ref_good_eq, Option.bind_some]
  by_cases hg : good r
  · have hg' := good_iff.1 hg
    have d1 : Int.tdiv r 64 = r / 64 := Int.tdiv_eq_ediv_of_nonneg (by omega)
    have d2 : Int.tdiv r 4096 = r / 4096 := Int.tdiv_eq_ediv_of_nonneg (by omega)
    have d3 : Int.tdiv r 262144 = r / 262144 := Int.tdiv_eq_ediv_of_nonneg (by omega)
    have m1 : Int.tmod r 64 = r % 64 := Int.tmod_eq_emod_of_nonneg (by omega)
    have m2 : Int.tmod (r / 64) 64 = r / 64 % 64 := Int.tmod_eq_emod_of_nonneg (by omega)
    have m3 : Int.tmod (r / 4096) 64 = r / 4096 % 64 := Int.tmod_eq_emod_of_nonneg (by omega)
    have w1 : wrap64 (r / 64) = r / 64 := wrap_id (by omega) (by omega)
    have w2 : wrap64 (r / 4096) = r / 4096 := wrap_id (by omega) (by omega)
    have w3 : wrap64 (r / 262144) = r / 262144 := wrap_id (by omega) (by omega)
    rw [if_pos (decide_eq_true hg), if_pos hg, d1, d2, d3, w1, w2, w3, m1, m2, m3]
    unfold enc
    split
    · rw [show r % 256 = r by omega]
    · split
      · rw [wrap_id (n := 192 + r / 64) (by omega) (by omega), wrap_id (n := 128 + r % 64) (by omega) (by omega), show (192 + r / 64) % 256 = 192 + r / 64 by omega, show (128 + r % 64) % 256 = 128 + r % 64 by omega]
      · split
        · rw [wrap_id (n := 224 + r / 4096) (by omega) (by omega), wrap_id (n := 128 + r / 64 % 64) (by omega) (by omega), wrap_id (n := 128 + r % 64) (by omega) (by omega), show (224 + r / 4096) % 256 = 224 + r / 4096 by omega, show (128 + r / 64 % 64) % 256 = 128 + r / 64 % 64 by omega, show (128 + r % 64) % 256 = 128 + r % 64 by omega]
        · rw [wrap_id (n := 240 + r / 262144) (by omega) (by omega), wrap_id (n := 128 + r / 4096 % 64) (by omega) (by omega), wrap_id (n := 128 + r / 64 % 64) (by omega) (by omega), wrap_id (n := 128 + r % 64) (by omega) (by omega), show (240 + r / 262144) % 256 = 240 + r / 262144 by omega, show (128 + r / 4096 % 64) % 256 = 128 + r / 4096 % 64 by omega, show (128 + r / 64 % 64) % 256 = 128 + r / 64 % 64 by omega, show (128 + r % 64) % 256 = 128 + r % 64 by omega]
  · rw [if_neg (by simpa using hg), if_neg hg]
    rfl
def rend (r : Int) (n : Nat) (l : List Int) : Int × Int := if enc0 r = l.take n then (r, (n : Int)) else (0, 0)
theorem rl0_end (k : Nat) (s : ByteArray) {r i : Int} {n : Nat} (h : ¬ i < (n : Int)) (hn : n ≤ s.size) : dragomanref1_Take.l0 (k + 1) s (n : Int) r i = some (rend r n (bytesOf s)) := by
  simp only [dragomanref1_Take.l0]
  rw [if_neg h, ref_put_eq, Option.bind_some, if_pos (by omega), if_pos (by omega)]
  unfold rend
  have : ((strOfNums (enc0 r)).toList = (s.extract 0 ((n : Int)).toNat).toList) ↔ enc0 r = (bytesOf s).take n := by
    rw [toList_eq_iff, strOfNums_bytes (enc0_bytes r), bytesOf_take, Int.toNat_natCast]
  simp only [this]
  split <;> rfl
theorem rl0_bad (k : Nat) (s : ByteArray) {n r i : Int} (h : i < n) (h0 : 0 ≤ i) (hs : i < s.size) (hb : ¬ (128 ≤ bt s i ∧ bt s i < 192)) : dragomanref1_Take.l0 (k + 1) s n r i = some (0, 0) := by
  simp only [dragomanref1_Take.l0]
  rw [if_pos h, if_pos h0, if_pos hs]
  by_cases c : bt s i < 128
  · rw [if_pos c]
  · rw [if_neg c, if_pos (by omega)]
theorem rl0_more (k : Nat) (s : ByteArray) {n r i : Int} (h : i < n) (h0 : 0 ≤ i) (hs : i < s.size) (hb : 128 ≤ bt s i ∧ bt s i < 192) (r0 : 0 ≤ r) (r1 : r < 2097152) (i1 : i < 10) : dragomanref1_Take.l0 (k + 1) s n r i = dragomanref1_Take.l0 k s n (r * 64 + (bt s i - 128)) (i + 1) := by
  simp only [dragomanref1_Take.l0]
  rw [if_pos h, if_pos h0, if_pos hs, if_neg (by omega), if_neg (by omega), wrap_id (n := 64 * r) (by omega) (by omega), wrap_id (n := bt s i) (by omega) (by omega), wrap_id (n := 64 * r + bt s i) (by omega) (by omega), wrap_id (n := 64 * r + bt s i - 128) (by omega) (by omega), wrap_id (n := i + 1) (by omega) (by omega), show 64 * r + bt s i - 128 = r * 64 + (bt s i - 128) by omega]
theorem enc0_good {r : Int} (h : good r) : enc0 r = enc r := if_pos h
theorem enc0_eq {r : Int} {l : List Int} (hl : l ≠ []) : enc0 r = l ↔ good r ∧ enc r = l := by
  unfold enc0
  split
  · rename_i h; exact ⟨fun e => ⟨h, e⟩, fun e => e.2⟩
  · rename_i h; exact ⟨fun e => absurd e.symm hl, fun e => absurd e.1 h⟩
theorem enc2 {r a b : Int} (h : r = tk2 a b) (ha : 192 ≤ a ∧ a < 224) (hb : 128 ≤ b ∧ b < 192) : enc r = [a, b] ↔ 128 ≤ r := by
  unfold tk2 at h
  unfold enc
  by_cases c : r < 128
  · rw [if_pos c]; simp; omega
  · rw [if_neg c, if_pos (by omega)]; simp; omega
theorem enc3 {r a b c : Int} (h : r = tk3 a b c) (ha : 224 ≤ a ∧ a < 240) (hb : 128 ≤ b ∧ b < 192) (hc : 128 ≤ c ∧ c < 192) : enc r = [a, b, c] ↔ 2048 ≤ r := by
  unfold tk3 at h
  unfold enc
  by_cases c1 : r < 128
  · rw [if_pos c1]; simp; omega
  · rw [if_neg c1]
    by_cases c2 : r < 2048
    · rw [if_pos c2]; simp; omega
    · rw [if_neg c2, if_pos (by omega)]; simp; omega
theorem enc4 {r a b c d : Int} (h : r = tk4 a b c d) (_ha : 240 ≤ a ∧ a < 248) (hb : 128 ≤ b ∧ b < 192) (hc : 128 ≤ c ∧ c < 192) (hd : 128 ≤ d ∧ d < 192) : enc r = [a, b, c, d] ↔ 65536 ≤ r := by
  unfold tk4 at h
  unfold enc
  by_cases c1 : r < 128
  · rw [if_pos c1]; simp; omega
  · rw [if_neg c1]
    by_cases c2 : r < 2048
    · rw [if_pos c2]; simp; omega
    · rw [if_neg c2]
      by_cases c3 : r < 65536
      · rw [if_pos c3]; simp; omega
      · rw [if_neg c3]; simp; omega
theorem ref_take_eq (k : Nat) (s : ByteArray) : dragomanref1_Take.f (k + 9) s = some (tk (bytesOf s)) := by
  have hB := bytes_of s
  have hS := size_of s
  generalize hl : bytesOf s = l at hB hS
  have hbt : ∀ i, bt s i = l.getD i.toNat 0 := fun i => by rw [bt_get, hl]
  unfold dragomanref1_Take.f
  match l with
  | [] => rw [if_pos ((toList_nil_iff s).2 hl)]; rfl
  | a :: t =>
    have ha := hB a List.mem_cons_self
    have h0 : bt s 0 = a := by rw [hbt]; rfl
    have hsz : (s.size : Int) = (t.length : Int) + 1 := by rw [← hS]; simp
    rw [if_neg (fun h => by rw [toList_nil_iff, hl] at h; cases h), if_pos (by omega), h0, wrap_id (by omega) (by omega)]
    simp only [tk]
    by_cases c5 : 240 ≤ a
    · rw [if_pos c5, if_neg (show ¬ a < 128 by omega), if_neg (show ¬ a < 192 by omega), if_neg (show ¬ a < 224 by omega), if_neg (show ¬ a < 240 by omega)]
      by_cases c6 : a < 248
      · rw [decide_eq_true c6, if_pos c6]
        simp only [dragomanref1_Take.j0]
        rw [if_pos trivial]
        simp only [dragomanref1_Take.j3]
        rw [wrap_id (by omega) (by omega)]
        match t with
        | [] =>
          simp at hsz
          rw [if_pos (by omega)]
        | [b] =>
          simp at hsz
          rw [if_pos (by omega)]
        | [b, c] =>
          simp at hsz
          rw [if_pos (by omega)]
        | b :: c :: d :: t =>
          simp at hsz
          dsimp only
          have hb : bt s 1 = b := by rw [hbt]; rfl
          have hc : bt s 2 = c := by rw [hbt]; rfl
          have hd : bt s 3 = d := by rw [hbt]; rfl
          rw [if_neg (by omega)]
          have hr := hB b (by simp)
          have hr2 := hB c (by simp)
          have hr3 := hB d (by simp)
          by_cases k1 : 128 ≤ b ∧ b < 192
          · rw [rl0_more _ _ (by decide) (by decide) (by omega) (by rw [hb]; exact k1) (by omega) (by omega) (by decide), hb]
            by_cases k2 : 128 ≤ c ∧ c < 192
            · rw [rl0_more _ _ (by decide) (by decide) (by omega) (by rw [show (1 : Int) + 1 = 2 by decide, hc]; exact k2) (by omega) (by omega) (by decide), show (1 : Int) + 1 = 2 by decide, hc]
              by_cases k3 : 128 ≤ d ∧ d < 192
              · rw [rl0_more _ _ (by decide) (by decide) (by omega) (by rw [show (2 : Int) + 1 = 3 by decide, hd]; exact k3) (by omega) (by omega) (by decide), show (2 : Int) + 1 = 3 by decide, hd]
                have e : (((a - 240) * 64 + (b - 128)) * 64 + (c - 128)) * 64 + (d - 128) = tk4 a b c d := by unfold tk4; omega
                have e1 : 0 ≤ tk4 a b c d := by unfold tk4; omega
                rw [e, show (4 : Int) = ((4 : Nat) : Int) by rfl, rl0_end _ _ (by decide) (by omega), hl]
                unfold rend
                simp only [List.take_succ_cons, List.take_zero, enc0_eq (List.cons_ne_nil _ _), enc4 rfl ⟨c5, c6⟩ k1 k2 k3, good_iff]
                by_cases k4 : 65536 ≤ tk4 a b c d ∧ tk4 a b c d ≤ 1114111
                · rw [if_pos (by omega), if_pos (by omega)]
                · rw [if_neg (by omega), if_neg (by omega)]
              · rw [rl0_bad _ _ (by decide) (by decide) (by omega) (by rw [show (2 : Int) + 1 = 3 by decide, hd]; exact k3), if_neg (by omega)]
            · rw [rl0_bad _ _ (by decide) (by decide) (by omega) (by rw [show (1 : Int) + 1 = 2 by decide, hc]; exact k2), if_neg (by omega)]
          · rw [rl0_bad _ _ (by decide) (by decide) (by omega) (by rw [hb]; exact k1), if_neg (by omega)]
      · rw [decide_eq_false c6, if_neg c6]
        simp only [dragomanref1_Take.j0]
        rw [if_neg (by decide), if_pos (by omega)]
        simp only [dragomanref1_Take.j1]
        rw [if_neg (by simp; omega), if_pos (by omega)]
        simp only [dragomanref1_Take.j2]
        rw [if_neg (by simp; omega), if_pos (by omega)]
    · rw [if_neg c5]
      simp only [dragomanref1_Take.j0]
      rw [if_neg (by decide)]
      by_cases c4 : 224 ≤ a
      · rw [if_pos c4, if_neg (show ¬ a < 128 by omega), if_neg (show ¬ a < 192 by omega), if_neg (show ¬ a < 224 by omega), if_pos (show a < 240 by omega)]
        simp only [dragomanref1_Take.j1]
        rw [if_pos (decide_eq_true (by omega)), wrap_id (by omega) (by omega)]
        simp only [dragomanref1_Take.j3]
        match t with
        | [] =>
          simp at hsz
          rw [if_pos (by omega)]
        | [b] =>
          simp at hsz
          rw [if_pos (by omega)]
        | b :: c :: t =>
          simp at hsz
          dsimp only
          have hb : bt s 1 = b := by rw [hbt]; rfl
          have hc : bt s 2 = c := by rw [hbt]; rfl
          rw [if_neg (by omega)]
          have hr := hB b (by simp)
          have hr2 := hB c (by simp)
          by_cases k1 : 128 ≤ b ∧ b < 192
          · rw [rl0_more _ _ (by decide) (by decide) (by omega) (by rw [hb]; exact k1) (by omega) (by omega) (by decide), hb]
            by_cases k2 : 128 ≤ c ∧ c < 192
            · rw [rl0_more _ _ (by decide) (by decide) (by omega) (by rw [show (1 : Int) + 1 = 2 by decide, hc]; exact k2) (by omega) (by omega) (by decide), show (1 : Int) + 1 = 2 by decide, hc]
              have e : ((a - 224) * 64 + (b - 128)) * 64 + (c - 128) = tk3 a b c := by unfold tk3; omega
              have e1 : 0 ≤ tk3 a b c ∧ tk3 a b c < 65536 := by unfold tk3; omega
              rw [e, show (3 : Int) = ((3 : Nat) : Int) by rfl, rl0_end _ _ (by decide) (by omega), hl]
              unfold rend
              simp only [List.take_succ_cons, List.take_zero, enc0_eq (List.cons_ne_nil _ _), enc3 rfl ⟨c4, by omega⟩ k1 k2, good_iff]
              by_cases k4 : 2048 ≤ tk3 a b c ∧ (tk3 a b c < 55296 ∨ 57343 < tk3 a b c)
              · rw [if_pos (by omega), if_pos (by omega)]
              · rw [if_neg (by omega), if_neg (by omega)]
            · rw [rl0_bad _ _ (by decide) (by decide) (by omega) (by rw [show (1 : Int) + 1 = 2 by decide, hc]; exact k2), if_neg (by omega)]
          · rw [rl0_bad _ _ (by decide) (by decide) (by omega) (by rw [hb]; exact k1), if_neg (by omega)]
      · rw [if_neg c4]
        simp only [dragomanref1_Take.j1]
        rw [if_neg (by decide)]
        by_cases c3 : 192 ≤ a
        · rw [if_pos c3, if_neg (show ¬ a < 128 by omega), if_neg (show ¬ a < 192 by omega), if_pos (show a < 224 by omega)]
          simp only [dragomanref1_Take.j2]
          rw [if_pos (decide_eq_true (by omega)), wrap_id (by omega) (by omega)]
          simp only [dragomanref1_Take.j3]
          match t with
          | [] =>
            simp at hsz
            rw [if_pos (by omega)]
          | b :: t =>
            simp at hsz
            dsimp only
            have hb : bt s 1 = b := by rw [hbt]; rfl
            rw [if_neg (by omega)]
            have hr := hB b (by simp)
            by_cases k1 : 128 ≤ b ∧ b < 192
            · rw [rl0_more _ _ (by decide) (by decide) (by omega) (by rw [hb]; exact k1) (by omega) (by omega) (by decide), hb]
              have e : (a - 192) * 64 + (b - 128) = tk2 a b := by unfold tk2; omega
              have e1 : 0 ≤ tk2 a b ∧ tk2 a b < 2048 := by unfold tk2; omega
              rw [e, show (2 : Int) = ((2 : Nat) : Int) by rfl, rl0_end _ _ (by decide) (by omega), hl]
              unfold rend
              simp only [List.take_succ_cons, List.take_zero, enc0_eq (List.cons_ne_nil _ _), enc2 rfl ⟨c3, by omega⟩ k1, good_iff]
              by_cases k4 : 128 ≤ tk2 a b
              · rw [if_pos (by omega), if_pos (by omega)]
              · rw [if_neg (by omega), if_neg (by omega)]
            · rw [rl0_bad _ _ (by decide) (by decide) (by omega) (by rw [hb]; exact k1), if_neg (by omega)]
        · rw [if_neg c3]
          simp only [dragomanref1_Take.j2]
          rw [if_neg (by decide)]
          by_cases c2 : 128 ≤ a
          · rw [if_pos c2, if_neg (show ¬ a < 128 by omega), if_pos (show a < 192 by omega)]
          · rw [if_neg c2, if_pos (show a < 128 by omega)]
            simp only [dragomanref1_Take.j3]
            rw [if_neg (by omega), show (1 : Int) = ((1 : Nat) : Int) by rfl, rl0_end _ _ (by decide) (by omega), hl]
            unfold rend
            rw [List.take_succ_cons, List.take_zero, if_pos ((enc0_eq (List.cons_ne_nil _ _)).2 ⟨good_iff.2 (by omega), by unfold enc; rw [if_pos (by omega)]⟩)]
theorem ref_take_ev (s : ByteArray) : Ev (fun k => dragomanref1_Take.f k s) (tk (bytesOf s)) := ⟨9, fun k hk => by
  obtain ⟨m, rfl⟩ : ∃ m, k = m + 9 := ⟨k - 9, by omega⟩
  exact ref_take_eq m s⟩
def rbadR (at_ : Nat) : Option Nat → Int
  | none => -1
  | some p => ((at_ + p : Nat) : Int)
theorem ref_valid_l0 (s : ByteArray) (hs : s.size ≤ 140737488355328) (n : Nat) : ∀ (i : Nat), i ≤ s.size → s.size - i = n → Ev (fun k => dragomanref1_Valid.l0 k s (i : Int)) (rbadR i (bad ((bytesOf s).drop i))) := by
  induction n using Nat.strongRecOn with
  | _ n ih =>
  intro i hi hn
  have hL : ((bytesOf s).drop i).length = s.size - i := by rw [List.length_drop, size_of]
  have hBd : Bytes ((bytesOf s).drop i) := (bytes_of s).drop i
  refine Ev.step (fun k => by rw [dragomanref1_Valid.l0]) ?_
  by_cases h : i < s.size
  · have h1 : (i : Int) < (s.size : Int) := by omega
    have h2 : (0 : Int) ≤ (i : Int) := by omega
    have h3 : (i : Int) ≤ (s.size : Int) := by omega
    have hne : (bytesOf s).drop i ≠ [] := fun e => by rw [e] at hL; simp at hL; omega
    simp only [if_pos h1, if_pos h2, if_pos h3, Int.toNat_natCast]
    refine Ev.bind (ref_take_ev _) ?_
    rw [bytesOf_drop]
    by_cases h0 : (tk ((bytesOf s).drop i)).2 = 0
    · simp only [if_pos h0, bad_none hne h0, rbadR]
      exact Ev.now _
    · simp only [if_neg h0]
      have hb := tk_bound _ hBd
      have hp := stp_pos _ hBd
      have hst := stp_le hBd hne
      rw [stp_int hBd h0, wrap_id (by omega) (by omega), bad_step hne h0, List.drop_drop]
      have e : (i : Int) + (stp ((bytesOf s).drop i) : Int) = ((i + stp ((bytesOf s).drop i) : Nat) : Int) := by omega
      rw [e]
      have := ih (s.size - (i + stp ((bytesOf s).drop i))) (by omega) (i + stp ((bytesOf s).drop i)) (by omega) rfl
      generalize stp ((bytesOf s).drop i) = q at *
      cases hc : bad ((bytesOf s).drop (i + q)) with
      | none => rw [hc] at this; exact this
      | some p =>
        rw [hc] at this
        simp only [Option.map_some, rbadR] at this ⊢
        rw [show i + (p + q) = i + q + p by omega]
        exact this
  · obtain rfl : i = s.size := by omega
    simp only [if_neg (show ¬ ((s.size : Int) < (s.size : Int)) by omega)]
    rw [List.drop_eq_nil_of_le (by rw [size_of]; omega), bad_nil]
    exact Ev.now _
theorem ref_valid_ev (s : ByteArray) (hs : s.size ≤ 140737488355328) : Ev (fun k => dragomanref1_Valid.f k s) (rbadR 0 (bad (bytesOf s))) :=
  ref_valid_l0 s hs _ 0 (by omega) rfl
def ints (l : List Nat) : List Int := l.map fun n : Nat => (n : Int)
theorem starts_l0 (s : ByteArray) (hs : s.size ≤ 8796093022208) (n : Nat) : ∀ (acc : List Int) (i : Nat), i ≤ s.size → s.size - i = n → acc.length ≤ i → Ev (fun k => dragomanref1_Starts.l0 k s acc (i : Int)) (acc ++ ints ((sts ((bytesOf s).drop i)).map (· + i))) := by
  induction n using Nat.strongRecOn with
  | _ n ih =>
  intro acc i hi hn hc
  have hL : ((bytesOf s).drop i).length = s.size - i := by rw [List.length_drop, size_of]
  have hBd : Bytes ((bytesOf s).drop i) := (bytes_of s).drop i
  refine Ev.step (fun k => by rw [dragomanref1_Starts.l0]) ?_
  by_cases h : i < s.size
  · have h1 : (i : Int) < (s.size : Int) := by omega
    have h2 : (0 : Int) ≤ (i : Int) := by omega
    have h3 : (i : Int) ≤ (s.size : Int) := by omega
    have hne : (bytesOf s).drop i ≠ [] := fun e => by rw [e] at hL; simp at hL; omega
    have h4 : acc.length < 17592186044416 := by omega
    simp only [if_pos h1, if_pos h2, if_pos h3, if_pos h4, Int.toNat_natCast, Option.bind_some]
    refine Ev.bind (ref_take_ev _) ?_
    rw [bytesOf_drop]
    have hb := tk_bound _ hBd
    have hp := stp_pos _ hBd
    have hst := stp_le hBd hne
    have key : Ev (fun k => dragomanref1_Starts.l0 k s (acc ++ [(i : Int)]) ((i + stp ((bytesOf s).drop i) : Nat) : Int)) (acc ++ ints ((sts ((bytesOf s).drop i)).map (· + i))) := by
      have := ih (s.size - (i + stp ((bytesOf s).drop i))) (by omega) (acc ++ [(i : Int)]) (i + stp ((bytesOf s).drop i)) (by omega) rfl (by simp; omega)
      rw [sts_step hne, List.drop_drop]
      rw [show acc ++ ints ((0 :: (sts ((bytesOf s).drop (i + stp ((bytesOf s).drop i)))).map (· + stp ((bytesOf s).drop i))).map (· + i)) = acc ++ [(i : Int)] ++ ints ((sts ((bytesOf s).drop (i + stp ((bytesOf s).drop i)))).map (· + (i + stp ((bytesOf s).drop i)))) by
        simp [ints, List.map_map]
        intro x _
        omega]
      exact this
    by_cases h0 : (tk ((bytesOf s).drop i)).2 = 0
    · simp only [if_pos h0]
      have : stp ((bytesOf s).drop i) = 1 := by unfold stp; rw [if_pos h0]
      rw [this] at key
      rw [wrap_id (by omega) (by omega)]
      exact key
    · simp only [if_neg h0]
      rw [stp_int hBd h0, wrap_id (by omega) (by omega)]
      rw [show (i : Int) + (stp ((bytesOf s).drop i) : Int) = ((i + stp ((bytesOf s).drop i) : Nat) : Int) by omega]
      exact key
  · obtain rfl : i = s.size := by omega
    have h4 : acc.length < 17592186044416 := by omega
    simp only [if_neg (show ¬ ((s.size : Int) < (s.size : Int)) by omega), if_pos h4]
    rw [List.drop_eq_nil_of_le (by rw [size_of]; omega), sts_nil]
    simp only [List.map_cons, List.map_nil, Nat.zero_add, ints]
    exact Ev.now _
theorem starts_ev (s : ByteArray) (hs : s.size ≤ 8796093022208) : Ev (fun k => dragomanref1_Starts.f k s) (ints (sts (bytesOf s))) := by
  have := starts_l0 s hs _ [] 0 (by omega) rfl (by simp)
  refine Ev.congr (fun k => by rw [dragomanref1_Starts.f]) (g := fun k => dragomanref1_Starts.f k s) (f := fun k => dragomanref1_Starts.l0 k s [] 0) ?_
  simpa using this
theorem ints_length (l : List Nat) : (ints l).length = l.length := by simp [ints]
theorem ints_get (l : List Nat) {i : Nat} {p : Nat} (h : l[i]? = some p) : rd (ints l) (i : Int) = (p : Int) := by
  simp [rd, ints, List.getD_eq_getElem?_getD, h]
end Go.Proofs.YtoanbmggffkmgaaDoor.La
end
section
namespace Go.Proofs.YtoanbmggffkmgaaDoor.P
open Go.RowKit Go.Proofs.YtoanbmggffkmgaaDoor.La Go.Proofs.YtoanbmggffkmgaaDoorW.PrintWords Go.Proofs.YtoanbmggffkmgaaDoorW.PrintLast Go.Proofs.YtoanbmggffkmgaaDoorW.PrintMore
theorem Rdr.drewN {B : Nat} {w : World} {g : Nat} {text : ByteArray} {at_ : Int} {bs : List Int} (h : Rdr B w g text at_ bs) (n : Nat) : Rdr B (w.drewN n) g text at_ bs := by
  obtain ⟨hB, bv, hh, hr⟩ := h
  exact ⟨hB, bv, hh, Kd.R_drewN hr n⟩
theorem Rdr.below {B : Nat} {w w1 : World} {g : Nat} {text : ByteArray} {at_ : Int} {bs : List Int} (h : Rdr B w g text at_ bs) (hb : Below w.heap.size w w1) : Rdr B w1 g text at_ bs := by
  obtain ⟨hB, bv, hh, hr⟩ := h
  exact ⟨hB, bv, (hb.block g (rblk_lt hh)).trans hh, Kd.R_below hr hb⟩
theorem Rdr.low {B : Nat} {w : World} {g : Nat} {text : ByteArray} {at_ : Int} {bs : List Int} (h : Rdr B w g text at_ bs) : B ≤ w.heap.size := by
  obtain ⟨hB, bv, hh, hr⟩ := h
  have := rblk_lt hh
  omega
set_option maxRecDepth 100000 in
set_option maxHeartbeats 4000000 in
theorem rput {B g : Nat} {text : ByteArray} {at_ : Int} {bs : List Int} {w : World} (x n : Int) (hR : Rdr B w g text at_ bs) (hl : bs.length ≤ 140737488000000) (h0 : 0 ≤ at_) (h1 : at_ ≤ 140737488355328) (n0 : 0 ≤ n) (n1 : n ≤ 100) :
    Calls Tryd.prog 64 #[.pointer (some ⟨g, 0, none⟩), .int .i64 x, .int .i64 n] w fun e w' => e = .returned (.bool (decide (good x))) ∧ Rdr B w' g text (if good x then at_ + n else at_) (if good x then bs ++ enc x else bs) ∧ Below B w w' := by
  obtain ⟨A, c, c0, c1, c2, f1, f2, hlt, hc, hC⟩ := hR.open_
  by_cases hg : good x
  · rw [decide_eq_true hg, if_pos hg, if_pos hg]
    have H1 := Lib.hid (show utf_Good.f x = some true by rw [good_eq, decide_eq_true hg])
    have H2 := Lib.hid (show utf_Put.f bs x = some (bs ++ enc x) by rw [put_eq _ _ (by omega), if_pos hg])
    go_enter Tryd.func64, Tryd.ntmps64
    go_wp2_with (go_at_call 87; (with_reducible refine (utf_Good.calls _ _ _ H1.out).mono ?_); rintro e w' ⟨rfl, ⟨nd, rfl⟩⟩)
    refine (utf_Put.calls _ _ bs x _ _ (Kd.C_drewN hC nd) hc H2.out).mono ?_
    rintro e w1 ⟨v1, rfl, ho, hb⟩
    obtain ⟨A2, cc2, rfl, _, _⟩ := Kd.R_reads ho
    have hS := (hR.drewN nd).stored hb ho (at_ + n)
    obtain ⟨A1, cc1, d0, d1, d2, e1, e2, hlt1, _, _⟩ := ((hR.drewN nd).below hb).open_
    clear c0 c1 c2 f1 f2 ho
    simp only [List.length_append] at hS
    go_wp2
    go_ret
    exact ⟨rfl, hS.1, (pw_below_drewN (Below.refl _ _) nd).trans hS.2⟩
  · rw [decide_eq_false hg, if_neg hg, if_neg hg]
    have H1 := Lib.hid (show utf_Good.f x = some false by rw [good_eq, decide_eq_false hg])
    go_enter Tryd.func64, Tryd.ntmps64
    go_wp2_with (go_at_call 87; (with_reducible refine (utf_Good.calls _ _ _ H1.out).mono ?_); rintro e w' ⟨rfl, ⟨nd, rfl⟩⟩)
    go_ret
    exact ⟨rfl, hR.drewN nd, pw_below_drewN (Below.refl _ _) nd⟩
theorem rput_good {B g : Nat} {text : ByteArray} {at_ : Int} {bs : List Int} {w : World} {x : Int} (n : Int) (hg : good x) (hR : Rdr B w g text at_ bs) (hl : bs.length ≤ 140737488000000) (h0 : 0 ≤ at_) (h1 : at_ ≤ 140737488355328) (n0 : 0 ≤ n) (n1 : n ≤ 100) :
    Calls Tryd.prog 64 #[.pointer (some ⟨g, 0, none⟩), .int .i64 x, .int .i64 n] w fun e w' => e = .returned (.bool true) ∧ Rdr B w' g text (at_ + n) (bs ++ enc x) ∧ Below B w w' := by
  refine (rput x n hR hl h0 h1 n0 n1).mono fun e w' h => ?_
  rw [decide_eq_true hg, if_pos hg, if_pos hg] at h
  exact h
theorem rput_bad {B g : Nat} {text : ByteArray} {at_ : Int} {bs : List Int} {w : World} {x : Int} (n : Int) (hg : ¬ good x) (hR : Rdr B w g text at_ bs) (hl : bs.length ≤ 140737488000000) (h0 : 0 ≤ at_) (h1 : at_ ≤ 140737488355328) (n0 : 0 ≤ n) (n1 : n ≤ 100) :
    Calls Tryd.prog 64 #[.pointer (some ⟨g, 0, none⟩), .int .i64 x, .int .i64 n] w fun e w' => e = .returned (.bool false) ∧ Rdr B w' g text at_ bs ∧ Below B w w' := by
  refine (rput x n hR hl h0 h1 n0 n1).mono fun e w' h => ?_
  rw [decide_eq_false hg, if_neg hg, if_neg hg] at h
  exact h
theorem take_now (s : ByteArray) : utf_Take.f 6 s = some (tk (bytesOf s)) := take_eq 0 s
set_option maxRecDepth 100000 in
set_option maxHeartbeats 4000000 in
theorem rletter {B g : Nat} {text : ByteArray} {at_ : Int} {bs : List Int} {w : World} (hR : Rdr B w g text at_ bs) (hl : bs.length ≤ 140737488000000) (h0 : 0 ≤ at_) (h1 : at_ ≤ text.size) (h2 : text.size ≤ 140737488000000) :
    Calls Tryd.prog 40 #[.pointer (some ⟨g, 0, none⟩)] w fun e w' => e = .returned (.bool (decide ((tk ((bytesOf text).drop at_.toNat)).2 > 0))) ∧ Rdr B w' g text (at_ + (tk ((bytesOf text).drop at_.toNat)).2) (bs ++ enc0 (tk ((bytesOf text).drop at_.toNat)).1) ∧ Below B w w' := by
  obtain ⟨A, c, c0, c1, c2, f1, f2, hlt, hc, hC⟩ := hR.open_
  have HT := Lib.hid (show utf_Take.f 6 (text.extract at_.toNat text.size) = some ((tk ((bytesOf text).drop at_.toNat)).1, (tk ((bytesOf text).drop at_.toNat)).2) by rw [take_now, bytesOf_drop])
  have hbd := tk_bound ((bytesOf text).drop at_.toNat) ((bytes_of text).drop at_.toNat)
  have H2 := Lib.hid (show utf_Put.f bs (tk ((bytesOf text).drop at_.toNat)).1 = some (bs ++ enc0 (tk ((bytesOf text).drop at_.toNat)).1) by
    rw [put_eq _ _ (by omega)]; unfold enc0; split <;> simp)
  generalize (tk ((bytesOf text).drop at_.toNat)).1 = x at HT H2 hbd ⊢
  generalize (tk ((bytesOf text).drop at_.toNat)).2 = n at HT hbd ⊢
  obtain ⟨n0, n1, _, _, _⟩ := hbd
  have hwr : IntKind.i64.wrap (at_ + n) = at_ + n := wraps_i64 _ (by omega) (by omega)
  have HW := Lib.hid hwr
  clear hwr
  have c3b0 := eq_true h0
  have c3b1 : decide (0 ≤ at_) = true := decide_eq_true h0
  have c4b0 := eq_true h1
  have c4b1 : decide (at_ ≤ (text.size : Int)) = true := decide_eq_true h1
  go_enter Tryd.func40, Tryd.ntmps40
  go_wp2_with fail
  go_quiet (first | (go_at_call 66; (with_reducible refine (utf_Take.calls 6 (text.extract at_.toNat text.size) x n _ HT.out).mono ?_); rintro e w' ⟨rfl, ⟨nd, rfl⟩⟩; (try first | exact ⟨rfl, _, World.drewN_drewN _ _ _⟩ | exact ⟨rfl, _, Eq.trans (World.drewN_drewN _ _ _) (congrArg (World.drewN _) (Nat.add_assoc _ _ _))⟩)))
  go_wp2_with fail
  refine (utf_Put.calls _ _ bs x _ _ (Kd.C_drewN hC nq) hc H2.out).mono ?_
  rintro e w1 ⟨v1, rfl, ho, hb⟩
  obtain ⟨A2, cc2, rfl, _, _⟩ := Kd.R_reads ho
  have hS := (hR.drewN nq).stored hb ho (at_ + n)
  obtain ⟨A1, cc1, d0, d1, d2, e1, e2, hlt1, _, _⟩ := ((hR.drewN nq).below hb).open_
  clear c0 c1 c2 f1 f2 ho
  have hz : at_ ≤ 140737488000000 := by omega
  simp only [List.length_append] at hS
  go_wp2
  go_ret
  exact ⟨rfl, hS.1, (pw_below_drewN (Below.refl _ _) nq).trans hS.2⟩
set_option maxRecDepth 100000 in
set_option maxHeartbeats 4000000 in
theorem rbegins {B g : Nat} {text : ByteArray} {at_ : Int} {bs : List Int} {w : World} (p : ByteArray) (hR : Rdr B w g text at_ bs) (h0 : 0 ≤ at_) (h1 : at_ ≤ text.size) :
    Calls Tryd.prog 38 #[.pointer (some ⟨g, 0, none⟩), .string p] w fun e w' => e = .returned (.bool (decide (((bytesOf text).drop at_.toNat).take p.size = bytesOf p))) ∧ Drawn0 w w' := by
  obtain ⟨A, c, c0, c1, c2, f1, f2, hlt, hc, hC⟩ := hR.open_
  have HT := Lib.hid (show strings_HasPrefix.f (text.extract at_.toNat text.size) p = some (decide (((bytesOf text).drop at_.toNat).take p.size = bytesOf p)) by rw [hasPrefix_eq, bytesOf_drop])
  generalize decide (((bytesOf text).drop at_.toNat).take p.size = bytesOf p) = r at HT ⊢
  have c3b0 := eq_true h0
  have c3b1 : decide (0 ≤ at_) = true := decide_eq_true h0
  have c4b0 := eq_true h1
  have c4b1 : decide (at_ ≤ (text.size : Int)) = true := decide_eq_true h1
  go_enter Tryd.func38, Tryd.ntmps38
  go_wp2_with fail
  go_quiet (first | (go_at_call 62; (with_reducible refine (strings_HasPrefix.calls (text.extract at_.toNat text.size) p r _ HT.out).mono ?_); rintro e w' ⟨rfl, ⟨nd, rfl⟩⟩; (try first | exact ⟨rfl, _, World.drewN_drewN _ _ _⟩ | exact ⟨rfl, _, Eq.trans (World.drewN_drewN _ _ _) (congrArg (World.drewN _) (Nat.add_assoc _ _ _))⟩)))
  go_wp2
  go_ret
  exact ⟨rfl, _, rfl⟩
/-- What digits answers: of n bytes behind place i. -/
def digsAt (l : List Int) (i n : Nat) : Option Int := if i + n ≤ l.length then hexI 0 ((l.drop i).take n) else none
set_option maxRecDepth 100000 in
set_option maxHeartbeats 4000000 in
theorem rdigits {B g : Nat} {text : ByteArray} {at_ : Int} {bs : List Int} {w : World} (i n : Nat) (hn0 : 1 ≤ n) (hn8 : n ≤ 8) (hR : Rdr B w g text at_ bs) (h2 : text.size ≤ 140737488000000) (hi : i ≤ text.size + 100) :
    Calls Tryd.prog 65 #[.pointer (some ⟨g, 0, none⟩), .int .i64 i, .int .i64 n] w fun e w' => e = .returned (.tuple #[.int .i64 ((digsAt (bytesOf text) i n).getD 0), .bool (digsAt (bytesOf text) i n).isSome]) ∧ Rdr B w' g text at_ bs ∧ Below B w w' := by
  obtain ⟨A, c, c0, c1, c2, f1, f2, hlt, hc, hC⟩ := hR.open_
  have hlow := hR.low
  by_cases hlen : i + n ≤ text.size
  · have hsz : (text.extract i (i + n)).size = n := by rw [← size_of, bytesOf_extract, List.length_drop, List.length_take, size_of]; omega
    have hbx : bytesOf (text.extract i (i + n)) = ((bytesOf text).drop i).take n := by rw [bytesOf_extract, List.drop_take, show i + n - i = n by omega]
    have HT := Lib.hid (show esc_Hex.f (text.extract i (i + n)) = some ((digsAt (bytesOf text) i n).getD 0, (digsAt (bytesOf text) i n).isSome) by
      unfold esc_Hex.f digsAt
      rw [hsz, if_neg (by omega), hbx, if_pos (by rw [size_of]; exact hlen)])
    clear hsz hbx
    generalize (digsAt (bytesOf text) i n).getD 0 = x at HT ⊢
    generalize (digsAt (bytesOf text) i n).isSome = ok at HT ⊢
    have g1 : ¬ ((text.size : Int) < (i : Int)) := by omega
    have g2 : ¬ ((text.size : Int) - (i : Int) < (n : Int)) := by omega
    have g3 : (i : Int) ≤ (i : Int) + (n : Int) := by omega
    have g4 : (i : Int) + (n : Int) ≤ (text.size : Int) := by omega
    go_enter Tryd.func65, Tryd.ntmps65
    go_wp2_with fail
    refine (esc_Hex.calls (text.extract i (i + n)) _ _ _ HT.out).mono ?_
    rintro e w1 ⟨rfl, hb⟩
    have hR1 := hR.below hb
    have hB1 := hb.mono hlow
    clear c0 c1 c2 f1 f2 hb
    go_wp2
    go_ret2
    exact ⟨rfl, hR1, hB1⟩
  · have HT := Lib.hid (show digsAt (bytesOf text) i n = none from if_neg (by rw [size_of]; exact hlen))
    by_cases hi2 : text.size < i
    · have g1 : (text.size : Int) < (i : Int) := by omega
      clear hlen
      go_enter Tryd.func65, Tryd.ntmps65
      go_wp2
      go_ret2
      exact ⟨by rw [HT.out]; rfl, hR, Below.refl _ _⟩
    · have g1 : ¬ ((text.size : Int) < (i : Int)) := by omega
      have g2 : ((text.size : Int) - (i : Int) < (n : Int)) := by omega
      clear hlen hi2
      go_enter Tryd.func65, Tryd.ntmps65
      go_wp2
      go_ret2
      exact ⟨by rw [HT.out]; rfl, hR, Below.refl _ _⟩
theorem rdigits_at {B g : Nat} {text : ByteArray} {at_ : Int} {bs : List Int} {w : World} (j m : Int) (i n : Nat) (hj : j = (i : Int)) (hm : m = (n : Int)) (hn0 : 1 ≤ n) (hn8 : n ≤ 8) (hR : Rdr B w g text at_ bs) (h2 : text.size ≤ 140737488000000) (hi : i ≤ text.size + 100) :
    Calls Tryd.prog 65 #[.pointer (some ⟨g, 0, none⟩), .int .i64 j, .int .i64 m] w fun e w' => e = .returned (.tuple #[.int .i64 ((digsAt (bytesOf text) i n).getD 0), .bool (digsAt (bytesOf text) i n).isSome]) ∧ Rdr B w' g text at_ bs ∧ Below B w w' := by
  subst hj
  subst hm
  exact rdigits i n hn0 hn8 hR h2 hi
end Go.Proofs.YtoanbmggffkmgaaDoor.P
end
section
namespace Go.Proofs.YtoanbmggffkmgaaDoor.P
open Go.RowKit Go.Proofs.YtoanbmggffkmgaaDoorW.PrintWords Go.Proofs.YtoanbmggffkmgaaDoorW.PrintLast Go.Proofs.YtoanbmggffkmgaaDoorW.PrintMore
attribute [local go_sem] max2_int min2_int max_two min_two max_three min_three max_four min_four   -- for this text's walks alone
set_option linter.unusedVariables false
set_option linter.unusedSimpArgs false
/-! ### esc_short: function 63 -/
def esc_short.j0 : Nat → Int → Bool → Bool → Option (Int × Bool)
  | 0, _, _, _ => none
  | k + 1, x0, x1, x15 => if x15 = true then (some (47, true)) else (if x0 = 101 then (if x1 = true then (some (27, true)) else (some (0, false))) else (some (0, false)))
def esc_short.f (k : Nat) (a0 : Int) (a1 : Bool) : Option (Int × Bool) := (strings_IndexByte.f (⟨#[34, 92, 98, 102, 110, 114, 116]⟩ : ByteArray) a0).bind fun t137 => (if t137 ≥ 0 then (if 0 ≤ t137 then (if t137 < 7 then (some (wrap64 (bt (⟨#[34, 92, 8, 12, 10, 13, 9]⟩ : ByteArray) t137), true)) else (none)) else (none)) else (if a0 = 47 then (esc_short.j0 k a0 a1 (!a1)) else (esc_short.j0 k a0 a1 false)))
set_option maxHeartbeats 8000000 in
set_option maxRecDepth 100000 in
theorem esc_short.calls (k : Nat) (a0 : Int) (a1 : Bool) (r1 : Int) (r2 : Bool) (w : World) (h : esc_short.f k a0 a1 = some (r1, r2)) :
    Calls Tryd.prog 63 #[.int .u8 a0, .bool a1] w fun e w' => e = .returned (.tuple #[.int .i64 r1, .bool r2]) ∧ Drawn0 w w' := by
  have H : ((strings_IndexByte.f (⟨#[34, 92, 98, 102, 110, 114, 116]⟩ : ByteArray) a0).bind fun t137 => (if t137 ≥ 0 then (if 0 ≤ t137 then (if t137 < 7 then (some (wrap64 (bt (⟨#[34, 92, 8, 12, 10, 13, 9]⟩ : ByteArray) t137), true)) else (none)) else (none)) else (if a0 = 47 then (esc_short.j0 k a0 a1 (!a1)) else (esc_short.j0 k a0 a1 false)))) = some (r1, r2) := h
  clear h
  replace H := Option.bind_eq_some_iff.mp H
  obtain ⟨t137, A30, H⟩ := H
  replace H : (if t137 ≥ 0 then (if 0 ≤ t137 then (if t137 < 7 then (some (wrap64 (bt (⟨#[34, 92, 8, 12, 10, 13, 9]⟩ : ByteArray) t137), true)) else (none)) else (none)) else (if a0 = 47 then (esc_short.j0 k a0 a1 (!a1)) else (esc_short.j0 k a0 a1 false))) = some (r1, r2) := H
  have A3 := Aside0.mk A30
  clear A30
  by_cases c4 : t137 ≥ 0
  · rw [if_pos c4] at H
    have c4b0 : decide (0 ≤ t137) = true := decide_eq_true c4
    clear c4
    by_cases c5 : 0 ≤ t137
    · rw [if_pos c5] at H
      have c5b0 : decide (0 ≤ t137) = true := decide_eq_true c5
      clear c5
      by_cases c6 : t137 < 7
      · rw [if_pos c6] at H
        have c6b0 : decide (t137 < 7) = true := decide_eq_true c6
        clear c6
        simp only [Option.some.injEq, Prod.mk.injEq] at H
        obtain ⟨rfl, rfl⟩ := H
        go_enter Tryd.func63, Tryd.ntmps63
        go_wp2_with (first | ((with_reducible refine gate_callee (f := 56) rfl ?_); refine goesL_ (some 8) rfl rfl Tryd.func56 (by kernel_rfl) rfl #[.string (⟨#[34, 92, 98, 102, 110, 114, 116]⟩ : ByteArray), .int .u8 a0] rfl (by (try simp only [List.map_toArray, List.map_cons, List.map_nil]); first | done | rfl | (simp only [List.length_drop, List.length_take]; rfl)) ?_; (with_reducible refine (strings_IndexByte.calls (⟨#[34, 92, 98, 102, 110, 114, 116]⟩ : ByteArray) a0 t137 _ A3.out).mono ?_); rintro e w' ⟨rfl, ⟨nd, rfl⟩⟩; refine ⟨_, rfl, ?_⟩; have p7 : 0 ≤ (t137 : Int) := of_decide_eq_true (by first | (with_reducible assumption) | assumption); have q7 : t137 < (7 : Int) := of_decide_eq_true (by first | (with_reducible assumption) | assumption); have hx7 := bt_at (⟨#[34, 92, 8, 12, 10, 13, 9]⟩ : ByteArray) t137; replace p7 := eq_true p7; replace q7 := eq_true q7))
        go_ret2
        exact ⟨by first | rfl | (simp; done) | (simp [*]; done), by repeat (first | exact Drawn0.refl _ | apply Drawn0.step)⟩
      · rw [if_neg c6] at H
        exact absurd H (by simp)
    · rw [if_neg c5] at H
      exact absurd H (by simp)
  · rw [if_neg c4] at H
    have c4b0 : decide (0 ≤ t137) = false := decide_eq_false c4
    clear c4
    have HC8 := Aside0.mk H
    clear H
    go_enter Tryd.func63, Tryd.ntmps63
    go_upto_region 4 with (first | ((with_reducible refine gate_callee (f := 56) rfl ?_); refine goesL_ (some 8) rfl rfl Tryd.func56 (by kernel_rfl) rfl #[.string (⟨#[34, 92, 98, 102, 110, 114, 116]⟩ : ByteArray), .int .u8 a0] rfl (by (try simp only [List.map_toArray, List.map_cons, List.map_nil]); first | done | rfl | (simp only [List.length_drop, List.length_take]; rfl)) ?_; (with_reducible refine (strings_IndexByte.calls (⟨#[34, 92, 98, 102, 110, 114, 116]⟩ : ByteArray) a0 t137 _ A3.out).mono ?_); rintro e w' ⟨rfl, ⟨nd, rfl⟩⟩; refine ⟨_, rfl, ?_⟩))
    (try simp only [Act.put, List.setIfInBounds_toArray, List.set_cons_zero, List.set_cons_succ])
    go_cut [15] (fun v15 wc => ∃ (kq : Nat) (x15_7 : Bool), v15 = .bool x15_7 ∧ Aside0 (esc_short.j0 kq a0 a1 x15_7 = some (r1, r2)) ∧ Aside0 (kq ≤ k) ∧ Drawn0 w wc)
    case first =>
      have H := HC8.out
      clear HC8
      by_cases c9 : a0 = 47
      · rw [if_pos c9] at H
        have c9b0 : (a0 == 47) = true := beq_iff_eq.mpr c9
        have c9b1 : (a0 != 47) = false := bne_eq_false_iff_eq.mpr c9
        clear c9
        (first | rw [c9b0] | (simp only [i64_w, i32_w]; rw [c9b0]) | skip)
        have H' := Aside0.mk H
        clear H
        go_wp2
        go_meet
        case rel => exact ⟨_, (!a1), (by first | rfl | (simp; done) | (simp [*]; done)), H', ⟨by first | omega | exact Nat.le_refl _⟩, by repeat (first | exact Drawn0.refl _ | apply Drawn0.step)⟩
      · rw [if_neg c9] at H
        have c9b0 : (a0 == 47) = false := beq_eq_false_iff_ne.mpr c9
        have c9b1 : (a0 != 47) = true := bne_iff_ne.mpr c9
        (first | rw [c9b0] | (simp only [i64_w, i32_w]; rw [c9b0]) | skip)
        have H' := Aside0.mk H
        clear H
        go_wp2
        go_meet
        case rel => exact ⟨_, (false), (by first | rfl | (simp; done) | (simp [*]; done)), H', ⟨by first | omega | exact Nat.le_refl _⟩, by repeat (first | exact Drawn0.refl _ | apply Drawn0.step)⟩
    case rest =>
      clear HC8
      try clear p2
      try clear c4
      try clear c4b0
      try clear c5
      try clear c5b0
      try clear c6
      try clear c6b0
      try clear p6
      try clear p7
      try clear q7
      try clear hx7
      try clear c9
      try clear c9b0
      try clear c9b1
      try clear p7
      try clear q7
      obtain ⟨kq, x15_7, rfl, HA, HJ7, ⟨mc7, rfl⟩⟩ := hcut
      cases kq with
      | zero => exact absurd HA.out (by simp [esc_short.j0])
      | succ kj7 =>
        have H := HA.out
        clear HA
        simp only [esc_short.j0] at H
        by_cases c10 : x15_7 = true
        · subst c10
          have H1 : (some (47, true)) = some (r1, r2) := by rw [if_pos rfl] at H; exact H
          clear H
          have H := H1
          clear H1
          simp only [Option.some.injEq, Prod.mk.injEq] at H
          obtain ⟨rfl, rfl⟩ := H
          go_wp2
          go_ret2
          exact ⟨by first | rfl | (simp; done) | (simp [*]; done), by repeat (first | exact Drawn0.refl _ | apply Drawn0.step)⟩
        · replace c10 := Bool.eq_false_iff.mpr c10
          subst c10
          have H1 : (if a0 = 101 then (if a1 = true then (some (27, true)) else (some (0, false))) else (some (0, false))) = some (r1, r2) := by rw [if_neg (show ¬ (false = true) by decide)] at H; exact H
          clear H
          have H := H1
          clear H1
          by_cases c11 : a0 = 101
          · rw [if_pos c11] at H
            have c11b0 : (a0 == 101) = true := beq_iff_eq.mpr c11
            have c11b1 : (a0 != 101) = false := bne_eq_false_iff_eq.mpr c11
            clear c11
            by_cases c12 : a1 = true
            · subst c12
              have H1 : (some (27, true)) = some (r1, r2) := by rw [if_pos rfl] at H; exact H
              clear H
              have H := H1
              clear H1
              simp only [Option.some.injEq, Prod.mk.injEq] at H
              obtain ⟨rfl, rfl⟩ := H
              go_wp2
              go_ret2
              exact ⟨by first | rfl | (simp; done) | (simp [*]; done), by repeat (first | exact Drawn0.refl _ | apply Drawn0.step)⟩
            · replace c12 := Bool.eq_false_iff.mpr c12
              subst c12
              have H1 : (some (0, false)) = some (r1, r2) := by rw [if_neg (show ¬ (false = true) by decide)] at H; exact H
              clear H
              have H := H1
              clear H1
              simp only [Option.some.injEq, Prod.mk.injEq] at H
              obtain ⟨rfl, rfl⟩ := H
              go_wp2
              go_ret2
              exact ⟨by first | rfl | (simp; done) | (simp [*]; done), by repeat (first | exact Drawn0.refl _ | apply Drawn0.step)⟩
          · rw [if_neg c11] at H
            have c11b0 : (a0 == 101) = false := beq_eq_false_iff_ne.mpr c11
            have c11b1 : (a0 != 101) = true := bne_iff_ne.mpr c11
            simp only [Option.some.injEq, Prod.mk.injEq] at H
            obtain ⟨rfl, rfl⟩ := H
            go_wp2
            go_ret2
            exact ⟨by first | rfl | (simp; done) | (simp [*]; done), by repeat (first | exact Drawn0.refl _ | apply Drawn0.step)⟩
end Go.Proofs.YtoanbmggffkmgaaDoor.P
end
section
namespace Go.Proofs.YtoanbmggffkmgaaDoor.La
open Go.RowKit Go.Proofs.YtoanbmggffkmgaaDoor.P Go.Proofs.YtoanbmggffkmgaaDoorW.PrintWords Go.Proofs.YtoanbmggffkmgaaDoorW.PrintLast Go.Proofs.YtoanbmggffkmgaaDoorW.PrintMore
/-- The letter of a short escape of JSON. -/
def shortJ (c : Int) : Option Int := if c = 34 then some 34 else if c = 92 then some 92 else if c = 98 then some 8 else if c = 102 then some 12 else if c = 110 then some 10 else if c = 114 then some 13 else if c = 116 then some 9 else if c = 47 then some 47 else none
theorem shortJ_fin : ∀ b : Fin 256, esc_short.f 3 (b.val : Int) false = some ((shortJ b.val).getD 0, (shortJ b.val).isSome) := by decide +kernel
theorem short_eq {c : Int} (h0 : 0 ≤ c) (h1 : c < 256) : esc_short.f 3 c false = some ((shortJ c).getD 0, (shortJ c).isSome) := by
  obtain ⟨n, rfl⟩ := Int.eq_ofNat_of_zero_le h0
  exact shortJ_fin ⟨n, by omega⟩
theorem shortJ_good {c x : Int} (h : shortJ c = some x) : good x := by
  unfold shortJ at h
  (repeat' split at h) <;> first | (cases h; done) | (obtain rfl := Option.some.inj h; exact good_iff.2 (by omega))
/-- What an escape of JSON says, and how many bytes it has. -/
def jesc (l : List Int) : Option (Int × Nat) :=
  if l.length ≤ 1 then none
  else if (shortJ (l.getD 1 0)).isSome = true then some ((shortJ (l.getD 1 0)).getD 0, 2)
  else if l.getD 1 0 ≠ 117 ∨ (digsAt l 2 4).isSome = false then none
  else if (digsAt l 2 4).getD 0 < 55296 ∨ (digsAt l 2 4).getD 0 ≥ 56320 then (if good ((digsAt l 2 4).getD 0) then some ((digsAt l 2 4).getD 0, 6) else none)
  else if (digsAt l 8 4).isSome = false ∨ (l.drop 6).take 2 ≠ [92, 117] ∨ (digsAt l 8 4).getD 0 < 56320 ∨ (digsAt l 8 4).getD 0 > 57343 then none
  else some (65536 + ((digsAt l 2 4).getD 0 - 55296) * 1024 + ((digsAt l 8 4).getD 0 - 56320), 12)
theorem digsAt_drop (l : List Int) {i : Nat} (hi : i ≤ l.length) (j n : Nat) : digsAt (l.drop i) j n = digsAt l (i + j) n := by
  unfold digsAt
  rw [List.length_drop, List.drop_drop]
  by_cases h : j + n ≤ l.length - i
  · rw [if_pos h, if_pos (by omega)]
  · by_cases h2 : i + j + n ≤ l.length
    · omega
    · rw [if_neg h, if_neg h2]
theorem hexI_bound {l : List Int} {x : Int} (x0 : 0 ≤ x) {v : Int} (h : hexI x l = some v) : 0 ≤ v ∧ v < (x + 1) * 16 ^ l.length := by
  induction l generalizing x with
  | nil =>
    simp only [hexI] at h
    obtain rfl := Option.some.inj h
    simp
    omega
  | cons b l ih =>
    simp only [hexI] at h
    obtain ⟨d, hd, h⟩ := Option.bind_eq_some_iff.1 h
    have hl := hexVal_lt hd
    have h2 := ih (x := x * 16 + d) (by omega) h
    refine ⟨h2.1, Int.lt_of_lt_of_le h2.2 ?_⟩
    rw [List.length_cons, Int.pow_succ, Int.mul_comm (16 ^ l.length) 16, ← Int.mul_assoc]
    exact Int.mul_le_mul_of_nonneg_right (by omega) (Int.pow_nonneg (by decide))
theorem digs4_bound (l : List Int) (i : Nat) : 0 ≤ (digsAt l i 4).getD 0 ∧ (digsAt l i 4).getD 0 < 65536 := by
  cases h : digsAt l i 4 with
  | none => simp
  | some v =>
    unfold digsAt at h
    split at h
    · rename_i hl
      have := hexI_bound (Int.le_refl 0) h
      rw [List.length_take, List.length_drop, Nat.min_eq_left (by omega)] at this
      simpa using this
    · cases h
end Go.Proofs.YtoanbmggffkmgaaDoor.La
namespace Go.Proofs.YtoanbmggffkmgaaDoor.P
open Go.RowKit Go.Proofs.YtoanbmggffkmgaaDoor.La Go.Proofs.YtoanbmggffkmgaaDoorW.PrintWords Go.Proofs.YtoanbmggffkmgaaDoorW.PrintLast Go.Proofs.YtoanbmggffkmgaaDoorW.PrintMore
theorem getD_drop (l : List Int) (i j : Nat) : (l.drop i).getD j 0 = l.getD (i + j) 0 := by
  simp [List.getD_eq_getElem?_getD, List.getElem?_drop]
/-- What escape leaves. -/
def EscPost (B g : Nat) (text : ByteArray) (i : Nat) (bs : List Int) (w : World) (e : Ending) (w' : World) : Prop :=
  e = .returned (.bool (jesc ((bytesOf text).drop i)).isSome) ∧
  Rdr B w' g text (match jesc ((bytesOf text).drop i) with | none => (i : Int) | some p => (i : Int) + p.2) (match jesc ((bytesOf text).drop i) with | none => bs | some p => bs ++ enc p.1) ∧ Below B w w'
set_option maxRecDepth 100000 in
set_option maxHeartbeats 8000000 in
theorem resc_short {B g : Nat} {text : ByteArray} {i : Nat} {bs : List Int} {w : World} (hR : Rdr B w g text (i : Int) bs) (hl : bs.length ≤ 140737488000000) (h1 : i < text.size) (h2 : text.size ≤ 140737488000000) (hj : i + 1 = text.size ∨ (i + 1 < text.size ∧ (shortJ (bt text (i + 1))).isSome = true)) :
    Calls Tryd.prog 39 #[.pointer (some ⟨g, 0, none⟩)] w (EscPost B g text i bs w) := by
  obtain ⟨A, c, c0, c1, c2, f1, f2, hlt, hc, hC⟩ := hR.open_
  have hlow := hR.low
  have hlen : ((bytesOf text).drop i).length = text.size - i := by rw [List.length_drop, size_of]
  rcases hj with hj | ⟨hj, hs⟩
  · have HJ := Lib.hid (show jesc ((bytesOf text).drop i) = none from if_pos (by omega))
    have e1 : ((i : Int) + 1 == (text.size : Int)) = true := beq_iff_eq.2 (by omega)
    clear hlen hj
    go_enter Tryd.func39, Tryd.ntmps39
    go_wp2_with fail
    go_quiet (fail)
    go_wp2
    go_ret
    exact ⟨by rw [HJ.out]; rfl, by rw [HJ.out]; exact hR.drewN _, pw_below_drewN (Below.refl _ _) _⟩
  · have e1 : ((i : Int) + 1 == (text.size : Int)) = false := beq_eq_false_iff_ne.2 (by omega)
    have hbt : bt text ((i : Int) + 1) = ((bytesOf text).drop i).getD 1 0 := by rw [bt_get, getD_drop]; congr 1
    have hbr := bt_range text ((i : Int) + 1)
    have HS := Lib.hid (show esc_short.f 3 (bt text ((i : Int) + 1)) false = some ((shortJ (bt text ((i : Int) + 1))).getD 0, true) by rw [short_eq (by omega) (by omega), hs])
    obtain ⟨x, hx⟩ := Option.isSome_iff_exists.1 hs
    have hg := shortJ_good hx
    have HJ := Lib.hid (show jesc ((bytesOf text).drop i) = some (x, 2) by unfold jesc; rw [if_neg (by omega), ← hbt, hx]; rfl)
    rw [hx] at HS
    clear hlen hs hx hbt
    have p1 := eq_true (show (0 : Int) ≤ (i : Int) + 1 by omega)
    have qi1 := eq_true (show (i : Int) + 1 < (text.size : Int) by omega)
    have q1 := eq_true (show ((i : Int) + 1).toNat < text.size by omega)
    have q2 := eq_true hj
    have hx1 : ∀ h : i + 1 < text.size, ((text[i + 1]'h).toNat : Int) = bt text ((i : Int) + 1) := fun h => bt_at text ((i : Int) + 1) (by omega)
    go_enter Tryd.func39, Tryd.ntmps39
    go_wp2_with fail
    go_quiet (fail)
    go_wp2_with fail
    go_quiet (fail)
    go_wp2_with fail
    refine (esc_short.calls 3 _ _ _ _ _ HS.out).mono ?_
    rintro e w1 ⟨rfl, n1, rfl⟩
    go_wp2_with fail
    refine (rput_good 2 hg (hR.drewN _) hl (by omega) (by omega) (by decide) (by decide)).mono ?_
    rintro e w2 ⟨rfl, hR2, hB2⟩
    clear c0 c1 c2 f1 f2
    go_wp2
    go_ret
    exact ⟨by rw [HJ.out]; rfl, by rw [HJ.out]; exact hR2, (pw_below_drewN (Below.refl _ _) _).trans hB2⟩
set_option maxRecDepth 100000 in
set_option maxHeartbeats 16000000 in
theorem resc_hex {B g : Nat} {text : ByteArray} {i : Nat} {bs : List Int} {w : World} (hR : Rdr B w g text (i : Int) bs) (hl : bs.length ≤ 140737488000000) (h2 : text.size ≤ 140737488000000) (hj : i + 1 < text.size) (hs : shortJ (bt text (i + 1)) = none) :
    Calls Tryd.prog 39 #[.pointer (some ⟨g, 0, none⟩)] w (EscPost B g text i bs w) := by
  obtain ⟨A, c, c0, c1, c2, f1, f2, hlt, hc, hC⟩ := hR.open_
  have hlow := hR.low
  have hlen : ((bytesOf text).drop i).length = text.size - i := by rw [List.length_drop, size_of]
  have e1 : ((i : Int) + 1 == (text.size : Int)) = false := beq_eq_false_iff_ne.2 (by omega)
  have hbt : bt text ((i : Int) + 1) = ((bytesOf text).drop i).getD 1 0 := by rw [bt_get, getD_drop]; congr 1
  have hbr := bt_range text ((i : Int) + 1)
  have HS := Lib.hid (show esc_short.f 3 (bt text ((i : Int) + 1)) false = some (0, false) by rw [short_eq (by omega) (by omega), hs]; rfl)
  have hd2 : digsAt ((bytesOf text).drop i) 2 4 = digsAt (bytesOf text) (i + 2) 4 := digsAt_drop _ (by rw [size_of]; omega) _ _
  have hd8 : digsAt ((bytesOf text).drop i) 8 4 = digsAt (bytesOf text) (i + 8) 4 := digsAt_drop _ (by rw [size_of]; omega) _ _
  have hJ : jesc ((bytesOf text).drop i) =
      if bt text ((i : Int) + 1) ≠ 117 ∨ (digsAt (bytesOf text) (i + 2) 4).isSome = false then none
      else if (digsAt (bytesOf text) (i + 2) 4).getD 0 < 55296 ∨ (digsAt (bytesOf text) (i + 2) 4).getD 0 ≥ 56320 then (if good ((digsAt (bytesOf text) (i + 2) 4).getD 0) then some ((digsAt (bytesOf text) (i + 2) 4).getD 0, 6) else none)
      else if (digsAt (bytesOf text) (i + 8) 4).isSome = false ∨ (((bytesOf text).drop i).drop 6).take 2 ≠ [92, 117] ∨ (digsAt (bytesOf text) (i + 8) 4).getD 0 < 56320 ∨ (digsAt (bytesOf text) (i + 8) 4).getD 0 > 57343 then none
      else some (65536 + ((digsAt (bytesOf text) (i + 2) 4).getD 0 - 55296) * 1024 + ((digsAt (bytesOf text) (i + 8) 4).getD 0 - 56320), 12) := by
    unfold jesc
    rw [if_neg (by omega), ← hbt, hs, hd2, hd8, if_neg (by decide)]
  have hx4 := digs4_bound (bytesOf text) (i + 2)
  have hy4 := digs4_bound (bytesOf text) (i + 8)
  have p1 := eq_true (show (0 : Int) ≤ (i : Int) + 1 by omega)
  have qi1 := eq_true (show (i : Int) + 1 < (text.size : Int) by omega)
  have q1 := eq_true (show ((i : Int) + 1).toNat < text.size by omega)
  have q2 := eq_true hj
  have hx1 : ∀ h : i + 1 < text.size, ((text[i + 1]'h).toNat : Int) = bt text ((i : Int) + 1) := fun h => bt_at text ((i : Int) + 1) (by omega)
  clear hlen hs hbt hd2 hd8
  have HJ := Lib.hid hJ
  clear hJ
  have HD := fun (w : World) (h : Rdr B w g text (i : Int) bs) => rdigits_at ((i : Int) + 2) 4 (i + 2) 4 (by omega) (by omega) (by decide) (by decide) h h2 (by omega)
  have HD8 := fun (w : World) (h : Rdr B w g text (i : Int) bs) => rdigits_at ((i : Int) + 2 + 4 + 2) 4 (i + 8) 4 (by omega) (by omega) (by decide) (by decide) h h2 (by omega)
  have hok2 : (digsAt (bytesOf text) (i + 8) 4).isSome = true → i + 12 ≤ text.size := by
    intro h
    unfold digsAt at h
    split at h
    · rename_i h3; rw [size_of] at h3; omega
    · cases h
  generalize (digsAt (bytesOf text) (i + 8) 4).isSome = ok2 at HD8 HJ hok2
  generalize (digsAt (bytesOf text) (i + 8) 4).getD 0 = y at HD8 HJ hy4
  generalize (digsAt (bytesOf text) (i + 2) 4).isSome = ok at HD HJ
  generalize (digsAt (bytesOf text) (i + 2) 4).getD 0 = x at HD HJ hx4
  by_cases hok : bt text ((i : Int) + 1) = 117 ∧ ok = true
  · obtain ⟨k1, rfl⟩ := hok
    have HDh := Lib.hid HD
    have HD8h := Lib.hid HD8
    have e2 : (bt text ((i : Int) + 1) != 117) = false := by rw [k1]; rfl
    have HJ1 := Lib.hid (HJ.out.trans (if_neg (by rw [k1]; simp)))
    clear HJ HD k1
    by_cases hx : x < 55296 ∨ x ≥ 56320
    · have HJ2 := Lib.hid (HJ1.out.trans (if_pos hx))
      clear HJ1 HD8 HD8h hy4
      have hx' : x < 55296 ∨ (¬ x < 55296 ∧ 56320 ≤ x) := by omega
      clear hx
      generalize bt text ((i : Int) + 1) = b at HS hbr hx1 e2
      by_cases hg : good x
      · have HN := Lib.hid (HJ2.out.trans (if_pos hg))
        clear HJ2
        rcases hx' with g1 | ⟨g1, g2⟩
        all_goals
          go_enter Tryd.func39, Tryd.ntmps39
          go_wp2_with fail
          go_quiet (fail)
          go_wp2_with fail
          go_quiet (fail)
          go_wp2_with fail
          refine (esc_short.calls 3 _ _ _ _ _ HS.out).mono ?_
          rintro e w1 ⟨rfl, n1, rfl⟩
          go_wp2_with fail
          refine (HDh.out _ (hR.drewN _)).mono ?_
          rintro e w2 ⟨rfl, hR2, hB2⟩
          clear c0 c1 c2 f1 f2
          go_wp2_with fail
          refine (rput_good 6 hg hR2 hl (by omega) (by omega) (by decide) (by decide)).mono ?_
          rintro e w3 ⟨rfl, hR3, hB3⟩
          go_wp2
          go_ret
          exact ⟨by rw [HN.out]; rfl, by rw [HN.out]; exact hR3, ((pw_below_drewN (Below.refl _ _) _).trans hB2).trans hB3⟩
      · have HN := Lib.hid (HJ2.out.trans (if_neg hg))
        clear HJ2
        rcases hx' with g1 | ⟨g1, g2⟩
        all_goals
          go_enter Tryd.func39, Tryd.ntmps39
          go_wp2_with fail
          go_quiet (fail)
          go_wp2_with fail
          go_quiet (fail)
          go_wp2_with fail
          refine (esc_short.calls 3 _ _ _ _ _ HS.out).mono ?_
          rintro e w1 ⟨rfl, n1, rfl⟩
          go_wp2_with fail
          refine (HDh.out _ (hR.drewN _)).mono ?_
          rintro e w2 ⟨rfl, hR2, hB2⟩
          clear c0 c1 c2 f1 f2
          go_wp2_with fail
          refine (rput_bad 6 hg hR2 hl (by omega) (by omega) (by decide) (by decide)).mono ?_
          rintro e w3 ⟨rfl, hR3, hB3⟩
          go_wp2
          go_ret
          exact ⟨by rw [HN.out]; rfl, by rw [HN.out]; exact hR3, ((pw_below_drewN (Below.refl _ _) _).trans hB2).trans hB3⟩
    · have HJ2 := Lib.hid (HJ1.out.trans (if_neg hx))
      have g1 : ¬ x < 55296 := by omega
      have g2 : ¬ 56320 ≤ x := by omega
      clear HJ1 hx HD8
      generalize bt text ((i : Int) + 1) = b at HS hbr hx1 e2
      go_enter Tryd.func39, Tryd.ntmps39
      go_wp2_with fail
      go_quiet (fail)
      go_wp2_with fail
      go_quiet (fail)
      go_wp2_with fail
      refine (esc_short.calls 3 _ _ _ _ _ HS.out).mono ?_
      rintro e w1 ⟨rfl, n1, rfl⟩
      go_wp2_with fail
      refine (HDh.out _ (hR.drewN _)).mono ?_
      rintro e w2 ⟨rfl, hR2, hB2⟩
      obtain ⟨A9, c9, d0, d1, d2, _, _, _, _, _⟩ := hR2.open_
      clear c0 c1 c2 f1 f2
      go_wp2_with fail
      refine (HD8h.out _ hR2).mono ?_
      rintro e w3 ⟨rfl, hR3, hB3⟩
      obtain ⟨A8, c8, b0, b1, b2, _, _, _, _, _⟩ := hR3.open_
      clear d0 d1 d2
      cases ok2
      · have HN := Lib.hid (HJ2.out.trans (if_pos (.inl rfl)))
        clear hok2
        go_wp2
        go_ret
        exact ⟨by rw [HN.out]; rfl, by rw [HN.out]; exact hR3, ((pw_below_drewN (Below.refl _ _) _).trans hB2).trans hB3⟩
      · have h12 := hok2 rfl
        clear hok2
        have hsl : ∀ W : World, (Instr.slice 9 (.string text) (some (.int .i64 ((i : Int) + 2 + 4))) (some (.int .i64 ((i : Int) + 2 + 4 + 2))) none).run Tryd.prog W = .ok (.string (text.extract (i + 6) (i + 8))) W := by
          intro W
          have := run_slice_string (P := Tryd.prog) W 9 text .i64 .i64 ((i : Int) + 2 + 4) ((i : Int) + 2 + 4 + 2) Tryd.underlying9 (by omega) (by omega) (by omega)
          rw [this]
          rfl
        have hs2 : ((text.extract (i + 6) (i + 8)).toList = ([92, 117] : List UInt8)) ↔ (((bytesOf text).drop i).drop 6).take 2 = [92, 117] := by
          have e : bytesOf (text.extract (i + 6) (i + 8)) = (((bytesOf text).drop i).drop 6).take 2 := by
            rw [bytesOf_extract, List.drop_take, List.drop_drop, show i + 8 - (i + 6) = 2 by omega]
          rw [← e]
          have h9 := toList_eq_iff (text.extract (i + 6) (i + 8)) ⟨#[92, 117]⟩
          rw [toList_data' ⟨#[92, 117]⟩] at h9
          exact h9
        by_cases hq : (text.extract (i + 6) (i + 8)).toList = ([92, 117] : List UInt8)
        · have hq2 := hs2.1 hq
          by_cases y1 : y < 56320
          · have HN := Lib.hid (HJ2.out.trans (if_pos (.inr (.inr (.inl y1)))))
            clear hs2 hq2
            go_wp2
            go_ret
            exact ⟨by rw [HN.out]; rfl, by rw [HN.out]; exact hR3, ((pw_below_drewN (Below.refl _ _) _).trans hB2).trans hB3⟩
          · by_cases y2 : 57343 < y
            · have HN := Lib.hid (HJ2.out.trans (if_pos (.inr (.inr (.inr y2)))))
              clear hs2 hq2
              go_wp2
              go_ret
              exact ⟨by rw [HN.out]; rfl, by rw [HN.out]; exact hR3, ((pw_below_drewN (Below.refl _ _) _).trans hB2).trans hB3⟩
            · have HN := Lib.hid (HJ2.out.trans (if_neg (by
                intro h
                rcases h with h | h | h | h
                · cases h
                · exact h hq2
                · exact y1 h
                · exact y2 h)))
              have hg : good (65536 + (x - 55296) * 1024 + (y - 56320)) := good_iff.2 (by omega)
              clear hs2 hq2
              go_wp2_with fail
              refine (rput_good 12 hg hR3 hl (by omega) (by omega) (by decide) (by decide)).mono ?_
              rintro e w4 ⟨rfl, hR4, hB4⟩
              go_wp2
              go_ret
              exact ⟨by rw [HN.out]; rfl, by rw [HN.out]; exact hR4, (((pw_below_drewN (Below.refl _ _) _).trans hB2).trans hB3).trans hB4⟩
        · have HN := Lib.hid (HJ2.out.trans (if_pos (.inr (.inl (fun h => hq (hs2.2 h))))))
          clear hs2
          go_wp2
          go_ret
          exact ⟨by rw [HN.out]; rfl, by rw [HN.out]; exact hR3, ((pw_below_drewN (Below.refl _ _) _).trans hB2).trans hB3⟩
  · have HN := Lib.hid (show jesc ((bytesOf text).drop i) = none by
      rw [HJ.out, if_pos]
      by_cases h : bt text ((i : Int) + 1) = 117
      · right; cases ok
        · rfl
        · exact absurd ⟨h, rfl⟩ hok
      · exact .inl h)
    have k1 : (bt text ((i : Int) + 1) != 117) = true ∨ ((bt text ((i : Int) + 1) != 117) = false ∧ ok = false) := by
      by_cases h : bt text ((i : Int) + 1) = 117
      · right
        refine ⟨by rw [h]; rfl, ?_⟩
        cases ok
        · rfl
        · exact absurd ⟨h, rfl⟩ hok
      · left; exact bne_iff_ne.2 h
    have HDh := Lib.hid HD
    clear HJ hok HD HD8 hx4 hy4
    generalize bt text ((i : Int) + 1) = b at HS hbr hx1 k1
    rcases k1 with k1 | ⟨k1, rfl⟩
    all_goals
      go_enter Tryd.func39, Tryd.ntmps39
      go_wp2_with fail
      go_quiet (fail)
      go_wp2_with fail
      go_quiet (fail)
      go_wp2_with fail
      refine (esc_short.calls 3 _ _ _ _ _ HS.out).mono ?_
      rintro e w1 ⟨rfl, n1, rfl⟩
      go_wp2_with fail
      refine (HDh.out _ (hR.drewN _)).mono ?_
      rintro e w2 ⟨rfl, hR2, hB2⟩
      clear c0 c1 c2 f1 f2
      go_wp2
      go_ret
      exact ⟨by rw [HN.out]; rfl, by rw [HN.out]; exact hR2, (pw_below_drewN (Below.refl _ _) _).trans hB2⟩
theorem resc {B g : Nat} {text : ByteArray} {i : Nat} {bs : List Int} {w : World} (hR : Rdr B w g text (i : Int) bs) (hl : bs.length ≤ 140737488000000) (h1 : i < text.size) (h2 : text.size ≤ 140737488000000) :
    Calls Tryd.prog 39 #[.pointer (some ⟨g, 0, none⟩)] w (EscPost B g text i bs w) := by
  by_cases hj : i + 1 = text.size
  · exact resc_short hR hl h1 h2 (.inl hj)
  · cases hs : shortJ (bt text (i + 1)) with
    | none => exact resc_hex hR hl h2 (by omega) hs
    | some x => exact resc_short hR hl h1 h2 (.inr ⟨by omega, by rw [hs]; rfl⟩)
end Go.Proofs.YtoanbmggffkmgaaDoor.P
end
section
namespace Go.Proofs.YtoanbmggffkmgaaDoor.P
open Go.RowKit Go.Proofs.YtoanbmggffkmgaaDoorW.PrintWords Go.Proofs.YtoanbmggffkmgaaDoorW.PrintLast Go.Proofs.YtoanbmggffkmgaaDoorW.PrintMore
attribute [local go_sem] max2_int min2_int max_two min_two max_three min_three max_four min_four   -- for this text's walks alone
set_option linter.unusedVariables false
set_option linter.unusedSimpArgs false
/-- A state of type 63 at block g of W; what its slices lead to came in by w0. -/
def IsS63 (w0 W : World) (g : Nat) (f0 : ByteArray) (f1 : Int) (f2 : List Int) : Prop := ∃ A2 c2, W.heap[g]? = some (.cells #[.string f0, .int .i64 f1, .slice A2 f2.length c2] 63 (0, 0)) ∧ w0.heap.size ≤ g ∧ Kd.C (Kd.int .u8) w0 A2 f2.length f2
theorem IsS63.grown {w0 W : World} {g : Nat} {f0 : ByteArray} {f1 : Int} {f2 : List Int} {W1 : World} {row : Option Nat} (h : IsS63 w0 W g f0 f1 f2) (hw : W.grownBy W1 row) (hne : some g ≠ row) : IsS63 w0 W1 g f0 f1 f2 := by
  obtain ⟨A2, c2, hb, hg, hr2⟩ := h
  exact ⟨A2, c2, blk_grown hb hw hne, hg, hr2⟩
theorem IsS63.below {w0 W : World} {g : Nat} {f0 : ByteArray} {f1 : Int} {f2 : List Int} {W1 : World} (h : IsS63 w0 W g f0 f1 f2) (hw : Below W.heap.size W W1) : IsS63 w0 W1 g f0 f1 f2 := h.grown (grown_of_below hw none) (by simp)
theorem IsS63.drewN {w0 W : World} {g : Nat} {f0 : ByteArray} {f1 : Int} {f2 : List Int} (h : IsS63 w0 W g f0 f1 f2) (m : Nat) : IsS63 w0 (W.drewN m) g f0 f1 f2 := h
theorem IsS63.drew {w0 W : World} {g : Nat} {f0 : ByteArray} {f1 : Int} {f2 : List Int} (h : IsS63 w0 W g f0 f1 f2) : IsS63 w0 W.drew g f0 f1 f2 := h
theorem IsS63.at_ {w0 W : World} {g : Nat} {f0 : ByteArray} {f1 : Int} {f2 : List Int} {w' : World} {m : Nat} (hq : W.drewN m = w') (h : IsS63 w0 W g f0 f1 f2) : IsS63 w0 w' g f0 f1 f2 := by subst hq; exact IsS63.drewN h m
end Go.Proofs.YtoanbmggffkmgaaDoor.P
end
section
namespace Go.Proofs.YtoanbmggffkmgaaDoor.La
open Go.RowKit Go.Proofs.YtoanbmggffkmgaaDoor.P Go.Proofs.YtoanbmggffkmgaaDoorW.PrintWords Go.Proofs.YtoanbmggffkmgaaDoorW.PrintLast Go.Proofs.YtoanbmggffkmgaaDoorW.PrintMore
/-- What a JSON string says from byte i on, acc being read: is it whole, its bytes, and where it ends or is wrong. -/
def jbody (L : List Int) : Nat → Nat → List Int → Bool × List Int × Nat
  | 0, i, _ => (false, [], i)
  | k + 1, i, acc =>
    if L.length ≤ i then (false, [], L.length)
    else if L.getD i 0 = 34 then (true, acc, i + 1)
    else if L.getD i 0 < 32 then (false, [], i)
    else if L.getD i 0 = 92 then (match jesc (L.drop i) with | none => (false, [], i) | some p => jbody L k (i + p.2) (acc ++ enc p.1))
    else if (tk (L.drop i)).2 > 0 then jbody L k (i + (tk (L.drop i)).2.toNat) (acc ++ enc0 (tk (L.drop i)).1)
    else (false, [], i)
theorem digsAt_len {l : List Int} {i n : Nat} (h : (digsAt l i n).isSome = true) : i + n ≤ l.length := by
  unfold digsAt at h
  split at h
  · assumption
  · cases h
theorem jesc_len {l : List Int} {p : Int × Nat} (h : jesc l = some p) : 2 ≤ p.2 ∧ p.2 ≤ l.length ∧ p.2 ≤ 12 := by
  unfold jesc at h
  split at h
  · cases h
  · rename_i h1
    split at h
    · obtain rfl := Option.some.inj h
      exact ⟨Nat.le_refl _, by show 2 ≤ _; omega, by show 2 ≤ 12; decide⟩
    · split at h
      · cases h
      · rename_i h2
        have h3 : (digsAt l 2 4).isSome = true := by
          cases hd : (digsAt l 2 4).isSome
          · exact absurd (.inr hd) h2
          · rfl
        have h4 := digsAt_len h3
        split at h
        · split at h
          · obtain rfl := Option.some.inj h
            exact ⟨by show 2 ≤ 6; decide, by show 6 ≤ _; omega, by show 6 ≤ 12; decide⟩
          · cases h
        · split at h
          · cases h
          · rename_i h5
            have h6 : (digsAt l 8 4).isSome = true := by
              cases hd : (digsAt l 8 4).isSome
              · exact absurd (.inl hd) h5
              · rfl
            have h7 := digsAt_len h6
            obtain rfl := Option.some.inj h
            exact ⟨by show 2 ≤ 12; decide, by show 12 ≤ _; omega, by show 12 ≤ 12; decide⟩
end Go.Proofs.YtoanbmggffkmgaaDoor.La
namespace Go.Proofs.YtoanbmggffkmgaaDoor.P
open Go.RowKit Go.Proofs.YtoanbmggffkmgaaDoor.La Go.Proofs.YtoanbmggffkmgaaDoorW.PrintWords Go.Proofs.YtoanbmggffkmgaaDoorW.PrintLast Go.Proofs.YtoanbmggffkmgaaDoorW.PrintMore
attribute [local go_sem] max2_int min2_int max_two min_two max_three min_three max_four min_four   -- for this text's walks alone
/-- esc.start. -/
theorem rstart (a0 : ByteArray) (a1 : Int) (w : World) :
    Calls Tryd.prog 37 #[.string a0, .int .i64 a1] w fun e w' => ∃ g : Nat, e = .returned (.pointer (some ⟨g, 0, none⟩)) ∧ Rdr w.heap.size w' g a0 (mn (mx a1 0) (a0.size : Int)) [] ∧ Below w.heap.size w w' := by
  have hu63 := Tryd.underlying63
  have HB := Aside0.mk (Below.refl w.heap.size w)
  obtain ⟨ji3, hji3⟩ : ∃ j_ : Int, (mx a1 0) = j_ := ⟨_, rfl⟩
  rw [hji3]
  have hji3_ : (if a1 < 0 then 0 else a1) = ji3 := hji3
  obtain ⟨ji4, hji4⟩ : ∃ j_ : Int, (mn (ji3) (a0.size : Int)) = j_ := ⟨_, rfl⟩
  rw [hji4]
  have hji4_ : (if (a0.size : Int) < (ji3) then (a0.size : Int) else (ji3)) = ji4 := hji4
  go_enter Tryd.func37, Tryd.ntmps37
  go_wp2_with (first | ((with_reducible refine gate_dst (N := 12) rfl ?_); refine box_event ?hg (N := 12) ?hd (cs := #[.string a0, .int .i64 ji4, .slice none 0 0]) (t := 63) ?hr ?_; (case hd => rfl); (case hg => rfl); (case hr => first | (go_simp; done) | (go_simp; rfl)); intro gb134 hg w5 hbox hb; have n1_ := Aside0.mk (below_step (by repeat (first | (with_reducible first | exact HB.out | apply below_alloc | apply pw_below_drewN | apply below_drew1) | exact HB.out)) hb); have n2_ := Aside0.mk (hbox); have n3_ := Aside0.mk ((by rw [hg]; exact (below_size (by repeat (first | (with_reducible first | exact HB.out | apply below_alloc | apply pw_below_drewN | apply below_drew1) | exact HB.out))) : w.heap.size ≤ gb134)); clear HB; have HB := n1_; have BK134 := n2_; have GW134 := n3_; clear n1_ n2_ n3_; clear hb hbox hg))
  go_ret
  exact ⟨_, rfl, ⟨GW134.out, _, (by (with_reducible repeat (first | refine blk_drewN ?_ _ | refine blk_drew ?_ | refine blk_alloc ?_ _)); exact BK134.out), Kd.R_nil _ _ _ _ _⟩, by repeat (first | (with_reducible first | exact HB.out | apply below_alloc | apply pw_below_drewN | apply below_drew1) | exact HB.out)⟩
theorem Rdr.moved {B : Nat} {w : World} {g : Nat} {text : ByteArray} {at_ : Int} {bs : List Int} (h : Rdr B w g text at_ bs) (at1 : Int) :
    Rdr B (w.setCell ⟨g, 1, none⟩ (.int .i64 at1)) g text at1 bs ∧ Below B w (w.setCell ⟨g, 1, none⟩ (.int .i64 at1)) := by
  obtain ⟨hB, bv, hh, hr⟩ := h
  exact ⟨⟨hB, bv, rblk_set hh 1 (.int .i64 at1), Kd.R_move hr (fun k hk => by rw [rblk_far hk])⟩, (Below.refl _ _).setCell hB _⟩
theorem take_one_drop {L : List Int} {i : Nat} (h : i < L.length) : (L.drop i).take 1 = [L.getD i 0] := by
  rw [List.drop_eq_getElem_cons h, List.getD_eq_getElem?_getD, List.getElem?_eq_getElem h]
  rfl
/-- The loop's state. -/
def UnqInv (w : World) (text : ByteArray) (g : Nat) (res : Bool × List Int × Nat) (k : Nat) (wr : World) : Prop :=
  ∃ (i : Nat) (bs : List Int), Rdr w.heap.size wr g text (i : Int) bs ∧ Below w.heap.size w wr ∧ jbody (bytesOf text) k i bs = res ∧ i ≤ text.size ∧ text.size - i < k ∧ bs.length ≤ 4 * i
def unqRes (res : Bool × List Int × Nat) : Value := .tuple #[.string (if res.1 then strOfNums res.2.1 else ⟨#[]⟩), .int .i64 (if res.1 then res.2.2 else 0), .int .i64 (if res.1 then -1 else res.2.2)]
set_option maxRecDepth 100000 in
set_option maxHeartbeats 8000000 in
theorem unq_walk (text : ByteArray) (at_ : Nat) (hs : text.size ≤ 17592186044416) (hq : (bytesOf text).getD at_ 0 = 34) (hlt : at_ < text.size) (w : World) :
    Calls Tryd.prog 16 #[.string text, .int .i64 at_] w fun e w' => e = .returned (unqRes (jbody (bytesOf text) (text.size + 1) (at_ + 1) [])) ∧ Below w.heap.size w w' := by
  generalize hres : jbody (bytesOf text) (text.size + 1) (at_ + 1) [] = res
  have HRES := Lib.hid hres
  clear hres
  have g1 : decide ((at_ : Int) < 0) = false := decide_eq_false (by omega)
  go_enter Tryd.func16, Tryd.ntmps16
  go_wp2_with fail
  refine (rstart text at_ w).mono ?_
  rintro e w1 ⟨g, rfl, hR, hB⟩
  rw [show mn (mx (at_ : Int) 0) (text.size : Int) = (at_ : Int) by unfold mn mx; (repeat' split) <;> omega] at hR
  go_wp2_with fail
  refine (rbegins ⟨#[34]⟩ hR (by omega) (by omega)).mono ?_
  rintro e w2 ⟨rfl, n2, rfl⟩
  have d1 : decide (((bytesOf text).drop (at_ : Int).toNat).take (⟨#[34]⟩ : ByteArray).size = bytesOf ⟨#[34]⟩) = true := by
    refine decide_eq_true ?_
    rw [show (at_ : Int).toNat = at_ by omega]
    exact (take_one_drop (by rw [size_of]; exact hlt)).trans (by rw [hq]; rfl)
  rw [d1]
  have hR2 := hR.drewN n2
  have hB2 := pw_below_drewN hB n2
  clear hR hB
  generalize w1.drewN n2 = w3 at hR2 hB2
  obtain ⟨A, c, c0, c1, c2, f1, f2, hlt2, hc, hC⟩ := hR2.open_
  have hlow := hR2.low
  have hM := hR2.moved ((at_ : Int) + 1)
  go_wp2_with fail
  generalize w3.setCell ⟨g, 1, none⟩ (.int .i64 ((at_ : Int) + 1)) = w4 at hM
  obtain ⟨hR4, hB4⟩ := hM
  have hB5 := hB2.trans hB4
  clear c0 c1 c2 f1 f2 hC hR2 hB2 hB4
  go_loopg [] (text.size + 1) (fun k wr => UnqInv w text g res k wr)
  case atStart => exact ⟨at_ + 1, [], hR4, hB5, HRES.out, by omega, by omega, by simp⟩
  case round =>
    clear hR4 hB5 hlow hlt2 hc d1 hq hlt HRES g1
    obtain ⟨i, bs, hR, hB, hj, hi, hk, hl⟩ := hrel
    cases gk with
    | zero => omega
    | succ k =>
      obtain ⟨A, c, c0, c1, c2, f1, f2, hlt2, hc, hC⟩ := hR.open_
      have hlow := hR.low
      unfold jbody at hj
      by_cases hlt : i < text.size
      · rw [if_neg (by rw [size_of]; omega)] at hj
        have p1 := eq_true (show (0 : Int) ≤ (i : Int) by omega)
        have q1 := eq_true (show (i : Int) < (text.size : Int) by omega)
        have q2 := eq_true (show (i : Int).toNat < text.size by omega)
        have hx1 : ∀ h : i < text.size, ((text[i]'h).toNat : Int) = bt text (i : Int) := fun h => bt_at text (i : Int) (by omega)
        have hbt : (bytesOf text).getD i 0 = bt text (i : Int) := by rw [bt_get]; rfl
        rw [hbt] at hj
        have hbr := bt_range text (i : Int)
        generalize bt text (i : Int) = b at hj hbr hx1
        clear hbt
        have HJ := Lib.hid hj
        clear hj
        by_cases b34 : b = 34
        · have hr := Lib.hid (HJ.out.symm.trans (if_pos b34))
          subst b34
          have kc := fun n => Kd.C_string (P := Tryd.prog) (w := wr.drewN n) (c := c) Tryd.underlying46 Tryd.underlying5 Tryd.underlying9 hC
          go_wp2
          repeat (go_quiet (fail); try go_wp2)
          go_ret3
          exact ⟨by rw [hr.out]; rfl, by first | exact hB | exact pw_below_drewN hB _⟩
        have hj := HJ.out.symm.trans (if_neg b34)
        have t1 : (b == 34) = false := beq_eq_false_iff_ne.2 b34
        by_cases b32 : b < 32
        · have hr := Lib.hid (hj.trans (if_pos b32))
          have t2 : decide (b < 32) = true := decide_eq_true b32
          clear HJ hj
          go_wp2
          repeat (go_quiet (fail); try go_wp2)
          go_ret3
          exact ⟨by rw [hr.out]; rfl, by first | exact hB | exact pw_below_drewN hB _⟩
        replace hj := hj.trans (if_neg b32)
        have t2 : decide (b < 32) = false := decide_eq_false b32
        by_cases b92 : b = 92
        · have hr := Lib.hid (hj.trans (if_pos b92))
          have t3 : (b == 92) = true := beq_iff_eq.2 b92
          clear HJ hj b92 c0 c1 c2 f1 f2 hC
          obtain ⟨A0, c0_, c0, c1, c2, f1, f2, -, -, -⟩ := hR.open_
          go_wp2_with fail
          refine (resc hR (by omega) hlt (by omega)).mono ?_
          rintro e w5 ⟨rfl, hR5, hB5⟩
          have hB6 := hB.trans hB5
          clear c0 c1 c2 f1 f2
          cases hje : jesc ((bytesOf text).drop i) with
          | none =>
            rw [hje] at hr hR5
            have hr2 := Lib.hid hr.out
            clear hr
            replace hR5 : Rdr w.heap.size w5 g text (i : Int) bs := hR5
            obtain ⟨A5, c5, d0, d1, d2, e1, e2, -, -, -⟩ := hR5.open_
            go_wp2
            repeat (go_quiet (fail); try go_wp2)
            go_ret3
            exact ⟨by rw [hr2.out]; rfl, by first | exact hB6 | exact pw_below_drewN hB6 _⟩
          | some p =>
            rw [hje] at hr hR5
            have hr2 := Lib.hid hr.out
            clear hr
            replace hR5 : Rdr w.heap.size w5 g text ((i : Int) + p.2) (bs ++ enc p.1) := hR5
            have hp := jesc_len hje
            rw [List.length_drop, size_of] at hp
            have he := (enc_len p.1).2
            go_wp2
            go_roundg k
            case rel => exact ⟨i + p.2, bs ++ enc p.1, by rw [Int.natCast_add]; exact hR5, hB6, hr2.out.symm, by omega, by omega, by rw [List.length_append]; omega⟩
            case measure => omega
        · have hr := Lib.hid (hj.trans (if_neg b92))
          have t3 : (b == 92) = false := beq_eq_false_iff_ne.2 b92
          clear HJ hj c0 c1 c2 f1 f2 hC
          obtain ⟨A0, c0_, c0, c1, c2, f1, f2, -, -, -⟩ := hR.open_
          go_wp2_with fail
          refine (rletter hR (by omega) (by omega) (by omega) (by omega)).mono ?_
          rintro e w5 ⟨rfl, hR5, hB5⟩
          have hB6 := hB.trans hB5
          clear c0 c1 c2 f1 f2
          rw [show (i : Int).toNat = i by omega] at hR5
          rw [show (i : Int).toNat = i by omega]
          have hb := tk_bound ((bytesOf text).drop i) (fun x hx => bytes_of text x (List.mem_of_mem_drop hx))
          have he : (enc0 (tk ((bytesOf text).drop i)).1).length ≤ 4 := by
            unfold enc0
            split
            · exact (enc_len _).2
            · simp
          rw [List.length_drop, size_of] at hb
          generalize tk ((bytesOf text).drop i) = q at hR5 hr hb he
          by_cases hq : q.2 > 0
          · have hr2 := Lib.hid (hr.out.trans (if_pos hq))
            have t4 : decide (q.2 > 0) = true := decide_eq_true hq
            clear hr
            rw [t4]
            go_wp2
            go_roundg k
            case rel => exact ⟨i + q.2.toNat, bs ++ enc0 q.1, by rw [show ((i + q.2.toNat : Nat) : Int) = (i : Int) + q.2 by omega]; exact hR5, hB6, hr2.out.symm, by omega, by omega, by rw [List.length_append]; omega⟩
            case measure => omega
          · have hr2 := Lib.hid (hr.out.trans (if_neg hq))
            have t4 : decide (q.2 > 0) = false := decide_eq_false hq
            clear hr
            rw [t4]
            rw [show q.2 = 0 by omega] at hR5
            rw [show (i : Int) + 0 = i by omega] at hR5
            obtain ⟨A5, c5, d0, d1, d2, e1, e2, -, -, -⟩ := hR5.open_
            go_wp2
            repeat (go_quiet (fail); try go_wp2)
            go_ret3
            exact ⟨by rw [hr2.out]; rfl, by first | exact hB6 | exact pw_below_drewN hB6 _⟩
      · obtain rfl : i = text.size := by omega
        rw [if_pos (by rw [size_of]; omega), size_of] at hj
        obtain rfl := hj
        have e1 : decide ((text.size : Int) < (text.size : Int)) = false := decide_eq_false (by omega)
        go_wp2
        repeat (go_quiet (fail); try go_wp2)
        go_ret3
        exact ⟨rfl, hB⟩
/-- It is no string at all. -/
theorem unq_not (text : ByteArray) (at_ : Int) (hs : text.size ≤ 17592186044416) (hq : at_ < 0 ∨ (text.size : Int) ≤ at_ ∨ (bytesOf text).getD at_.toNat 0 ≠ 34) (w : World) :
    Calls Tryd.prog 16 #[.string text, .int .i64 at_] w fun e w' => e = .returned (.tuple #[.string ⟨#[]⟩, .int .i64 0, .int .i64 (mn (mx at_ 0) text.size)]) ∧ Below w.heap.size w w' := by
  have m0 : 0 ≤ mn (mx at_ 0) (text.size : Int) := by unfold mn mx; (repeat' split) <;> omega
  have m1 : mn (mx at_ 0) (text.size : Int) ≤ text.size := by unfold mn mx; (repeat' split) <;> omega
  by_cases h0 : at_ < 0
  · have g1 : decide (at_ < 0) = true := decide_eq_true h0
    go_enter Tryd.func16, Tryd.ntmps16
    go_wp2_with fail
    refine (rstart text at_ w).mono ?_
    rintro e w1 ⟨g, rfl, hR, hB⟩
    obtain ⟨A, c, c0, c1, c2, f1, f2, hlt2, hc, hC⟩ := hR.open_
    go_wp2
    repeat (go_quiet (fail); try go_wp2)
    go_ret3
    exact ⟨rfl, by first | exact hB | exact pw_below_drewN hB _⟩
  · have hm : mn (mx at_ 0) (text.size : Int) = at_ ∨ mn (mx at_ 0) (text.size : Int) = text.size := by unfold mn mx; (repeat' split) <;> omega
    have d1 : decide (((bytesOf text).drop (mn (mx at_ 0) (text.size : Int)).toNat).take (⟨#[34]⟩ : ByteArray).size = bytesOf ⟨#[34]⟩) = false := by
      refine decide_eq_false ?_
      intro hh
      have hl := congrArg List.length hh
      rw [List.length_take, List.length_drop, size_of, size_of] at hl
      have hl' : (mn (mx at_ 0) (text.size : Int)).toNat < text.size := by
        have : (⟨#[34]⟩ : ByteArray).size = 1 := rfl
        omega
      have hh2 : [(bytesOf text).getD (mn (mx at_ 0) (text.size : Int)).toNat 0] = [34] := (take_one_drop (by rw [size_of]; exact hl')).symm.trans hh
      have h34 := (List.cons.inj hh2).1
      rcases hm with hm | hm
      · rw [hm] at h34 m1 hl'
        rcases hq with hq | hq | hq
        · omega
        · omega
        · exact hq h34
      · omega
    have g1 : decide (at_ < 0) = false := decide_eq_false h0
    clear hm hq
    generalize hmm : mn (mx at_ 0) (text.size : Int) = m at d1 m0 m1
    go_enter Tryd.func16, Tryd.ntmps16
    go_wp2_with fail
    refine (rstart text at_ w).mono ?_
    rintro e w1 ⟨g, rfl, hR, hB⟩
    rw [hmm] at hR
    go_wp2_with fail
    refine (rbegins ⟨#[34]⟩ hR m0 m1).mono ?_
    rintro e w2 ⟨rfl, n2, rfl⟩
    rw [d1]
    have hR2 := hR.drewN n2
    have hB2 := pw_below_drewN hB n2
    clear hR hB
    generalize w1.drewN n2 = w3 at hR2 hB2
    obtain ⟨A, c, c0, c1, c2, f1, f2, hlt2, hc, hC⟩ := hR2.open_
    go_wp2
    repeat (go_quiet (fail); try go_wp2)
    go_ret3
    exact ⟨rfl, by first | exact hB2 | exact pw_below_drewN hB2 _⟩
/-- What Unquote answers. -/
def unqT (L : List Int) (i : Int) : ByteArray × Int × Int :=
  if i < 0 ∨ (L.length : Int) ≤ i ∨ L.getD i.toNat 0 ≠ 34 then (⟨#[]⟩, 0, mn (mx i 0) L.length)
  else match jbody L (L.length + 1) (i.toNat + 1) [] with
    | (true, bs, j) => (strOfNums bs, (j : Int), -1)
    | (false, _, j) => (⟨#[]⟩, 0, (j : Int))
def esc_Unquote.f (a0 : ByteArray) (a1 : Int) : Option (ByteArray × Int × Int) := if a0.size ≤ 17592186044416 then some (unqT (bytesOf a0) a1) else none
theorem esc_Unquote.calls (a0 : ByteArray) (a1 : Int) (r1 : ByteArray) (r2 : Int) (r3 : Int) (w : World) (h : esc_Unquote.f a0 a1 = some (r1, r2, r3)) :
    Calls Tryd.prog 16 #[.string a0, .int .i64 a1] w fun e w' => e = .returned (.tuple #[.string r1, .int .i64 r2, .int .i64 r3]) ∧ Below w.heap.size w w' := by
  unfold esc_Unquote.f at h
  split at h
  · rename_i hs
    have h := Option.some.inj h
    unfold unqT at h
    rw [size_of] at h
    split at h
    · rename_i hq
      obtain ⟨rfl, rfl, rfl⟩ := (by simpa using h : _ ∧ _ ∧ _)
      exact unq_not a0 a1 hs hq w
    · rename_i hq
      have h0 : 0 ≤ a1 := by
        rcases Int.lt_or_le a1 0 with h | h
        · exact absurd (.inl h) hq
        · exact h
      have h1 : a1 < a0.size := by
        rcases Int.lt_or_le a1 a0.size with h | h
        · exact h
        · exact absurd (.inr (.inl h)) hq
      obtain ⟨i, rfl⟩ := Int.eq_ofNat_of_zero_le h0
      have h2 : (bytesOf a0).getD i 0 = 34 := by
        rcases Classical.em ((bytesOf a0).getD i 0 = 34) with h | h
        · exact h
        · exact absurd (.inr (.inr h)) hq
      refine (unq_walk a0 i hs h2 (by omega) w).mono ?_
      rintro e w' ⟨rfl, hB⟩
      refine ⟨?_, hB⟩
      rw [show (i : Int).toNat = i by omega] at h
      generalize jbody (bytesOf a0) (a0.size + 1) (i + 1) [] = q at h
      obtain ⟨b, bs, j⟩ := q
      cases b
      · obtain ⟨rfl, rfl, rfl⟩ := (by simpa using h : _ ∧ _ ∧ _)
        rfl
      · obtain ⟨rfl, rfl, rfl⟩ := (by simpa using h : _ ∧ _ ∧ _)
        rfl
  · cases h
end Go.Proofs.YtoanbmggffkmgaaDoor.P
end
