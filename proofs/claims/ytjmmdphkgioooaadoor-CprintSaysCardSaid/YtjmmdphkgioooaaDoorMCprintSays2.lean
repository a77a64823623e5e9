/- The parts of this claim's proof, in one text: what each Go function answers and that its call comes to it; plain facts of lists of numbers. Conditions as each theorem names them. -/
import Derived.ArgAppend
import Derived.Below
import Derived.BigCall
import Derived.BigQuiet
import Derived.Deep.AppendLies
import Derived.Deep.CutBlock
import Derived.Deep.DeepCutAuto
import Derived.Deep.Draws
import Derived.Deep.LoopGhost
import Derived.Deep.OwnRows
import Derived.Deep.QuietTactic
import Derived.Deep.RegionHeld3
import Derived.KernelRfl
import Derived.Laws.BitsLemmas
import Derived.Laws.BytesArg
import Derived.Laws.IdiomCopy
import Derived.Laws.MakeOwn
import Derived.Laws.OwnMore
import Derived.Laws.RangeAny
import Derived.Laws.Rows
import Derived.Laws.Runes
import Derived.Laws.Slices
import Derived.Lib.AppendStr
import Derived.Lib.Bytealg
import Derived.Lib.Bytes
import Derived.Lib.ConvBytes
import Derived.Lib.Hide
import Derived.Lib.ReplaceLaws
import Derived.Maps.AppendAt
import Derived.OrdersHeld
import Derived.OwnWalk
import Derived.RowKit
import Derived.RowKit3
import Derived.Shelf.LaysM
import Derived.Shelf.Small.Strs
import Derived.Shelf.Small.Utf8
import Derived.Shelf.Strings.AsciiSet
import Derived.Shelf.Strings.Builder1
import Derived.Shelf.Strings.Builder2
import Derived.Shelf.Strings.Builder2Cap
import Derived.Shelf.Strings.BuilderF
import Derived.Shelf.Strings.BuilderK
import Derived.Shelf.Strings.Count
import Derived.Shelf.Strings.IndexAny
import Derived.Shelf.Strings.IndexAnyAll
import Derived.Shelf.Strings.LastIndex
import Derived.Shelf.Strings.OnBuilder
import Derived.Shelf.Strings.Prefix
import Derived.Shelf.Strings.Replace
import Derived.Shelf.Strings.RuneCount
import Derived.Shelf.Strings.Runes
import Derived.Shelf.Strings.Search1
import Derived.Shelf.Strings.Search2
import Derived.Shelf.Strings.Search3
import Derived.Shelf.Strings.Shaped
import Derived.Shelf.Strings.Split
import Derived.Shelf.Strings.SplitShaped
import Derived.Shelf.Unicode.Decode
import Derived.Shelf.Unicode.DecodeAny
import Derived.Shelf.Unicode.DecodeSlow
import Derived.Shelf.Utf8.RuneCount
import Derived.SliceStrings
import Derived.Tactics
import Derived.WalkKit
import Derived.WalkSmall
import Derived.WideLaws
import Derived.Test.YtjmmdphkgioooaaDoorProg
import Derived.Test.YtjmmdphkgioooaaDoorWApart
import Derived.Test.YtjmmdphkgioooaaDoorWArr
import Derived.Test.YtjmmdphkgioooaaDoorWAt
import Derived.Test.YtjmmdphkgioooaaDoorWEqStruct
import Derived.Test.YtjmmdphkgioooaaDoorWFoot
import Derived.Test.YtjmmdphkgioooaaDoorWFootNe
import Derived.Test.YtjmmdphkgioooaaDoorWFour
import Derived.Test.YtjmmdphkgioooaaDoorWGuard
import Derived.Test.YtjmmdphkgioooaaDoorWInv
import Derived.Test.YtjmmdphkgioooaaDoorWInvWords
import Derived.Test.YtjmmdphkgioooaaDoorWKept
import Derived.Test.YtjmmdphkgioooaaDoorWLast
import Derived.Test.YtjmmdphkgioooaaDoorWMake0
import Derived.Test.YtjmmdphkgioooaaDoorWMore
import Derived.Test.YtjmmdphkgioooaaDoorWN
import Derived.Test.YtjmmdphkgioooaaDoorWNEv
import Derived.Test.YtjmmdphkgioooaaDoorWQPut
import Derived.Test.YtjmmdphkgioooaaDoorWRepsOne
import Derived.Test.YtjmmdphkgioooaaDoorWShare
import Derived.Test.YtjmmdphkgioooaaDoorWTab
import Derived.Test.YtjmmdphkgioooaaDoorWWords
import Derived.Test.YtjmmdphkgioooaaDoorWZeros
import Derived.Test.YtjmmdphkgioooaaDoorMCprintSays1
section
namespace Go.Proofs.YtjmmdphkgioooaaDoor.P
open Go.RowKit Go.Proofs.YtjmmdphkgioooaaDoorW.PrintWords Go.Proofs.YtjmmdphkgioooaaDoorW.PrintLast Go.Proofs.YtjmmdphkgioooaaDoorW.PrintMore
attribute [local go_sem] max2_int min2_int max_two min_two max_three min_three max_four min_four   -- for this text's walks alone
set_option linter.unusedVariables false
set_option linter.unusedSimpArgs false
/-! ### dragomanref1_Take: function 29 -/
mutual
def dragomanref1_Take.j3 : Nat → ByteArray → Int → Int → Option (Int × Int)
 | 0, _, _, _ => none
 | k + 1, x0, x5, x6 => if (x0.size : Int) < x5 then (some (0, 0)) else (dragomanref1_Take.l0 k x0 x5 x6 1)
def dragomanref1_Take.l0 : Nat → ByteArray → Int → Int → Int → Option (Int × Int)
 | 0, _, _, _, _ => none
 | k + 1, x0, x5, x6, x7 => if x7 < x5 then (if 0 ≤ x7 then (if x7 < (x0.size : Int) then (if (bt x0 x7) < 128 then (some (0, 0)) else (if (bt x0 x7) > 191 then (some (0, 0)) else (dragomanref1_Take.l0 k x0 x5 (wrap64 ((wrap64 ((wrap64 (64 * x6)) + (wrap64 (bt x0 x7)))) - 128)) (wrap64 (x7 + 1))))) else (none)) else (none)) else ((dragomanref1_Put.f x6).bind fun t182 => (if 0 ≤ x5 then (if x5 ≤ (x0.size : Int) then (if t182.toList = (x0.extract 0 (x5 : Int).toNat).toList then (some (x6, x5)) else (some (0, 0))) else (none)) else (none)))
def dragomanref1_Take.j0 : Nat → ByteArray → Int → Int → Int → Bool → Option (Int × Int)
 | 0, _, _, _, _, _ => none
 | k + 1, x0, x4, x5, x6, x14 => if x14 = true then (dragomanref1_Take.j3 k x0 4 (wrap64 (x4 - 240))) else (if x4 ≥ 224 then (dragomanref1_Take.j1 k x0 x4 x5 x6 (decide (x4 < 240))) else (dragomanref1_Take.j1 k x0 x4 x5 x6 false))
def dragomanref1_Take.j1 : Nat → ByteArray → Int → Int → Int → Bool → Option (Int × Int)
 | 0, _, _, _, _, _ => none
 | k + 1, x0, x4, x5, x6, x23 => if x23 = true then (dragomanref1_Take.j3 k x0 3 (wrap64 (x4 - 224))) else (if x4 ≥ 192 then (dragomanref1_Take.j2 k x0 x4 x5 x6 (decide (x4 < 224))) else (dragomanref1_Take.j2 k x0 x4 x5 x6 false))
def dragomanref1_Take.j2 : Nat → ByteArray → Int → Int → Int → Bool → Option (Int × Int)
 | 0, _, _, _, _, _ => none
 | k + 1, x0, x4, x5, x6, x32 => if x32 = true then (dragomanref1_Take.j3 k x0 2 (wrap64 (x4 - 192))) else (if x4 ≥ 128 then (some (0, 0)) else (dragomanref1_Take.j3 k x0 x5 x6))
end
def dragomanref1_Take.f (k : Nat) (a0 : ByteArray) : Option (Int × Int) := if a0.toList = ([] : List UInt8) then (some (0, 0)) else (if 0 < (a0.size : Int) then (if (wrap64 (bt a0 0)) ≥ 240 then (dragomanref1_Take.j0 k a0 (wrap64 (bt a0 0)) 1 (wrap64 (bt a0 0)) (decide ((wrap64 (bt a0 0)) < 248))) else (dragomanref1_Take.j0 k a0 (wrap64 (bt a0 0)) 1 (wrap64 (bt a0 0)) false)) else (none))
set_option maxHeartbeats 8000000 in
set_option maxRecDepth 100000 in
theorem dragomanref1_Take.calls (k : Nat) (a0 : ByteArray) (r1 : Int) (r2 : Int) (w : World) (h : dragomanref1_Take.f k a0 = some (r1, r2)) :
  Calls Tryd.prog 29 #[.string a0] w fun e w' => e = .returned (.tuple #[.int .i64 r1, .int .i64 r2]) ∧ Below w.heap.size w w' := by
 have HB := Aside0.mk (Below.refl w.heap.size w)
 have H : (if a0.toList = ([] : List UInt8) then (some (0, 0)) else (if 0 < (a0.size : Int) then (if (wrap64 (bt a0 0)) ≥ 240 then (dragomanref1_Take.j0 k a0 (wrap64 (bt a0 0)) 1 (wrap64 (bt a0 0)) (decide ((wrap64 (bt a0 0)) < 248))) else (dragomanref1_Take.j0 k a0 (wrap64 (bt a0 0)) 1 (wrap64 (bt a0 0)) false)) else (none))) = some (r1, r2) := h
 clear h
 by_cases c2 : a0.toList = ([] : List UInt8)
 ·rw [if_pos c2] at H
  have c2b0 : (a0.toList == ([] : List UInt8)) = true := beq_iff_eq.mpr c2
  have c2b1 : (a0.toList != ([] : List UInt8)) = false := bne_eq_false_iff_eq.mpr c2
  clear c2
  simp only [Option.some.injEq, Prod.mk.injEq] at H
  obtain ⟨rfl, rfl⟩ := H
  go_enter Tryd.func29, Tryd.ntmps29
  go_wp2
  go_ret2
  exact ⟨by first | rfl | (simp [errW_none, errW_some] <;> rfl) | (simp [*, errW_none, errW_some, bne]; done) | (simp [*, errW_none, errW_some] <;> rfl), by repeat (first | (with_reducible first | exact HB.out | apply below_alloc | apply pw_below_drewN | apply below_drew1) | exact HB.out)⟩
 ·rw [if_neg c2] at H
  have c2b0 : (a0.toList == ([] : List UInt8)) = false := beq_eq_false_iff_ne.mpr c2
  have c2b1 : (a0.toList != ([] : List UInt8)) = true := bne_iff_ne.mpr c2
  by_cases c3 : 0 < (a0.size : Int)
  ·rw [if_pos c3] at H
   have c3b0 : decide (0 < (a0.size : Int)) = true := decide_eq_true c3
   have c3b1 : decide (0 < a0.size) = true := decide_eq_true (by omega)
   clear c3
   have HC5 := Aside0.mk H
   clear H
   have p4 : 0 ≤ (0 : Int) := (by omega)
   have q4 : 0 < a0.size := (by have : (0 : Int) < (a0.size : Int) := of_decide_eq_true (by first | (with_reducible assumption) | assumption); omega)
   have hx4 : ∀ h : 0 < a0.size, ((a0[0]'h).toNat : Int) = bt a0 0 := bt_at a0 0
   clear p4
   have qi4 : (0 < (a0.size : Int)) = True := eq_true (of_decide_eq_true (by first | (with_reducible assumption) | assumption))
   replace q4 := eq_true q4
   go_enter Tryd.func29, Tryd.ntmps29
   go_upto_block 0 with (fail)
   go_cut [5, 6] (fun v5 v6 wc => ∃ (kq : Nat) (x5_4 : Int) (x6_4 : Int), v5 = .int .i64 x5_4 ∧ v6 = .int .i64 x6_4 ∧ Aside0 (dragomanref1_Take.j3 kq a0 x5_4 x6_4 = some (r1, r2)) ∧ Aside0 (kq ≤ k) ∧ Aside0 (Below w.heap.size w wc))
   case first =>
    have H := HC5.out
    clear HC5
    have HC6 := Aside0.mk H
    clear H
    go_upto_region 5 with (fail)
    go_cut [14] (fun v14 wc => ∃ (kq : Nat) (x14_5 : Bool), v14 = .bool x14_5 ∧ Aside0 (dragomanref1_Take.j0 kq a0 (wrap64 (bt a0 0)) 1 (wrap64 (bt a0 0)) x14_5 = some (r1, r2)) ∧ Aside0 (kq ≤ k) ∧ Aside0 (Below w.heap.size w wc))
    case first =>
     have H := HC6.out
     clear HC6
     by_cases c7 : (wrap64 (bt a0 0)) ≥ 240
     ·rw [if_pos c7] at H
      have c7b0 : decide (240 ≤ (wrap64 (bt a0 0))) = true := decide_eq_true c7
      clear c7
      (first | rw [c7b0] | (simp only [i64_w, i32_w]; rw [c7b0]) | skip)
      have H' := Aside0.mk H
      clear H
      go_wp2
      go_meet
      case rel => exact ⟨_, (decide ((wrap64 (bt a0 0)) < 248)), (by first | rfl | (simp; done) | (simp [*]; done)), H', ⟨by first | omega | exact Nat.le_refl _⟩, ⟨by repeat (first | (with_reducible first | exact HB.out | apply below_alloc | apply pw_below_drewN | apply below_drew1) | exact HB.out)⟩⟩
     ·rw [if_neg c7] at H
      have c7b0 : decide (240 ≤ (wrap64 (bt a0 0))) = false := decide_eq_false c7
      clear c7
      (first | rw [c7b0] | (simp only [i64_w, i32_w]; rw [c7b0]) | skip)
      have H' := Aside0.mk H
      clear H
      go_wp2
      go_meet
      case rel => exact ⟨_, (false), (by first | rfl | (simp; done) | (simp [*]; done)), H', ⟨by first | omega | exact Nat.le_refl _⟩, ⟨by repeat (first | (with_reducible first | exact HB.out | apply below_alloc | apply pw_below_drewN | apply below_drew1) | exact HB.out)⟩⟩
    case rest =>
     clear HC6
     try clear c2
     try clear c2b0
     try clear c2b1
     try clear p2
     try clear c3
     try clear c3b0
     try clear c3b1
     try clear p4
     try clear q4
     try clear hx4
     try clear qi4
     try clear p6
     try clear c7
     try clear c7b0
     try clear p4
     try clear q4
     obtain ⟨kq, x14_5, rfl, HA, HJ5, HB⟩ := hcut
     cases kq with
     | zero => exact absurd HA.out (by simp [dragomanref1_Take.j0])
     | succ kj5 =>
      have H := HA.out
      clear HA
      simp only [dragomanref1_Take.j0] at H
      by_cases c8 : x14_5 = true
      ·subst c8
       have H1 : (dragomanref1_Take.j3 kj5 a0 4 (wrap64 ((wrap64 (bt a0 0)) - 240))) = some (r1, r2) := by rw [if_pos rfl] at H; exact H
       clear H
       have H := H1
       clear H1
       have H' := Aside0.mk H
       clear H
       go_wp2
       go_meet
       case rel => exact ⟨_, (4), (wrap64 ((wrap64 (bt a0 0)) - 240)), (by first | rfl | (simp; done) | (simp [*]; done)), (by first | rfl | (simp; done) | (simp [*]; done)), H', ⟨by have := HJ5.out; first | omega | exact Nat.le_refl _⟩, ⟨by repeat (first | (with_reducible first | exact HB.out | apply below_alloc | apply pw_below_drewN | apply below_drew1) | exact HB.out)⟩⟩
      ·replace c8 := Bool.eq_false_iff.mpr c8
       subst c8
       have H1 : (if (wrap64 (bt a0 0)) ≥ 224 then (dragomanref1_Take.j1 kj5 a0 (wrap64 (bt a0 0)) 1 (wrap64 (bt a0 0)) (decide ((wrap64 (bt a0 0)) < 240))) else (dragomanref1_Take.j1 kj5 a0 (wrap64 (bt a0 0)) 1 (wrap64 (bt a0 0)) false)) = some (r1, r2) := by rw [if_neg (show ¬ (false = true) by decide)] at H; exact H
       clear H
       have H := H1
       clear H1
       have HC9 := Aside0.mk H
       clear H
       go_upto_region 7 with (fail)
       go_cut [23] (fun v23 wc => ∃ (kq : Nat) (x23_8 : Bool), v23 = .bool x23_8 ∧ Aside0 (dragomanref1_Take.j1 kq a0 (wrap64 (bt a0 0)) 1 (wrap64 (bt a0 0)) x23_8 = some (r1, r2)) ∧ Aside0 (kq ≤ kj5) ∧ Aside0 (Below w.heap.size w wc))
       case first =>
        have H := HC9.out
        clear HC9
        by_cases c10 : (wrap64 (bt a0 0)) ≥ 224
        ·rw [if_pos c10] at H
         have c10b0 : decide (224 ≤ (wrap64 (bt a0 0))) = true := decide_eq_true c10
         clear c10
         (first | rw [c10b0] | (simp only [i64_w, i32_w]; rw [c10b0]) | skip)
         have H' := Aside0.mk H
         clear H
         go_wp2
         go_meet
         case rel => exact ⟨_, (decide ((wrap64 (bt a0 0)) < 240)), (by first | rfl | (simp; done) | (simp [*]; done)), H', ⟨by have := HJ5.out; first | omega | exact Nat.le_refl _⟩, ⟨by repeat (first | (with_reducible first | exact HB.out | apply below_alloc | apply pw_below_drewN | apply below_drew1) | exact HB.out)⟩⟩
        ·rw [if_neg c10] at H
         have c10b0 : decide (224 ≤ (wrap64 (bt a0 0))) = false := decide_eq_false c10
         clear c10
         (first | rw [c10b0] | (simp only [i64_w, i32_w]; rw [c10b0]) | skip)
         have H' := Aside0.mk H
         clear H
         go_wp2
         go_meet
         case rel => exact ⟨_, (false), (by first | rfl | (simp; done) | (simp [*]; done)), H', ⟨by have := HJ5.out; first | omega | exact Nat.le_refl _⟩, ⟨by repeat (first | (with_reducible first | exact HB.out | apply below_alloc | apply pw_below_drewN | apply below_drew1) | exact HB.out)⟩⟩
       case rest =>
        clear HC9
        try clear c1
        try clear c2
        try clear c2b0
        try clear c2b1
        try clear p2
        try clear c3
        try clear c3b0
        try clear c3b1
        try clear p4
        try clear q4
        try clear hx4
        try clear qi4
        try clear p6
        try clear c7
        try clear c7b0
        try clear c8
        try clear c10
        try clear c10b0
        try clear p2
        try clear p4
        try clear p6
        try clear q4
        obtain ⟨kq, x23_8, rfl, HA, HJ8, HB⟩ := hcut
        cases kq with
        | zero => exact absurd HA.out (by simp [dragomanref1_Take.j1])
        | succ kj8 =>
         have H := HA.out
         clear HA
         simp only [dragomanref1_Take.j1] at H
         by_cases c11 : x23_8 = true
         ·subst c11
          have H1 : (dragomanref1_Take.j3 kj8 a0 3 (wrap64 ((wrap64 (bt a0 0)) - 224))) = some (r1, r2) := by rw [if_pos rfl] at H; exact H
          clear H
          have H := H1
          clear H1
          have H' := Aside0.mk H
          clear H
          go_wp2
          go_meet
          case rel => exact ⟨_, (3), (wrap64 ((wrap64 (bt a0 0)) - 224)), (by first | rfl | (simp; done) | (simp [*]; done)), (by first | rfl | (simp; done) | (simp [*]; done)), H', ⟨by have := HJ5.out; have := HJ8.out; first | omega | exact Nat.le_refl _⟩, ⟨by repeat (first | (with_reducible first | exact HB.out | apply below_alloc | apply pw_below_drewN | apply below_drew1) | exact HB.out)⟩⟩
         ·replace c11 := Bool.eq_false_iff.mpr c11
          subst c11
          have H1 : (if (wrap64 (bt a0 0)) ≥ 192 then (dragomanref1_Take.j2 kj8 a0 (wrap64 (bt a0 0)) 1 (wrap64 (bt a0 0)) (decide ((wrap64 (bt a0 0)) < 224))) else (dragomanref1_Take.j2 kj8 a0 (wrap64 (bt a0 0)) 1 (wrap64 (bt a0 0)) false)) = some (r1, r2) := by rw [if_neg (show ¬ (false = true) by decide)] at H; exact H
          clear H
          have H := H1
          clear H1
          have HC12 := Aside0.mk H
          clear H
          go_upto_region 9 with (fail)
          go_cut [32] (fun v32 wc => ∃ (kq : Nat) (x32_11 : Bool), v32 = .bool x32_11 ∧ Aside0 (dragomanref1_Take.j2 kq a0 (wrap64 (bt a0 0)) 1 (wrap64 (bt a0 0)) x32_11 = some (r1, r2)) ∧ Aside0 (kq ≤ kj8) ∧ Aside0 (Below w.heap.size w wc))
          case first =>
           have H := HC12.out
           clear HC12
           by_cases c13 : (wrap64 (bt a0 0)) ≥ 192
           ·rw [if_pos c13] at H
            have c13b0 : decide (192 ≤ (wrap64 (bt a0 0))) = true := decide_eq_true c13
            clear c13
            (first | rw [c13b0] | (simp only [i64_w, i32_w]; rw [c13b0]) | skip)
            have H' := Aside0.mk H
            clear H
            go_wp2
            go_meet
            case rel => exact ⟨_, (decide ((wrap64 (bt a0 0)) < 224)), (by first | rfl | (simp; done) | (simp [*]; done)), H', ⟨by have := HJ5.out; have := HJ8.out; first | omega | exact Nat.le_refl _⟩, ⟨by repeat (first | (with_reducible first | exact HB.out | apply below_alloc | apply pw_below_drewN | apply below_drew1) | exact HB.out)⟩⟩
           ·rw [if_neg c13] at H
            have c13b0 : decide (192 ≤ (wrap64 (bt a0 0))) = false := decide_eq_false c13
            clear c13
            (first | rw [c13b0] | (simp only [i64_w, i32_w]; rw [c13b0]) | skip)
            have H' := Aside0.mk H
            clear H
            go_wp2
            go_meet
            case rel => exact ⟨_, (false), (by first | rfl | (simp; done) | (simp [*]; done)), H', ⟨by have := HJ5.out; have := HJ8.out; first | omega | exact Nat.le_refl _⟩, ⟨by repeat (first | (with_reducible first | exact HB.out | apply below_alloc | apply pw_below_drewN | apply below_drew1) | exact HB.out)⟩⟩
          case rest =>
           clear HC12
           try clear c1
           try clear c2
           try clear c2b0
           try clear c2b1
           try clear p2
           try clear c3
           try clear c3b0
           try clear c3b1
           try clear p4
           try clear q4
           try clear hx4
           try clear qi4
           try clear p6
           try clear c7
           try clear c7b0
           try clear c8
           try clear c10
           try clear c10b0
           try clear c11
           try clear c13
           try clear c13b0
           try clear p2
           try clear p4
           try clear p6
           try clear q4
           obtain ⟨kq, x32_11, rfl, HA, HJ11, HB⟩ := hcut
           cases kq with
           | zero => exact absurd HA.out (by simp [dragomanref1_Take.j2])
           | succ kj11 =>
            have H := HA.out
            clear HA
            simp only [dragomanref1_Take.j2] at H
            by_cases c14 : x32_11 = true
            ·subst c14
             have H1 : (dragomanref1_Take.j3 kj11 a0 2 (wrap64 ((wrap64 (bt a0 0)) - 192))) = some (r1, r2) := by rw [if_pos rfl] at H; exact H
             clear H
             have H := H1
             clear H1
             have H' := Aside0.mk H
             clear H
             go_wp2
             go_meet
             case rel => exact ⟨_, (2), (wrap64 ((wrap64 (bt a0 0)) - 192)), (by first | rfl | (simp; done) | (simp [*]; done)), (by first | rfl | (simp; done) | (simp [*]; done)), H', ⟨by have := HJ5.out; have := HJ8.out; have := HJ11.out; first | omega | exact Nat.le_refl _⟩, ⟨by repeat (first | (with_reducible first | exact HB.out | apply below_alloc | apply pw_below_drewN | apply below_drew1) | exact HB.out)⟩⟩
            ·replace c14 := Bool.eq_false_iff.mpr c14
             subst c14
             have H1 : (if (wrap64 (bt a0 0)) ≥ 128 then (some (0, 0)) else (dragomanref1_Take.j3 kj11 a0 1 (wrap64 (bt a0 0)))) = some (r1, r2) := by rw [if_neg (show ¬ (false = true) by decide)] at H; exact H
             clear H
             have H := H1
             clear H1
             by_cases c15 : (wrap64 (bt a0 0)) ≥ 128
             ·rw [if_pos c15] at H
              have c15b0 : decide (128 ≤ (wrap64 (bt a0 0))) = true := decide_eq_true c15
              clear c15
              simp only [Option.some.injEq, Prod.mk.injEq] at H
              obtain ⟨rfl, rfl⟩ := H
              go_wp2
              go_ret2
              exact ⟨by first | rfl | (simp [errW_none, errW_some] <;> rfl) | (simp [*, errW_none, errW_some, bne]; done) | (simp [*, errW_none, errW_some] <;> rfl), by repeat (first | (with_reducible first | exact HB.out | apply below_alloc | apply pw_below_drewN | apply below_drew1) | exact HB.out)⟩
             ·rw [if_neg c15] at H
              have c15b0 : decide (128 ≤ (wrap64 (bt a0 0))) = false := decide_eq_false c15
              clear c15
              have H' := Aside0.mk H
              clear H
              go_wp2
              go_meet
              case rel => exact ⟨_, (1), ((wrap64 (bt a0 0))), (by first | rfl | (simp; done) | (simp [*]; done)), (by first | rfl | (simp; done) | (simp [*]; done)), H', ⟨by have := HJ5.out; have := HJ8.out; have := HJ11.out; first | omega | exact Nat.le_refl _⟩, ⟨by repeat (first | (with_reducible first | exact HB.out | apply below_alloc | apply pw_below_drewN | apply below_drew1) | exact HB.out)⟩⟩
   case rest =>
    clear HC5
    try clear c1
    try clear c2
    try clear c2b0
    try clear c2b1
    try clear p2
    try clear c3
    try clear c3b0
    try clear c3b1
    try clear p4
    try clear q4
    try clear hx4
    try clear qi4
    try clear p6
    try clear c7
    try clear c7b0
    try clear c8
    try clear c10
    try clear c10b0
    try clear c11
    try clear c13
    try clear c13b0
    try clear c14
    try clear c15
    try clear c15b0
    try clear p2
    try clear p4
    try clear p6
    try clear q4
    obtain ⟨kq, x5_4, x6_4, rfl, rfl, HA, HJ4, HB⟩ := hcut
    cases kq with
    | zero => exact absurd HA.out (by simp [dragomanref1_Take.j3])
    | succ kj4 =>
     have H := HA.out
     clear HA
     simp only [dragomanref1_Take.j3] at H
     by_cases c16 : (a0.size : Int) < x5_4
     ·rw [if_pos c16] at H
      have c16b0 : decide ((a0.size : Int) < x5_4) = true := decide_eq_true c16
      clear c16
      simp only [Option.some.injEq, Prod.mk.injEq] at H
      obtain ⟨rfl, rfl⟩ := H
      go_wp2
      go_ret2
      exact ⟨by first | rfl | (simp [errW_none, errW_some] <;> rfl) | (simp [*, errW_none, errW_some, bne]; done) | (simp [*, errW_none, errW_some] <;> rfl), by repeat (first | (with_reducible first | exact HB.out | apply below_alloc | apply pw_below_drewN | apply below_drew1) | exact HB.out)⟩
     ·rw [if_neg c16] at H
      have c16b0 : decide ((a0.size : Int) < x5_4) = false := decide_eq_false c16
      clear c16
      have H' := Aside0.mk H
      clear H
      go_wp2
      go_loopg [6, 7] kj4 (fun kq v6 v7 w' => ∃ (x6_2 : Int) (x7_2 : Int), v6 = .int .i64 x6_2 ∧ v7 = .int .i64 x7_2 ∧ Aside0 (dragomanref1_Take.l0 kq a0 x5_4 x6_2 x7_2 = some (r1, r2)) ∧ Aside0 (kq ≤ kj4) ∧ Aside0 (Below w.heap.size w w'))
      case atStart => exact ⟨(x6_4), (1), (by first | rfl | (simp; done) | (simp [*]; done)), (by first | rfl | (simp; done) | (simp [*]; done)), H', ⟨Nat.le_refl _⟩, ⟨by repeat (first | (with_reducible first | exact HB.out | apply below_alloc | apply pw_below_drewN | apply below_drew1) | exact HB.out)⟩⟩
      case round =>
       clear H'
       try clear c1
       try clear c2
       try clear c2b0
       try clear c2b1
       try clear p2
       try clear c3
       try clear c3b0
       try clear c3b1
       try clear p4
       try clear q4
       try clear hx4
       try clear qi4
       try clear p6
       try clear c7
       try clear c7b0
       try clear c8
       try clear c10
       try clear c10b0
       try clear c11
       try clear c13
       try clear c13b0
       try clear c14
       try clear c15
       try clear c15b0
       try clear c16
       try clear c16b0
       try clear p2
       try clear p4
       try clear p6
       try clear q4
       obtain ⟨x6_2, x7_2, rfl, rfl, HA, HK2, HB⟩ := hrel
       cases gk with
       | zero => exact absurd HA.out (by simp [dragomanref1_Take.l0])
       | succ k2 =>
        have H := HA.out
        clear HA
        simp only [dragomanref1_Take.l0] at H
        by_cases c17 : x7_2 < x5_4
        ·rw [if_pos c17] at H
         have c17b0 : decide (x7_2 < x5_4) = true := decide_eq_true c17
         clear c17
         by_cases c18 : 0 ≤ x7_2
         ·rw [if_pos c18] at H
          have c18b0 : decide (0 ≤ x7_2) = true := decide_eq_true c18
          clear c18
          by_cases c19 : x7_2 < (a0.size : Int)
          ·rw [if_pos c19] at H
           have c19b0 : decide (x7_2 < (a0.size : Int)) = true := decide_eq_true c19
           clear c19
           by_cases c21 : (bt a0 x7_2) < 128
           ·rw [if_pos c21] at H
            have c21b0 : decide ((bt a0 x7_2) < 128) = true := decide_eq_true c21
            clear c21
            simp only [Option.some.injEq, Prod.mk.injEq] at H
            obtain ⟨rfl, rfl⟩ := H
            have p20 : 0 ≤ (x7_2 : Int) := of_decide_eq_true (by first | (with_reducible assumption) | assumption)
            have q20 : x7_2 < (a0.size : Int) := of_decide_eq_true (by first | (with_reducible assumption) | assumption)
            have hx20 := bt_at a0 x7_2
            replace p20 := eq_true p20
            replace q20 := eq_true q20
            go_wp2
            go_ret2
            exact ⟨by first | rfl | (simp [errW_none, errW_some] <;> rfl) | (simp [*, errW_none, errW_some, bne]; done) | (simp [*, errW_none, errW_some] <;> rfl), by repeat (first | (with_reducible first | exact HB.out | apply below_alloc | apply pw_below_drewN | apply below_drew1) | exact HB.out)⟩
           ·rw [if_neg c21] at H
            have c21b0 : decide ((bt a0 x7_2) < 128) = false := decide_eq_false c21
            clear c21
            by_cases c23 : (bt a0 x7_2) > 191
            ·rw [if_pos c23] at H
             have c23b0 : decide (191 < (bt a0 x7_2)) = true := decide_eq_true c23
             clear c23
             simp only [Option.some.injEq, Prod.mk.injEq] at H
             obtain ⟨rfl, rfl⟩ := H
             have p20 : 0 ≤ (x7_2 : Int) := of_decide_eq_true (by first | (with_reducible assumption) | assumption)
             have q20 : x7_2 < (a0.size : Int) := of_decide_eq_true (by first | (with_reducible assumption) | assumption)
             have hx20 := bt_at a0 x7_2
             replace p20 := eq_true p20
             replace q20 := eq_true q20
             have p22 : 0 ≤ (x7_2 : Int) := of_decide_eq_true (by first | (with_reducible assumption) | assumption)
             have q22 : x7_2 < (a0.size : Int) := of_decide_eq_true (by first | (with_reducible assumption) | assumption)
             have hx22 := bt_at a0 x7_2
             replace p22 := eq_true p22
             replace q22 := eq_true q22
             go_wp2
             go_ret2
             exact ⟨by first | rfl | (simp [errW_none, errW_some] <;> rfl) | (simp [*, errW_none, errW_some, bne]; done) | (simp [*, errW_none, errW_some] <;> rfl), by repeat (first | (with_reducible first | exact HB.out | apply below_alloc | apply pw_below_drewN | apply below_drew1) | exact HB.out)⟩
            ·rw [if_neg c23] at H
             have c23b0 : decide (191 < (bt a0 x7_2)) = false := decide_eq_false c23
             clear c23
             have H' := Aside0.mk H
             clear H
             have p20 : 0 ≤ (x7_2 : Int) := of_decide_eq_true (by first | (with_reducible assumption) | assumption)
             have q20 : x7_2 < (a0.size : Int) := of_decide_eq_true (by first | (with_reducible assumption) | assumption)
             have hx20 := bt_at a0 x7_2
             replace p20 := eq_true p20
             replace q20 := eq_true q20
             have p22 : 0 ≤ (x7_2 : Int) := of_decide_eq_true (by first | (with_reducible assumption) | assumption)
             have q22 : x7_2 < (a0.size : Int) := of_decide_eq_true (by first | (with_reducible assumption) | assumption)
             have hx22 := bt_at a0 x7_2
             replace p22 := eq_true p22
             replace q22 := eq_true q22
             have p24 : 0 ≤ (x7_2 : Int) := of_decide_eq_true (by first | (with_reducible assumption) | assumption)
             have q24 : x7_2 < (a0.size : Int) := of_decide_eq_true (by first | (with_reducible assumption) | assumption)
             have hx24 := bt_at a0 x7_2
             replace p24 := eq_true p24
             replace q24 := eq_true q24
             go_wp2
             go_roundg k2
             case measure => have := HJ4.out; have := HK2.out; omega
             case rel => exact ⟨(wrap64 ((wrap64 ((wrap64 (64 * x6_2)) + (wrap64 (bt a0 x7_2)))) - 128)), (wrap64 (x7_2 + 1)), (by first | rfl | (simp; done) | (simp [*]; done)), (by first | rfl | (simp; done) | (simp [*]; done)), H', ⟨by have := HJ4.out; have := HK2.out; omega⟩, ⟨by repeat (first | (with_reducible first | exact HB.out | apply below_alloc | apply pw_below_drewN | apply below_drew1) | exact HB.out)⟩⟩
          ·rw [if_neg c19] at H
           exact absurd H (by simp)
         ·rw [if_neg c18] at H
          exact absurd H (by simp)
        ·rw [if_neg c17] at H
         have c17b0 : decide (x7_2 < x5_4) = false := decide_eq_false c17
         clear c17
         replace H := Option.bind_eq_some_iff.mp H
         obtain ⟨t182, A250, H⟩ := H
         replace H : (if 0 ≤ x5_4 then (if x5_4 ≤ (a0.size : Int) then (if t182.toList = (a0.extract 0 (x5_4 : Int).toNat).toList then (some (x6_2, x5_4)) else (some (0, 0))) else (none)) else (none)) = some (r1, r2) := H
         have A25 := Aside0.mk A250
         clear A250
         by_cases c26 : 0 ≤ x5_4
         ·rw [if_pos c26] at H
          have c26b0 := eq_true c26
          have c26b1 : decide (0 ≤ x5_4) = true := decide_eq_true c26
          clear c26
          by_cases c27 : x5_4 ≤ (a0.size : Int)
          ·rw [if_pos c27] at H
           have c27b0 := eq_true c27
           have c27b1 : decide (x5_4 ≤ (a0.size : Int)) = true := decide_eq_true c27
           clear c27
           by_cases c28 : t182.toList = (a0.extract 0 (x5_4 : Int).toNat).toList
           ·rw [if_pos c28] at H
            have c28b0 : (t182.toList == (a0.extract 0 (x5_4 : Int).toNat).toList) = true := beq_iff_eq.mpr c28
            have c28b1 : (t182.toList != (a0.extract 0 (x5_4 : Int).toNat).toList) = false := bne_eq_false_iff_eq.mpr c28
            clear c28
            simp only [Option.some.injEq, Prod.mk.injEq] at H
            obtain ⟨rfl, rfl⟩ := H
            try go_wp2
            have n0_ := Aside0.mk (below_drew1 HB.out)
            clear HB
            have HB := n0_
            clear n0_
            refine start_ (n := 6) (S := fun w' => True) (ds := []) #[false, false, false, false, false, false] (by kernel_rfl) rfl rfl trivial (fun hHeld => ?_)
            generalize wr.drew = w29 at HB hHeld ⊢
            refine pure_ (i := 0) (N := some 71) (v := ?_) (a' := ?_) #[true, false, false, false, false, false] rfl rfl (by kernel_rfl) (fun _ _ _ h => h) (Or.inl ⟨by rfl, ?_⟩) ?_ ?_
            rotate_left
            ·intro w'
             go_simp
             with_reducible rfl
            rotate_left
            ·simp only [Act.put, List.setIfInBounds_toArray, List.set_cons_zero, List.set_cons_succ, i64_w, i32_w]
             rfl
            refine pure_ (i := 2) (N := some 73) (v := ?_) (a' := ?_) #[true, false, true, false, false, false] rfl rfl (by kernel_rfl) (fun _ _ _ h => h) (Or.inl ⟨by rfl, ?_⟩) ?_ ?_
            rotate_left
            ·intro w'
             go_simp
             with_reducible rfl
            rotate_left
            ·simp only [Act.put, List.setIfInBounds_toArray, List.set_cons_zero, List.set_cons_succ, i64_w, i32_w]
             rfl
            refine pure_ (i := 3) (N := some 74) (v := ?_) (a' := ?_) #[true, false, true, true, false, false] rfl rfl (by kernel_rfl) (fun _ _ _ h => h) (Or.inl ⟨by rfl, ?_⟩) ?_ ?_
            rotate_left
            ·intro w'
             go_simp
             with_reducible rfl
            rotate_left
            ·simp only [Act.put, List.setIfInBounds_toArray, List.set_cons_zero, List.set_cons_succ, i64_w, i32_w]
             rfl
            refine pure_ (i := 4) (N := some 75) (v := ?_) (a' := ?_) #[true, false, true, true, true, false] rfl rfl (by kernel_rfl) (fun _ _ _ h => h) (Or.inl ⟨by rfl, ?_⟩) ?_ ?_
            rotate_left
            ·intro w'
             go_simp
             with_reducible rfl
            rotate_left
            ·simp only [Act.put, List.setIfInBounds_toArray, List.set_cons_zero, List.set_cons_succ, i64_w, i32_w]
             rfl
            refine one_ (i := 1) (N := some 72) #[true, true, true, true, true, false] rfl rfl (by kernel_rfl) (by decide) (fun K hK => ?_)
            refine goes_ Tryd.func38 (by kernel_rfl) rfl #[.int .i64 x6_2] (by rfl) rfl rfl (by (try simp only [List.map_toArray, List.map_cons, List.map_nil]); first | done | rfl | (simp only [List.length_drop, List.length_take]; rfl)) ?_
            with_reducible refine (dragomanref1_Put.calls x6_2 t182 _ A25.out).mono ?_
            rintro e w30 ⟨rfl, hb⟩
            refine ⟨_, rfl, ?_⟩
            have n0_ := Aside0.mk (below_step (by repeat (first | (with_reducible first | exact HB.out | apply below_alloc | apply pw_below_drewN | apply below_drew1) | exact HB.out)) hb)
            clear HB
            have HB := n0_
            clear n0_
            (try clear hb)
            (try clear hb2)
            (try clear hk)
            (try clear hi)
            refine hK.out _ _ trivial (fun hHeld => ?_)
            clear hK K
            refine norm_ (a' := ?_) ?_ ?_
            rotate_left
            ·show Act.put _ (some 72) _ = _
             simp only [Act.put, List.setIfInBounds_toArray, List.set_cons_zero, List.set_cons_succ, i64_w, i32_w]
             rfl
            refine pure_ (i := 5) (N := some 76) (v := ?_) (a' := ?_) #[true, true, true, true, true, true] rfl rfl (by kernel_rfl) (fun _ _ _ h => h) (Or.inl ⟨by rfl, ?_⟩) ?_ ?_
            rotate_left
            ·intro w'
             go_simp
             with_reducible rfl
            rotate_left
            ·simp only [Act.put, List.setIfInBounds_toArray, List.set_cons_zero, List.set_cons_succ, i64_w, i32_w]
             rfl
            refine done_ (by kernel_rfl) ?_
            try go_wp2
            go_ret2
            exact ⟨by first | rfl | (simp [errW_none, errW_some] <;> rfl) | (simp [*, errW_none, errW_some, bne]; done) | (simp [*, errW_none, errW_some] <;> rfl), by repeat (first | (with_reducible first | exact HB.out | apply below_alloc | apply pw_below_drewN | apply below_drew1) | exact HB.out)⟩
           ·rw [if_neg c28] at H
            have c28b0 : (t182.toList == (a0.extract 0 (x5_4 : Int).toNat).toList) = false := beq_eq_false_iff_ne.mpr c28
            have c28b1 : (t182.toList != (a0.extract 0 (x5_4 : Int).toNat).toList) = true := bne_iff_ne.mpr c28
            simp only [Option.some.injEq, Prod.mk.injEq] at H
            obtain ⟨rfl, rfl⟩ := H
            try go_wp2
            have n0_ := Aside0.mk (below_drew1 HB.out)
            clear HB
            have HB := n0_
            clear n0_
            refine start_ (n := 6) (S := fun w' => True) (ds := []) #[false, false, false, false, false, false] (by kernel_rfl) rfl rfl trivial (fun hHeld => ?_)
            generalize wr.drew = w31 at HB hHeld ⊢
            refine pure_ (i := 0) (N := some 71) (v := ?_) (a' := ?_) #[true, false, false, false, false, false] rfl rfl (by kernel_rfl) (fun _ _ _ h => h) (Or.inl ⟨by rfl, ?_⟩) ?_ ?_
            rotate_left
            ·intro w'
             go_simp
             with_reducible rfl
            rotate_left
            ·simp only [Act.put, List.setIfInBounds_toArray, List.set_cons_zero, List.set_cons_succ, i64_w, i32_w]
             rfl
            refine pure_ (i := 2) (N := some 73) (v := ?_) (a' := ?_) #[true, false, true, false, false, false] rfl rfl (by kernel_rfl) (fun _ _ _ h => h) (Or.inl ⟨by rfl, ?_⟩) ?_ ?_
            rotate_left
            ·intro w'
             go_simp
             with_reducible rfl
            rotate_left
            ·simp only [Act.put, List.setIfInBounds_toArray, List.set_cons_zero, List.set_cons_succ, i64_w, i32_w]
             rfl
            refine pure_ (i := 3) (N := some 74) (v := ?_) (a' := ?_) #[true, false, true, true, false, false] rfl rfl (by kernel_rfl) (fun _ _ _ h => h) (Or.inl ⟨by rfl, ?_⟩) ?_ ?_
            rotate_left
            ·intro w'
             go_simp
             with_reducible rfl
            rotate_left
            ·simp only [Act.put, List.setIfInBounds_toArray, List.set_cons_zero, List.set_cons_succ, i64_w, i32_w]
             rfl
            refine pure_ (i := 4) (N := some 75) (v := ?_) (a' := ?_) #[true, false, true, true, true, false] rfl rfl (by kernel_rfl) (fun _ _ _ h => h) (Or.inl ⟨by rfl, ?_⟩) ?_ ?_
            rotate_left
            ·intro w'
             go_simp
             with_reducible rfl
            rotate_left
            ·simp only [Act.put, List.setIfInBounds_toArray, List.set_cons_zero, List.set_cons_succ, i64_w, i32_w]
             rfl
            refine one_ (i := 1) (N := some 72) #[true, true, true, true, true, false] rfl rfl (by kernel_rfl) (by decide) (fun K hK => ?_)
            refine goes_ Tryd.func38 (by kernel_rfl) rfl #[.int .i64 x6_2] (by rfl) rfl rfl (by (try simp only [List.map_toArray, List.map_cons, List.map_nil]); first | done | rfl | (simp only [List.length_drop, List.length_take]; rfl)) ?_
            with_reducible refine (dragomanref1_Put.calls x6_2 t182 _ A25.out).mono ?_
            rintro e w32 ⟨rfl, hb⟩
            refine ⟨_, rfl, ?_⟩
            have n0_ := Aside0.mk (below_step (by repeat (first | (with_reducible first | exact HB.out | apply below_alloc | apply pw_below_drewN | apply below_drew1) | exact HB.out)) hb)
            clear HB
            have HB := n0_
            clear n0_
            (try clear hb)
            (try clear hb2)
            (try clear hk)
            (try clear hi)
            refine hK.out _ _ trivial (fun hHeld => ?_)
            clear hK K
            refine norm_ (a' := ?_) ?_ ?_
            rotate_left
            ·show Act.put _ (some 72) _ = _
             simp only [Act.put, List.setIfInBounds_toArray, List.set_cons_zero, List.set_cons_succ, i64_w, i32_w]
             rfl
            refine pure_ (i := 5) (N := some 76) (v := ?_) (a' := ?_) #[true, true, true, true, true, true] rfl rfl (by kernel_rfl) (fun _ _ _ h => h) (Or.inl ⟨by rfl, ?_⟩) ?_ ?_
            rotate_left
            ·intro w'
             go_simp
             with_reducible rfl
            rotate_left
            ·simp only [Act.put, List.setIfInBounds_toArray, List.set_cons_zero, List.set_cons_succ, i64_w, i32_w]
             rfl
            refine done_ (by kernel_rfl) ?_
            try go_wp2
            go_ret2
            exact ⟨by first | rfl | (simp [errW_none, errW_some] <;> rfl) | (simp [*, errW_none, errW_some, bne]; done) | (simp [*, errW_none, errW_some] <;> rfl), by repeat (first | (with_reducible first | exact HB.out | apply below_alloc | apply pw_below_drewN | apply below_drew1) | exact HB.out)⟩
          ·rw [if_neg c27] at H
           exact absurd H (by simp)
         ·rw [if_neg c26] at H
          exact absurd H (by simp)
  ·rw [if_neg c3] at H
   exact absurd H (by simp)
end Go.Proofs.YtjmmdphkgioooaaDoor.P
end
section
namespace Go.Proofs.YtjmmdphkgioooaaDoor.P
open Go.RowKit Go.Proofs.YtjmmdphkgioooaaDoorW.PrintWords Go.Proofs.YtjmmdphkgioooaaDoorW.PrintLast Go.Proofs.YtjmmdphkgioooaaDoorW.PrintMore
attribute [local go_sem] max2_int min2_int max_two min_two max_three min_three max_four min_four   -- for this text's walks alone
set_option linter.unusedVariables false
set_option linter.unusedSimpArgs false
/-! ### dragomanref1_Valid: function 17 -/
def dragomanref1_Valid.l0 : Nat → ByteArray → Int → Option (Int)
 | 0, _, _ => none
 | k + 1, x0, x3 => if x3 < (x0.size : Int) then (if 0 ≤ x3 then (if x3 ≤ (x0.size : Int) then ((dragomanref1_Take.f k (x0.extract (x3 : Int).toNat x0.size)).bind fun bt183 => (if bt183.2 = 0 then (some x3) else (dragomanref1_Valid.l0 k x0 (wrap64 (x3 + bt183.2))))) else (none)) else (none)) else (some (-1))
def dragomanref1_Valid.f (k : Nat) (a0 : ByteArray) : Option (Int) := dragomanref1_Valid.l0 k a0 0
set_option maxHeartbeats 8000000 in
set_option maxRecDepth 100000 in
theorem dragomanref1_Valid.calls (k : Nat) (a0 : ByteArray) (r : Int) (w : World) (h : dragomanref1_Valid.f k a0 = some r) :
  Calls Tryd.prog 17 #[.string a0] w fun e w' => e = .returned (.int .i64 r) ∧ Below w.heap.size w w' := by
 have HB := Aside0.mk (Below.refl w.heap.size w)
 have H : (dragomanref1_Valid.l0 k a0 0) = some r := h
 clear h
 have H' := Aside0.mk H
 clear H
 go_enter Tryd.func17, Tryd.ntmps17
 go_wp2
 go_loopg [3] k (fun kq v3 w' => ∃ (x3_1 : Int), v3 = .int .i64 x3_1 ∧ Aside0 (dragomanref1_Valid.l0 kq a0 x3_1 = some r) ∧ Aside0 (kq ≤ k) ∧ Aside0 (Below w.heap.size w w'))
 case atStart => exact ⟨(0), (by first | rfl | (simp; done) | (simp [*]; done)), H', ⟨Nat.le_refl _⟩, ⟨by repeat (first | (with_reducible first | exact HB.out | apply below_alloc | apply pw_below_drewN | apply below_drew1) | exact HB.out)⟩⟩
 case round =>
  clear H'
  try clear c1
  obtain ⟨x3_1, rfl, HA, HK1, HB⟩ := hrel
  cases gk with
  | zero => exact absurd HA.out (by simp [dragomanref1_Valid.l0])
  | succ k1 =>
   have H := HA.out
   clear HA
   simp only [dragomanref1_Valid.l0] at H
   by_cases c2 : x3_1 < (a0.size : Int)
   ·rw [if_pos c2] at H
    have c2b0 : decide (x3_1 < (a0.size : Int)) = true := decide_eq_true c2
    clear c2
    by_cases c3 : 0 ≤ x3_1
    ·rw [if_pos c3] at H
     have c3b0 := eq_true c3
     have c3b1 : decide (0 ≤ x3_1) = true := decide_eq_true c3
     clear c3
     by_cases c4 : x3_1 ≤ (a0.size : Int)
     ·rw [if_pos c4] at H
      have c4b0 := eq_true c4
      have c4b1 : decide (x3_1 ≤ (a0.size : Int)) = true := decide_eq_true c4
      clear c4
      replace H := Option.bind_eq_some_iff.mp H
      obtain ⟨⟨t183, t184⟩, A50, H⟩ := H
      replace H : (if t184 = 0 then (some x3_1) else (dragomanref1_Valid.l0 k1 a0 (wrap64 (x3_1 + t184)))) = some r := H
      have A5 := Aside0.mk A50
      clear A50
      by_cases c6 : t184 = 0
      ·rw [if_pos c6] at H
       have c6b0 : (t184 == 0) = true := beq_iff_eq.mpr c6
       have c6b1 : (t184 != 0) = false := bne_eq_false_iff_eq.mpr c6
       clear c6
       obtain rfl := Option.some.inj H
       go_wp2_with (first | ((with_reducible refine gate_callee (f := 29) rfl ?_); refine goesL_ (some 14) rfl rfl Tryd.func29 (by kernel_rfl) rfl #[.string (a0.extract (x3_1 : Int).toNat a0.size)] rfl (by (try simp only [List.map_toArray, List.map_cons, List.map_nil]); first | done | rfl | (simp only [List.length_drop, List.length_take]; rfl)) ?_; (with_reducible refine (dragomanref1_Take.calls k1 (a0.extract (x3_1 : Int).toNat a0.size) t183 t184 _ A5.out).mono ?_); rintro e w7 ⟨rfl, hb⟩; refine ⟨_, rfl, ?_⟩; have n0_ := Aside0.mk (below_step (by repeat (first | (with_reducible first | exact HB.out | apply below_alloc | apply pw_below_drewN | apply below_drew1) | exact HB.out)) hb); clear HB; have HB := n0_; clear n0_; (try clear hb); (try clear hb2); (try clear hk); (try clear hi)))
       go_ret
       exact ⟨by first | rfl | (simp [errW_none, errW_some] <;> rfl) | (simp [*, errW_none, errW_some, bne]; done) | (simp [*, errW_none, errW_some] <;> rfl), by repeat (first | (with_reducible first | exact HB.out | apply below_alloc | apply pw_below_drewN | apply below_drew1) | exact HB.out)⟩
      ·rw [if_neg c6] at H
       have c6b0 : (t184 == 0) = false := beq_eq_false_iff_ne.mpr c6
       have c6b1 : (t184 != 0) = true := bne_iff_ne.mpr c6
       have H' := Aside0.mk H
       clear H
       go_wp2_with (first | ((with_reducible refine gate_callee (f := 29) rfl ?_); refine goesL_ (some 14) rfl rfl Tryd.func29 (by kernel_rfl) rfl #[.string (a0.extract (x3_1 : Int).toNat a0.size)] rfl (by (try simp only [List.map_toArray, List.map_cons, List.map_nil]); first | done | rfl | (simp only [List.length_drop, List.length_take]; rfl)) ?_; (with_reducible refine (dragomanref1_Take.calls k1 (a0.extract (x3_1 : Int).toNat a0.size) t183 t184 _ A5.out).mono ?_); rintro e w8 ⟨rfl, hb⟩; refine ⟨_, rfl, ?_⟩; have n0_ := Aside0.mk (below_step (by repeat (first | (with_reducible first | exact HB.out | apply below_alloc | apply pw_below_drewN | apply below_drew1) | exact HB.out)) hb); clear HB; have HB := n0_; clear n0_; (try clear hb); (try clear hb2); (try clear hk); (try clear hi)))
       go_roundg k1
       case measure => have := HK1.out; omega
       case rel => exact ⟨(wrap64 (x3_1 + t184)), (by first | rfl | (simp; done) | (simp [*]; done)), H', ⟨by have := HK1.out; omega⟩, ⟨by repeat (first | (with_reducible first | exact HB.out | apply below_alloc | apply pw_below_drewN | apply below_drew1) | exact HB.out)⟩⟩
     ·rw [if_neg c4] at H
      exact absurd H (by simp)
    ·rw [if_neg c3] at H
     exact absurd H (by simp)
   ·rw [if_neg c2] at H
    have c2b0 : decide (x3_1 < (a0.size : Int)) = false := decide_eq_false c2
    clear c2
    obtain rfl := Option.some.inj H
    go_wp2
    go_ret
    exact ⟨by first | rfl | (simp [errW_none, errW_some] <;> rfl) | (simp [*, errW_none, errW_some, bne]; done) | (simp [*, errW_none, errW_some] <;> rfl), by repeat (first | (with_reducible first | exact HB.out | apply below_alloc | apply pw_below_drewN | apply below_drew1) | exact HB.out)⟩
end Go.Proofs.YtjmmdphkgioooaaDoor.P
end
section
namespace Go.Proofs.YtjmmdphkgioooaaDoor.P
open Go.RowKit Go.Proofs.YtjmmdphkgioooaaDoorW.PrintWords Go.Proofs.YtjmmdphkgioooaaDoorW.PrintLast Go.Proofs.YtjmmdphkgioooaaDoorW.PrintMore
attribute [local go_sem] max2_int min2_int max_two min_two max_three min_three max_four min_four   -- for this text's walks alone
set_option linter.unusedVariables false
set_option linter.unusedSimpArgs false
/-! ### dragomanref1_Str: function 26 -/
def dragomanref1_Str.f (k : Nat) (a0 : ByteArray) : Option (Bool) := if (a0.size : Int) ≤ 4096 then ((dragomanref1_Valid.f k a0).bind fun t185 => (some (decide (t185 < 0)))) else (some false)
set_option maxHeartbeats 8000000 in
set_option maxRecDepth 100000 in
theorem dragomanref1_Str.calls (k : Nat) (a0 : ByteArray) (r : Bool) (w : World) (h : dragomanref1_Str.f k a0 = some r) :
  Calls Tryd.prog 26 #[.string a0] w fun e w' => e = .returned (.bool r) ∧ Below w.heap.size w w' := by
 have HB := Aside0.mk (Below.refl w.heap.size w)
 have H : (if (a0.size : Int) ≤ 4096 then ((dragomanref1_Valid.f k a0).bind fun t185 => (some (decide (t185 < 0)))) else (some false)) = some r := h
 clear h
 by_cases c2 : (a0.size : Int) ≤ 4096
 ·rw [if_pos c2] at H
  have c2b0 : decide ((a0.size : Int) ≤ 4096) = true := decide_eq_true c2
  have c2b1 : decide (a0.size ≤ 4096) = true := decide_eq_true (by omega)
  clear c2
  replace H := Option.bind_eq_some_iff.mp H
  obtain ⟨t185, A30, H⟩ := H
  replace H : (some (decide (t185 < 0))) = some r := H
  have A3 := Aside0.mk A30
  clear A30
  obtain rfl := Option.some.inj H
  go_enter Tryd.func26, Tryd.ntmps26
  go_wp2_with (first | (go_at_call 17; (with_reducible refine (dragomanref1_Valid.calls k a0 t185 _ A3.out).mono ?_); rintro e w4 ⟨rfl, hb⟩; have n0_ := Aside0.mk (below_step (by repeat (first | (with_reducible first | exact HB.out | apply below_alloc | apply pw_below_drewN | apply below_drew1) | exact HB.out)) hb); clear HB; have HB := n0_; clear n0_; (try clear hb); (try clear hb2); (try clear hk); (try clear hi)))
  go_ret
  exact ⟨by first | rfl | (simp [errW_none, errW_some] <;> rfl) | (simp [*, errW_none, errW_some, bne]; done) | (simp [*, errW_none, errW_some] <;> rfl), by repeat (first | (with_reducible first | exact HB.out | apply below_alloc | apply pw_below_drewN | apply below_drew1) | exact HB.out)⟩
 ·rw [if_neg c2] at H
  have c2b0 : decide ((a0.size : Int) ≤ 4096) = false := decide_eq_false c2
  have c2b1 : decide (a0.size ≤ 4096) = false := decide_eq_false (by omega)
  clear c2
  obtain rfl := Option.some.inj H
  go_enter Tryd.func26, Tryd.ntmps26
  go_wp2
  go_ret
  exact ⟨by first | rfl | (simp [errW_none, errW_some] <;> rfl) | (simp [*, errW_none, errW_some, bne]; done) | (simp [*, errW_none, errW_some] <;> rfl), by repeat (first | (with_reducible first | exact HB.out | apply below_alloc | apply pw_below_drewN | apply below_drew1) | exact HB.out)⟩
end Go.Proofs.YtjmmdphkgioooaaDoor.P
end
section
namespace Go.Proofs.YtjmmdphkgioooaaDoor.P
open Go.RowKit Go.Proofs.YtjmmdphkgioooaaDoorW.PrintWords Go.Proofs.YtjmmdphkgioooaaDoorW.PrintLast Go.Proofs.YtjmmdphkgioooaaDoorW.PrintMore
attribute [local go_sem] max2_int min2_int max_two min_two max_three min_three max_four min_four   -- for this text's walks alone
set_option linter.unusedVariables false
set_option linter.unusedSimpArgs false
/-! ### dragomanref13_May: function 14 -/
mutual
def dragomanref13_May.l0 : Nat → List (List ByteArray) → Int → Option (Bool)
 | 0, _, _ => none
 | k + 1, x0, x3 => if x3 < (x0.length : Int) then (if 0 ≤ x3 then (if ((rd_L1 x0 x3).length : Int) < 1 then (dragomanref13_May.j1 k x0 x3 true) else (if ((rd_L1 x0 x3).length : Int) > 64 then (dragomanref13_May.j1 k x0 x3 true) else (if 0 < (x0.length : Int) then (dragomanref13_May.j1 k x0 x3 (((rd_L1 x0 x3).length : Int) != ((rd_L1 x0 0).length : Int))) else (none)))) else (none)) else ((dragomanref13_Print.f k x0).bind fun t186 => (some (decide ((t186.size : Int) ≤ 65536))))
def dragomanref13_May.j1 : Nat → List (List ByteArray) → Int → Bool → Option (Bool)
 | 0, _, _, _ => none
 | k + 1, x0, x3, x39 => if x39 = true then (some false) else (dragomanref13_May.l1 k x0 x3 0)
def dragomanref13_May.l1 : Nat → List (List ByteArray) → Int → Int → Option (Bool)
 | 0, _, _, _ => none
 | k + 1, x0, x3, x4 => if 0 ≤ x3 then (if x3 < (x0.length : Int) then (if x4 < ((rd_L1 x0 x3).length : Int) then (if 0 ≤ x4 then ((dragomanref1_Str.f k (rdOf ByteArray.empty (rd_L1 x0 x3) x4)).bind fun t194 => (if t194 = true then (dragomanref13_May.l1 k x0 x3 (wrap64 (x4 + 1))) else (some false))) else (none)) else (dragomanref13_May.l0 k x0 (wrap64 (x3 + 1)))) else (none)) else (none)
end
def dragomanref13_May.f (k : Nat) (l0 : List (List ByteArray)) : Option (Bool) := if (l0.length : Int) > 513 then (some false) else (dragomanref13_May.l0 k l0 0)
set_option maxHeartbeats 8000000 in
set_option maxRecDepth 100000 in
theorem dragomanref13_May.calls (k : Nat) (A0 : Option Addr) (c0 : Nat) (l0 : List (List ByteArray)) (r : Bool) (w : World) (hr0 : Kd.C (Kd.slice 9 Kd.string) w A0 l0.length l0) (hc0 : l0.length ≤ c0) (h : dragomanref13_May.f k l0 = some r) :
  Calls Tryd.prog 14 #[.slice A0 l0.length c0] w fun e w' => e = .returned (.bool r) ∧ Below w.heap.size w w' := by
 have HR0 := Aside0.mk hr0
 have HC0 := Aside0.mk hc0
 clear hr0 hc0
 have HB := Aside0.mk (Below.refl w.heap.size w)
 have H : (if (l0.length : Int) > 513 then (some false) else (dragomanref13_May.l0 k l0 0)) = some r := h
 clear h
 by_cases c2 : (l0.length : Int) > 513
 ·rw [if_pos c2] at H
  have c2b0 : decide (513 < (l0.length : Int)) = true := decide_eq_true c2
  have c2b1 : decide (513 < l0.length) = true := decide_eq_true (by omega)
  clear c2
  obtain rfl := Option.some.inj H
  go_enter Tryd.func14, Tryd.ntmps14
  go_wp2
  repeat (go_quiet (fail); try go_wp2)
  go_ret
  exact ⟨by first | rfl | (simp [errW_none, errW_some] <;> rfl) | (simp [*, errW_none, errW_some, bne]; done) | (simp [*, errW_none, errW_some] <;> rfl), by repeat (first | (with_reducible first | exact HB.out | apply below_alloc | apply pw_below_drewN | apply below_drew1) | exact HB.out)⟩
 ·rw [if_neg c2] at H
  have c2b0 : decide (513 < (l0.length : Int)) = false := decide_eq_false c2
  have c2b1 : decide (513 < l0.length) = false := decide_eq_false (by omega)
  clear c2
  have H' := Aside0.mk H
  clear H
  go_enter Tryd.func14, Tryd.ntmps14
  go_wp2
  repeat (go_quiet (fail); try go_wp2)
  go_loopg [3] k (fun kq v3 w' => ∃ (x3_1 : Int), v3 = .int .i64 x3_1 ∧ Aside0 (dragomanref13_May.l0 kq l0 x3_1 = some r) ∧ Aside0 (kq ≤ k) ∧ Aside0 (Below w.heap.size w w'))
  case atStart => exact ⟨(0), (by first | rfl | (simp; done) | (simp [*]; done)), H', ⟨Nat.le_refl _⟩, ⟨by repeat (first | (with_reducible first | exact HB.out | apply below_alloc | apply pw_below_drewN | apply below_drew1) | exact HB.out)⟩⟩
  case round =>
   clear H'
   try clear c1
   try clear c2
   try clear c2b0
   try clear c2b1
   try clear p2
   obtain ⟨x3_1, rfl, HA, HK1, HB⟩ := hrel
   cases gk with
   | zero => exact absurd HA.out (by simp [dragomanref13_May.l0])
   | succ k1 =>
    have H := HA.out
    clear HA
    simp only [dragomanref13_May.l0] at H
    by_cases c3 : x3_1 < (l0.length : Int)
    ·rw [if_pos c3] at H
     have c3b0 : decide (x3_1 < (l0.length : Int)) = true := decide_eq_true c3
     clear c3
     have HC4 := Aside0.mk H
     clear H
     go_upto_region 6 with (fail)
     repeat (go_quiet (fail); go_upto_region 6 with (fail))
     go_cut [39] (fun v39 wc => ∃ (kq : Nat) (x39_3 : Bool), v39 = .bool x39_3 ∧ Aside0 (dragomanref13_May.j1 kq l0 x3_1 x39_3 = some r) ∧ Aside0 (kq ≤ k1) ∧ Aside0 (Below w.heap.size w wc))
     case first =>
      have H := HC4.out
      clear HC4
      by_cases c5 : 0 ≤ x3_1
      ·rw [if_pos c5] at H
       have c5b0 : decide (0 ≤ x3_1) = true := decide_eq_true c5
       clear c5
       (first | rw [c5b0] | (simp only [i64_w, i32_w]; rw [c5b0]) | skip)
       by_cases c6 : ((rd_L1 l0 x3_1).length : Int) < 1
       ·rw [if_pos c6] at H
        have c6b0 : decide (((rd_L1 l0 x3_1).length : Int) < 1) = true := decide_eq_true c6
        have c6b1 : decide ((rd_L1 l0 x3_1).length < 1) = true := decide_eq_true (by omega)
        clear c6
        have H' := Aside0.mk H
        clear H
        have p187 : 0 ≤ (x3_1 : Int) := of_decide_eq_true (by first | (with_reducible assumption) | assumption)
        have q187 : x3_1 < (l0.length : Int) := of_decide_eq_true (by first | (with_reducible assumption) | assumption)
        obtain ⟨ad187, A187_0, c187_0, e187, hx187_0, hl187_0, hi187_0⟩ := at_L1 HR0.out x3_1 p187 q187
        cases e187
        replace hx187_0 := (HB.out.cell (World.block_lt_of_cell? w _ hx187_0)).trans hx187_0
        have HR187_0 := Aside0.mk hi187_0
        have HC187_0 := Aside0.mk hl187_0
        clear hi187_0 hl187_0
        replace p187 := eq_true p187
        replace q187 := eq_true q187
        go_wp2
        repeat (go_quiet (fail); try go_wp2)
        go_meet
        case rel => exact ⟨_, (true), (by first | rfl | (simp; done) | (simp [*]; done)), H', ⟨by have := HK1.out; first | omega | exact Nat.le_refl _⟩, ⟨by repeat (first | (with_reducible first | exact HB.out | apply below_alloc | apply pw_below_drewN | apply below_drew1) | exact HB.out)⟩⟩
       ·rw [if_neg c6] at H
        have c6b0 : decide (((rd_L1 l0 x3_1).length : Int) < 1) = false := decide_eq_false c6
        have c6b1 : decide ((rd_L1 l0 x3_1).length < 1) = false := decide_eq_false (by omega)
        clear c6
        by_cases c7 : ((rd_L1 l0 x3_1).length : Int) > 64
        ·rw [if_pos c7] at H
         have c7b0 : decide (64 < ((rd_L1 l0 x3_1).length : Int)) = true := decide_eq_true c7
         have c7b1 : decide (64 < (rd_L1 l0 x3_1).length) = true := decide_eq_true (by omega)
         clear c7
         have H' := Aside0.mk H
         clear H
         have p187 : 0 ≤ (x3_1 : Int) := of_decide_eq_true (by first | (with_reducible assumption) | assumption)
         have q187 : x3_1 < (l0.length : Int) := of_decide_eq_true (by first | (with_reducible assumption) | assumption)
         obtain ⟨ad187, A187_0, c187_0, e187, hx187_0, hl187_0, hi187_0⟩ := at_L1 HR0.out x3_1 p187 q187
         cases e187
         replace hx187_0 := (HB.out.cell (World.block_lt_of_cell? w _ hx187_0)).trans hx187_0
         have HR187_0 := Aside0.mk hi187_0
         have HC187_0 := Aside0.mk hl187_0
         clear hi187_0 hl187_0
         replace p187 := eq_true p187
         replace q187 := eq_true q187
         have p188 : 0 ≤ (x3_1 : Int) := of_decide_eq_true (by first | (with_reducible assumption) | assumption)
         have q188 : x3_1 < (l0.length : Int) := of_decide_eq_true (by first | (with_reducible assumption) | assumption)
         obtain ⟨ad188, A188_0, c188_0, e188, hx188_0, hl188_0, hi188_0⟩ := at_L1 HR0.out x3_1 p188 q188
         obtain rfl : ad187 = ad188 := (by injection e188)
         replace hx188_0 := (HB.out.cell (World.block_lt_of_cell? w _ hx188_0)).trans hx188_0
         have HR188_0 := Aside0.mk hi188_0
         have HC188_0 := Aside0.mk hl188_0
         clear hi188_0 hl188_0
         replace p188 := eq_true p188
         replace q188 := eq_true q188
         have ea_ := Option.some.inj (hx187_0.symm.trans hx188_0)
         injection ea_ with ea_ en_ ec_
         subst ea_
         subst ec_
         clear en_
         go_wp2
         repeat (go_quiet (fail); try go_wp2)
         go_meet
         case rel => exact ⟨_, (true), (by first | rfl | (simp; done) | (simp [*]; done)), H', ⟨by have := HK1.out; first | omega | exact Nat.le_refl _⟩, ⟨by repeat (first | (with_reducible first | exact HB.out | apply below_alloc | apply pw_below_drewN | apply below_drew1) | exact HB.out)⟩⟩
        ·rw [if_neg c7] at H
         have c7b0 : decide (64 < ((rd_L1 l0 x3_1).length : Int)) = false := decide_eq_false c7
         have c7b1 : decide (64 < (rd_L1 l0 x3_1).length) = false := decide_eq_false (by omega)
         clear c7
         by_cases c8 : 0 < (l0.length : Int)
         ·rw [if_pos c8] at H
          have c8b0 : decide (0 < (l0.length : Int)) = true := decide_eq_true c8
          have c8b1 : decide (0 < l0.length) = true := decide_eq_true (by omega)
          clear c8
          have H' := Aside0.mk H
          clear H
          have p187 : 0 ≤ (x3_1 : Int) := of_decide_eq_true (by first | (with_reducible assumption) | assumption)
          have q187 : x3_1 < (l0.length : Int) := of_decide_eq_true (by first | (with_reducible assumption) | assumption)
          obtain ⟨ad187, A187_0, c187_0, e187, hx187_0, hl187_0, hi187_0⟩ := at_L1 HR0.out x3_1 p187 q187
          cases e187
          replace hx187_0 := (HB.out.cell (World.block_lt_of_cell? w _ hx187_0)).trans hx187_0
          have HR187_0 := Aside0.mk hi187_0
          have HC187_0 := Aside0.mk hl187_0
          clear hi187_0 hl187_0
          replace p187 := eq_true p187
          replace q187 := eq_true q187
          have p188 : 0 ≤ (x3_1 : Int) := of_decide_eq_true (by first | (with_reducible assumption) | assumption)
          have q188 : x3_1 < (l0.length : Int) := of_decide_eq_true (by first | (with_reducible assumption) | assumption)
          obtain ⟨ad188, A188_0, c188_0, e188, hx188_0, hl188_0, hi188_0⟩ := at_L1 HR0.out x3_1 p188 q188
          obtain rfl : ad187 = ad188 := (by injection e188)
          replace hx188_0 := (HB.out.cell (World.block_lt_of_cell? w _ hx188_0)).trans hx188_0
          have HR188_0 := Aside0.mk hi188_0
          have HC188_0 := Aside0.mk hl188_0
          clear hi188_0 hl188_0
          replace p188 := eq_true p188
          replace q188 := eq_true q188
          have ea_ := Option.some.inj (hx187_0.symm.trans hx188_0)
          injection ea_ with ea_ en_ ec_
          subst ea_
          subst ec_
          clear en_
          have p189 : 0 ≤ (x3_1 : Int) := of_decide_eq_true (by first | (with_reducible assumption) | assumption)
          have q189 : x3_1 < (l0.length : Int) := of_decide_eq_true (by first | (with_reducible assumption) | assumption)
          obtain ⟨ad189, A189_0, c189_0, e189, hx189_0, hl189_0, hi189_0⟩ := at_L1 HR0.out x3_1 p189 q189
          obtain rfl : ad187 = ad189 := (by injection e189)
          replace hx189_0 := (HB.out.cell (World.block_lt_of_cell? w _ hx189_0)).trans hx189_0
          have HR189_0 := Aside0.mk hi189_0
          have HC189_0 := Aside0.mk hl189_0
          clear hi189_0 hl189_0
          replace p189 := eq_true p189
          replace q189 := eq_true q189
          have ea_ := Option.some.inj (hx187_0.symm.trans hx189_0)
          injection ea_ with ea_ en_ ec_
          subst ea_
          subst ec_
          clear en_
          have p190 : 0 ≤ (0 : Int) := (by omega)
          have q190 : 0 < (l0.length : Int) := of_decide_eq_true (by first | (with_reducible assumption) | assumption)
          obtain ⟨ad190, A190_0, c190_0, e190, hx190_0, hl190_0, hi190_0⟩ := at_L1 HR0.out 0 p190 q190
          obtain rfl : ad187 = ad190 := (by injection e190)
          have qi190 : (0 < l0.length) = True := eq_true (by omega)
          (try rw [show ((0 : Int)).toNat = 0 from rfl] at hx190_0)
          (try rw [Addr.add_zero'] at hx190_0)
          replace hx190_0 := (HB.out.cell (World.block_lt_of_cell? w _ hx190_0)).trans hx190_0
          have HR190_0 := Aside0.mk hi190_0
          have HC190_0 := Aside0.mk hl190_0
          clear hi190_0 hl190_0
          replace p190 := eq_true p190
          replace q190 := eq_true q190
          go_wp2
          repeat (go_quiet (fail); try go_wp2)
          go_meet
          case rel => exact ⟨_, ((((rd_L1 l0 x3_1).length : Int) != ((rd_L1 l0 0).length : Int))), (by first | rfl | (simp; done) | (simp [*]; done)), H', ⟨by have := HK1.out; first | omega | exact Nat.le_refl _⟩, ⟨by repeat (first | (with_reducible first | exact HB.out | apply below_alloc | apply pw_below_drewN | apply below_drew1) | exact HB.out)⟩⟩
         ·rw [if_neg c8] at H
          exact absurd H (by simp)
      ·rw [if_neg c5] at H
       exact absurd H (by simp)
     case rest =>
      clear HC4
      try clear c1
      try clear p1
      try clear q1
      try clear hx1
      try clear qi1
      try clear c2
      try clear c2b0
      try clear c2b1
      try clear p2
      try clear c3
      try clear c3b0
      try clear c5
      try clear c5b0
      try clear c6
      try clear c6b0
      try clear c6b1
      try clear c7
      try clear c7b0
      try clear c7b1
      try clear c8
      try clear c8b0
      try clear c8b1
      try clear hx187_0
      try clear hx188_0
      try clear hx189_0
      try clear hx190_0
      try clear p187
      try clear p188
      try clear p189
      try clear p190
      try clear p2
      try clear q187
      try clear q188
      try clear q189
      try clear q190
      obtain ⟨kq, x39_3, rfl, HA, HJ3, HB⟩ := hcut
      cases kq with
      | zero => exact absurd HA.out (by simp [dragomanref13_May.j1])
      | succ kj3 =>
       have H := HA.out
       clear HA
       simp only [dragomanref13_May.j1] at H
       by_cases c9 : x39_3 = true
       ·subst c9
        have H1 : (some false) = some r := by rw [if_pos rfl] at H; exact H
        clear H
        have H := H1
        clear H1
        obtain rfl := Option.some.inj H
        go_wp2
        repeat (go_quiet (fail); try go_wp2)
        go_ret
        exact ⟨by first | rfl | (simp [errW_none, errW_some] <;> rfl) | (simp [*, errW_none, errW_some, bne]; done) | (simp [*, errW_none, errW_some] <;> rfl), by repeat (first | (with_reducible first | exact HB.out | apply below_alloc | apply pw_below_drewN | apply below_drew1) | exact HB.out)⟩
       ·replace c9 := Bool.eq_false_iff.mpr c9
        subst c9
        have H1 : (dragomanref13_May.l1 kj3 l0 x3_1 0) = some r := by rw [if_neg (show ¬ (false = true) by decide)] at H; exact H
        clear H
        have H := H1
        clear H1
        have H' := Aside0.mk H
        clear H
        go_wp2
        repeat (go_quiet (fail); try go_wp2)
        go_loopg [4] kj3 (fun kq v4 w' => ∃ (x4_3 : Int), v4 = .int .i64 x4_3 ∧ Aside0 (dragomanref13_May.l1 kq l0 x3_1 x4_3 = some r) ∧ Aside0 (kq ≤ kj3) ∧ Aside0 (Below w.heap.size w w'))
        case atStart => exact ⟨(0), (by first | rfl | (simp; done) | (simp [*]; done)), H', ⟨Nat.le_refl _⟩, ⟨by repeat (first | (with_reducible first | exact HB.out | apply below_alloc | apply pw_below_drewN | apply below_drew1) | exact HB.out)⟩⟩
        case round =>
         clear H'
         try clear c1
         try clear p1
         try clear q1
         try clear hx1
         try clear qi1
         try clear c2
         try clear c2b0
         try clear c2b1
         try clear p2
         try clear c3
         try clear c3b0
         try clear c5
         try clear c5b0
         try clear c6
         try clear c6b0
         try clear c6b1
         try clear c7
         try clear c7b0
         try clear c7b1
         try clear c8
         try clear c8b0
         try clear c8b1
         try clear c9
         try clear hx187_0
         try clear hx188_0
         try clear hx189_0
         try clear hx190_0
         try clear p1
         try clear p187
         try clear p188
         try clear p189
         try clear p190
         try clear p2
         try clear q1
         try clear q187
         try clear q188
         try clear q189
         try clear q190
         obtain ⟨x4_3, rfl, HA, HK3, HB⟩ := hrel
         cases gk with
         | zero => exact absurd HA.out (by simp [dragomanref13_May.l1])
         | succ k3 =>
          have H := HA.out
          clear HA
          simp only [dragomanref13_May.l1] at H
          by_cases c10 : 0 ≤ x3_1
          ·rw [if_pos c10] at H
           have c10b0 : decide (0 ≤ x3_1) = true := decide_eq_true c10
           clear c10
           by_cases c11 : x3_1 < (l0.length : Int)
           ·rw [if_pos c11] at H
            have c11b0 : decide (x3_1 < (l0.length : Int)) = true := decide_eq_true c11
            clear c11
            by_cases c12 : x4_3 < ((rd_L1 l0 x3_1).length : Int)
            ·rw [if_pos c12] at H
             have c12b0 : decide (x4_3 < ((rd_L1 l0 x3_1).length : Int)) = true := decide_eq_true c12
             clear c12
             by_cases c13 : 0 ≤ x4_3
             ·rw [if_pos c13] at H
              have c13b0 : decide (0 ≤ x4_3) = true := decide_eq_true c13
              clear c13
              replace H := Option.bind_eq_some_iff.mp H
              obtain ⟨t194, A140, H⟩ := H
              replace H : (if t194 = true then (dragomanref13_May.l1 k3 l0 x3_1 (wrap64 (x4_3 + 1))) else (some false)) = some r := H
              have A14 := Aside0.mk A140
              clear A140
              by_cases c15 : t194 = true
              ·subst c15
               have H1 : (dragomanref13_May.l1 k3 l0 x3_1 (wrap64 (x4_3 + 1))) = some r := by rw [if_pos rfl] at H; exact H
               clear H
               have H := H1
               clear H1
               have H' := Aside0.mk H
               clear H
               have p191 : 0 ≤ (x3_1 : Int) := of_decide_eq_true (by first | (with_reducible assumption) | assumption)
               have q191 : x3_1 < (l0.length : Int) := of_decide_eq_true (by first | (with_reducible assumption) | assumption)
               obtain ⟨ad191, A191_0, c191_0, e191, hx191_0, hl191_0, hi191_0⟩ := at_L1 HR0.out x3_1 p191 q191
               cases e191
               replace hx191_0 := (HB.out.cell (World.block_lt_of_cell? w _ hx191_0)).trans hx191_0
               have HR191_0 := Aside0.mk hi191_0
               have HC191_0 := Aside0.mk hl191_0
               clear hi191_0 hl191_0
               replace p191 := eq_true p191
               replace q191 := eq_true q191
               have p192 : 0 ≤ (x3_1 : Int) := of_decide_eq_true (by first | (with_reducible assumption) | assumption)
               have q192 : x3_1 < (l0.length : Int) := of_decide_eq_true (by first | (with_reducible assumption) | assumption)
               obtain ⟨ad192, A192_0, c192_0, e192, hx192_0, hl192_0, hi192_0⟩ := at_L1 HR0.out x3_1 p192 q192
               obtain rfl : ad191 = ad192 := (by injection e192)
               replace hx192_0 := (HB.out.cell (World.block_lt_of_cell? w _ hx192_0)).trans hx192_0
               have HR192_0 := Aside0.mk hi192_0
               have HC192_0 := Aside0.mk hl192_0
               clear hi192_0 hl192_0
               replace p192 := eq_true p192
               replace q192 := eq_true q192
               have ea_ := Option.some.inj (hx191_0.symm.trans hx192_0)
               injection ea_ with ea_ en_ ec_
               subst ea_
               subst ec_
               clear en_
               have p193 : 0 ≤ (x4_3 : Int) := of_decide_eq_true (by first | (with_reducible assumption) | assumption)
               have q193 : x4_3 < ((rd_L1 l0 x3_1).length : Int) := of_decide_eq_true (by first | (with_reducible assumption) | assumption)
               obtain ⟨ad193, e193, hx193_0⟩ := Kd.at_string HR192_0.out x4_3 p193 q193
               cases e193
               replace hx193_0 := (HB.out.cell (World.block_lt_of_cell? w _ hx193_0)).trans hx193_0
               replace p193 := eq_true p193
               replace q193 := eq_true q193
               go_wp2_with (first | (go_at_call 26; (with_reducible refine (dragomanref1_Str.calls k3 (rdOf ByteArray.empty (rd_L1 l0 x3_1) x4_3) true _ A14.out).mono ?_); rintro e w16 ⟨rfl, hb⟩; have n0_ := Aside0.mk (below_step (by repeat (first | (with_reducible first | exact HB.out | apply below_alloc | apply pw_below_drewN | apply below_drew1) | exact HB.out)) hb); clear HB; have HB := n0_; clear n0_; (try clear hb); (try clear hb2); (try clear hk); (try clear hi)))
               repeat (go_quiet (first | (go_at_call 26; (with_reducible refine (dragomanref1_Str.calls k3 (rdOf ByteArray.empty (rd_L1 l0 x3_1) x4_3) true _ A14.out).mono ?_); rintro e w16 ⟨rfl, hb⟩; have n0_ := Aside0.mk (below_step (by repeat (first | (with_reducible first | exact HB.out | apply below_alloc | apply pw_below_drewN | apply below_drew1) | exact HB.out)) hb); clear HB; have HB := n0_; clear n0_; (try clear hb); (try clear hb2); (try clear hk); (try clear hi))); try go_wp2_with (first | (go_at_call 26; (with_reducible refine (dragomanref1_Str.calls k3 (rdOf ByteArray.empty (rd_L1 l0 x3_1) x4_3) true _ A14.out).mono ?_); rintro e w16 ⟨rfl, hb⟩; have n0_ := Aside0.mk (below_step (by repeat (first | (with_reducible first | exact HB.out | apply below_alloc | apply pw_below_drewN | apply below_drew1) | exact HB.out)) hb); clear HB; have HB := n0_; clear n0_; (try clear hb); (try clear hb2); (try clear hk); (try clear hi))))
               go_roundg k3
               case measure => have := HK1.out; have := HJ3.out; have := HK3.out; omega
               case rel => exact ⟨(wrap64 (x4_3 + 1)), (by first | rfl | (simp; done) | (simp [*]; done)), H', ⟨by have := HK1.out; have := HJ3.out; have := HK3.out; omega⟩, ⟨by repeat (first | (with_reducible first | exact HB.out | apply below_alloc | apply pw_below_drewN | apply below_drew1) | exact HB.out)⟩⟩
              ·replace c15 := Bool.eq_false_iff.mpr c15
               subst c15
               have H1 : (some false) = some r := by rw [if_neg (show ¬ (false = true) by decide)] at H; exact H
               clear H
               have H := H1
               clear H1
               obtain rfl := Option.some.inj H
               have p191 : 0 ≤ (x3_1 : Int) := of_decide_eq_true (by first | (with_reducible assumption) | assumption)
               have q191 : x3_1 < (l0.length : Int) := of_decide_eq_true (by first | (with_reducible assumption) | assumption)
               obtain ⟨ad191, A191_0, c191_0, e191, hx191_0, hl191_0, hi191_0⟩ := at_L1 HR0.out x3_1 p191 q191
               cases e191
               replace hx191_0 := (HB.out.cell (World.block_lt_of_cell? w _ hx191_0)).trans hx191_0
               have HR191_0 := Aside0.mk hi191_0
               have HC191_0 := Aside0.mk hl191_0
               clear hi191_0 hl191_0
               replace p191 := eq_true p191
               replace q191 := eq_true q191
               have p192 : 0 ≤ (x3_1 : Int) := of_decide_eq_true (by first | (with_reducible assumption) | assumption)
               have q192 : x3_1 < (l0.length : Int) := of_decide_eq_true (by first | (with_reducible assumption) | assumption)
               obtain ⟨ad192, A192_0, c192_0, e192, hx192_0, hl192_0, hi192_0⟩ := at_L1 HR0.out x3_1 p192 q192
               obtain rfl : ad191 = ad192 := (by injection e192)
               replace hx192_0 := (HB.out.cell (World.block_lt_of_cell? w _ hx192_0)).trans hx192_0
               have HR192_0 := Aside0.mk hi192_0
               have HC192_0 := Aside0.mk hl192_0
               clear hi192_0 hl192_0
               replace p192 := eq_true p192
               replace q192 := eq_true q192
               have ea_ := Option.some.inj (hx191_0.symm.trans hx192_0)
               injection ea_ with ea_ en_ ec_
               subst ea_
               subst ec_
               clear en_
               have p193 : 0 ≤ (x4_3 : Int) := of_decide_eq_true (by first | (with_reducible assumption) | assumption)
               have q193 : x4_3 < ((rd_L1 l0 x3_1).length : Int) := of_decide_eq_true (by first | (with_reducible assumption) | assumption)
               obtain ⟨ad193, e193, hx193_0⟩ := Kd.at_string HR192_0.out x4_3 p193 q193
               cases e193
               replace hx193_0 := (HB.out.cell (World.block_lt_of_cell? w _ hx193_0)).trans hx193_0
               replace p193 := eq_true p193
               replace q193 := eq_true q193
               go_wp2_with (first | (go_at_call 26; (with_reducible refine (dragomanref1_Str.calls k3 (rdOf ByteArray.empty (rd_L1 l0 x3_1) x4_3) false _ A14.out).mono ?_); rintro e w17 ⟨rfl, hb⟩; have n0_ := Aside0.mk (below_step (by repeat (first | (with_reducible first | exact HB.out | apply below_alloc | apply pw_below_drewN | apply below_drew1) | exact HB.out)) hb); clear HB; have HB := n0_; clear n0_; (try clear hb); (try clear hb2); (try clear hk); (try clear hi)))
               repeat (go_quiet (first | (go_at_call 26; (with_reducible refine (dragomanref1_Str.calls k3 (rdOf ByteArray.empty (rd_L1 l0 x3_1) x4_3) false _ A14.out).mono ?_); rintro e w17 ⟨rfl, hb⟩; have n0_ := Aside0.mk (below_step (by repeat (first | (with_reducible first | exact HB.out | apply below_alloc | apply pw_below_drewN | apply below_drew1) | exact HB.out)) hb); clear HB; have HB := n0_; clear n0_; (try clear hb); (try clear hb2); (try clear hk); (try clear hi))); try go_wp2_with (first | (go_at_call 26; (with_reducible refine (dragomanref1_Str.calls k3 (rdOf ByteArray.empty (rd_L1 l0 x3_1) x4_3) false _ A14.out).mono ?_); rintro e w17 ⟨rfl, hb⟩; have n0_ := Aside0.mk (below_step (by repeat (first | (with_reducible first | exact HB.out | apply below_alloc | apply pw_below_drewN | apply below_drew1) | exact HB.out)) hb); clear HB; have HB := n0_; clear n0_; (try clear hb); (try clear hb2); (try clear hk); (try clear hi))))
               go_ret
               exact ⟨by first | rfl | (simp [errW_none, errW_some] <;> rfl) | (simp [*, errW_none, errW_some, bne]; done) | (simp [*, errW_none, errW_some] <;> rfl), by repeat (first | (with_reducible first | exact HB.out | apply below_alloc | apply pw_below_drewN | apply below_drew1) | exact HB.out)⟩
             ·rw [if_neg c13] at H
              exact absurd H (by simp)
            ·rw [if_neg c12] at H
             have c12b0 : decide (x4_3 < ((rd_L1 l0 x3_1).length : Int)) = false := decide_eq_false c12
             clear c12
             have H' := Aside0.mk H
             clear H
             have p191 : 0 ≤ (x3_1 : Int) := of_decide_eq_true (by first | (with_reducible assumption) | assumption)
             have q191 : x3_1 < (l0.length : Int) := of_decide_eq_true (by first | (with_reducible assumption) | assumption)
             obtain ⟨ad191, A191_0, c191_0, e191, hx191_0, hl191_0, hi191_0⟩ := at_L1 HR0.out x3_1 p191 q191
             cases e191
             replace hx191_0 := (HB.out.cell (World.block_lt_of_cell? w _ hx191_0)).trans hx191_0
             have HR191_0 := Aside0.mk hi191_0
             have HC191_0 := Aside0.mk hl191_0
             clear hi191_0 hl191_0
             replace p191 := eq_true p191
             replace q191 := eq_true q191
             go_wp2
             repeat (go_quiet (fail); try go_wp2)
             go_roundg k3
             case measure => have := HK1.out; have := HJ3.out; have := HK3.out; omega
             case rel => exact ⟨(wrap64 (x3_1 + 1)), (by first | rfl | (simp; done) | (simp [*]; done)), H', ⟨by have := HK1.out; have := HJ3.out; have := HK3.out; omega⟩, ⟨by repeat (first | (with_reducible first | exact HB.out | apply below_alloc | apply pw_below_drewN | apply below_drew1) | exact HB.out)⟩⟩
           ·rw [if_neg c11] at H
            exact absurd H (by simp)
          ·rw [if_neg c10] at H
           exact absurd H (by simp)
    ·rw [if_neg c3] at H
     have c3b0 : decide (x3_1 < (l0.length : Int)) = false := decide_eq_false c3
     clear c3
     replace H := Option.bind_eq_some_iff.mp H
     obtain ⟨t186, A180, H⟩ := H
     replace H : (some (decide ((t186.size : Int) ≤ 65536))) = some r := H
     have A18 := Aside0.mk A180
     clear A180
     obtain rfl := Option.some.inj H
     go_wp2_with (first | (go_at_call 13; (with_reducible refine (dragomanref13_Print.calls k1 _ _ l0 t186 _ ?side1 ?side2 A18.out).mono ?_); (case side1 => repeat (first | exact (Kd.C_below HR0.out HB.out) | (with_reducible refine Kd.C_alloc ?_ _) | (with_reducible refine Kd.C_drewN ?_ _) | (with_reducible refine Kd.C_drew ?_))); (case side2 => exact HC0.out); rintro e w' ⟨rfl, ⟨nd, rfl⟩⟩; (try first | exact ⟨rfl, _, World.drewN_drewN _ _ _⟩ | exact ⟨rfl, _, Eq.trans (World.drewN_drewN _ _ _) (congrArg (World.drewN _) (Nat.add_assoc _ _ _))⟩)))
     repeat (go_quiet (first | (go_at_call 13; (with_reducible refine (dragomanref13_Print.calls k1 _ _ l0 t186 _ ?side1 ?side2 A18.out).mono ?_); (case side1 => repeat (first | exact (Kd.C_below HR0.out HB.out) | (with_reducible refine Kd.C_alloc ?_ _) | (with_reducible refine Kd.C_drewN ?_ _) | (with_reducible refine Kd.C_drew ?_))); (case side2 => exact HC0.out); rintro e w' ⟨rfl, ⟨nd, rfl⟩⟩; (try first | exact ⟨rfl, _, World.drewN_drewN _ _ _⟩ | exact ⟨rfl, _, Eq.trans (World.drewN_drewN _ _ _) (congrArg (World.drewN _) (Nat.add_assoc _ _ _))⟩))); try go_wp2_with (first | (go_at_call 13; (with_reducible refine (dragomanref13_Print.calls k1 _ _ l0 t186 _ ?side1 ?side2 A18.out).mono ?_); (case side1 => repeat (first | exact (Kd.C_below HR0.out HB.out) | (with_reducible refine Kd.C_alloc ?_ _) | (with_reducible refine Kd.C_drewN ?_ _) | (with_reducible refine Kd.C_drew ?_))); (case side2 => exact HC0.out); rintro e w' ⟨rfl, ⟨nd, rfl⟩⟩; (try first | exact ⟨rfl, _, World.drewN_drewN _ _ _⟩ | exact ⟨rfl, _, Eq.trans (World.drewN_drewN _ _ _) (congrArg (World.drewN _) (Nat.add_assoc _ _ _))⟩))))
     go_ret
     exact ⟨by first | rfl | (simp [errW_none, errW_some] <;> rfl) | (simp [*, errW_none, errW_some, bne]; done) | (simp [*, errW_none, errW_some] <;> rfl), by repeat (first | (with_reducible first | exact HB.out | apply below_alloc | apply pw_below_drewN | apply below_drew1) | exact HB.out)⟩
end Go.Proofs.YtjmmdphkgioooaaDoor.P
end
section
namespace Go.Proofs.YtjmmdphkgioooaaDoor.P
open Go.RowKit Go.Proofs.YtjmmdphkgioooaaDoorW.PrintWords Go.Proofs.YtjmmdphkgioooaaDoorW.PrintLast Go.Proofs.YtjmmdphkgioooaaDoorW.PrintMore
attribute [local go_sem] max2_int min2_int max_two min_two max_three min_three max_four min_four   -- for this text's walks alone
set_option linter.unusedVariables false
set_option linter.unusedSimpArgs false
/-! ### dragomanlaw14_CprintSays: function 4 -/
mutual
def dragomanlaw14_CprintSays.l0 : Nat → List (List ByteArray) → Int → Option (Bool)
 | 0, _, _ => none
 | k + 1, x0, x3 => if x3 < (x0.length : Int) then (dragomanlaw14_CprintSays.l1 k x0 x3 0) else ((cprint_Print.f x0).bind fun t204 => ((dragomanref13_Print.f k x0).bind fun t205 => (if t204.toList = t205.toList then ((cprint_May.f x0).bind fun t206 => ((dragomanref13_May.f k x0).bind fun t207 => (some (t206 == t207)))) else (some false))))
def dragomanlaw14_CprintSays.l1 : Nat → List (List ByteArray) → Int → Int → Option (Bool)
 | 0, _, _, _ => none
 | k + 1, x0, x3, x4 => if 0 ≤ x3 then (if x3 < (x0.length : Int) then (if x4 < ((rd_L1 x0 x3).length : Int) then (if 0 ≤ x4 then ((cprint_Field.f (rdOf ByteArray.empty (rd_L1 x0 x3) x4) (x4 == 0)).bind fun t200 => ((dragomanref13_Field.f k (rdOf ByteArray.empty (rd_L1 x0 x3) x4) (x4 == 0)).bind fun t203 => (if t200.toList = t203.toList then (dragomanlaw14_CprintSays.l1 k x0 x3 (wrap64 (x4 + 1))) else (some false)))) else (none)) else (dragomanlaw14_CprintSays.l0 k x0 (wrap64 (x3 + 1)))) else (none)) else (none)
end
def dragomanlaw14_CprintSays.f (k : Nat) (l0 : List (List ByteArray)) : Option (Bool) := (dragomanlaw14_awake.f).bind fun t195 => (if t195 = true then ((dragomanlaw14_great.f k l0).bind fun t196 => (if t196 = true then (some true) else (dragomanlaw14_CprintSays.l0 k l0 0))) else (some false))
def dragomanlaw14_CprintSays.T11 : Bool × List (List Nat × List Nat) := (true, [([], []), ([], []), ([0, 1], [0, 1]), ([2], [2]), ([], []), ([3, 4], [3, 4]), ([5], [5]), ([], []), ([7], [7]), ([6, 8], [6, 8]), ([], []), ([], []), ([10, 11], [10, 11]), ([12], [12]), ([], []), ([13, 14], [13, 14]), ([15], [15]), ([], []), ([17], [17]), ([16, 18, 9], [16, 18]), ([9, 19], [9, 19])])
def dragomanlaw14_CprintSays.B11 : List Nat := [0, 0, 3, 7, 0, 31, 63, 0, 128, 511, 0, 0, 3072, 7168, 0, 31744, 64512, 0, 131072, 524287, 1048575]
theorem dragomanlaw14_CprintSays.tab11 : rtab .any (opsOf Tryd.f4 11) = dragomanlaw14_CprintSays.T11 := by kernel_rfl
theorem dragomanlaw14_CprintSays.bits11 : waitsOk dragomanlaw14_CprintSays.T11.2 dragomanlaw14_CprintSays.B11 = true := by kernel_rfl
set_option maxHeartbeats 8000000 in
set_option maxRecDepth 100000 in
theorem dragomanlaw14_CprintSays.calls (k : Nat) (A0 : Option Addr) (c0 : Nat) (l0 : List (List ByteArray)) (r : Bool) (w : World) (hr0 : Kd.C (Kd.slice 9 Kd.string) w A0 l0.length l0) (hc0 : l0.length ≤ c0) (h : dragomanlaw14_CprintSays.f k l0 = some r) :
  Calls Tryd.prog 4 #[.slice A0 l0.length c0] w fun e w' => e = .returned (.bool r) ∧ Below w.heap.size w w' := by
 have HR0 := Aside0.mk hr0
 have HC0 := Aside0.mk hc0
 clear hr0 hc0
 have HB := Aside0.mk (Below.refl w.heap.size w)
 have H : ((dragomanlaw14_awake.f).bind fun t195 => (if t195 = true then ((dragomanlaw14_great.f k l0).bind fun t196 => (if t196 = true then (some true) else (dragomanlaw14_CprintSays.l0 k l0 0))) else (some false))) = some r := h
 clear h
 replace H := Option.bind_eq_some_iff.mp H
 obtain ⟨t195, A20, H⟩ := H
 replace H : (if t195 = true then ((dragomanlaw14_great.f k l0).bind fun t196 => (if t196 = true then (some true) else (dragomanlaw14_CprintSays.l0 k l0 0))) else (some false)) = some r := H
 have A2 := Aside0.mk A20
 clear A20
 by_cases c3 : t195 = true
 ·subst c3
  have H1 : ((dragomanlaw14_great.f k l0).bind fun t196 => (if t196 = true then (some true) else (dragomanlaw14_CprintSays.l0 k l0 0))) = some r := by rw [if_pos rfl] at H; exact H
  clear H
  have H := H1
  clear H1
  replace H := Option.bind_eq_some_iff.mp H
  obtain ⟨t196, A40, H⟩ := H
  replace H : (if t196 = true then (some true) else (dragomanlaw14_CprintSays.l0 k l0 0)) = some r := H
  have A4 := Aside0.mk A40
  clear A40
  by_cases c5 : t196 = true
  ·subst c5
   have H1 : (some true) = some r := by rw [if_pos rfl] at H; exact H
   clear H
   have H := H1
   clear H1
   obtain rfl := Option.some.inj H
   go_enter Tryd.func4, Tryd.ntmps4
   go_wp2_with (first | ((with_reducible refine gate_callee (f := 7) rfl ?_); refine goesL_ (some 5) rfl rfl Tryd.func7 (by kernel_rfl) rfl #[] rfl (by (try simp only [List.map_toArray, List.map_cons, List.map_nil]); first | done | rfl | (simp only [List.length_drop, List.length_take]; rfl)) ?_; (with_reducible refine (dragomanlaw14_awake.calls  true _ A2.out).mono ?_); rintro e w6 ⟨rfl, hb⟩; refine ⟨_, rfl, ?_⟩; have n0_ := Aside0.mk (below_step (by repeat (first | (with_reducible first | exact HB.out | apply below_alloc | apply pw_below_drewN | apply below_drew1) | exact HB.out)) hb); clear HB; have HB := n0_; clear n0_; (try clear hb); (try clear hb2); (try clear hk); (try clear hi)) | ((with_reducible refine gate_callee (f := 11) rfl ?_); refine goesL_ (some 8) rfl rfl Tryd.func11 (by kernel_rfl) rfl #[.slice A0 l0.length c0] rfl (by (try simp only [List.map_toArray, List.map_cons, List.map_nil]); first | done | rfl | (simp only [List.length_drop, List.length_take]; rfl)) ?_; (with_reducible refine (dragomanlaw14_great.calls k _ _ l0 true _ ?side1 ?side2 A4.out).mono ?_); (case side1 => repeat (first | exact (Kd.C_below HR0.out HB.out) | (with_reducible refine Kd.C_alloc ?_ _) | (with_reducible refine Kd.C_drewN ?_ _) | (with_reducible refine Kd.C_drew ?_))); (case side2 => exact HC0.out); rintro e w' ⟨rfl, ⟨nd, rfl⟩⟩; refine ⟨_, rfl, ?_⟩))
   go_ret
   exact ⟨by first | rfl | (simp [errW_none, errW_some] <;> rfl) | (simp [*, errW_none, errW_some, bne]; done) | (simp [*, errW_none, errW_some] <;> rfl), by repeat (first | (with_reducible first | exact HB.out | apply below_alloc | apply pw_below_drewN | apply below_drew1) | exact HB.out)⟩
  ·replace c5 := Bool.eq_false_iff.mpr c5
   subst c5
   have H1 : (dragomanlaw14_CprintSays.l0 k l0 0) = some r := by rw [if_neg (show ¬ (false = true) by decide)] at H; exact H
   clear H
   have H := H1
   clear H1
   have H' := Aside0.mk H
   clear H
   go_enter Tryd.func4, Tryd.ntmps4
   go_wp2_with (first | ((with_reducible refine gate_callee (f := 7) rfl ?_); refine goesL_ (some 5) rfl rfl Tryd.func7 (by kernel_rfl) rfl #[] rfl (by (try simp only [List.map_toArray, List.map_cons, List.map_nil]); first | done | rfl | (simp only [List.length_drop, List.length_take]; rfl)) ?_; (with_reducible refine (dragomanlaw14_awake.calls  true _ A2.out).mono ?_); rintro e w7 ⟨rfl, hb⟩; refine ⟨_, rfl, ?_⟩; have n0_ := Aside0.mk (below_step (by repeat (first | (with_reducible first | exact HB.out | apply below_alloc | apply pw_below_drewN | apply below_drew1) | exact HB.out)) hb); clear HB; have HB := n0_; clear n0_; (try clear hb); (try clear hb2); (try clear hk); (try clear hi)) | ((with_reducible refine gate_callee (f := 11) rfl ?_); refine goesL_ (some 8) rfl rfl Tryd.func11 (by kernel_rfl) rfl #[.slice A0 l0.length c0] rfl (by (try simp only [List.map_toArray, List.map_cons, List.map_nil]); first | done | rfl | (simp only [List.length_drop, List.length_take]; rfl)) ?_; (with_reducible refine (dragomanlaw14_great.calls k _ _ l0 false _ ?side1 ?side2 A4.out).mono ?_); (case side1 => repeat (first | exact (Kd.C_below HR0.out HB.out) | (with_reducible refine Kd.C_alloc ?_ _) | (with_reducible refine Kd.C_drewN ?_ _) | (with_reducible refine Kd.C_drew ?_))); (case side2 => exact HC0.out); rintro e w' ⟨rfl, ⟨nd, rfl⟩⟩; refine ⟨_, rfl, ?_⟩))
   go_loopg [3] k (fun kq v3 w' => ∃ (x3_1 : Int), v3 = .int .i64 x3_1 ∧ Aside0 (dragomanlaw14_CprintSays.l0 kq l0 x3_1 = some r) ∧ Aside0 (kq ≤ k) ∧ Aside0 (Below w.heap.size w w'))
   case atStart => exact ⟨(0), (by first | rfl | (simp; done) | (simp [*]; done)), H', ⟨Nat.le_refl _⟩, ⟨by repeat (first | (with_reducible first | exact HB.out | apply below_alloc | apply pw_below_drewN | apply below_drew1) | exact HB.out)⟩⟩
   case round =>
    clear H'
    try clear c1
    try clear p2
    try clear c3
    try clear c4
    try clear c5
    try clear c7
    obtain ⟨x3_1, rfl, HA, HK1, HB⟩ := hrel
    cases gk with
    | zero => exact absurd HA.out (by simp [dragomanlaw14_CprintSays.l0])
    | succ k1 =>
     have H := HA.out
     clear HA
     simp only [dragomanlaw14_CprintSays.l0] at H
     by_cases c8 : x3_1 < (l0.length : Int)
     ·rw [if_pos c8] at H
      have c8b0 : decide (x3_1 < (l0.length : Int)) = true := decide_eq_true c8
      clear c8
      have H' := Aside0.mk H
      clear H
      go_wp2
      go_loopg [4] k1 (fun kq v4 w' => ∃ (x4_2 : Int), v4 = .int .i64 x4_2 ∧ Aside0 (dragomanlaw14_CprintSays.l1 kq l0 x3_1 x4_2 = some r) ∧ Aside0 (kq ≤ k1) ∧ Aside0 (Below w.heap.size w w'))
      case atStart => exact ⟨(0), (by first | rfl | (simp; done) | (simp [*]; done)), H', ⟨Nat.le_refl _⟩, ⟨by repeat (first | (with_reducible first | exact HB.out | apply below_alloc | apply pw_below_drewN | apply below_drew1) | exact HB.out)⟩⟩
      case round =>
       clear H'
       try clear c1
       try clear p2
       try clear c3
       try clear c4
       try clear c5
       try clear c7
       try clear c8
       try clear c8b0
       try clear p2
       obtain ⟨x4_2, rfl, HA, HK2, HB⟩ := hrel
       cases gk with
       | zero => exact absurd HA.out (by simp [dragomanlaw14_CprintSays.l1])
       | succ k2 =>
        have H := HA.out
        clear HA
        simp only [dragomanlaw14_CprintSays.l1] at H
        by_cases c9 : 0 ≤ x3_1
        ·rw [if_pos c9] at H
         have c9b0 : decide (0 ≤ x3_1) = true := decide_eq_true c9
         clear c9
         by_cases c10 : x3_1 < (l0.length : Int)
         ·rw [if_pos c10] at H
          have c10b0 : decide (x3_1 < (l0.length : Int)) = true := decide_eq_true c10
          clear c10
          by_cases c11 : x4_2 < ((rd_L1 l0 x3_1).length : Int)
          ·rw [if_pos c11] at H
           have c11b0 : decide (x4_2 < ((rd_L1 l0 x3_1).length : Int)) = true := decide_eq_true c11
           clear c11
           by_cases c12 : 0 ≤ x4_2
           ·rw [if_pos c12] at H
            have c12b0 : decide (0 ≤ x4_2) = true := decide_eq_true c12
            clear c12
            replace H := Option.bind_eq_some_iff.mp H
            obtain ⟨t200, A130, H⟩ := H
            replace H : ((dragomanref13_Field.f k2 (rdOf ByteArray.empty (rd_L1 l0 x3_1) x4_2) (x4_2 == 0)).bind fun t203 => (if t200.toList = t203.toList then (dragomanlaw14_CprintSays.l1 k2 l0 x3_1 (wrap64 (x4_2 + 1))) else (some false))) = some r := H
            have A13 := Aside0.mk A130
            clear A130
            replace H := Option.bind_eq_some_iff.mp H
            obtain ⟨t203, A140, H⟩ := H
            replace H : (if t200.toList = t203.toList then (dragomanlaw14_CprintSays.l1 k2 l0 x3_1 (wrap64 (x4_2 + 1))) else (some false)) = some r := H
            have A14 := Aside0.mk A140
            clear A140
            by_cases c15 : t200.toList = t203.toList
            ·rw [if_pos c15] at H
             have c15b0 : (t200.toList == t203.toList) = true := beq_iff_eq.mpr c15
             have c15b1 : (t200.toList != t203.toList) = false := bne_eq_false_iff_eq.mpr c15
             clear c15
             have H' := Aside0.mk H
             clear H
             have p197 : 0 ≤ (x3_1 : Int) := of_decide_eq_true (by first | (with_reducible assumption) | assumption)
             have q197 : x3_1 < (l0.length : Int) := of_decide_eq_true (by first | (with_reducible assumption) | assumption)
             obtain ⟨ad197, A197_0, c197_0, e197, hx197_0, hl197_0, hi197_0⟩ := at_L1 HR0.out x3_1 p197 q197
             cases e197
             replace hx197_0 := (HB.out.cell (World.block_lt_of_cell? w _ hx197_0)).trans hx197_0
             have HR197_0 := Aside0.mk hi197_0
             have HC197_0 := Aside0.mk hl197_0
             clear hi197_0 hl197_0
             replace p197 := eq_true p197
             replace q197 := eq_true q197
             try go_wp2
             have n0_ := Aside0.mk (below_drew1 HB.out)
             clear HB
             have HB := n0_
             clear n0_
             have p198 : 0 ≤ (x3_1 : Int) := of_decide_eq_true (by first | (with_reducible assumption) | assumption)
             have q198 : x3_1 < (l0.length : Int) := of_decide_eq_true (by first | (with_reducible assumption) | assumption)
             obtain ⟨ad198, A198_0, c198_0, e198, hx198_0, hl198_0, hi198_0⟩ := at_L1 HR0.out x3_1 p198 q198
             have hw198_0 := hx198_0
             obtain rfl : ad197 = ad198 := (by injection e198)
             replace hx198_0 := (HB.out.cell (World.block_lt_of_cell? w _ hx198_0)).trans hx198_0
             have HR198_0 := Aside0.mk hi198_0
             have HC198_0 := Aside0.mk hl198_0
             clear hi198_0 hl198_0
             replace p198 := eq_true p198
             replace q198 := eq_true q198
             have p199 : 0 ≤ (x4_2 : Int) := of_decide_eq_true (by first | (with_reducible assumption) | assumption)
             have q199 : x4_2 < ((rd_L1 l0 x3_1).length : Int) := of_decide_eq_true (by first | (with_reducible assumption) | assumption)
             obtain ⟨ad199, e199, hx199_0⟩ := Kd.at_string HR198_0.out x4_2 p199 q199
             have hw199_0 := hx199_0
             cases e199
             replace hx199_0 := (HB.out.cell (World.block_lt_of_cell? w _ hx199_0)).trans hx199_0
             replace p199 := eq_true p199
             replace q199 := eq_true q199
             have p201 : 0 ≤ (x3_1 : Int) := of_decide_eq_true (by first | (with_reducible assumption) | assumption)
             have q201 : x3_1 < (l0.length : Int) := of_decide_eq_true (by first | (with_reducible assumption) | assumption)
             obtain ⟨ad201, A201_0, c201_0, e201, hx201_0, hl201_0, hi201_0⟩ := at_L1 HR0.out x3_1 p201 q201
             have hw201_0 := hx201_0
             obtain rfl : ad197 = ad201 := (by injection e201)
             replace hx201_0 := (HB.out.cell (World.block_lt_of_cell? w _ hx201_0)).trans hx201_0
             have HR201_0 := Aside0.mk hi201_0
             have HC201_0 := Aside0.mk hl201_0
             clear hi201_0 hl201_0
             replace p201 := eq_true p201
             replace q201 := eq_true q201
             have ea_ := Option.some.inj (hx198_0.symm.trans hx201_0)
             injection ea_ with ea_ en_ ec_
             subst ea_
             subst ec_
             clear en_
             have p202 : 0 ≤ (x4_2 : Int) := of_decide_eq_true (by first | (with_reducible assumption) | assumption)
             have q202 : x4_2 < ((rd_L1 l0 x3_1).length : Int) := of_decide_eq_true (by first | (with_reducible assumption) | assumption)
             obtain ⟨ad202, e202, hx202_0⟩ := Kd.at_string HR201_0.out x4_2 p202 q202
             have hw202_0 := hx202_0
             cases e202
             replace hx202_0 := (HB.out.cell (World.block_lt_of_cell? w _ hx202_0)).trans hx202_0
             replace p202 := eq_true p202
             replace q202 := eq_true q202
             refine start_ (n := 21) (S := fun w' => w'.cell? (ad197.add (x3_1).toNat) = some (.slice (some ad199) (rd_L1 l0 x3_1).length c198_0) ∧ w'.cell? (ad199.add (x4_2).toNat) = some (.string (rdOf ByteArray.empty (rd_L1 l0 x3_1) x4_2)) ∧ w'.cell? (ad197.add (x3_1).toNat) = some (.slice (some ad199) (rd_L1 l0 x3_1).length c198_0) ∧ w'.cell? (ad199.add (x4_2).toNat) = some (.string (rdOf ByteArray.empty (rd_L1 l0 x3_1) x4_2))) (ds := []) #[false, false, false, false, false, false, false, false, false, false, false, false, false, false, false, false, false, false, false, false, false] (by kernel_rfl) rfl rfl ⟨((HB.out.cell (World.block_lt_of_cell? w _ hw198_0)).trans hw198_0), ((HB.out.cell (World.block_lt_of_cell? w _ hw199_0)).trans hw199_0), ((HB.out.cell (World.block_lt_of_cell? w _ hw201_0)).trans hw201_0), ((HB.out.cell (World.block_lt_of_cell? w _ hw202_0)).trans hw202_0)⟩ (fun hHeld => ?_); refine with_tabW dragomanlaw14_CprintSays.tab11 dragomanlaw14_CprintSays.bits11 (fun HT_ HW_ => ?_)
             generalize wr.drew = w16 at HB HR198_0 HR201_0 hx198_0 hx199_0 hx201_0 hx202_0 hHeld ⊢
             refine pure_ (i := 0) (N := some 24) (v := ?_) (a' := ?_) #[true, false, false, false, false, false, false, false, false, false, false, false, false, false, false, false, false, false, false, false, false] rfl rfl (any_of HT_.out (by kernel_rfl)) (fun _ _ _ h => h) (Or.inl ⟨by rfl, ?_⟩) ?_ ?_
             rotate_left
             ·intro w'
              go_simp
              with_reducible rfl
             rotate_left
             ·simp only [Act.put, List.setIfInBounds_toArray, List.set_cons_zero, List.set_cons_succ, i64_w, i32_w]
              rfl
             refine pure_ (i := 1) (N := some 25) (v := ?_) (a' := ?_) #[true, true, false, false, false, false, false, false, false, false, false, false, false, false, false, false, false, false, false, false, false] rfl rfl (any_of HT_.out (by kernel_rfl)) (fun _ _ _ h => h) (Or.inl ⟨by rfl, ?_⟩) ?_ ?_
             rotate_left
             ·intro w'
              go_simp
              with_reducible rfl
             rotate_left
             ·simp only [Act.put, List.setIfInBounds_toArray, List.set_cons_zero, List.set_cons_succ, i64_w, i32_w]
              rfl
             refine pure_ (i := 2) (N := some 26) (v := ?_) (a' := ?_) #[true, true, true, false, false, false, false, false, false, false, false, false, false, false, false, false, false, false, false, false, false] rfl rfl (any_of HT_.out (by kernel_rfl)) (fun _ _ _ h => h) (Or.inl ⟨by rfl, ?_⟩) ?_ ?_
             rotate_left
             ·intro w'
              go_simp
              with_reducible rfl
             rotate_left
             ·simp only [Act.put, List.setIfInBounds_toArray, List.set_cons_zero, List.set_cons_succ, i64_w, i32_w]
              rfl
             refine pure_ (i := 4) (N := some 28) (v := ?_) (a' := ?_) #[true, true, true, false, true, false, false, false, false, false, false, false, false, false, false, false, false, false, false, false, false] rfl rfl (any_of HT_.out (by kernel_rfl)) (fun _ _ _ h => h) (Or.inl ⟨by rfl, ?_⟩) ?_ ?_
             rotate_left
             ·intro w'
              go_simp
              with_reducible rfl
             rotate_left
             ·simp only [Act.put, List.setIfInBounds_toArray, List.set_cons_zero, List.set_cons_succ, i64_w, i32_w]
              rfl
             refine pure_ (i := 7) (N := some 31) (v := ?_) (a' := ?_) #[true, true, true, false, true, false, false, true, false, false, false, false, false, false, false, false, false, false, false, false, false] rfl rfl (any_of HT_.out (by kernel_rfl)) (fun _ _ _ h => h) (Or.inl ⟨by rfl, ?_⟩) ?_ ?_
             rotate_left
             ·intro w'
              go_simp
              with_reducible rfl
             rotate_left
             ·simp only [Act.put, List.setIfInBounds_toArray, List.set_cons_zero, List.set_cons_succ, i64_w, i32_w]
              rfl
             refine pure_ (i := 8) (N := some 32) (v := ?_) (a' := ?_) #[true, true, true, false, true, false, false, true, true, false, false, false, false, false, false, false, false, false, false, false, false] rfl rfl (any_of HT_.out (by kernel_rfl)) (fun _ _ _ h => h) (Or.inl ⟨by rfl, ?_⟩) ?_ ?_
             rotate_left
             ·intro w'
              go_simp
              with_reducible rfl
             rotate_left
             ·simp only [Act.put, List.setIfInBounds_toArray, List.set_cons_zero, List.set_cons_succ, i64_w, i32_w]
              rfl
             refine pure_ (i := 10) (N := some 34) (v := ?_) (a' := ?_) #[true, true, true, false, true, false, false, true, true, false, true, false, false, false, false, false, false, false, false, false, false] rfl rfl (any_of HT_.out (by kernel_rfl)) (fun _ _ _ h => h) (Or.inl ⟨by rfl, ?_⟩) ?_ ?_
             rotate_left
             ·intro w'
              go_simp
              with_reducible rfl
             rotate_left
             ·simp only [Act.put, List.setIfInBounds_toArray, List.set_cons_zero, List.set_cons_succ, i64_w, i32_w]
              rfl
             refine pure_ (i := 11) (N := some 35) (v := ?_) (a' := ?_) #[true, true, true, false, true, false, false, true, true, false, true, true, false, false, false, false, false, false, false, false, false] rfl rfl (any_of HT_.out (by kernel_rfl)) (fun _ _ _ h => h) (Or.inl ⟨by rfl, ?_⟩) ?_ ?_
             rotate_left
             ·intro w'
              go_simp
              with_reducible rfl
             rotate_left
             ·simp only [Act.put, List.setIfInBounds_toArray, List.set_cons_zero, List.set_cons_succ, i64_w, i32_w]
              rfl
             refine pure_ (i := 12) (N := some 36) (v := ?_) (a' := ?_) #[true, true, true, false, true, false, false, true, true, false, true, true, true, false, false, false, false, false, false, false, false] rfl rfl (any_of HT_.out (by kernel_rfl)) (fun _ _ _ h => h) (Or.inl ⟨by rfl, ?_⟩) ?_ ?_
             rotate_left
             ·intro w'
              go_simp
              with_reducible rfl
             rotate_left
             ·simp only [Act.put, List.setIfInBounds_toArray, List.set_cons_zero, List.set_cons_succ, i64_w, i32_w]
              rfl
             refine pure_ (i := 14) (N := some 38) (v := ?_) (a' := ?_) #[true, true, true, false, true, false, false, true, true, false, true, true, true, false, true, false, false, false, false, false, false] rfl rfl (any_of HT_.out (by kernel_rfl)) (fun _ _ _ h => h) (Or.inl ⟨by rfl, ?_⟩) ?_ ?_
             rotate_left
             ·intro w'
              go_simp
              with_reducible rfl
             rotate_left
             ·simp only [Act.put, List.setIfInBounds_toArray, List.set_cons_zero, List.set_cons_succ, i64_w, i32_w]
              rfl
             refine pure_ (i := 17) (N := some 41) (v := ?_) (a' := ?_) #[true, true, true, false, true, false, false, true, true, false, true, true, true, false, true, false, false, true, false, false, false] rfl rfl (any_of HT_.out (by kernel_rfl)) (fun _ _ _ h => h) (Or.inl ⟨by rfl, ?_⟩) ?_ ?_
             rotate_left
             ·intro w'
              go_simp
              with_reducible rfl
             rotate_left
             ·simp only [Act.put, List.setIfInBounds_toArray, List.set_cons_zero, List.set_cons_succ, i64_w, i32_w]
              rfl
             refine pure_ (i := 18) (N := some 42) (v := ?_) (a' := ?_) #[true, true, true, false, true, false, false, true, true, false, true, true, true, false, true, false, false, true, true, false, false] rfl rfl (any_of HT_.out (by kernel_rfl)) (fun _ _ _ h => h) (Or.inl ⟨by rfl, ?_⟩) ?_ ?_
             rotate_left
             ·intro w'
              go_simp
              with_reducible rfl
             rotate_left
             ·simp only [Act.put, List.setIfInBounds_toArray, List.set_cons_zero, List.set_cons_succ, i64_w, i32_w]
              rfl
             refine take_ (i := 3) (N := some 27) (v := ?_) (a' := ?_) #[true, true, true, true, true, false, false, true, true, false, true, true, true, false, true, false, false, true, true, false, false] rfl rfl (take_ofW HT_.out HW_.out (by kernel_rfl)) (fun _ _ _ h => h) (Or.inl ⟨by rfl, ?_⟩) hHeld ?_ ?_
             rotate_left
             ·rintro w' ⟨s0, s1, s2, s3⟩
              go_simp
              with_reducible rfl
             rotate_left
             ·simp only [Act.put, List.setIfInBounds_toArray, List.set_cons_zero, List.set_cons_succ, i64_w, i32_w]
              rfl
             refine pure_ (i := 5) (N := some 29) (v := ?_) (a' := ?_) #[true, true, true, true, true, true, false, true, true, false, true, true, true, false, true, false, false, true, true, false, false] rfl rfl (any_of HT_.out (by kernel_rfl)) (fun _ _ _ h => h) (Or.inl ⟨by rfl, ?_⟩) ?_ ?_
             rotate_left
             ·intro w'
              go_simp
              with_reducible rfl
             rotate_left
             ·simp only [Act.put, List.setIfInBounds_toArray, List.set_cons_zero, List.set_cons_succ, i64_w, i32_w]
              rfl
             refine take_ (i := 6) (N := some 30) (v := ?_) (a' := ?_) #[true, true, true, true, true, true, true, true, true, false, true, true, true, false, true, false, false, true, true, false, false] rfl rfl (take_ofW HT_.out HW_.out (by kernel_rfl)) (fun _ _ _ h => h) (Or.inl ⟨by rfl, ?_⟩) hHeld ?_ ?_
             rotate_left
             ·rintro w' ⟨s0, s1, s2, s3⟩
              go_simp
              with_reducible rfl
             rotate_left
             ·simp only [Act.put, List.setIfInBounds_toArray, List.set_cons_zero, List.set_cons_succ, i64_w, i32_w]
              rfl
             refine take_ (i := 13) (N := some 37) (v := ?_) (a' := ?_) #[true, true, true, true, true, true, true, true, true, false, true, true, true, true, true, false, false, true, true, false, false] rfl rfl (take_ofW HT_.out HW_.out (by kernel_rfl)) (fun _ _ _ h => h) (Or.inl ⟨by rfl, ?_⟩) hHeld ?_ ?_
             rotate_left
             ·rintro w' ⟨s0, s1, s2, s3⟩
              go_simp
              with_reducible rfl
             rotate_left
             ·simp only [Act.put, List.setIfInBounds_toArray, List.set_cons_zero, List.set_cons_succ, i64_w, i32_w]
              rfl
             refine pure_ (i := 15) (N := some 39) (v := ?_) (a' := ?_) #[true, true, true, true, true, true, true, true, true, false, true, true, true, true, true, true, false, true, true, false, false] rfl rfl (any_of HT_.out (by kernel_rfl)) (fun _ _ _ h => h) (Or.inl ⟨by rfl, ?_⟩) ?_ ?_
             rotate_left
             ·intro w'
              go_simp
              with_reducible rfl
             rotate_left
             ·simp only [Act.put, List.setIfInBounds_toArray, List.set_cons_zero, List.set_cons_succ, i64_w, i32_w]
              rfl
             refine take_ (i := 16) (N := some 40) (v := ?_) (a' := ?_) #[true, true, true, true, true, true, true, true, true, false, true, true, true, true, true, true, true, true, true, false, false] rfl rfl (take_ofW HT_.out HW_.out (by kernel_rfl)) (fun _ _ _ h => h) (Or.inl ⟨by rfl, ?_⟩) hHeld ?_ ?_
             rotate_left
             ·rintro w' ⟨s0, s1, s2, s3⟩
              go_simp
              with_reducible rfl
             rotate_left
             ·simp only [Act.put, List.setIfInBounds_toArray, List.set_cons_zero, List.set_cons_succ, i64_w, i32_w]
              rfl
             refine one_ (i := 9) (N := some 33) #[true, true, true, true, true, true, true, true, true, true, true, true, true, true, true, true, true, true, true, false, false] rfl rfl (one_of HT_.out (by kernel_rfl)) (by decide) (fun K hK => ?_)
             refine goes_ Tryd.func10 (by kernel_rfl) rfl #[.string (rdOf ByteArray.empty (rd_L1 l0 x3_1) x4_2), .bool (x4_2 == 0)] (by rfl) rfl rfl (by (try simp only [List.map_toArray, List.map_cons, List.map_nil]); first | done | rfl | (simp only [List.length_drop, List.length_take]; rfl)) ?_
             with_reducible refine (cprint_Field.calls (rdOf ByteArray.empty (rd_L1 l0 x3_1) x4_2) (x4_2 == 0) t200 _ A13.out).mono ?_
             rintro e w17 ⟨rfl, hb⟩
             refine ⟨_, rfl, ?_⟩
             have n0_ := Aside0.mk (below_step (by repeat (first | (with_reducible first | exact HB.out | apply below_alloc | apply pw_below_drewN | apply below_drew1) | exact HB.out)) hb)
             clear HB
             have HB := n0_
             clear n0_
             (try clear hb)
             (try clear hb2)
             (try clear hk)
             (try clear hi)
             refine hK.out _ _ ⟨((HB.out.cell (World.block_lt_of_cell? w _ hw198_0)).trans hw198_0), ((HB.out.cell (World.block_lt_of_cell? w _ hw199_0)).trans hw199_0), ((HB.out.cell (World.block_lt_of_cell? w _ hw201_0)).trans hw201_0), ((HB.out.cell (World.block_lt_of_cell? w _ hw202_0)).trans hw202_0)⟩ (fun hHeld => ?_)
             clear hK K
             refine norm_ (a' := ?_) ?_ ?_
             rotate_left
             ·show Act.put _ (some 33) _ = _
              simp only [Act.put, List.setIfInBounds_toArray, List.set_cons_zero, List.set_cons_succ, i64_w, i32_w]
              rfl
             refine one_ (i := 19) (N := some 43) #[true, true, true, true, true, true, true, true, true, true, true, true, true, true, true, true, true, true, true, true, false] rfl rfl (one_of HT_.out (by kernel_rfl)) (by decide) (fun K hK => ?_)
             refine goes_ Tryd.func12 (by kernel_rfl) rfl #[.string (rdOf ByteArray.empty (rd_L1 l0 x3_1) x4_2), .bool (x4_2 == 0)] (by rfl) rfl rfl (by (try simp only [List.map_toArray, List.map_cons, List.map_nil]); first | done | rfl | (simp only [List.length_drop, List.length_take]; rfl)) ?_
             with_reducible refine (dragomanref13_Field.calls k2 (rdOf ByteArray.empty (rd_L1 l0 x3_1) x4_2) (x4_2 == 0) t203 _ A14.out).mono ?_
             rintro e w' ⟨rfl, ⟨nd, rfl⟩⟩
             refine ⟨_, rfl, ?_⟩
             refine hK.out _ _ ⟨((HB.out.cell (World.block_lt_of_cell? w _ hw198_0)).trans hw198_0), ((HB.out.cell (World.block_lt_of_cell? w _ hw199_0)).trans hw199_0), ((HB.out.cell (World.block_lt_of_cell? w _ hw201_0)).trans hw201_0), ((HB.out.cell (World.block_lt_of_cell? w _ hw202_0)).trans hw202_0)⟩ (fun hHeld => ?_)
             clear hK K
             refine norm_ (a' := ?_) ?_ ?_
             rotate_left
             ·show Act.put _ (some 43) _ = _
              simp only [Act.put, List.setIfInBounds_toArray, List.set_cons_zero, List.set_cons_succ, i64_w, i32_w]
              rfl
             refine pure_ (i := 20) (N := some 44) (v := ?_) (a' := ?_) #[true, true, true, true, true, true, true, true, true, true, true, true, true, true, true, true, true, true, true, true, true] rfl rfl (any_of HT_.out (by kernel_rfl)) (fun _ _ _ h => h) (Or.inl ⟨by rfl, ?_⟩) ?_ ?_
             rotate_left
             ·intro w'
              go_simp
              with_reducible rfl
             rotate_left
             ·simp only [Act.put, List.setIfInBounds_toArray, List.set_cons_zero, List.set_cons_succ, i64_w, i32_w]
              rfl
             refine done_ (done_of HT_.out (by kernel_rfl)) ?_
             try go_wp2
             go_roundg k2
             case measure => have := HK1.out; have := HK2.out; omega
             case rel => exact ⟨(wrap64 (x4_2 + 1)), (by first | rfl | (simp; done) | (simp [*]; done)), H', ⟨by have := HK1.out; have := HK2.out; omega⟩, ⟨by repeat (first | (with_reducible first | exact HB.out | apply below_alloc | apply pw_below_drewN | apply below_drew1) | exact HB.out)⟩⟩
            ·rw [if_neg c15] at H
             have c15b0 : (t200.toList == t203.toList) = false := beq_eq_false_iff_ne.mpr c15
             have c15b1 : (t200.toList != t203.toList) = true := bne_iff_ne.mpr c15
             obtain rfl := Option.some.inj H
             have p197 : 0 ≤ (x3_1 : Int) := of_decide_eq_true (by first | (with_reducible assumption) | assumption)
             have q197 : x3_1 < (l0.length : Int) := of_decide_eq_true (by first | (with_reducible assumption) | assumption)
             obtain ⟨ad197, A197_0, c197_0, e197, hx197_0, hl197_0, hi197_0⟩ := at_L1 HR0.out x3_1 p197 q197
             cases e197
             replace hx197_0 := (HB.out.cell (World.block_lt_of_cell? w _ hx197_0)).trans hx197_0
             have HR197_0 := Aside0.mk hi197_0
             have HC197_0 := Aside0.mk hl197_0
             clear hi197_0 hl197_0
             replace p197 := eq_true p197
             replace q197 := eq_true q197
             try go_wp2
             have n0_ := Aside0.mk (below_drew1 HB.out)
             clear HB
             have HB := n0_
             clear n0_
             have p198 : 0 ≤ (x3_1 : Int) := of_decide_eq_true (by first | (with_reducible assumption) | assumption)
             have q198 : x3_1 < (l0.length : Int) := of_decide_eq_true (by first | (with_reducible assumption) | assumption)
             obtain ⟨ad198, A198_0, c198_0, e198, hx198_0, hl198_0, hi198_0⟩ := at_L1 HR0.out x3_1 p198 q198
             have hw198_0 := hx198_0
             obtain rfl : ad197 = ad198 := (by injection e198)
             replace hx198_0 := (HB.out.cell (World.block_lt_of_cell? w _ hx198_0)).trans hx198_0
             have HR198_0 := Aside0.mk hi198_0
             have HC198_0 := Aside0.mk hl198_0
             clear hi198_0 hl198_0
             replace p198 := eq_true p198
             replace q198 := eq_true q198
             have p199 : 0 ≤ (x4_2 : Int) := of_decide_eq_true (by first | (with_reducible assumption) | assumption)
             have q199 : x4_2 < ((rd_L1 l0 x3_1).length : Int) := of_decide_eq_true (by first | (with_reducible assumption) | assumption)
             obtain ⟨ad199, e199, hx199_0⟩ := Kd.at_string HR198_0.out x4_2 p199 q199
             have hw199_0 := hx199_0
             cases e199
             replace hx199_0 := (HB.out.cell (World.block_lt_of_cell? w _ hx199_0)).trans hx199_0
             replace p199 := eq_true p199
             replace q199 := eq_true q199
             have p201 : 0 ≤ (x3_1 : Int) := of_decide_eq_true (by first | (with_reducible assumption) | assumption)
             have q201 : x3_1 < (l0.length : Int) := of_decide_eq_true (by first | (with_reducible assumption) | assumption)
             obtain ⟨ad201, A201_0, c201_0, e201, hx201_0, hl201_0, hi201_0⟩ := at_L1 HR0.out x3_1 p201 q201
             have hw201_0 := hx201_0
             obtain rfl : ad197 = ad201 := (by injection e201)
             replace hx201_0 := (HB.out.cell (World.block_lt_of_cell? w _ hx201_0)).trans hx201_0
             have HR201_0 := Aside0.mk hi201_0
             have HC201_0 := Aside0.mk hl201_0
             clear hi201_0 hl201_0
             replace p201 := eq_true p201
             replace q201 := eq_true q201
             have ea_ := Option.some.inj (hx198_0.symm.trans hx201_0)
             injection ea_ with ea_ en_ ec_
             subst ea_
             subst ec_
             clear en_
             have p202 : 0 ≤ (x4_2 : Int) := of_decide_eq_true (by first | (with_reducible assumption) | assumption)
             have q202 : x4_2 < ((rd_L1 l0 x3_1).length : Int) := of_decide_eq_true (by first | (with_reducible assumption) | assumption)
             obtain ⟨ad202, e202, hx202_0⟩ := Kd.at_string HR201_0.out x4_2 p202 q202
             have hw202_0 := hx202_0
             cases e202
             replace hx202_0 := (HB.out.cell (World.block_lt_of_cell? w _ hx202_0)).trans hx202_0
             replace p202 := eq_true p202
             replace q202 := eq_true q202
             refine start_ (n := 21) (S := fun w' => w'.cell? (ad197.add (x3_1).toNat) = some (.slice (some ad199) (rd_L1 l0 x3_1).length c198_0) ∧ w'.cell? (ad199.add (x4_2).toNat) = some (.string (rdOf ByteArray.empty (rd_L1 l0 x3_1) x4_2)) ∧ w'.cell? (ad197.add (x3_1).toNat) = some (.slice (some ad199) (rd_L1 l0 x3_1).length c198_0) ∧ w'.cell? (ad199.add (x4_2).toNat) = some (.string (rdOf ByteArray.empty (rd_L1 l0 x3_1) x4_2))) (ds := []) #[false, false, false, false, false, false, false, false, false, false, false, false, false, false, false, false, false, false, false, false, false] (by kernel_rfl) rfl rfl ⟨((HB.out.cell (World.block_lt_of_cell? w _ hw198_0)).trans hw198_0), ((HB.out.cell (World.block_lt_of_cell? w _ hw199_0)).trans hw199_0), ((HB.out.cell (World.block_lt_of_cell? w _ hw201_0)).trans hw201_0), ((HB.out.cell (World.block_lt_of_cell? w _ hw202_0)).trans hw202_0)⟩ (fun hHeld => ?_); refine with_tabW dragomanlaw14_CprintSays.tab11 dragomanlaw14_CprintSays.bits11 (fun HT_ HW_ => ?_)
             generalize wr.drew = w18 at HB HR198_0 HR201_0 hx198_0 hx199_0 hx201_0 hx202_0 hHeld ⊢
             refine pure_ (i := 0) (N := some 24) (v := ?_) (a' := ?_) #[true, false, false, false, false, false, false, false, false, false, false, false, false, false, false, false, false, false, false, false, false] rfl rfl (any_of HT_.out (by kernel_rfl)) (fun _ _ _ h => h) (Or.inl ⟨by rfl, ?_⟩) ?_ ?_
             rotate_left
             ·intro w'
              go_simp
              with_reducible rfl
             rotate_left
             ·simp only [Act.put, List.setIfInBounds_toArray, List.set_cons_zero, List.set_cons_succ, i64_w, i32_w]
              rfl
             refine pure_ (i := 1) (N := some 25) (v := ?_) (a' := ?_) #[true, true, false, false, false, false, false, false, false, false, false, false, false, false, false, false, false, false, false, false, false] rfl rfl (any_of HT_.out (by kernel_rfl)) (fun _ _ _ h => h) (Or.inl ⟨by rfl, ?_⟩) ?_ ?_
             rotate_left
             ·intro w'
              go_simp
              with_reducible rfl
             rotate_left
             ·simp only [Act.put, List.setIfInBounds_toArray, List.set_cons_zero, List.set_cons_succ, i64_w, i32_w]
              rfl
             refine pure_ (i := 2) (N := some 26) (v := ?_) (a' := ?_) #[true, true, true, false, false, false, false, false, false, false, false, false, false, false, false, false, false, false, false, false, false] rfl rfl (any_of HT_.out (by kernel_rfl)) (fun _ _ _ h => h) (Or.inl ⟨by rfl, ?_⟩) ?_ ?_
             rotate_left
             ·intro w'
              go_simp
              with_reducible rfl
             rotate_left
             ·simp only [Act.put, List.setIfInBounds_toArray, List.set_cons_zero, List.set_cons_succ, i64_w, i32_w]
              rfl
             refine pure_ (i := 4) (N := some 28) (v := ?_) (a' := ?_) #[true, true, true, false, true, false, false, false, false, false, false, false, false, false, false, false, false, false, false, false, false] rfl rfl (any_of HT_.out (by kernel_rfl)) (fun _ _ _ h => h) (Or.inl ⟨by rfl, ?_⟩) ?_ ?_
             rotate_left
             ·intro w'
              go_simp
              with_reducible rfl
             rotate_left
             ·simp only [Act.put, List.setIfInBounds_toArray, List.set_cons_zero, List.set_cons_succ, i64_w, i32_w]
              rfl
             refine pure_ (i := 7) (N := some 31) (v := ?_) (a' := ?_) #[true, true, true, false, true, false, false, true, false, false, false, false, false, false, false, false, false, false, false, false, false] rfl rfl (any_of HT_.out (by kernel_rfl)) (fun _ _ _ h => h) (Or.inl ⟨by rfl, ?_⟩) ?_ ?_
             rotate_left
             ·intro w'
              go_simp
              with_reducible rfl
             rotate_left
             ·simp only [Act.put, List.setIfInBounds_toArray, List.set_cons_zero, List.set_cons_succ, i64_w, i32_w]
              rfl
             refine pure_ (i := 8) (N := some 32) (v := ?_) (a' := ?_) #[true, true, true, false, true, false, false, true, true, false, false, false, false, false, false, false, false, false, false, false, false] rfl rfl (any_of HT_.out (by kernel_rfl)) (fun _ _ _ h => h) (Or.inl ⟨by rfl, ?_⟩) ?_ ?_
             rotate_left
             ·intro w'
              go_simp
              with_reducible rfl
             rotate_left
             ·simp only [Act.put, List.setIfInBounds_toArray, List.set_cons_zero, List.set_cons_succ, i64_w, i32_w]
              rfl
             refine pure_ (i := 10) (N := some 34) (v := ?_) (a' := ?_) #[true, true, true, false, true, false, false, true, true, false, true, false, false, false, false, false, false, false, false, false, false] rfl rfl (any_of HT_.out (by kernel_rfl)) (fun _ _ _ h => h) (Or.inl ⟨by rfl, ?_⟩) ?_ ?_
             rotate_left
             ·intro w'
              go_simp
              with_reducible rfl
             rotate_left
             ·simp only [Act.put, List.setIfInBounds_toArray, List.set_cons_zero, List.set_cons_succ, i64_w, i32_w]
              rfl
             refine pure_ (i := 11) (N := some 35) (v := ?_) (a' := ?_) #[true, true, true, false, true, false, false, true, true, false, true, true, false, false, false, false, false, false, false, false, false] rfl rfl (any_of HT_.out (by kernel_rfl)) (fun _ _ _ h => h) (Or.inl ⟨by rfl, ?_⟩) ?_ ?_
             rotate_left
             ·intro w'
              go_simp
              with_reducible rfl
             rotate_left
             ·simp only [Act.put, List.setIfInBounds_toArray, List.set_cons_zero, List.set_cons_succ, i64_w, i32_w]
              rfl
             refine pure_ (i := 12) (N := some 36) (v := ?_) (a' := ?_) #[true, true, true, false, true, false, false, true, true, false, true, true, true, false, false, false, false, false, false, false, false] rfl rfl (any_of HT_.out (by kernel_rfl)) (fun _ _ _ h => h) (Or.inl ⟨by rfl, ?_⟩) ?_ ?_
             rotate_left
             ·intro w'
              go_simp
              with_reducible rfl
             rotate_left
             ·simp only [Act.put, List.setIfInBounds_toArray, List.set_cons_zero, List.set_cons_succ, i64_w, i32_w]
              rfl
             refine pure_ (i := 14) (N := some 38) (v := ?_) (a' := ?_) #[true, true, true, false, true, false, false, true, true, false, true, true, true, false, true, false, false, false, false, false, false] rfl rfl (any_of HT_.out (by kernel_rfl)) (fun _ _ _ h => h) (Or.inl ⟨by rfl, ?_⟩) ?_ ?_
             rotate_left
             ·intro w'
              go_simp
              with_reducible rfl
             rotate_left
             ·simp only [Act.put, List.setIfInBounds_toArray, List.set_cons_zero, List.set_cons_succ, i64_w, i32_w]
              rfl
             refine pure_ (i := 17) (N := some 41) (v := ?_) (a' := ?_) #[true, true, true, false, true, false, false, true, true, false, true, true, true, false, true, false, false, true, false, false, false] rfl rfl (any_of HT_.out (by kernel_rfl)) (fun _ _ _ h => h) (Or.inl ⟨by rfl, ?_⟩) ?_ ?_
             rotate_left
             ·intro w'
              go_simp
              with_reducible rfl
             rotate_left
             ·simp only [Act.put, List.setIfInBounds_toArray, List.set_cons_zero, List.set_cons_succ, i64_w, i32_w]
              rfl
             refine pure_ (i := 18) (N := some 42) (v := ?_) (a' := ?_) #[true, true, true, false, true, false, false, true, true, false, true, true, true, false, true, false, false, true, true, false, false] rfl rfl (any_of HT_.out (by kernel_rfl)) (fun _ _ _ h => h) (Or.inl ⟨by rfl, ?_⟩) ?_ ?_
             rotate_left
             ·intro w'
              go_simp
              with_reducible rfl
             rotate_left
             ·simp only [Act.put, List.setIfInBounds_toArray, List.set_cons_zero, List.set_cons_succ, i64_w, i32_w]
              rfl
             refine take_ (i := 3) (N := some 27) (v := ?_) (a' := ?_) #[true, true, true, true, true, false, false, true, true, false, true, true, true, false, true, false, false, true, true, false, false] rfl rfl (take_ofW HT_.out HW_.out (by kernel_rfl)) (fun _ _ _ h => h) (Or.inl ⟨by rfl, ?_⟩) hHeld ?_ ?_
             rotate_left
             ·rintro w' ⟨s0, s1, s2, s3⟩
              go_simp
              with_reducible rfl
             rotate_left
             ·simp only [Act.put, List.setIfInBounds_toArray, List.set_cons_zero, List.set_cons_succ, i64_w, i32_w]
              rfl
             refine pure_ (i := 5) (N := some 29) (v := ?_) (a' := ?_) #[true, true, true, true, true, true, false, true, true, false, true, true, true, false, true, false, false, true, true, false, false] rfl rfl (any_of HT_.out (by kernel_rfl)) (fun _ _ _ h => h) (Or.inl ⟨by rfl, ?_⟩) ?_ ?_
             rotate_left
             ·intro w'
              go_simp
              with_reducible rfl
             rotate_left
             ·simp only [Act.put, List.setIfInBounds_toArray, List.set_cons_zero, List.set_cons_succ, i64_w, i32_w]
              rfl
             refine take_ (i := 6) (N := some 30) (v := ?_) (a' := ?_) #[true, true, true, true, true, true, true, true, true, false, true, true, true, false, true, false, false, true, true, false, false] rfl rfl (take_ofW HT_.out HW_.out (by kernel_rfl)) (fun _ _ _ h => h) (Or.inl ⟨by rfl, ?_⟩) hHeld ?_ ?_
             rotate_left
             ·rintro w' ⟨s0, s1, s2, s3⟩
              go_simp
              with_reducible rfl
             rotate_left
             ·simp only [Act.put, List.setIfInBounds_toArray, List.set_cons_zero, List.set_cons_succ, i64_w, i32_w]
              rfl
             refine take_ (i := 13) (N := some 37) (v := ?_) (a' := ?_) #[true, true, true, true, true, true, true, true, true, false, true, true, true, true, true, false, false, true, true, false, false] rfl rfl (take_ofW HT_.out HW_.out (by kernel_rfl)) (fun _ _ _ h => h) (Or.inl ⟨by rfl, ?_⟩) hHeld ?_ ?_
             rotate_left
             ·rintro w' ⟨s0, s1, s2, s3⟩
              go_simp
              with_reducible rfl
             rotate_left
             ·simp only [Act.put, List.setIfInBounds_toArray, List.set_cons_zero, List.set_cons_succ, i64_w, i32_w]
              rfl
             refine pure_ (i := 15) (N := some 39) (v := ?_) (a' := ?_) #[true, true, true, true, true, true, true, true, true, false, true, true, true, true, true, true, false, true, true, false, false] rfl rfl (any_of HT_.out (by kernel_rfl)) (fun _ _ _ h => h) (Or.inl ⟨by rfl, ?_⟩) ?_ ?_
             rotate_left
             ·intro w'
              go_simp
              with_reducible rfl
             rotate_left
             ·simp only [Act.put, List.setIfInBounds_toArray, List.set_cons_zero, List.set_cons_succ, i64_w, i32_w]
              rfl
             refine take_ (i := 16) (N := some 40) (v := ?_) (a' := ?_) #[true, true, true, true, true, true, true, true, true, false, true, true, true, true, true, true, true, true, true, false, false] rfl rfl (take_ofW HT_.out HW_.out (by kernel_rfl)) (fun _ _ _ h => h) (Or.inl ⟨by rfl, ?_⟩) hHeld ?_ ?_
             rotate_left
             ·rintro w' ⟨s0, s1, s2, s3⟩
              go_simp
              with_reducible rfl
             rotate_left
             ·simp only [Act.put, List.setIfInBounds_toArray, List.set_cons_zero, List.set_cons_succ, i64_w, i32_w]
              rfl
             refine one_ (i := 9) (N := some 33) #[true, true, true, true, true, true, true, true, true, true, true, true, true, true, true, true, true, true, true, false, false] rfl rfl (one_of HT_.out (by kernel_rfl)) (by decide) (fun K hK => ?_)
             refine goes_ Tryd.func10 (by kernel_rfl) rfl #[.string (rdOf ByteArray.empty (rd_L1 l0 x3_1) x4_2), .bool (x4_2 == 0)] (by rfl) rfl rfl (by (try simp only [List.map_toArray, List.map_cons, List.map_nil]); first | done | rfl | (simp only [List.length_drop, List.length_take]; rfl)) ?_
             with_reducible refine (cprint_Field.calls (rdOf ByteArray.empty (rd_L1 l0 x3_1) x4_2) (x4_2 == 0) t200 _ A13.out).mono ?_
             rintro e w19 ⟨rfl, hb⟩
             refine ⟨_, rfl, ?_⟩
             have n0_ := Aside0.mk (below_step (by repeat (first | (with_reducible first | exact HB.out | apply below_alloc | apply pw_below_drewN | apply below_drew1) | exact HB.out)) hb)
             clear HB
             have HB := n0_
             clear n0_
             (try clear hb)
             (try clear hb2)
             (try clear hk)
             (try clear hi)
             refine hK.out _ _ ⟨((HB.out.cell (World.block_lt_of_cell? w _ hw198_0)).trans hw198_0), ((HB.out.cell (World.block_lt_of_cell? w _ hw199_0)).trans hw199_0), ((HB.out.cell (World.block_lt_of_cell? w _ hw201_0)).trans hw201_0), ((HB.out.cell (World.block_lt_of_cell? w _ hw202_0)).trans hw202_0)⟩ (fun hHeld => ?_)
             clear hK K
             refine norm_ (a' := ?_) ?_ ?_
             rotate_left
             ·show Act.put _ (some 33) _ = _
              simp only [Act.put, List.setIfInBounds_toArray, List.set_cons_zero, List.set_cons_succ, i64_w, i32_w]
              rfl
             refine one_ (i := 19) (N := some 43) #[true, true, true, true, true, true, true, true, true, true, true, true, true, true, true, true, true, true, true, true, false] rfl rfl (one_of HT_.out (by kernel_rfl)) (by decide) (fun K hK => ?_)
             refine goes_ Tryd.func12 (by kernel_rfl) rfl #[.string (rdOf ByteArray.empty (rd_L1 l0 x3_1) x4_2), .bool (x4_2 == 0)] (by rfl) rfl rfl (by (try simp only [List.map_toArray, List.map_cons, List.map_nil]); first | done | rfl | (simp only [List.length_drop, List.length_take]; rfl)) ?_
             with_reducible refine (dragomanref13_Field.calls k2 (rdOf ByteArray.empty (rd_L1 l0 x3_1) x4_2) (x4_2 == 0) t203 _ A14.out).mono ?_
             rintro e w' ⟨rfl, ⟨nd, rfl⟩⟩
             refine ⟨_, rfl, ?_⟩
             refine hK.out _ _ ⟨((HB.out.cell (World.block_lt_of_cell? w _ hw198_0)).trans hw198_0), ((HB.out.cell (World.block_lt_of_cell? w _ hw199_0)).trans hw199_0), ((HB.out.cell (World.block_lt_of_cell? w _ hw201_0)).trans hw201_0), ((HB.out.cell (World.block_lt_of_cell? w _ hw202_0)).trans hw202_0)⟩ (fun hHeld => ?_)
             clear hK K
             refine norm_ (a' := ?_) ?_ ?_
             rotate_left
             ·show Act.put _ (some 43) _ = _
              simp only [Act.put, List.setIfInBounds_toArray, List.set_cons_zero, List.set_cons_succ, i64_w, i32_w]
              rfl
             refine pure_ (i := 20) (N := some 44) (v := ?_) (a' := ?_) #[true, true, true, true, true, true, true, true, true, true, true, true, true, true, true, true, true, true, true, true, true] rfl rfl (any_of HT_.out (by kernel_rfl)) (fun _ _ _ h => h) (Or.inl ⟨by rfl, ?_⟩) ?_ ?_
             rotate_left
             ·intro w'
              go_simp
              with_reducible rfl
             rotate_left
             ·simp only [Act.put, List.setIfInBounds_toArray, List.set_cons_zero, List.set_cons_succ, i64_w, i32_w]
              rfl
             refine done_ (done_of HT_.out (by kernel_rfl)) ?_
             try go_wp2
             go_ret
             exact ⟨by first | rfl | (simp [errW_none, errW_some] <;> rfl) | (simp [*, errW_none, errW_some, bne]; done) | (simp [*, errW_none, errW_some] <;> rfl), by repeat (first | (with_reducible first | exact HB.out | apply below_alloc | apply pw_below_drewN | apply below_drew1) | exact HB.out)⟩
           ·rw [if_neg c12] at H
            exact absurd H (by simp)
          ·rw [if_neg c11] at H
           have c11b0 : decide (x4_2 < ((rd_L1 l0 x3_1).length : Int)) = false := decide_eq_false c11
           clear c11
           have H' := Aside0.mk H
           clear H
           have p197 : 0 ≤ (x3_1 : Int) := of_decide_eq_true (by first | (with_reducible assumption) | assumption)
           have q197 : x3_1 < (l0.length : Int) := of_decide_eq_true (by first | (with_reducible assumption) | assumption)
           obtain ⟨ad197, A197_0, c197_0, e197, hx197_0, hl197_0, hi197_0⟩ := at_L1 HR0.out x3_1 p197 q197
           cases e197
           replace hx197_0 := (HB.out.cell (World.block_lt_of_cell? w _ hx197_0)).trans hx197_0
           have HR197_0 := Aside0.mk hi197_0
           have HC197_0 := Aside0.mk hl197_0
           clear hi197_0 hl197_0
           replace p197 := eq_true p197
           replace q197 := eq_true q197
           go_wp2
           go_roundg k2
           case measure => have := HK1.out; have := HK2.out; omega
           case rel => exact ⟨(wrap64 (x3_1 + 1)), (by first | rfl | (simp; done) | (simp [*]; done)), H', ⟨by have := HK1.out; have := HK2.out; omega⟩, ⟨by repeat (first | (with_reducible first | exact HB.out | apply below_alloc | apply pw_below_drewN | apply below_drew1) | exact HB.out)⟩⟩
         ·rw [if_neg c10] at H
          exact absurd H (by simp)
        ·rw [if_neg c9] at H
         exact absurd H (by simp)
     ·rw [if_neg c8] at H
      have c8b0 : decide (x3_1 < (l0.length : Int)) = false := decide_eq_false c8
      clear c8
      replace H := Option.bind_eq_some_iff.mp H
      obtain ⟨t204, A200, H⟩ := H
      replace H : ((dragomanref13_Print.f k1 l0).bind fun t205 => (if t204.toList = t205.toList then ((cprint_May.f l0).bind fun t206 => ((dragomanref13_May.f k1 l0).bind fun t207 => (some (t206 == t207)))) else (some false))) = some r := H
      have A20 := Aside0.mk A200
      clear A200
      replace H := Option.bind_eq_some_iff.mp H
      obtain ⟨t205, A210, H⟩ := H
      replace H : (if t204.toList = t205.toList then ((cprint_May.f l0).bind fun t206 => ((dragomanref13_May.f k1 l0).bind fun t207 => (some (t206 == t207)))) else (some false)) = some r := H
      have A21 := Aside0.mk A210
      clear A210
      by_cases c22 : t204.toList = t205.toList
      ·rw [if_pos c22] at H
       have c22b0 : (t204.toList == t205.toList) = true := beq_iff_eq.mpr c22
       have c22b1 : (t204.toList != t205.toList) = false := bne_eq_false_iff_eq.mpr c22
       clear c22
       replace H := Option.bind_eq_some_iff.mp H
       obtain ⟨t206, A230, H⟩ := H
       replace H : ((dragomanref13_May.f k1 l0).bind fun t207 => (some (t206 == t207))) = some r := H
       have A23 := Aside0.mk A230
       clear A230
       replace H := Option.bind_eq_some_iff.mp H
       obtain ⟨t207, A240, H⟩ := H
       replace H : (some (t206 == t207)) = some r := H
       have A24 := Aside0.mk A240
       clear A240
       obtain rfl := Option.some.inj H
       go_wp2_with (first | ((with_reducible refine gate_callee (f := 9) rfl ?_); refine goesL_ (some 46) rfl rfl Tryd.func9 (by kernel_rfl) rfl #[.slice A0 l0.length c0] rfl (by (try simp only [List.map_toArray, List.map_cons, List.map_nil]); first | done | rfl | (simp only [List.length_drop, List.length_take]; rfl)) ?_; (with_reducible refine (cprint_Print.calls _ _ l0 t204 _ ?side1 ?side2 A20.out).mono ?_); (case side1 => repeat (first | exact (Kd.C_below HR0.out HB.out) | (with_reducible refine Kd.C_alloc ?_ _) | (with_reducible refine Kd.C_drewN ?_ _) | (with_reducible refine Kd.C_drew ?_))); (case side2 => exact HC0.out); rintro e w25 ⟨rfl, hb⟩; refine ⟨_, rfl, ?_⟩; have n0_ := Aside0.mk (below_step (by repeat (first | (with_reducible first | exact HB.out | apply below_alloc | apply pw_below_drewN | apply below_drew1) | exact HB.out)) hb); clear HB; have HB := n0_; clear n0_; (try clear hb); (try clear hb2); (try clear hk); (try clear hi)) | ((with_reducible refine gate_callee (f := 13) rfl ?_); refine goesL_ (some 48) rfl rfl Tryd.func13 (by kernel_rfl) rfl #[.slice A0 l0.length c0] rfl (by (try simp only [List.map_toArray, List.map_cons, List.map_nil]); first | done | rfl | (simp only [List.length_drop, List.length_take]; rfl)) ?_; (with_reducible refine (dragomanref13_Print.calls k1 _ _ l0 t205 _ ?side1 ?side2 A21.out).mono ?_); (case side1 => repeat (first | exact (Kd.C_below HR0.out HB.out) | (with_reducible refine Kd.C_alloc ?_ _) | (with_reducible refine Kd.C_drewN ?_ _) | (with_reducible refine Kd.C_drew ?_))); (case side2 => exact HC0.out); rintro e w' ⟨rfl, ⟨nd, rfl⟩⟩; refine ⟨_, rfl, ?_⟩) | (go_at_call 8; (with_reducible refine (cprint_May.calls _ _ l0 t206 _ ?side1 ?side2 A23.out).mono ?_); (case side1 => repeat (first | exact (Kd.C_below HR0.out (by repeat (first | (with_reducible first | exact HB.out | apply below_alloc | apply pw_below_drewN | apply below_drew1) | exact HB.out))) | (with_reducible refine Kd.C_alloc ?_ _) | (with_reducible refine Kd.C_drewN ?_ _) | (with_reducible refine Kd.C_drew ?_))); (case side2 => exact HC0.out); rintro e w26 ⟨rfl, hb⟩; have n0_ := Aside0.mk (below_step (by repeat (first | (with_reducible first | exact HB.out | apply below_alloc | apply pw_below_drewN | apply below_drew1) | exact HB.out)) hb); clear HB; have HB := n0_; clear n0_; (try clear hb); (try clear hb2); (try clear hk); (try clear hi)) | (go_at_call 14; (with_reducible refine (dragomanref13_May.calls k1 _ _ l0 t207 _ ?side1 ?side2 A24.out).mono ?_); (case side1 => repeat (first | exact (Kd.C_below HR0.out HB.out) | (with_reducible refine Kd.C_alloc ?_ _) | (with_reducible refine Kd.C_drewN ?_ _) | (with_reducible refine Kd.C_drew ?_))); (case side2 => exact HC0.out); rintro e w27 ⟨rfl, hb⟩; have n0_ := Aside0.mk (below_step (by repeat (first | (with_reducible first | exact HB.out | apply below_alloc | apply pw_below_drewN | apply below_drew1) | exact HB.out)) hb); clear HB; have HB := n0_; clear n0_; (try clear hb); (try clear hb2); (try clear hk); (try clear hi)))
       go_ret
       exact ⟨by first | rfl | (simp [errW_none, errW_some] <;> rfl) | (simp [*, errW_none, errW_some, bne]; done) | (simp [*, errW_none, errW_some] <;> rfl), by repeat (first | (with_reducible first | exact HB.out | apply below_alloc | apply pw_below_drewN | apply below_drew1) | exact HB.out)⟩
      ·rw [if_neg c22] at H
       have c22b0 : (t204.toList == t205.toList) = false := beq_eq_false_iff_ne.mpr c22
       have c22b1 : (t204.toList != t205.toList) = true := bne_iff_ne.mpr c22
       obtain rfl := Option.some.inj H
       go_wp2_with (first | ((with_reducible refine gate_callee (f := 9) rfl ?_); refine goesL_ (some 46) rfl rfl Tryd.func9 (by kernel_rfl) rfl #[.slice A0 l0.length c0] rfl (by (try simp only [List.map_toArray, List.map_cons, List.map_nil]); first | done | rfl | (simp only [List.length_drop, List.length_take]; rfl)) ?_; (with_reducible refine (cprint_Print.calls _ _ l0 t204 _ ?side1 ?side2 A20.out).mono ?_); (case side1 => repeat (first | exact (Kd.C_below HR0.out HB.out) | (with_reducible refine Kd.C_alloc ?_ _) | (with_reducible refine Kd.C_drewN ?_ _) | (with_reducible refine Kd.C_drew ?_))); (case side2 => exact HC0.out); rintro e w28 ⟨rfl, hb⟩; refine ⟨_, rfl, ?_⟩; have n0_ := Aside0.mk (below_step (by repeat (first | (with_reducible first | exact HB.out | apply below_alloc | apply pw_below_drewN | apply below_drew1) | exact HB.out)) hb); clear HB; have HB := n0_; clear n0_; (try clear hb); (try clear hb2); (try clear hk); (try clear hi)) | ((with_reducible refine gate_callee (f := 13) rfl ?_); refine goesL_ (some 48) rfl rfl Tryd.func13 (by kernel_rfl) rfl #[.slice A0 l0.length c0] rfl (by (try simp only [List.map_toArray, List.map_cons, List.map_nil]); first | done | rfl | (simp only [List.length_drop, List.length_take]; rfl)) ?_; (with_reducible refine (dragomanref13_Print.calls k1 _ _ l0 t205 _ ?side1 ?side2 A21.out).mono ?_); (case side1 => repeat (first | exact (Kd.C_below HR0.out HB.out) | (with_reducible refine Kd.C_alloc ?_ _) | (with_reducible refine Kd.C_drewN ?_ _) | (with_reducible refine Kd.C_drew ?_))); (case side2 => exact HC0.out); rintro e w' ⟨rfl, ⟨nd, rfl⟩⟩; refine ⟨_, rfl, ?_⟩))
       go_ret
       exact ⟨by first | rfl | (simp [errW_none, errW_some] <;> rfl) | (simp [*, errW_none, errW_some, bne]; done) | (simp [*, errW_none, errW_some] <;> rfl), by repeat (first | (with_reducible first | exact HB.out | apply below_alloc | apply pw_below_drewN | apply below_drew1) | exact HB.out)⟩
 ·replace c3 := Bool.eq_false_iff.mpr c3
  subst c3
  have H1 : (some false) = some r := by rw [if_neg (show ¬ (false = true) by decide)] at H; exact H
  clear H
  have H := H1
  clear H1
  obtain rfl := Option.some.inj H
  go_enter Tryd.func4, Tryd.ntmps4
  go_wp2_with (first | ((with_reducible refine gate_callee (f := 7) rfl ?_); refine goesL_ (some 5) rfl rfl Tryd.func7 (by kernel_rfl) rfl #[] rfl (by (try simp only [List.map_toArray, List.map_cons, List.map_nil]); first | done | rfl | (simp only [List.length_drop, List.length_take]; rfl)) ?_; (with_reducible refine (dragomanlaw14_awake.calls  false _ A2.out).mono ?_); rintro e w29 ⟨rfl, hb⟩; refine ⟨_, rfl, ?_⟩; have n0_ := Aside0.mk (below_step (by repeat (first | (with_reducible first | exact HB.out | apply below_alloc | apply pw_below_drewN | apply below_drew1) | exact HB.out)) hb); clear HB; have HB := n0_; clear n0_; (try clear hb); (try clear hb2); (try clear hk); (try clear hi)))
  go_ret
  exact ⟨by first | rfl | (simp [errW_none, errW_some] <;> rfl) | (simp [*, errW_none, errW_some, bne]; done) | (simp [*, errW_none, errW_some] <;> rfl), by repeat (first | (with_reducible first | exact HB.out | apply below_alloc | apply pw_below_drewN | apply below_drew1) | exact HB.out)⟩
end Go.Proofs.YtjmmdphkgioooaaDoor.P
end
section
namespace Go.Proofs.YtjmmdphkgioooaaDoor.La
open Go.RowKit Go.Proofs.YtjmmdphkgioooaaDoor.P Go.Proofs.YtjmmdphkgioooaaDoorW.PrintWords Go.Proofs.YtjmmdphkgioooaaDoorW.PrintLast Go.Proofs.YtjmmdphkgioooaaDoorW.PrintMore
theorem ref_good_eq (r : Int) : dragomanref1_Good.f r = some (decide (good r)) := good_eq r
def enc0 (r : Int) : List Int := if good r then enc r else []
theorem enc0_bytes (r : Int) : Bytes (enc0 r) := by
 unfold enc0
 split
 ·rename_i h; exact enc_bytes h
 ·intro x hx; cases hx
theorem ref_put_eq (r : Int) : dragomanref1_Put.f r = some (strOfNums (enc0 r)) := by
 unfold dragomanref1_Put.f enc0
 rw [ref_good_eq, Option.bind_some]
 by_cases hg : good r
 ·have hg' := good_iff.1 hg
  have d1 : Int.tdiv r 64 = r / 64 := Int.tdiv_eq_ediv_of_nonneg (by omega)
  have d2 : Int.tdiv r 4096 = r / 4096 := Int.tdiv_eq_ediv_of_nonneg (by omega)
  have d3 : Int.tdiv r 262144 = r / 262144 := Int.tdiv_eq_ediv_of_nonneg (by omega)
  have m1 : Int.tmod r 64 = r % 64 := Int.tmod_eq_emod_of_nonneg (by omega)
  have m2 : Int.tmod (r / 64) 64 = r / 64 % 64 := Int.tmod_eq_emod_of_nonneg (by omega)
  have m3 : Int.tmod (r / 4096) 64 = r / 4096 % 64 := Int.tmod_eq_emod_of_nonneg (by omega)
  have w1 : wrap64 (r / 64) = r / 64 := wrap_id (by omega) (by omega)
  have w2 : wrap64 (r / 4096) = r / 4096 := wrap_id (by omega) (by omega)
  have w3 : wrap64 (r / 262144) = r / 262144 := wrap_id (by omega) (by omega)
  rw [if_pos (decide_eq_true hg), if_pos hg, d1, d2, d3, w1, w2, w3, m1, m2, m3]
  unfold enc
  split
  ·rw [show r % 256 = r by omega]
  ·split
   ·rw [wrap_id (n := 192 + r / 64) (by omega) (by omega), wrap_id (n := 128 + r % 64) (by omega) (by omega), show (192 + r / 64) % 256 = 192 + r / 64 by omega, show (128 + r % 64) % 256 = 128 + r % 64 by omega]
   ·split
    ·rw [wrap_id (n := 224 + r / 4096) (by omega) (by omega), wrap_id (n := 128 + r / 64 % 64) (by omega) (by omega), wrap_id (n := 128 + r % 64) (by omega) (by omega), show (224 + r / 4096) % 256 = 224 + r / 4096 by omega, show (128 + r / 64 % 64) % 256 = 128 + r / 64 % 64 by omega, show (128 + r % 64) % 256 = 128 + r % 64 by omega]
    ·rw [wrap_id (n := 240 + r / 262144) (by omega) (by omega), wrap_id (n := 128 + r / 4096 % 64) (by omega) (by omega), wrap_id (n := 128 + r / 64 % 64) (by omega) (by omega), wrap_id (n := 128 + r % 64) (by omega) (by omega), show (240 + r / 262144) % 256 = 240 + r / 262144 by omega, show (128 + r / 4096 % 64) % 256 = 128 + r / 4096 % 64 by omega, show (128 + r / 64 % 64) % 256 = 128 + r / 64 % 64 by omega, show (128 + r % 64) % 256 = 128 + r % 64 by omega]
 ·rw [if_neg (by simpa using hg), if_neg hg]
  rfl
def rend (r : Int) (n : Nat) (l : List Int) : Int × Int := if enc0 r = l.take n then (r, (n : Int)) else (0, 0)
theorem rl0_end (k : Nat) (s : ByteArray) {r i : Int} {n : Nat} (h : ¬ i < (n : Int)) (hn : n ≤ s.size) : dragomanref1_Take.l0 (k + 1) s (n : Int) r i = some (rend r n (bytesOf s)) := by
 simp only [dragomanref1_Take.l0]
 rw [if_neg h, ref_put_eq, Option.bind_some, if_pos (by omega), if_pos (by omega)]
 unfold rend
 have : ((strOfNums (enc0 r)).toList = (s.extract 0 ((n : Int)).toNat).toList) ↔ enc0 r = (bytesOf s).take n := by
  rw [toList_eq_iff, strOfNums_bytes (enc0_bytes r), bytesOf_take, Int.toNat_natCast]
 simp only [this]
 split <;> rfl
theorem rl0_bad (k : Nat) (s : ByteArray) {n r i : Int} (h : i < n) (h0 : 0 ≤ i) (hs : i < s.size) (hb : ¬ (128 ≤ bt s i ∧ bt s i < 192)) : dragomanref1_Take.l0 (k + 1) s n r i = some (0, 0) := by
 simp only [dragomanref1_Take.l0]
 rw [if_pos h, if_pos h0, if_pos hs]
 by_cases c : bt s i < 128
 ·rw [if_pos c]
 ·rw [if_neg c, if_pos (by omega)]
theorem rl0_more (k : Nat) (s : ByteArray) {n r i : Int} (h : i < n) (h0 : 0 ≤ i) (hs : i < s.size) (hb : 128 ≤ bt s i ∧ bt s i < 192) (r0 : 0 ≤ r) (r1 : r < 2097152) (i1 : i < 10) : dragomanref1_Take.l0 (k + 1) s n r i = dragomanref1_Take.l0 k s n (r * 64 + (bt s i - 128)) (i + 1) := by
 simp only [dragomanref1_Take.l0]
 rw [if_pos h, if_pos h0, if_pos hs, if_neg (by omega), if_neg (by omega), wrap_id (n := 64 * r) (by omega) (by omega), wrap_id (n := bt s i) (by omega) (by omega), wrap_id (n := 64 * r + bt s i) (by omega) (by omega), wrap_id (n := 64 * r + bt s i - 128) (by omega) (by omega), wrap_id (n := i + 1) (by omega) (by omega), show 64 * r + bt s i - 128 = r * 64 + (bt s i - 128) by omega]
theorem enc0_eq {r : Int} {l : List Int} (hl : l ≠ []) : enc0 r = l ↔ good r ∧ enc r = l := by
 unfold enc0
 split
 ·rename_i h; exact ⟨fun e => ⟨h, e⟩, fun e => e.2⟩
 ·rename_i h; exact ⟨fun e => absurd e.symm hl, fun e => absurd e.1 h⟩
theorem enc2 {r a b : Int} (h : r = tk2 a b) (ha : 192 ≤ a ∧ a < 224) (hb : 128 ≤ b ∧ b < 192) : enc r = [a, b] ↔ 128 ≤ r := by
 unfold tk2 at h
 unfold enc
 by_cases c : r < 128
 ·rw [if_pos c]; simp; omega
 ·rw [if_neg c, if_pos (by omega)]; simp; omega
theorem enc3 {r a b c : Int} (h : r = tk3 a b c) (ha : 224 ≤ a ∧ a < 240) (hb : 128 ≤ b ∧ b < 192) (hc : 128 ≤ c ∧ c < 192) : enc r = [a, b, c] ↔ 2048 ≤ r := by
 unfold tk3 at h
 unfold enc
 by_cases c1 : r < 128
 ·rw [if_pos c1]; simp; omega
 ·rw [if_neg c1]
  by_cases c2 : r < 2048
  ·rw [if_pos c2]; simp; omega
  ·rw [if_neg c2, if_pos (by omega)]; simp; omega
theorem enc4 {r a b c d : Int} (h : r = tk4 a b c d) (_ha : 240 ≤ a ∧ a < 248) (hb : 128 ≤ b ∧ b < 192) (hc : 128 ≤ c ∧ c < 192) (hd : 128 ≤ d ∧ d < 192) : enc r = [a, b, c, d] ↔ 65536 ≤ r := by
 unfold tk4 at h
 unfold enc
 by_cases c1 : r < 128
 ·rw [if_pos c1]; simp; omega
 ·rw [if_neg c1]
  by_cases c2 : r < 2048
  ·rw [if_pos c2]; simp; omega
  ·rw [if_neg c2]
   by_cases c3 : r < 65536
   ·rw [if_pos c3]; simp; omega
   ·rw [if_neg c3]; simp; omega
theorem ref_take_eq (k : Nat) (s : ByteArray) : dragomanref1_Take.f (k + 9) s = some (tk (bytesOf s)) := by
 have hB := bytes_of s
 have hS := size_of s
 generalize hl : bytesOf s = l at hB hS
 have hbt : ∀ i, bt s i = l.getD i.toNat 0 := fun i => by rw [bt_get, hl]
 unfold dragomanref1_Take.f
 match l with
 | [] => rw [if_pos ((toList_nil_iff s).2 hl)]; rfl
 | a :: t =>
  have ha := hB a List.mem_cons_self
  have h0 : bt s 0 = a := by rw [hbt]; rfl
  have hsz : (s.size : Int) = (t.length : Int) + 1 := by rw [← hS]; simp
  rw [if_neg (fun h => by rw [toList_nil_iff, hl] at h; cases h), if_pos (by omega), h0, wrap_id (by omega) (by omega)]
  simp only [tk]
  by_cases c5 : 240 ≤ a
  ·rw [if_pos c5, if_neg (show ¬ a < 128 by omega), if_neg (show ¬ a < 192 by omega), if_neg (show ¬ a < 224 by omega), if_neg (show ¬ a < 240 by omega)]
   by_cases c6 : a < 248
   ·rw [decide_eq_true c6, if_pos c6]
    simp only [dragomanref1_Take.j0]
    rw [if_pos trivial]
    simp only [dragomanref1_Take.j3]
    rw [wrap_id (by omega) (by omega)]
    match t with
    | [] =>
     simp at hsz
     rw [if_pos (by omega)]
    | [b] =>
     simp at hsz
     rw [if_pos (by omega)]
    | [b, c] =>
     simp at hsz
     rw [if_pos (by omega)]
    | b :: c :: d :: t =>
     simp at hsz
     dsimp only
     have hb : bt s 1 = b := by rw [hbt]; rfl
     have hc : bt s 2 = c := by rw [hbt]; rfl
     have hd : bt s 3 = d := by rw [hbt]; rfl
     rw [if_neg (by omega)]
     have hr := hB b (by simp)
     have hr2 := hB c (by simp)
     have hr3 := hB d (by simp)
     by_cases k1 : 128 ≤ b ∧ b < 192
     ·rw [rl0_more _ _ (by decide) (by decide) (by omega) (by rw [hb]; exact k1) (by omega) (by omega) (by decide), hb]
      by_cases k2 : 128 ≤ c ∧ c < 192
      ·rw [rl0_more _ _ (by decide) (by decide) (by omega) (by rw [show (1 : Int) + 1 = 2 by decide, hc]; exact k2) (by omega) (by omega) (by decide), show (1 : Int) + 1 = 2 by decide, hc]
       by_cases k3 : 128 ≤ d ∧ d < 192
       ·rw [rl0_more _ _ (by decide) (by decide) (by omega) (by rw [show (2 : Int) + 1 = 3 by decide, hd]; exact k3) (by omega) (by omega) (by decide), show (2 : Int) + 1 = 3 by decide, hd]
        have e : (((a - 240) * 64 + (b - 128)) * 64 + (c - 128)) * 64 + (d - 128) = tk4 a b c d := by unfold tk4; omega
        have e1 : 0 ≤ tk4 a b c d := by unfold tk4; omega
        rw [e, show (4 : Int) = ((4 : Nat) : Int) by rfl, rl0_end _ _ (by decide) (by omega), hl]
        unfold rend
        simp only [List.take_succ_cons, List.take_zero, enc0_eq (List.cons_ne_nil _ _), enc4 rfl ⟨c5, c6⟩ k1 k2 k3, good_iff]
        by_cases k4 : 65536 ≤ tk4 a b c d ∧ tk4 a b c d ≤ 1114111
        ·rw [if_pos (by omega), if_pos (by omega)]
        ·rw [if_neg (by omega), if_neg (by omega)]
       ·rw [rl0_bad _ _ (by decide) (by decide) (by omega) (by rw [show (2 : Int) + 1 = 3 by decide, hd]; exact k3), if_neg (by omega)]
      ·rw [rl0_bad _ _ (by decide) (by decide) (by omega) (by rw [show (1 : Int) + 1 = 2 by decide, hc]; exact k2), if_neg (by omega)]
     ·rw [rl0_bad _ _ (by decide) (by decide) (by omega) (by rw [hb]; exact k1), if_neg (by omega)]
   ·rw [decide_eq_false c6, if_neg c6]
    simp only [dragomanref1_Take.j0]
    rw [if_neg (by decide), if_pos (by omega)]
    simp only [dragomanref1_Take.j1]
    rw [if_neg (by simp; omega), if_pos (by omega)]
    simp only [dragomanref1_Take.j2]
    rw [if_neg (by simp; omega), if_pos (by omega)]
  ·rw [if_neg c5]
   simp only [dragomanref1_Take.j0]
   rw [if_neg (by decide)]
   by_cases c4 : 224 ≤ a
   ·rw [if_pos c4, if_neg (show ¬ a < 128 by omega), if_neg (show ¬ a < 192 by omega), if_neg (show ¬ a < 224 by omega), if_pos (show a < 240 by omega)]
    simp only [dragomanref1_Take.j1]
    rw [if_pos (decide_eq_true (by omega)), wrap_id (by omega) (by omega)]
    simp only [dragomanref1_Take.j3]
    match t with
    | [] =>
     simp at hsz
     rw [if_pos (by omega)]
    | [b] =>
     simp at hsz
     rw [if_pos (by omega)]
    | b :: c :: t =>
     simp at hsz
     dsimp only
     have hb : bt s 1 = b := by rw [hbt]; rfl
     have hc : bt s 2 = c := by rw [hbt]; rfl
     rw [if_neg (by omega)]
     have hr := hB b (by simp)
     have hr2 := hB c (by simp)
     by_cases k1 : 128 ≤ b ∧ b < 192
     ·rw [rl0_more _ _ (by decide) (by decide) (by omega) (by rw [hb]; exact k1) (by omega) (by omega) (by decide), hb]
      by_cases k2 : 128 ≤ c ∧ c < 192
      ·rw [rl0_more _ _ (by decide) (by decide) (by omega) (by rw [show (1 : Int) + 1 = 2 by decide, hc]; exact k2) (by omega) (by omega) (by decide), show (1 : Int) + 1 = 2 by decide, hc]
       have e : ((a - 224) * 64 + (b - 128)) * 64 + (c - 128) = tk3 a b c := by unfold tk3; omega
       have e1 : 0 ≤ tk3 a b c ∧ tk3 a b c < 65536 := by unfold tk3; omega
       rw [e, show (3 : Int) = ((3 : Nat) : Int) by rfl, rl0_end _ _ (by decide) (by omega), hl]
       unfold rend
       simp only [List.take_succ_cons, List.take_zero, enc0_eq (List.cons_ne_nil _ _), enc3 rfl ⟨c4, by omega⟩ k1 k2, good_iff]
       by_cases k4 : 2048 ≤ tk3 a b c ∧ (tk3 a b c < 55296 ∨ 57343 < tk3 a b c)
       ·rw [if_pos (by omega), if_pos (by omega)]
       ·rw [if_neg (by omega), if_neg (by omega)]
      ·rw [rl0_bad _ _ (by decide) (by decide) (by omega) (by rw [show (1 : Int) + 1 = 2 by decide, hc]; exact k2), if_neg (by omega)]
     ·rw [rl0_bad _ _ (by decide) (by decide) (by omega) (by rw [hb]; exact k1), if_neg (by omega)]
   ·rw [if_neg c4]
    simp only [dragomanref1_Take.j1]
    rw [if_neg (by decide)]
    by_cases c3 : 192 ≤ a
    ·rw [if_pos c3, if_neg (show ¬ a < 128 by omega), if_neg (show ¬ a < 192 by omega), if_pos (show a < 224 by omega)]
     simp only [dragomanref1_Take.j2]
     rw [if_pos (decide_eq_true (by omega)), wrap_id (by omega) (by omega)]
     simp only [dragomanref1_Take.j3]
     match t with
     | [] =>
      simp at hsz
      rw [if_pos (by omega)]
     | b :: t =>
      simp at hsz
      dsimp only
      have hb : bt s 1 = b := by rw [hbt]; rfl
      rw [if_neg (by omega)]
      have hr := hB b (by simp)
      by_cases k1 : 128 ≤ b ∧ b < 192
      ·rw [rl0_more _ _ (by decide) (by decide) (by omega) (by rw [hb]; exact k1) (by omega) (by omega) (by decide), hb]
       have e : (a - 192) * 64 + (b - 128) = tk2 a b := by unfold tk2; omega
       have e1 : 0 ≤ tk2 a b ∧ tk2 a b < 2048 := by unfold tk2; omega
       rw [e, show (2 : Int) = ((2 : Nat) : Int) by rfl, rl0_end _ _ (by decide) (by omega), hl]
       unfold rend
       simp only [List.take_succ_cons, List.take_zero, enc0_eq (List.cons_ne_nil _ _), enc2 rfl ⟨c3, by omega⟩ k1, good_iff]
       by_cases k4 : 128 ≤ tk2 a b
       ·rw [if_pos (by omega), if_pos (by omega)]
       ·rw [if_neg (by omega), if_neg (by omega)]
      ·rw [rl0_bad _ _ (by decide) (by decide) (by omega) (by rw [hb]; exact k1), if_neg (by omega)]
    ·rw [if_neg c3]
     simp only [dragomanref1_Take.j2]
     rw [if_neg (by decide)]
     by_cases c2 : 128 ≤ a
     ·rw [if_pos c2, if_neg (show ¬ a < 128 by omega), if_pos (show a < 192 by omega)]
     ·rw [if_neg c2, if_pos (show a < 128 by omega)]
      simp only [dragomanref1_Take.j3]
      rw [if_neg (by omega), show (1 : Int) = ((1 : Nat) : Int) by rfl, rl0_end _ _ (by decide) (by omega), hl]
      unfold rend
      rw [List.take_succ_cons, List.take_zero, if_pos ((enc0_eq (List.cons_ne_nil _ _)).2 ⟨good_iff.2 (by omega), by unfold enc; rw [if_pos (by omega)]⟩)]
theorem ref_take_ev (s : ByteArray) : Ev (fun k => dragomanref1_Take.f k s) (tk (bytesOf s)) := ⟨9, fun k hk => by
 obtain ⟨m, rfl⟩ : ∃ m, k = m + 9 := ⟨k - 9, by omega⟩
 exact ref_take_eq m s⟩
def rbadR (at_ : Nat) : Option Nat → Int
 | none => -1
 | some p => ((at_ + p : Nat) : Int)
theorem ref_valid_l0 (s : ByteArray) (hs : s.size ≤ 140737488355328) (n : Nat) : ∀ (i : Nat), i ≤ s.size → s.size - i = n → Ev (fun k => dragomanref1_Valid.l0 k s (i : Int)) (rbadR i (bad ((bytesOf s).drop i))) := by
 induction n using Nat.strongRecOn with
 | _ n ih =>
 intro i hi hn
 have hL : ((bytesOf s).drop i).length = s.size - i := by rw [List.length_drop, size_of]
 have hBd : Bytes ((bytesOf s).drop i) := (bytes_of s).drop i
 refine Ev.step (fun k => by rw [dragomanref1_Valid.l0]) ?_
 by_cases h : i < s.size
 ·have h1 : (i : Int) < (s.size : Int) := by omega
  have h2 : (0 : Int) ≤ (i : Int) := by omega
  have h3 : (i : Int) ≤ (s.size : Int) := by omega
  have hne : (bytesOf s).drop i ≠ [] := fun e => by rw [e] at hL; simp at hL; omega
  simp only [if_pos h1, if_pos h2, if_pos h3, Int.toNat_natCast]
  refine Ev.bind (ref_take_ev _) ?_
  rw [bytesOf_drop]
  by_cases h0 : (tk ((bytesOf s).drop i)).2 = 0
  ·simp only [if_pos h0, bad_none hne h0, rbadR]
   exact Ev.now _
  ·simp only [if_neg h0]
   have hb := tk_bound _ hBd
   have hp := stp_pos _ hBd
   have hst := stp_le hBd hne
   rw [stp_int hBd h0, wrap_id (by omega) (by omega), bad_step hne h0, List.drop_drop]
   have e : (i : Int) + (stp ((bytesOf s).drop i) : Int) = ((i + stp ((bytesOf s).drop i) : Nat) : Int) := by omega
   rw [e]
   have := ih (s.size - (i + stp ((bytesOf s).drop i))) (by omega) (i + stp ((bytesOf s).drop i)) (by omega) rfl
   generalize stp ((bytesOf s).drop i) = q at *
   cases hc : bad ((bytesOf s).drop (i + q)) with
   | none => rw [hc] at this; exact this
   | some p =>
    rw [hc] at this
    simp only [Option.map_some, rbadR] at this ⊢
    rw [show i + (p + q) = i + q + p by omega]
    exact this
 ·obtain rfl : i = s.size := by omega
  simp only [if_neg (show ¬ ((s.size : Int) < (s.size : Int)) by omega)]
  rw [List.drop_eq_nil_of_le (by rw [size_of]; omega), bad_nil]
  exact Ev.now _
theorem ref_valid_ev (s : ByteArray) (hs : s.size ≤ 140737488355328) : Ev (fun k => dragomanref1_Valid.f k s) (rbadR 0 (bad (bytesOf s))) :=
 ref_valid_l0 s hs _ 0 (by omega) rfl
end Go.Proofs.YtjmmdphkgioooaaDoor.La
end
section
namespace Go.Proofs.YtjmmdphkgioooaaDoor.La
open Go.RowKit Go.Proofs.YtjmmdphkgioooaaDoor.P Go.Proofs.YtjmmdphkgioooaaDoorW.PrintWords Go.Proofs.YtjmmdphkgioooaaDoorW.PrintLast Go.Proofs.YtjmmdphkgioooaaDoorW.PrintMore
theorem rd_get (l : List ByteArray) {j : Nat} (h : j < l.length) : rdOf ByteArray.empty l (j : Int) = l[j] := by
 unfold rdOf
 rw [Int.toNat_natCast, List.getD_eq_getElem?_getD, List.getElem?_eq_getElem h]
 rfl
theorem rd_row (l : List (List ByteArray)) {j : Nat} (h : j < l.length) : rd_L1 l (j : Int) = l[j] := by
 unfold rd_L1
 rw [Int.toNat_natCast, List.getD_eq_getElem?_getD, List.getElem?_eq_getElem h]
 rfl
theorem take_next {α : Type} (l : List α) {j : Nat} (h : j < l.length) : l.take (j + 1) = l.take j ++ [l[j]] := by
 rw [List.take_add_one, List.getElem?_eq_getElem h]
 rfl
/-- Small rows. -/
def smallR (r : List ByteArray) : Prop := r.length ≤ 70 ∧ ∀ s ∈ r, s.size ≤ 5000
def small (l : List (List ByteArray)) : Prop := l.length ≤ 30 ∧ ∀ r ∈ l, smallR r
theorem small_fits {l : List (List ByteArray)} (h : small l) : fits l := by
 obtain ⟨h1, h2⟩ := h
 refine ⟨by omega, fun r hr => ?_⟩
 obtain ⟨h3, h4⟩ := h2 r hr
 exact ⟨by omega, fun s hs => by have := h4 s hs; omega⟩
mutual
theorem great_l1 (l : List (List ByteArray)) (hl : l.length ≤ 30) (d j : Nat) (hj : j < l.length) (hd : l.length - j = d + 1) (hp : ∀ r ∈ l.take j, smallR r) (h70 : l[j].length ≤ 70) :
  ∀ (n i : Nat), i ≤ l[j].length → l[j].length - i = n → (∀ s ∈ l[j].take i, s.size ≤ 5000) → Ev (fun k => dragomanlaw14_great.l1 k l (j : Int) (i : Int)) true ∨ (Ev (fun k => dragomanlaw14_great.l1 k l (j : Int) (i : Int)) false ∧ ∀ r ∈ l, smallR r)
 | 0, i, hi, hn, hs => by
  obtain rfl : i = l[j].length := by omega
  rw [List.take_of_length_le (Nat.le_refl _)] at hs
  have h := great_l0 l hl d (j + 1) (by omega) (by omega) (by
   intro r hr
   rw [take_next l hj] at hr
   rcases List.mem_append.1 hr with hr | hr
   ·exact hp r hr
   ·rw [List.mem_singleton.1 hr]; exact ⟨h70, hs⟩)
  have hst : ∀ b, Ev (fun k => dragomanlaw14_great.l0 k l ((j + 1 : Nat) : Int)) b → Ev (fun k => dragomanlaw14_great.l1 k l (j : Int) (l[j].length : Int)) b := fun b hb =>
   Ev.step (fun k => by rw [dragomanlaw14_great.l1, if_pos (show (0 : Int) ≤ (j : Int) by omega), if_pos (show (j : Int) < (l.length : Int) by omega), rd_row l hj, if_neg (show ¬ (l[j].length : Int) < (l[j].length : Int) by omega), wrap_id (show -9223372036854775808 ≤ (j : Int) + 1 by omega) (show (j : Int) + 1 < 9223372036854775808 by omega)]; rfl) hb
  rcases h with h | h
  ·exact .inl (hst _ h)
  ·exact .inr ⟨hst _ h.1, h.2⟩
 | n + 1, i, hi, hn, hs => by
  have hlt : i < l[j].length := by omega
  by_cases h5 : l[j][i].size ≤ 5000
  ·have h := great_l1 l hl d j hj hd hp h70 n (i + 1) (by omega) (by omega) (by
    intro s hs'
    rw [take_next _ hlt] at hs'
    rcases List.mem_append.1 hs' with hs' | hs'
    ·exact hs s hs'
    ·rw [List.mem_singleton.1 hs']; exact h5)
   have hst : ∀ b, Ev (fun k => dragomanlaw14_great.l1 k l (j : Int) ((i + 1 : Nat) : Int)) b → Ev (fun k => dragomanlaw14_great.l1 k l (j : Int) (i : Int)) b := fun b hb =>
    Ev.step (fun k => by rw [dragomanlaw14_great.l1, if_pos (show (0 : Int) ≤ (j : Int) by omega), if_pos (show (j : Int) < (l.length : Int) by omega), rd_row l hj, if_pos (show (i : Int) < (l[j].length : Int) by omega), if_pos (show (0 : Int) ≤ (i : Int) by omega), rd_get _ hlt, if_neg (show ¬ (l[j][i].size : Int) > 5000 by omega), wrap_id (show -9223372036854775808 ≤ (i : Int) + 1 by omega) (show (i : Int) + 1 < 9223372036854775808 by omega)]; rfl) hb
   rcases h with h | h
   ·exact .inl (hst _ h)
   ·exact .inr ⟨hst _ h.1, h.2⟩
  ·refine .inl (Ev.step (fun k => by rw [dragomanlaw14_great.l1, if_pos (show (0 : Int) ≤ (j : Int) by omega), if_pos (show (j : Int) < (l.length : Int) by omega), rd_row l hj, if_pos (show (i : Int) < (l[j].length : Int) by omega), if_pos (show (0 : Int) ≤ (i : Int) by omega), rd_get _ hlt, if_pos (show (l[j][i].size : Int) > 5000 by omega)]) (Ev.now _))
theorem great_l0 (l : List (List ByteArray)) (hl : l.length ≤ 30) : ∀ (d j : Nat), j ≤ l.length → l.length - j = d → (∀ r ∈ l.take j, smallR r) → Ev (fun k => dragomanlaw14_great.l0 k l (j : Int)) true ∨ (Ev (fun k => dragomanlaw14_great.l0 k l (j : Int)) false ∧ ∀ r ∈ l, smallR r)
 | 0, j, hj, hd, hp => by
  obtain rfl : j = l.length := by omega
  rw [List.take_of_length_le (Nat.le_refl _)] at hp
  exact .inr ⟨Ev.step (fun k => by rw [dragomanlaw14_great.l0, if_neg (show ¬ (l.length : Int) < (l.length : Int) by omega)]) (Ev.now _), hp⟩
 | d + 1, j, hj, hd, hp => by
  have hlt : j < l.length := by omega
  by_cases h70 : l[j].length ≤ 70
  ·have h := great_l1 l hl d j hlt hd hp h70 l[j].length 0 (Nat.zero_le _) rfl (fun s hs => by cases hs)
   have hst : ∀ b, Ev (fun k => dragomanlaw14_great.l1 k l (j : Int) ((0 : Nat) : Int)) b → Ev (fun k => dragomanlaw14_great.l0 k l (j : Int)) b := fun b hb =>
    Ev.step (fun k => by rw [dragomanlaw14_great.l0, if_pos (show (j : Int) < (l.length : Int) by omega), if_pos (show (0 : Int) ≤ (j : Int) by omega), rd_row l hlt, if_neg (show ¬ (l[j].length : Int) > 70 by omega)]; rfl) hb
   rcases h with h | h
   ·exact .inl (hst _ h)
   ·exact .inr ⟨hst _ h.1, h.2⟩
  ·exact .inl (Ev.step (fun k => by rw [dragomanlaw14_great.l0, if_pos (show (j : Int) < (l.length : Int) by omega), if_pos (show (0 : Int) ≤ (j : Int) by omega), rd_row l hlt, if_pos (show (l[j].length : Int) > 70 by omega)]) (Ev.now _))
end
theorem great_ev (l : List (List ByteArray)) : Ev (fun k => dragomanlaw14_great.f k l) true ∨ (Ev (fun k => dragomanlaw14_great.f k l) false ∧ small l) := by
 by_cases h : (l.length : Int) > 30
 ·exact .inl (Ev.congr (fun k => by rw [dragomanlaw14_great.f, if_pos h]) (Ev.now _))
 ·have h0 := great_l0 l (by omega) l.length 0 (Nat.zero_le _) rfl (fun r hr => by cases hr)
  rcases h0 with h0 | h0
  ·exact .inl (Ev.congr (fun k => by rw [dragomanlaw14_great.f, if_neg h]; rfl) h0)
  ·exact .inr ⟨Ev.congr (fun k => by rw [dragomanlaw14_great.f, if_neg h]; rfl) h0.1, by omega, h0.2⟩
/-- The document's field. -/
theorem rfield_l0 (s : ByteArray) (hs : s.size ≤ 5000) (al : Bool) : ∀ (n i : Nat) (q : Bool) (x : ByteArray), i ≤ s.size → s.size - i = n → bytesOf x = dbl ((bytesOf s).take i) →
  q = (((bytesOf s).take i).any odd4 || (decide (bytesOf s = []) && al)) → Ev (fun k => dragomanref13_Field.l0 k s q x (i : Int)) (fieldW s al)
 | 0, i, q, x, hi, hn, hx, hq => by
  obtain rfl : i = s.size := by omega
  rw [List.take_of_length_le (by rw [size_of]; exact Nat.le_refl _)] at hx hq
  have hxs : x.size ≤ 10000 := by
   rw [← size_of, hx]
   have := (dbl_len (bytesOf s)).2
   rw [size_of] at this
   omega
  have hxe : x = strOfNums (dbl (bytesOf s)) := bytesOf_inj (by rw [hx, strOfNums_bytes (dbl_bytes (bytes_of s))])
  refine Ev.step (fun k => by rw [dragomanref13_Field.l0, if_neg (show ¬ (s.size : Int) < (s.size : Int) by omega)]) ?_
  by_cases hc : (bytesOf s).any odd4 = true ∨ (bytesOf s = [] ∧ al = true)
  ·have hqt : q = true := by
    rw [hq]
    rcases hc with h | ⟨h1, h2⟩
    ·rw [h]; rfl
    ·rw [decide_eq_true h1, h2]; simp
   have hz : ((⟨#[34]⟩ : ByteArray) ++ x).size = 1 + x.size := by rw [size_append']; rfl
   have hf : fieldW s al = ((⟨#[34]⟩ : ByteArray) ++ x) ++ (⟨#[34]⟩ : ByteArray) := by
    rw [hxe]
    unfold fieldW fieldL
    rw [if_pos hc]
    exact (quoted_eq s).symm
   rw [hf]
   exact Ev.congr (fun k => by rw [if_pos hqt, if_pos (show 1 + x.size ≤ 9223372036854775807 by omega), if_pos (show ((⟨#[34]⟩ : ByteArray) ++ x).size + 1 ≤ 9223372036854775807 by rw [hz]; omega)]) (Ev.now _)
  ·have hqf : ¬ q = true := by
    rw [hq]
    intro h
    rw [Bool.or_eq_true, Bool.and_eq_true, decide_eq_true_eq] at h
    exact hc h
   have hf : fieldW s al = s := by
    unfold fieldW fieldL
    rw [if_neg hc, strOfNums_of]
   rw [hf]
   exact Ev.congr (fun k => if_neg hqf) (Ev.now _)
 | n + 1, i, q, x, hi, hn, hx, hq => by
  have hlt : i < s.size := by omega
  have hbt : (bytesOf s).drop i = bt s (i : Int) :: (bytesOf s).drop (i + 1) := by
   rw [List.drop_eq_getElem_cons (by rw [size_of]; exact hlt)]
   congr 1
   rw [bt_get, Int.toNat_natCast, List.getD_eq_getElem?_getD, List.getElem?_eq_getElem (by rw [size_of]; exact hlt)]
   rfl
  have htk : (bytesOf s).take (i + 1) = (bytesOf s).take i ++ [bt s (i : Int)] := by rw [List.take_add, hbt]; rfl
  have hne : bytesOf s ≠ [] := by intro h; have := congrArg List.length h; rw [size_of, List.length_nil] at this; omega
  have hex : bytesOf (s.extract (i : Int).toNat ((i : Int) + 1).toNat) = [bt s (i : Int)] := by
   rw [bytesOf_extract, show ((i : Int) + 1).toNat = i + 1 by omega, Int.toNat_natCast, List.drop_take, hbt, Nat.add_sub_cancel_left]
   rfl
  have hez : (s.extract (i : Int).toNat ((i : Int) + 1).toNat).size = 1 := by rw [← size_of, hex]; rfl
  have hxs : x.size ≤ 10000 := by
   rw [← size_of, hx]
   have := (dbl_len ((bytesOf s).take i)).2
   rw [List.length_take, size_of] at this
   omega
  have hz1 : (x ++ (⟨#[34]⟩ : ByteArray)).size = x.size + 1 := by rw [size_append']; rfl
  have hq' : (((bytesOf s).take (i + 1)).any odd4 || (decide (bytesOf s = []) && al)) = (((bytesOf s).take i).any odd4 || odd4 (bt s (i : Int))) := by
   rw [htk, List.any_append, decide_eq_false hne]
   simp
  have hq2 : q = ((bytesOf s).take i).any odd4 := by rw [hq, decide_eq_false hne]; simp
  have hgo : ∀ (o : Bool), odd4 (bt s (i : Int)) = o → Ev (fun k => dragomanref13_Field.j2 k s q x (i : Int) (bt s (i : Int)) o) (fieldW s al) := by
   intro o ho
   have hqo : (if o = true then true else q) = (((bytesOf s).take (i + 1)).any odd4 || (decide (bytesOf s = []) && al)) := by
    rw [hq', ho, ← hq2]
    cases o <;> cases q <;> rfl
   by_cases h34 : bt s (i : Int) = 34
   ·have hrec := rfield_l0 s hs al n (i + 1) (if o = true then true else q) ((x ++ (⟨#[34]⟩ : ByteArray)) ++ (s.extract (i : Int).toNat ((i : Int) + 1).toNat)) (by omega) (by omega) (by
     rw [bytesOf_append, bytesOf_append, hx, hex, htk, dbl_append, dbl_cons, if_pos h34, h34, List.append_assoc]; rfl) hqo
    cases o with
    | true => exact Ev.step (fun k => by rw [dragomanref13_Field.j2, if_pos rfl, if_pos h34, if_pos (by omega), if_pos (show (0 : Int) ≤ (i : Int) by omega), wrap_id (show -9223372036854775808 ≤ (i : Int) + 1 by omega) (show (i : Int) + 1 < 9223372036854775808 by omega), if_pos (show (i : Int) ≤ (i : Int) + 1 by omega), if_pos (show (i : Int) + 1 ≤ (s.size : Int) by omega), if_pos (by rw [hez, hz1]; omega)]; rfl) hrec
    | false => exact Ev.step (fun k => by rw [dragomanref13_Field.j2, if_neg Bool.false_ne_true, if_pos h34, if_pos (by omega), if_pos (show (0 : Int) ≤ (i : Int) by omega), wrap_id (show -9223372036854775808 ≤ (i : Int) + 1 by omega) (show (i : Int) + 1 < 9223372036854775808 by omega), if_pos (show (i : Int) ≤ (i : Int) + 1 by omega), if_pos (show (i : Int) + 1 ≤ (s.size : Int) by omega), if_pos (by rw [hez, hz1]; omega)]; rfl) hrec
   ·have hrec := rfield_l0 s hs al n (i + 1) (if o = true then true else q) (x ++ (s.extract (i : Int).toNat ((i : Int) + 1).toNat)) (by omega) (by omega) (by
     rw [bytesOf_append, hx, hex, htk, dbl_append, dbl_cons, if_neg h34]; rfl) hqo
    cases o with
    | true => exact Ev.step (fun k => by rw [dragomanref13_Field.j2, if_pos rfl, if_neg h34, if_pos (show (0 : Int) ≤ (i : Int) by omega), wrap_id (show -9223372036854775808 ≤ (i : Int) + 1 by omega) (show (i : Int) + 1 < 9223372036854775808 by omega), if_pos (show (i : Int) ≤ (i : Int) + 1 by omega), if_pos (show (i : Int) + 1 ≤ (s.size : Int) by omega), if_pos (by rw [hez]; omega)]; rfl) hrec
    | false => exact Ev.step (fun k => by rw [dragomanref13_Field.j2, if_neg Bool.false_ne_true, if_neg h34, if_pos (show (0 : Int) ≤ (i : Int) by omega), wrap_id (show -9223372036854775808 ≤ (i : Int) + 1 by omega) (show (i : Int) + 1 < 9223372036854775808 by omega), if_pos (show (i : Int) ≤ (i : Int) + 1 by omega), if_pos (show (i : Int) + 1 ≤ (s.size : Int) by omega), if_pos (by rw [hez]; omega)]; rfl) hrec
  refine Ev.step (fun k => by rw [dragomanref13_Field.l0, if_pos (show (i : Int) < (s.size : Int) by omega), if_pos (show (0 : Int) ≤ (i : Int) by omega)]) ?_
  by_cases c1 : bt s (i : Int) = 34
  ·exact Ev.congr (fun k => if_pos c1) (hgo true (by rw [c1]; rfl))
  by_cases c2 : bt s (i : Int) = 44
  ·exact Ev.congr (fun k => by rw [if_neg c1, if_pos c2]) (hgo true (by rw [c2]; rfl))
  by_cases c3 : bt s (i : Int) = 10
  ·exact Ev.congr (fun k => by rw [if_neg c1, if_neg c2, if_pos c3]) (hgo true (by rw [c3]; rfl))
  refine Ev.congr (fun k => by rw [if_neg c1, if_neg c2, if_neg c3]) (hgo _ ?_)
  unfold odd4
  rw [beq_eq_false_iff_ne.2 c1, beq_eq_false_iff_ne.2 c2, beq_eq_false_iff_ne.2 c3]
  simp
theorem rfield_ev (s : ByteArray) (hs : s.size ≤ 5000) (al : Bool) : Ev (fun k => dragomanref13_Field.f k s al) (fieldW s al) := by
 by_cases h : s.toList = ([] : List UInt8)
 ·have hb := (toList_nil_iff s).1 h
  refine Ev.congr (fun k => by rw [dragomanref13_Field.f, if_pos h]) (Ev.step (fun k => by rw [dragomanref13_Field.j0]) ?_)
  exact rfield_l0 s hs al s.size 0 al ⟨#[]⟩ (Nat.zero_le _) rfl rfl (by rw [decide_eq_true hb]; simp)
 ·have hb : bytesOf s ≠ [] := fun e => h ((toList_nil_iff s).2 e)
  refine Ev.congr (fun k => by rw [dragomanref13_Field.f, if_neg h]) (Ev.step (fun k => by rw [dragomanref13_Field.j0]) ?_)
  exact rfield_l0 s hs al s.size 0 false ⟨#[]⟩ (Nat.zero_le _) rfl rfl (by rw [decide_eq_false hb]; simp)
end Go.Proofs.YtjmmdphkgioooaaDoor.La
end
section
namespace Go.Proofs.YtjmmdphkgioooaaDoor.La
open Go.RowKit Go.Proofs.YtjmmdphkgioooaaDoor.P Go.Proofs.YtjmmdphkgioooaaDoorW.PrintWords Go.Proofs.YtjmmdphkgioooaaDoorW.PrintLast Go.Proofs.YtjmmdphkgioooaaDoorW.PrintMore
/-- The first fields of a row, written. -/
def partL (r : List ByteArray) (i : Nat) : List Int := joinC ((r.map fun s => fieldL (bytesOf s) (r.length == 1)).take i)
theorem fieldL_max (s : ByteArray) (al : Bool) (h : s.size ≤ 5000) : (fieldL (bytesOf s) al).length ≤ 20002 := by
 have := fieldL_len (bytesOf s) al
 rw [size_of] at this
 omega
theorem partL_len (r : List ByteArray) (h : smallR r) (i : Nat) : (partL r i).length ≤ 70 * 20003 := by
 unfold partL
 have h1 := joinC_len ((r.map fun s => fieldL (bytesOf s) (r.length == 1)).take i) 20002 (fun x hx => by
  obtain ⟨s, hs, rfl⟩ := List.mem_map.1 (List.mem_of_mem_take hx)
  exact fieldL_max s _ (h.2 s hs))
 have h2 : ((r.map fun s => fieldL (bytesOf s) (r.length == 1)).take i).length ≤ 70 := by
  rw [List.length_take, List.length_map]
  have := h.1
  omega
 have h3 := Nat.mul_le_mul_right 20003 h2
 exact Nat.le_trans h1 h3
theorem rowL_len (r : List ByteArray) (h : smallR r) : (rowL r).length ≤ 70 * 20003 + 2 := by
 have h1 := partL_len r h r.length
 have e : partL r r.length = joinC (r.map fun s => fieldL (bytesOf s) (r.length == 1)) := by
  unfold partL
  rw [List.take_of_length_le (by rw [List.length_map]; exact Nat.le_refl _)]
 rw [e] at h1
 unfold rowL
 rw [List.length_append]
 exact Nat.add_le_add_right h1 2
theorem printL_len : ∀ (l : List (List ByteArray)), (∀ r ∈ l, smallR r) → (printL l).length ≤ l.length * (70 * 20003 + 2)
 | [], _ => Nat.le_refl _
 | r :: t, h => by
  have ih := printL_len t (fun x hx => h x (List.mem_cons_of_mem _ hx))
  have h1 := rowL_len r (h r List.mem_cons_self)
  have e : printL (r :: t) = rowL r ++ printL t := rfl
  rw [e, List.length_append, List.length_cons, Nat.succ_mul]
  omega
mutual
theorem rprint_l1 (l : List (List ByteArray)) (hl : small l) (d j : Nat) (hj : j < l.length) (hd : l.length - j = d + 1) : ∀ (n i : Nat) (x : ByteArray), i ≤ l[j].length → l[j].length - i = n → bytesOf x = printL (l.take j) ++ partL l[j] i →
  Ev (fun k => dragomanref13_Print.l1 k l x (j : Int) (i : Int)) (printW l)
 | n, i, x, hi, hn, hx => by
  have hsm := hl.2 _ (List.getElem_mem hj)
  have hxs : x.size ≤ 100000000 := by
   rw [← size_of, hx, List.length_append]
   have h1 := printL_len (l.take j) (fun r hr => hl.2 r (List.mem_of_mem_take hr))
   have h2 := partL_len l[j] hsm i
   have h3 : (l.take j).length ≤ 30 := by rw [List.length_take]; have := hl.1; omega
   have h4 := Nat.mul_le_mul_right (70 * 20003 + 2) h3
   omega
  have hl30 := hl.1
  have hr70 := hsm.1
  have hal : (((l[j].length : Int)) == 1) = (l[j].length == 1) := by rw [Bool.eq_iff_iff, beq_iff_eq, beq_iff_eq]; omega
  match n, hn with
  | 0, hn =>
   obtain rfl : i = l[j].length := by omega
   have hrec := rprint_l0 l hl d (j + 1) (x ++ (⟨#[13, 10]⟩ : ByteArray)) (by omega) (by omega) (by
    rw [bytesOf_append, hx, take_next l hj]
    have e : printL (l.take j ++ [l[j]]) = printL (l.take j) ++ rowL l[j] := by unfold printL; rw [List.flatMap_append, List.flatMap_cons, List.flatMap_nil, List.append_nil]
    rw [e, List.append_assoc]
    congr 1
    unfold partL rowL
    rw [List.take_of_length_le (by rw [List.length_map]; exact Nat.le_refl _)]
    rfl)
   exact Ev.step (fun k => by rw [dragomanref13_Print.l1, if_pos (show (0 : Int) ≤ (j : Int) by omega), if_pos (show (j : Int) < (l.length : Int) by omega), rd_row l hj, if_neg (show ¬ (l[j].length : Int) < (l[j].length : Int) by omega), if_pos (by omega), wrap_id (show -9223372036854775808 ≤ (j : Int) + 1 by omega) (show (j : Int) + 1 < 9223372036854775808 by omega)]; rfl) hrec
  | n + 1, hn =>
   have hlt : i < l[j].length := by omega
   have hs5 := hsm.2 _ (List.getElem_mem hlt)
   have hf := rfield_ev l[j][i] hs5 (l[j].length == 1)
   have hfs : (fieldW l[j][i] (l[j].length == 1)).size ≤ 20002 := by rw [← size_of, fieldW_bytes]; exact fieldL_max _ _ hs5
   have hget : (l[j].map fun s => fieldL (bytesOf s) (l[j].length == 1))[i]'(by rw [List.length_map]; exact hlt) = fieldL (bytesOf l[j][i]) (l[j].length == 1) := List.getElem_map _
   by_cases h0 : (i : Int) > 0
   ·have hrec := rprint_l1 l hl d j hj hd n (i + 1) ((x ++ (⟨#[44]⟩ : ByteArray)) ++ fieldW l[j][i] (l[j].length == 1)) (by omega) (by omega) (by
     rw [bytesOf_append, bytesOf_append, hx, fieldW_bytes]
     unfold partL
     rw [joinC_take _ (by omega) (by rw [List.length_map]; exact hlt), hget]
     simp [bytesOf_data])
    refine Ev.step (fun k => by rw [dragomanref13_Print.l1, if_pos (show (0 : Int) ≤ (j : Int) by omega), if_pos (show (j : Int) < (l.length : Int) by omega), rd_row l hj, if_pos (show (i : Int) < (l[j].length : Int) by omega), if_pos h0, if_pos (show x.size + 1 ≤ 9223372036854775807 by omega), if_pos (show (0 : Int) ≤ (i : Int) by omega), rd_get _ hlt, hal]) (Ev.bind hf ?_)
    refine Ev.congr (fun k => by rw [if_pos (show (x ++ (⟨#[44]⟩ : ByteArray)).size + (fieldW l[j][i] (l[j].length == 1)).size ≤ 9223372036854775807 by rw [size_append']; show x.size + 1 + _ ≤ _; omega), wrap_id (show -9223372036854775808 ≤ (i : Int) + 1 by omega) (show (i : Int) + 1 < 9223372036854775808 by omega)]; rfl) hrec
   ·obtain rfl : i = 0 := by omega
    have hrec := rprint_l1 l hl d j hj hd n (0 + 1) (x ++ fieldW l[j][0] (l[j].length == 1)) (by omega) (by omega) (by
     rw [bytesOf_append, hx, fieldW_bytes]
     have e0 : partL l[j] 0 = [] := rfl
     have e1 : partL l[j] (0 + 1) = fieldL (bytesOf l[j][0]) (l[j].length == 1) := by
      unfold partL
      rw [take_next _ (by rw [List.length_map]; exact hlt), hget]
      rfl
     rw [e0, e1, List.append_nil])
    refine Ev.step (fun k => by rw [dragomanref13_Print.l1, if_pos (show (0 : Int) ≤ (j : Int) by omega), if_pos (show (j : Int) < (l.length : Int) by omega), rd_row l hj, if_pos (show ((0 : Nat) : Int) < (l[j].length : Int) by omega), if_neg h0, if_pos (show (0 : Int) ≤ ((0 : Nat) : Int) by omega), rd_get _ hlt, hal]) (Ev.bind hf ?_)
    refine Ev.congr (fun k => by rw [if_pos (show x.size + (fieldW l[j][0] (l[j].length == 1)).size ≤ 9223372036854775807 by omega), wrap_id (show -9223372036854775808 ≤ ((0 : Nat) : Int) + 1 by omega) (show ((0 : Nat) : Int) + 1 < 9223372036854775808 by omega)]; rfl) hrec
theorem rprint_l0 (l : List (List ByteArray)) (hl : small l) : ∀ (d j : Nat) (x : ByteArray), j ≤ l.length → l.length - j = d → bytesOf x = printL (l.take j) → Ev (fun k => dragomanref13_Print.l0 k l x (j : Int)) (printW l)
 | 0, j, x, hj, hd, hx => by
  obtain rfl : j = l.length := by omega
  rw [List.take_of_length_le (Nat.le_refl _)] at hx
  have e : x = printW l := bytesOf_inj (by rw [hx, printW_bytes])
  rw [e]
  exact Ev.step (fun k => by rw [dragomanref13_Print.l0, if_neg (show ¬ (l.length : Int) < (l.length : Int) by omega)]) (Ev.now _)
 | d + 1, j, x, hj, hd, hx => by
  have hlt : j < l.length := by omega
  have h := rprint_l1 l hl d j hlt hd l[j].length 0 x (Nat.zero_le _) rfl (by rw [hx]; exact (List.append_nil _).symm)
  exact Ev.step (fun k => by rw [dragomanref13_Print.l0, if_pos (show (j : Int) < (l.length : Int) by omega)]; rfl) h
end
theorem rprint_ev (l : List (List ByteArray)) (hl : small l) : Ev (fun k => dragomanref13_Print.f k l) (printW l) :=
 Ev.congr (fun k => by rw [dragomanref13_Print.f]; rfl) (rprint_l0 l hl l.length 0 ⟨#[]⟩ (Nat.zero_le _) rfl rfl)
theorem str_ev (s : ByteArray) (hs : s.size ≤ 5000) : Ev (fun k => dragomanref1_Str.f k s) (!oddS s) := by
 by_cases h : (s.size : Int) ≤ 4096
 ·have hd : decide (4096 < s.size) = false := decide_eq_false (by omega)
  refine Ev.congr (fun k => by rw [dragomanref1_Str.f, if_pos h]) (Ev.bind (ref_valid_ev s (by omega)) ?_)
  unfold oddS
  rw [hd]
  cases bad (bytesOf s) with
  | none => exact Ev.now _
  | some p =>
   have e : decide (rbadR 0 (some p) < 0) = false := decide_eq_false (by simp [rbadR])
   rw [e]
   exact Ev.now _
 ·have hd : decide (4096 < s.size) = true := decide_eq_true (by omega)
  unfold oddS
  rw [hd, Bool.or_true]
  exact Ev.congr (fun k => by rw [dragomanref1_Str.f, if_neg h]; rfl) (Ev.now _)
/-- May a row be, if the first has c fields? -/
def okRow (c : Nat) (r : List ByteArray) : Bool := decide (1 ≤ r.length ∧ r.length ≤ 64 ∧ r.length = c) && !r.any oddS
theorem printL_size (l : List (List ByteArray)) : (printW l).size = (printL l).length := by rw [← size_of, printW_bytes]
theorem mayGo_eq (c : Nat) : ∀ (l : List (List ByteArray)) (all : Nat), all ≤ 65536 → mayGo c all l = (l.all (okRow c) && decide (all + (printL l).length ≤ 65536))
 | [], all, h => by rw [mayGo]; simp [printL, h]
 | r :: t, all, h => by
  have e : printL (r :: t) = rowL r ++ printL t := rfl
  have hz : (rowW r).size = (rowL r).length := by rw [← size_of, rowW_bytes]
  rw [mayGo, List.all_cons, e, List.length_append, hz]
  by_cases h1 : r.length < 1
  ·rw [if_pos h1]
   have : okRow c r = false := by unfold okRow; rw [decide_eq_false (by omega)]; rfl
   rw [this]; rfl
  rw [if_neg h1]
  by_cases h2 : 64 < r.length
  ·rw [if_pos h2]
   have : okRow c r = false := by unfold okRow; rw [decide_eq_false (by omega)]; rfl
   rw [this]; rfl
  rw [if_neg h2]
  by_cases h3 : r.length ≠ c
  ·rw [if_pos h3]
   have : okRow c r = false := by unfold okRow; rw [decide_eq_false (by omega)]; rfl
   rw [this]; rfl
  rw [if_neg h3]
  by_cases h4 : r.any oddS = true
  ·rw [if_pos h4]
   have : okRow c r = false := by unfold okRow; rw [h4]; simp
   rw [this]; rfl
  rw [if_neg h4]
  have hok : okRow c r = true := by
   unfold okRow
   rw [decide_eq_true (by omega), show r.any oddS = false from Bool.eq_false_iff.2 h4]
   rfl
  rw [hok, Bool.true_and]
  by_cases h5 : 65536 < all + (rowL r).length
  ·rw [if_pos h5, decide_eq_false (by omega), Bool.and_false]
  ·rw [if_neg h5, mayGo_eq c t (all + (rowL r).length) (by omega)]
   congr 1
   rw [decide_eq_decide]
   omega
end Go.Proofs.YtjmmdphkgioooaaDoor.La
end
section
namespace Go.Proofs.YtjmmdphkgioooaaDoor.La
open Go.RowKit Go.Proofs.YtjmmdphkgioooaaDoor.P Go.Proofs.YtjmmdphkgioooaaDoorW.PrintWords Go.Proofs.YtjmmdphkgioooaaDoorW.PrintLast Go.Proofs.YtjmmdphkgioooaaDoorW.PrintMore
def firstC (l : List (List ByteArray)) : Nat := (l.headD []).length
def mayB (l : List (List ByteArray)) : Bool := l.all (okRow (firstC l)) && decide ((printL l).length ≤ 65536)
theorem mayR_eq (l : List (List ByteArray)) (hl : l.length ≤ 513) : mayR l = mayB l := by
 unfold mayR mayB firstC
 rw [if_neg (by omega), mayGo_eq _ _ _ (Nat.zero_le _), Nat.zero_add]
theorem mayB_false {l : List (List ByteArray)} {r : List ByteArray} (hr : r ∈ l) (h : okRow (firstC l) r = false) : mayB l = false := by
 unfold mayB
 have : l.all (okRow (firstC l)) = false := by
  rw [← Bool.not_eq_true, List.all_eq_true]
  intro h2
  rw [h2 r hr] at h
  cases h
 rw [this]; rfl
theorem firstC_get (l : List (List ByteArray)) (h : 0 < l.length) : (l[0]'h).length = firstC l := by
 cases l with
 | nil => simp at h
 | cons a b => rfl
theorem rm_j1 (l : List (List ByteArray)) (j : Int) : Ev (fun k => dragomanref13_May.j1 k l j true) false := Ev.step (fun k => by rw [dragomanref13_May.j1, if_pos rfl]) (Ev.now _)
mutual
theorem rm_l1 (l : List (List ByteArray)) (hl : small l) (d j : Nat) (hj : j < l.length) (hd : l.length - j = d + 1) (hp : ∀ r ∈ l.take j, okRow (firstC l) r = true) (h1 : 1 ≤ l[j].length) (h2 : l[j].length ≤ 64) (h3 : l[j].length = firstC l) :
  ∀ (n i : Nat), i ≤ l[j].length → l[j].length - i = n → (l[j].take i).any oddS = false → Ev (fun k => dragomanref13_May.l1 k l (j : Int) (i : Int)) (mayB l)
 | 0, i, hi, hn, hs => by
  obtain rfl : i = l[j].length := by omega
  rw [List.take_of_length_le (Nat.le_refl _)] at hs
  have hl30 := hl.1
  have hrec := rm_l0 l hl d (j + 1) (by omega) (by omega) (by
   intro r hr
   rw [take_next l hj] at hr
   rcases List.mem_append.1 hr with hr | hr
   ·exact hp r hr
   ·rw [List.mem_singleton.1 hr]
    unfold okRow
    rw [decide_eq_true (by omega), hs]
    rfl)
  exact Ev.step (fun k => by rw [dragomanref13_May.l1, if_pos (show (0 : Int) ≤ (j : Int) by omega), if_pos (show (j : Int) < (l.length : Int) by omega), rd_row l hj, if_neg (show ¬ (l[j].length : Int) < (l[j].length : Int) by omega), wrap_id (show -9223372036854775808 ≤ (j : Int) + 1 by omega) (show (j : Int) + 1 < 9223372036854775808 by omega)]; rfl) hrec
 | n + 1, i, hi, hn, hs => by
  have hlt : i < l[j].length := by omega
  have hs5 := (hl.2 _ (List.getElem_mem hj)).2 _ (List.getElem_mem hlt)
  refine Ev.step (fun k => by rw [dragomanref13_May.l1, if_pos (show (0 : Int) ≤ (j : Int) by omega), if_pos (show (j : Int) < (l.length : Int) by omega), rd_row l hj, if_pos (show (i : Int) < (l[j].length : Int) by omega), if_pos (show (0 : Int) ≤ (i : Int) by omega), rd_get _ hlt, wrap_id (show -9223372036854775808 ≤ (i : Int) + 1 by omega) (show (i : Int) + 1 < 9223372036854775808 by omega)]) (Ev.bind (str_ev _ hs5) ?_)
  cases ho : oddS l[j][i] with
  | true =>
   have hany : l[j].any oddS = true := List.any_eq_true.2 ⟨_, List.getElem_mem hlt, ho⟩
   rw [mayB_false (List.getElem_mem hj) (by unfold okRow; rw [hany]; simp)]
   exact Ev.congr (fun k => if_neg (by simp)) (Ev.now _)
  | false =>
   have hrec := rm_l1 l hl d j hj hd hp h1 h2 h3 n (i + 1) (by omega) (by omega) (by
    rw [take_next _ hlt, List.any_append, hs]
    simp [ho])
   exact Ev.congr (fun k => if_pos (by simp)) hrec
theorem rm_l0 (l : List (List ByteArray)) (hl : small l) : ∀ (d j : Nat), j ≤ l.length → l.length - j = d → (∀ r ∈ l.take j, okRow (firstC l) r = true) → Ev (fun k => dragomanref13_May.l0 k l (j : Int)) (mayB l)
 | 0, j, hj, hd, hp => by
  obtain rfl : j = l.length := by omega
  rw [List.take_of_length_le (Nat.le_refl _)] at hp
  refine Ev.step (fun k => by rw [dragomanref13_May.l0, if_neg (show ¬ (l.length : Int) < (l.length : Int) by omega)]) (Ev.bind (rprint_ev l hl) ?_)
  have e : mayB l = decide (((printW l).size : Int) ≤ 65536) := by
   unfold mayB
   rw [List.all_eq_true.2 hp, Bool.true_and, printL_size, decide_eq_decide]
   omega
  rw [e]
  exact Ev.now _
 | d + 1, j, hj, hd, hp => by
  have hlt : j < l.length := by omega
  refine Ev.step (fun k => by rw [dragomanref13_May.l0, if_pos (show (j : Int) < (l.length : Int) by omega), if_pos (show (0 : Int) ≤ (j : Int) by omega), rd_row l hlt, show ((0 : Int)) = ((0 : Nat) : Int) from rfl, rd_row l (show 0 < l.length by omega)]) ?_
  by_cases c1 : l[j].length < 1
  ·rw [mayB_false (List.getElem_mem hlt) (by unfold okRow; rw [decide_eq_false (by omega)]; rfl)]
   exact Ev.congr (fun k => if_pos (by omega)) (rm_j1 _ _)
  refine Ev.congr (fun k => if_neg (by omega)) ?_
  by_cases c2 : 64 < l[j].length
  ·rw [mayB_false (List.getElem_mem hlt) (by unfold okRow; rw [decide_eq_false (by omega)]; rfl)]
   exact Ev.congr (fun k => if_pos (by omega)) (rm_j1 _ _)
  refine Ev.congr (fun k => by rw [if_neg (by omega), if_pos (by omega), firstC_get l (by omega)]) ?_
  by_cases c3 : l[j].length = firstC l
  ·have e : (((l[j].length : Nat) : Int) != ((firstC l : Nat) : Int)) = false := bne_eq_false_iff_eq.2 (by rw [c3])
   rw [e]
   refine Ev.step (fun k => by rw [dragomanref13_May.j1, if_neg Bool.false_ne_true]) ?_
   exact rm_l1 l hl d j hlt hd hp (by omega) (by omega) c3 l[j].length 0 (Nat.zero_le _) rfl rfl
  ·have e : (((l[j].length : Nat) : Int) != ((firstC l : Nat) : Int)) = true := bne_iff_ne.2 (by omega)
   rw [e, mayB_false (List.getElem_mem hlt) (by unfold okRow; rw [decide_eq_false (by omega)]; rfl)]
   exact rm_j1 _ _
end
theorem rmay_ev (l : List (List ByteArray)) (hl : small l) : Ev (fun k => dragomanref13_May.f k l) (mayR l) := by
 have h30 := hl.1
 rw [mayR_eq l (by omega)]
 refine Ev.congr (fun k => by rw [dragomanref13_May.f, if_neg (show ¬ (l.length : Int) > 513 by omega)]) ?_
 exact rm_l0 l hl l.length 0 (Nat.zero_le _) rfl (fun r hr => by cases hr)
end Go.Proofs.YtjmmdphkgioooaaDoor.La
end
section
namespace Go.Proofs.YtjmmdphkgioooaaDoor.Pure
open Go.RowKit Go.Proofs.YtjmmdphkgioooaaDoor.P Go.Proofs.YtjmmdphkgioooaaDoorW.PrintWords Go.Proofs.YtjmmdphkgioooaaDoorW.PrintLast
theorem awake14 : dragomanlaw14_awake.f = some true := by decide +kernel
end Go.Proofs.YtjmmdphkgioooaaDoor.Pure
end
section
namespace Go.Proofs.YtjmmdphkgioooaaDoor.Pure
open Go.RowKit Go.Proofs.YtjmmdphkgioooaaDoor.P Go.Proofs.YtjmmdphkgioooaaDoor.La Go.Proofs.YtjmmdphkgioooaaDoorW.PrintWords Go.Proofs.YtjmmdphkgioooaaDoorW.PrintLast Go.Proofs.YtjmmdphkgioooaaDoorW.PrintMore
theorem field_f (s : ByteArray) (h : s.size ≤ 10000) (al : Bool) : cprint_Field.f s al = some (fieldW s al) := if_pos h
theorem print_f {l : List (List ByteArray)} (h : fits l) : cprint_Print.f l = some (printW l) := if_pos h
theorem may_f {l : List (List ByteArray)} (h : fits l) : cprint_May.f l = some (mayR l) := if_pos h
mutual
theorem cs_l1 (l : List (List ByteArray)) (hl : small l) (d j : Nat) (hj : j < l.length) (hd : l.length - j = d + 1) : ∀ (n i : Nat), i ≤ l[j].length → l[j].length - i = n → Ev (fun k => dragomanlaw14_CprintSays.l1 k l (j : Int) (i : Int)) true
 | 0, i, hi, hn => by
  obtain rfl : i = l[j].length := by omega
  have hl30 := hl.1
  have hrec := cs_l0 l hl d (j + 1) (by omega) (by omega)
  exact Ev.step (fun k => by rw [dragomanlaw14_CprintSays.l1, if_pos (show (0 : Int) ≤ (j : Int) by omega), if_pos (show (j : Int) < (l.length : Int) by omega), rd_row l hj, if_neg (show ¬ (l[j].length : Int) < (l[j].length : Int) by omega), wrap_id (show -9223372036854775808 ≤ (j : Int) + 1 by omega) (show (j : Int) + 1 < 9223372036854775808 by omega)]; rfl) hrec
 | n + 1, i, hi, hn => by
  have hlt : i < l[j].length := by omega
  have hs := hl.2 _ (List.getElem_mem hj)
  have hs70 := hs.1
  have hs5 := hs.2 _ (List.getElem_mem hlt)
  have hrec := cs_l1 l hl d j hj hd n (i + 1) (by omega) (by omega)
  refine Ev.step (fun k => by rw [dragomanlaw14_CprintSays.l1, if_pos (show (0 : Int) ≤ (j : Int) by omega), if_pos (show (j : Int) < (l.length : Int) by omega), rd_row l hj, if_pos (show (i : Int) < (l[j].length : Int) by omega), if_pos (show (0 : Int) ≤ (i : Int) by omega), rd_get _ hlt, field_f _ (by omega), Option.bind_some]) (Ev.bind (rfield_ev _ hs5 _) ?_)
  exact Ev.congr (fun k => by rw [if_pos rfl, wrap_id (show -9223372036854775808 ≤ (i : Int) + 1 by omega) (show (i : Int) + 1 < 9223372036854775808 by omega)]; rfl) hrec
theorem cs_l0 (l : List (List ByteArray)) (hl : small l) : ∀ (d j : Nat), j ≤ l.length → l.length - j = d → Ev (fun k => dragomanlaw14_CprintSays.l0 k l (j : Int)) true
 | 0, j, hj, hd => by
  obtain rfl : j = l.length := by omega
  have hf := small_fits hl
  refine Ev.step (fun k => by rw [dragomanlaw14_CprintSays.l0, if_neg (show ¬ (l.length : Int) < (l.length : Int) by omega), print_f hf, Option.bind_some]) (Ev.bind (rprint_ev l hl) ?_)
  refine Ev.congr (fun k => by rw [if_pos rfl, may_f hf, Option.bind_some]) (Ev.bind (rmay_ev l hl) ?_)
  rw [beq_self_eq_true]
  exact Ev.now _
 | d + 1, j, hj, hd => by
  have hlt : j < l.length := by omega
  exact Ev.step (fun k => by rw [dragomanlaw14_CprintSays.l0, if_pos (show (j : Int) < (l.length : Int) by omega)]; rfl) (cs_l1 l hl d j hlt hd l[j].length 0 (Nat.zero_le _) rfl)
end
theorem CprintSays (l : List (List ByteArray)) : ∃ k, dragomanlaw14_CprintSays.f k l = some true := by
 apply Ev.rounds
 refine Ev.congr (fun k => by rw [dragomanlaw14_CprintSays.f, awake14, Option.bind_some, if_pos rfl]) ?_
 rcases great_ev l with h | ⟨h, hs⟩
 ·exact Ev.bind h (Ev.congr (fun k => if_pos rfl) (Ev.now _))
 ·exact Ev.bind h (Ev.congr (fun k => by rw [if_neg Bool.false_ne_true]; rfl) (cs_l0 l hs l.length 0 (Nat.zero_le _) rfl))
end Go.Proofs.YtjmmdphkgioooaaDoor.Pure
end
section
namespace Go.Proofs.YtjmmdphkgioooaaDoor.La
open Go.ChangeShapes Go.WideShapes Go.RowKit Go.Proofs.YtjmmdphkgioooaaDoorW.PrintWords Go.Proofs.YtjmmdphkgioooaaDoorW.PrintLast Go.Proofs.YtjmmdphkgioooaaDoorW.PrintMore
variable {H : Type} {enc : TypeId × Value → H} {P : Program} {w : World} {base : Nat} {held : Bool}
/-- One row. -/
theorem open_strs {t s : TypeId} {fuel : Nat} {cs : List Value} {x : DataW H × List MemPlace} (ht : P.underlying t = some (.slice s)) (hs : P.underlying s = some .string) (hc : P.cellsOf s = 1)
  (h : DataW.trod enc P w base (fun _ => true) held fuel t cs = some x) : ∃ (r : List ByteArray) (A : Option Addr) (c : Nat), cs = [.slice A r.length c] ∧ r.length ≤ c ∧ Kd.C Kd.string w A r.length r := by
 rcases open_strings ht hs hc h with ⟨hcs, _⟩ | ⟨a, len, cap, ss, hcs, _, hl, hm, hz, _, hcell, hwz⟩
 ·exact ⟨[], none, 0, hcs, Nat.le_refl _, Kd.C_nil _ _⟩
 ·have hz' : ss.length = cap := by simpa using hz
  have hlen : (ss.take len).length = len := by rw [List.length_take]; omega
  have hmax : maxLen ≤ 9223372036854775807 := by decide
  refine ⟨ss.take len, some a, cap, by rw [hlen]; exact hcs, by rw [hlen]; exact hl, ?_⟩
  refine Kd.C_of_reads (d := ByteArray.empty) ⟨rfl, by omega, fun _ => ⟨_, rfl, fun j hj => ?_⟩⟩
  rw [hcell j (by omega), List.getD_eq_getElem?_getD, List.getD_eq_getElem?_getD, List.getElem?_take_of_lt (by omega)]
/-- The rows. -/
theorem open_rows {t e s : TypeId} {fuel : Nat} {cs : List Value} {x : DataW H × List MemPlace} (ht : P.underlying t = some (.slice e)) (he : P.underlying e = some (.slice s)) (hs : P.underlying s = some .string) (hce : P.cellsOf e = 1) (hcs1 : P.cellsOf s = 1)
  (h : DataW.trod enc P w base (fun _ => true) held fuel t cs = some x) : ∃ (l : List (List ByteArray)) (A : Option Addr) (c : Nat), cs = [.slice A l.length c] ∧ l.length ≤ c ∧ Kd.C (Kd.slice s Kd.string) w A l.length l := by
 rcases DataW.trod_slice ht h with ⟨rfl, _⟩ | ⟨a, len, cap, elems, rest, n, _, rfl, rfl, hb, hl, hm, hlen, hel, hsp, hns⟩
 ·exact ⟨[], none, 0, rfl, Nat.le_refl _, Kd.C_nil _ _⟩
 ·have each : ∀ i, ∃ r : List ByteArray, i < len → ∃ (A : Option Addr) (c : Nat), w.cell? (a.add i) = some (.slice A r.length c) ∧ r.length ≤ c ∧ Kd.C Kd.string w A r.length r := by
   intro i
   by_cases hi : i < len
   ·obtain ⟨y, hy⟩ : ∃ y, elems[i]? = some y := ⟨elems[i]'(by omega), List.getElem?_eq_getElem (by omega)⟩
    have hb' := hel i hi
    rw [hy, hce, Nat.mul_one, Option.bind_eq_some_iff] at hb'
    obtain ⟨cs', hcs', hy'⟩ := hb'
    obtain ⟨r, A, c, rfl, hrc, hC⟩ := open_strs he hs hcs1 hy'
    exact ⟨r, fun _ => ⟨A, c, cell_of_cells?_one hcs', hrc, hC⟩⟩
   ·exact ⟨[], fun h => absurd h hi⟩
  obtain ⟨f, hf⟩ := Classical.axiomOfChoice each
  have hml : ((List.range len).map f).length = len := by rw [List.length_map, List.length_range]
  have hmax : maxLen ≤ 9223372036854775807 := by decide
  refine ⟨(List.range len).map f, some a, cap, by rw [hml], by rw [hml]; exact hl, rfl, by omega, fun _ => ⟨a, rfl, fun j p hj => ?_⟩⟩
  rw [List.getElem?_map] at hj
  obtain ⟨k, hk, rfl⟩ := Option.map_eq_some_iff.1 hj
  have hjl : j < len := by
   rcases Nat.lt_or_ge j len with h | h
   ·exact h
   ·rw [List.getElem?_eq_none (by rw [List.length_range]; exact h)] at hk; cases hk
  rw [List.getElem?_range hjl] at hk
  obtain rfl := Option.some.inj hk
  obtain ⟨A, c, hcell, hrc, hC⟩ := hf j hjl
  refine ⟨[.slice A (f j).length c], rfl, ⟨A, c, rfl, hrc, hC⟩, fun i u hu => ?_⟩
  match i, hu with
  | 0, hu =>
   obtain rfl := Option.some.inj hu
   show w.cell? (a.add (j * 1 + 0)) = _
   rw [Nat.mul_one, Nat.add_zero]
   exact hcell
end Go.Proofs.YtjmmdphkgioooaaDoor.La
end
