/- The parts of this claim's proof, in one text: what each Go function answers and that its call comes to it; plain facts of lists of numbers. Conditions as each theorem names them. -/
import Derived.ArgAppend
import Derived.Below
import Derived.BigCall
import Derived.BigQuiet
import Derived.Deep.AppendLies
import Derived.Deep.CutBlock
import Derived.Deep.DeepCutAuto
import Derived.Deep.Draws
import Derived.Deep.LoopGhost
import Derived.Deep.OwnRows
import Derived.Deep.QuietTactic
import Derived.Deep.RegionHeld3
import Derived.Deep.RegionWith
import Derived.Defers
import Derived.KernelRfl
import Derived.Laws.BitsLemmas
import Derived.Laws.BytesArg
import Derived.Laws.IdiomCopy
import Derived.Laws.MakeOwn
import Derived.Laws.OwnMore
import Derived.Laws.RangeAny
import Derived.Laws.Rows
import Derived.Laws.Runes
import Derived.Laws.Slices
import Derived.Lib.AppendStr
import Derived.Lib.Bytealg
import Derived.Lib.Bytes
import Derived.Lib.ConvBytes
import Derived.Lib.Hide
import Derived.Maps.AppendAt
import Derived.OrdersHeld
import Derived.Outline
import Derived.OwnWalk
import Derived.Recover
import Derived.RowKit
import Derived.RowKit3
import Derived.Shelf.LaysM
import Derived.Shelf.Small.Strs
import Derived.Shelf.Small.Utf8
import Derived.Shelf.Strings.AsciiSet
import Derived.Shelf.Strings.Builder1
import Derived.Shelf.Strings.BuilderF
import Derived.Shelf.Strings.BuilderK
import Derived.Shelf.Strings.Count
import Derived.Shelf.Strings.IndexAny
import Derived.Shelf.Strings.IndexAnyAll
import Derived.Shelf.Strings.Prefix
import Derived.Shelf.Strings.Runes
import Derived.Shelf.Strings.Search1
import Derived.Shelf.Strings.Search2
import Derived.Shelf.Strings.Search3
import Derived.Shelf.Strings.Shaped
import Derived.Shelf.Strings.Split
import Derived.Tactics
import Derived.Tactics2
import Derived.WalkKit
import Derived.WalkSmall
import Derived.WideLaws
import Derived.Test.YtjmmdphkgioooaaProg
import Derived.Test.YtjmmdphkgioooaaWApart
import Derived.Test.YtjmmdphkgioooaaWArr
import Derived.Test.YtjmmdphkgioooaaWAt
import Derived.Test.YtjmmdphkgioooaaWEqStruct
import Derived.Test.YtjmmdphkgioooaaWFoot
import Derived.Test.YtjmmdphkgioooaaWFootNe
import Derived.Test.YtjmmdphkgioooaaWFour
import Derived.Test.YtjmmdphkgioooaaWGuard
import Derived.Test.YtjmmdphkgioooaaWInv
import Derived.Test.YtjmmdphkgioooaaWInvWords
import Derived.Test.YtjmmdphkgioooaaWKept
import Derived.Test.YtjmmdphkgioooaaWLast
import Derived.Test.YtjmmdphkgioooaaWMake0
import Derived.Test.YtjmmdphkgioooaaWMore
import Derived.Test.YtjmmdphkgioooaaWN
import Derived.Test.YtjmmdphkgioooaaWNEv
import Derived.Test.YtjmmdphkgioooaaWQPut
import Derived.Test.YtjmmdphkgioooaaWRepsOne
import Derived.Test.YtjmmdphkgioooaaWShare
import Derived.Test.YtjmmdphkgioooaaWTab
import Derived.Test.YtjmmdphkgioooaaWWords
import Derived.Test.YtjmmdphkgioooaaWZeros
import Derived.Test.YtjmmdphkgioooaaMCreadSays1
section
namespace Go.Proofs.Ytjmmdphkgioooaa.P
open Go.RowKit Go.Proofs.YtjmmdphkgioooaaW.PrintWords Go.Proofs.YtjmmdphkgioooaaW.PrintLast Go.Proofs.YtjmmdphkgioooaaW.PrintMore
attribute [local go_sem] max2_int min2_int max_two min_two max_three min_three max_four min_four   -- for this text's walks alone
set_option linter.unusedVariables false
set_option linter.unusedSimpArgs false
/-! ### dragomanref1_Take: function 24 -/
mutual
def dragomanref1_Take.j3 : Nat → ByteArray → Int → Int → Option (Int × Int)
 | 0, _, _, _ => none
 | k + 1, x0, x5, x6 => if (x0.size : Int) < x5 then (some (0, 0)) else (dragomanref1_Take.l0 k x0 x5 x6 1)
def dragomanref1_Take.l0 : Nat → ByteArray → Int → Int → Int → Option (Int × Int)
 | 0, _, _, _, _ => none
 | k + 1, x0, x5, x6, x7 => if x7 < x5 then (if 0 ≤ x7 then (if x7 < (x0.size : Int) then (if (bt x0 x7) < 128 then (some (0, 0)) else (if (bt x0 x7) > 191 then (some (0, 0)) else (dragomanref1_Take.l0 k x0 x5 (wrap64 ((wrap64 ((wrap64 (64 * x6)) + (wrap64 (bt x0 x7)))) - 128)) (wrap64 (x7 + 1))))) else (none)) else (none)) else ((dragomanref1_Put.f x6).bind fun t246 => (if 0 ≤ x5 then (if x5 ≤ (x0.size : Int) then (if t246.toList = (x0.extract 0 (x5 : Int).toNat).toList then (some (x6, x5)) else (some (0, 0))) else (none)) else (none)))
def dragomanref1_Take.j0 : Nat → ByteArray → Int → Int → Int → Bool → Option (Int × Int)
 | 0, _, _, _, _, _ => none
 | k + 1, x0, x4, x5, x6, x14 => if x14 = true then (dragomanref1_Take.j3 k x0 4 (wrap64 (x4 - 240))) else (if x4 ≥ 224 then (dragomanref1_Take.j1 k x0 x4 x5 x6 (decide (x4 < 240))) else (dragomanref1_Take.j1 k x0 x4 x5 x6 false))
def dragomanref1_Take.j1 : Nat → ByteArray → Int → Int → Int → Bool → Option (Int × Int)
 | 0, _, _, _, _, _ => none
 | k + 1, x0, x4, x5, x6, x23 => if x23 = true then (dragomanref1_Take.j3 k x0 3 (wrap64 (x4 - 224))) else (if x4 ≥ 192 then (dragomanref1_Take.j2 k x0 x4 x5 x6 (decide (x4 < 224))) else (dragomanref1_Take.j2 k x0 x4 x5 x6 false))
def dragomanref1_Take.j2 : Nat → ByteArray → Int → Int → Int → Bool → Option (Int × Int)
 | 0, _, _, _, _, _ => none
 | k + 1, x0, x4, x5, x6, x32 => if x32 = true then (dragomanref1_Take.j3 k x0 2 (wrap64 (x4 - 192))) else (if x4 ≥ 128 then (some (0, 0)) else (dragomanref1_Take.j3 k x0 x5 x6))
end
def dragomanref1_Take.f (k : Nat) (a0 : ByteArray) : Option (Int × Int) := if a0.toList = ([] : List UInt8) then (some (0, 0)) else (if 0 < (a0.size : Int) then (if (wrap64 (bt a0 0)) ≥ 240 then (dragomanref1_Take.j0 k a0 (wrap64 (bt a0 0)) 1 (wrap64 (bt a0 0)) (decide ((wrap64 (bt a0 0)) < 248))) else (dragomanref1_Take.j0 k a0 (wrap64 (bt a0 0)) 1 (wrap64 (bt a0 0)) false)) else (none))
set_option maxHeartbeats 8000000 in
set_option maxRecDepth 100000 in
theorem dragomanref1_Take.calls (k : Nat) (a0 : ByteArray) (r1 : Int) (r2 : Int) (w : World) (h : dragomanref1_Take.f k a0 = some (r1, r2)) :
  Calls Try.prog 24 #[.string a0] w fun e w' => e = .returned (.tuple #[.int .i64 r1, .int .i64 r2]) ∧ Below w.heap.size w w' := by
 have HB := Aside0.mk (Below.refl w.heap.size w)
 have H : (if a0.toList = ([] : List UInt8) then (some (0, 0)) else (if 0 < (a0.size : Int) then (if (wrap64 (bt a0 0)) ≥ 240 then (dragomanref1_Take.j0 k a0 (wrap64 (bt a0 0)) 1 (wrap64 (bt a0 0)) (decide ((wrap64 (bt a0 0)) < 248))) else (dragomanref1_Take.j0 k a0 (wrap64 (bt a0 0)) 1 (wrap64 (bt a0 0)) false)) else (none))) = some (r1, r2) := h
 clear h
 by_cases c2 : a0.toList = ([] : List UInt8)
 ·rw [if_pos c2] at H
  have c2b0 : (a0.toList == ([] : List UInt8)) = true := beq_iff_eq.mpr c2
  have c2b1 : (a0.toList != ([] : List UInt8)) = false := bne_eq_false_iff_eq.mpr c2
  clear c2
  simp only [Option.some.injEq, Prod.mk.injEq] at H
  obtain ⟨rfl, rfl⟩ := H
  go_enter Try.func24, Try.ntmps24
  go_wp2
  go_ret2
  exact ⟨by first | rfl | (simp [errW_none, errW_some] <;> rfl) | (simp [*, errW_none, errW_some, bne]; done) | (simp [*, errW_none, errW_some] <;> rfl), by repeat (first | (with_reducible first | exact HB.out | apply below_alloc | apply pw_below_drewN | apply below_drew1) | exact HB.out)⟩
 ·rw [if_neg c2] at H
  have c2b0 : (a0.toList == ([] : List UInt8)) = false := beq_eq_false_iff_ne.mpr c2
  have c2b1 : (a0.toList != ([] : List UInt8)) = true := bne_iff_ne.mpr c2
  by_cases c3 : 0 < (a0.size : Int)
  ·rw [if_pos c3] at H
   have c3b0 : decide (0 < (a0.size : Int)) = true := decide_eq_true c3
   have c3b1 : decide (0 < a0.size) = true := decide_eq_true (by omega)
   clear c3
   have HC5 := Aside0.mk H
   clear H
   have p4 : 0 ≤ (0 : Int) := (by omega)
   have q4 : 0 < a0.size := (by have : (0 : Int) < (a0.size : Int) := of_decide_eq_true (by first | (with_reducible assumption) | assumption); omega)
   have hx4 : ∀ h : 0 < a0.size, ((a0[0]'h).toNat : Int) = bt a0 0 := bt_at a0 0
   clear p4
   have qi4 : (0 < (a0.size : Int)) = True := eq_true (of_decide_eq_true (by first | (with_reducible assumption) | assumption))
   replace q4 := eq_true q4
   go_enter Try.func24, Try.ntmps24
   go_upto_block 0 with (fail)
   go_cut [5, 6] (fun v5 v6 wc => ∃ (kq : Nat) (x5_4 : Int) (x6_4 : Int), v5 = .int .i64 x5_4 ∧ v6 = .int .i64 x6_4 ∧ Aside0 (dragomanref1_Take.j3 kq a0 x5_4 x6_4 = some (r1, r2)) ∧ Aside0 (kq ≤ k) ∧ Aside0 (Below w.heap.size w wc))
   case first =>
    have H := HC5.out
    clear HC5
    have HC6 := Aside0.mk H
    clear H
    go_upto_region 5 with (fail)
    go_cut [14] (fun v14 wc => ∃ (kq : Nat) (x14_5 : Bool), v14 = .bool x14_5 ∧ Aside0 (dragomanref1_Take.j0 kq a0 (wrap64 (bt a0 0)) 1 (wrap64 (bt a0 0)) x14_5 = some (r1, r2)) ∧ Aside0 (kq ≤ k) ∧ Aside0 (Below w.heap.size w wc))
    case first =>
     have H := HC6.out
     clear HC6
     by_cases c7 : (wrap64 (bt a0 0)) ≥ 240
     ·rw [if_pos c7] at H
      have c7b0 : decide (240 ≤ (wrap64 (bt a0 0))) = true := decide_eq_true c7
      clear c7
      (first | rw [c7b0] | (simp only [i64_w, i32_w]; rw [c7b0]) | skip)
      have H' := Aside0.mk H
      clear H
      go_wp2
      go_meet
      case rel => exact ⟨_, (decide ((wrap64 (bt a0 0)) < 248)), (by first | rfl | (simp; done) | (simp [*]; done)), H', ⟨by first | omega | exact Nat.le_refl _⟩, ⟨by repeat (first | (with_reducible first | exact HB.out | apply below_alloc | apply pw_below_drewN | apply below_drew1) | exact HB.out)⟩⟩
     ·rw [if_neg c7] at H
      have c7b0 : decide (240 ≤ (wrap64 (bt a0 0))) = false := decide_eq_false c7
      clear c7
      (first | rw [c7b0] | (simp only [i64_w, i32_w]; rw [c7b0]) | skip)
      have H' := Aside0.mk H
      clear H
      go_wp2
      go_meet
      case rel => exact ⟨_, (false), (by first | rfl | (simp; done) | (simp [*]; done)), H', ⟨by first | omega | exact Nat.le_refl _⟩, ⟨by repeat (first | (with_reducible first | exact HB.out | apply below_alloc | apply pw_below_drewN | apply below_drew1) | exact HB.out)⟩⟩
    case rest =>
     clear HC6
     try clear c2
     try clear c2b0
     try clear c2b1
     try clear p2
     try clear c3
     try clear c3b0
     try clear c3b1
     try clear p4
     try clear q4
     try clear hx4
     try clear qi4
     try clear p6
     try clear c7
     try clear c7b0
     try clear p4
     try clear q4
     obtain ⟨kq, x14_5, rfl, HA, HJ5, HB⟩ := hcut
     cases kq with
     | zero => exact absurd HA.out (by simp [dragomanref1_Take.j0])
     | succ kj5 =>
      have H := HA.out
      clear HA
      simp only [dragomanref1_Take.j0] at H
      by_cases c8 : x14_5 = true
      ·subst c8
       have H1 : (dragomanref1_Take.j3 kj5 a0 4 (wrap64 ((wrap64 (bt a0 0)) - 240))) = some (r1, r2) := by rw [if_pos rfl] at H; exact H
       clear H
       have H := H1
       clear H1
       have H' := Aside0.mk H
       clear H
       go_wp2
       go_meet
       case rel => exact ⟨_, (4), (wrap64 ((wrap64 (bt a0 0)) - 240)), (by first | rfl | (simp; done) | (simp [*]; done)), (by first | rfl | (simp; done) | (simp [*]; done)), H', ⟨by have := HJ5.out; first | omega | exact Nat.le_refl _⟩, ⟨by repeat (first | (with_reducible first | exact HB.out | apply below_alloc | apply pw_below_drewN | apply below_drew1) | exact HB.out)⟩⟩
      ·replace c8 := Bool.eq_false_iff.mpr c8
       subst c8
       have H1 : (if (wrap64 (bt a0 0)) ≥ 224 then (dragomanref1_Take.j1 kj5 a0 (wrap64 (bt a0 0)) 1 (wrap64 (bt a0 0)) (decide ((wrap64 (bt a0 0)) < 240))) else (dragomanref1_Take.j1 kj5 a0 (wrap64 (bt a0 0)) 1 (wrap64 (bt a0 0)) false)) = some (r1, r2) := by rw [if_neg (show ¬ (false = true) by decide)] at H; exact H
       clear H
       have H := H1
       clear H1
       have HC9 := Aside0.mk H
       clear H
       go_upto_region 7 with (fail)
       go_cut [23] (fun v23 wc => ∃ (kq : Nat) (x23_8 : Bool), v23 = .bool x23_8 ∧ Aside0 (dragomanref1_Take.j1 kq a0 (wrap64 (bt a0 0)) 1 (wrap64 (bt a0 0)) x23_8 = some (r1, r2)) ∧ Aside0 (kq ≤ kj5) ∧ Aside0 (Below w.heap.size w wc))
       case first =>
        have H := HC9.out
        clear HC9
        by_cases c10 : (wrap64 (bt a0 0)) ≥ 224
        ·rw [if_pos c10] at H
         have c10b0 : decide (224 ≤ (wrap64 (bt a0 0))) = true := decide_eq_true c10
         clear c10
         (first | rw [c10b0] | (simp only [i64_w, i32_w]; rw [c10b0]) | skip)
         have H' := Aside0.mk H
         clear H
         go_wp2
         go_meet
         case rel => exact ⟨_, (decide ((wrap64 (bt a0 0)) < 240)), (by first | rfl | (simp; done) | (simp [*]; done)), H', ⟨by have := HJ5.out; first | omega | exact Nat.le_refl _⟩, ⟨by repeat (first | (with_reducible first | exact HB.out | apply below_alloc | apply pw_below_drewN | apply below_drew1) | exact HB.out)⟩⟩
        ·rw [if_neg c10] at H
         have c10b0 : decide (224 ≤ (wrap64 (bt a0 0))) = false := decide_eq_false c10
         clear c10
         (first | rw [c10b0] | (simp only [i64_w, i32_w]; rw [c10b0]) | skip)
         have H' := Aside0.mk H
         clear H
         go_wp2
         go_meet
         case rel => exact ⟨_, (false), (by first | rfl | (simp; done) | (simp [*]; done)), H', ⟨by have := HJ5.out; first | omega | exact Nat.le_refl _⟩, ⟨by repeat (first | (with_reducible first | exact HB.out | apply below_alloc | apply pw_below_drewN | apply below_drew1) | exact HB.out)⟩⟩
       case rest =>
        clear HC9
        try clear c1
        try clear c2
        try clear c2b0
        try clear c2b1
        try clear p2
        try clear c3
        try clear c3b0
        try clear c3b1
        try clear p4
        try clear q4
        try clear hx4
        try clear qi4
        try clear p6
        try clear c7
        try clear c7b0
        try clear c8
        try clear c10
        try clear c10b0
        try clear p2
        try clear p4
        try clear p6
        try clear q4
        obtain ⟨kq, x23_8, rfl, HA, HJ8, HB⟩ := hcut
        cases kq with
        | zero => exact absurd HA.out (by simp [dragomanref1_Take.j1])
        | succ kj8 =>
         have H := HA.out
         clear HA
         simp only [dragomanref1_Take.j1] at H
         by_cases c11 : x23_8 = true
         ·subst c11
          have H1 : (dragomanref1_Take.j3 kj8 a0 3 (wrap64 ((wrap64 (bt a0 0)) - 224))) = some (r1, r2) := by rw [if_pos rfl] at H; exact H
          clear H
          have H := H1
          clear H1
          have H' := Aside0.mk H
          clear H
          go_wp2
          go_meet
          case rel => exact ⟨_, (3), (wrap64 ((wrap64 (bt a0 0)) - 224)), (by first | rfl | (simp; done) | (simp [*]; done)), (by first | rfl | (simp; done) | (simp [*]; done)), H', ⟨by have := HJ5.out; have := HJ8.out; first | omega | exact Nat.le_refl _⟩, ⟨by repeat (first | (with_reducible first | exact HB.out | apply below_alloc | apply pw_below_drewN | apply below_drew1) | exact HB.out)⟩⟩
         ·replace c11 := Bool.eq_false_iff.mpr c11
          subst c11
          have H1 : (if (wrap64 (bt a0 0)) ≥ 192 then (dragomanref1_Take.j2 kj8 a0 (wrap64 (bt a0 0)) 1 (wrap64 (bt a0 0)) (decide ((wrap64 (bt a0 0)) < 224))) else (dragomanref1_Take.j2 kj8 a0 (wrap64 (bt a0 0)) 1 (wrap64 (bt a0 0)) false)) = some (r1, r2) := by rw [if_neg (show ¬ (false = true) by decide)] at H; exact H
          clear H
          have H := H1
          clear H1
          have HC12 := Aside0.mk H
          clear H
          go_upto_region 9 with (fail)
          go_cut [32] (fun v32 wc => ∃ (kq : Nat) (x32_11 : Bool), v32 = .bool x32_11 ∧ Aside0 (dragomanref1_Take.j2 kq a0 (wrap64 (bt a0 0)) 1 (wrap64 (bt a0 0)) x32_11 = some (r1, r2)) ∧ Aside0 (kq ≤ kj8) ∧ Aside0 (Below w.heap.size w wc))
          case first =>
           have H := HC12.out
           clear HC12
           by_cases c13 : (wrap64 (bt a0 0)) ≥ 192
           ·rw [if_pos c13] at H
            have c13b0 : decide (192 ≤ (wrap64 (bt a0 0))) = true := decide_eq_true c13
            clear c13
            (first | rw [c13b0] | (simp only [i64_w, i32_w]; rw [c13b0]) | skip)
            have H' := Aside0.mk H
            clear H
            go_wp2
            go_meet
            case rel => exact ⟨_, (decide ((wrap64 (bt a0 0)) < 224)), (by first | rfl | (simp; done) | (simp [*]; done)), H', ⟨by have := HJ5.out; have := HJ8.out; first | omega | exact Nat.le_refl _⟩, ⟨by repeat (first | (with_reducible first | exact HB.out | apply below_alloc | apply pw_below_drewN | apply below_drew1) | exact HB.out)⟩⟩
           ·rw [if_neg c13] at H
            have c13b0 : decide (192 ≤ (wrap64 (bt a0 0))) = false := decide_eq_false c13
            clear c13
            (first | rw [c13b0] | (simp only [i64_w, i32_w]; rw [c13b0]) | skip)
            have H' := Aside0.mk H
            clear H
            go_wp2
            go_meet
            case rel => exact ⟨_, (false), (by first | rfl | (simp; done) | (simp [*]; done)), H', ⟨by have := HJ5.out; have := HJ8.out; first | omega | exact Nat.le_refl _⟩, ⟨by repeat (first | (with_reducible first | exact HB.out | apply below_alloc | apply pw_below_drewN | apply below_drew1) | exact HB.out)⟩⟩
          case rest =>
           clear HC12
           try clear c1
           try clear c2
           try clear c2b0
           try clear c2b1
           try clear p2
           try clear c3
           try clear c3b0
           try clear c3b1
           try clear p4
           try clear q4
           try clear hx4
           try clear qi4
           try clear p6
           try clear c7
           try clear c7b0
           try clear c8
           try clear c10
           try clear c10b0
           try clear c11
           try clear c13
           try clear c13b0
           try clear p2
           try clear p4
           try clear p6
           try clear q4
           obtain ⟨kq, x32_11, rfl, HA, HJ11, HB⟩ := hcut
           cases kq with
           | zero => exact absurd HA.out (by simp [dragomanref1_Take.j2])
           | succ kj11 =>
            have H := HA.out
            clear HA
            simp only [dragomanref1_Take.j2] at H
            by_cases c14 : x32_11 = true
            ·subst c14
             have H1 : (dragomanref1_Take.j3 kj11 a0 2 (wrap64 ((wrap64 (bt a0 0)) - 192))) = some (r1, r2) := by rw [if_pos rfl] at H; exact H
             clear H
             have H := H1
             clear H1
             have H' := Aside0.mk H
             clear H
             go_wp2
             go_meet
             case rel => exact ⟨_, (2), (wrap64 ((wrap64 (bt a0 0)) - 192)), (by first | rfl | (simp; done) | (simp [*]; done)), (by first | rfl | (simp; done) | (simp [*]; done)), H', ⟨by have := HJ5.out; have := HJ8.out; have := HJ11.out; first | omega | exact Nat.le_refl _⟩, ⟨by repeat (first | (with_reducible first | exact HB.out | apply below_alloc | apply pw_below_drewN | apply below_drew1) | exact HB.out)⟩⟩
            ·replace c14 := Bool.eq_false_iff.mpr c14
             subst c14
             have H1 : (if (wrap64 (bt a0 0)) ≥ 128 then (some (0, 0)) else (dragomanref1_Take.j3 kj11 a0 1 (wrap64 (bt a0 0)))) = some (r1, r2) := by rw [if_neg (show ¬ (false = true) by decide)] at H; exact H
             clear H
             have H := H1
             clear H1
             by_cases c15 : (wrap64 (bt a0 0)) ≥ 128
             ·rw [if_pos c15] at H
              have c15b0 : decide (128 ≤ (wrap64 (bt a0 0))) = true := decide_eq_true c15
              clear c15
              simp only [Option.some.injEq, Prod.mk.injEq] at H
              obtain ⟨rfl, rfl⟩ := H
              go_wp2
              go_ret2
              exact ⟨by first | rfl | (simp [errW_none, errW_some] <;> rfl) | (simp [*, errW_none, errW_some, bne]; done) | (simp [*, errW_none, errW_some] <;> rfl), by repeat (first | (with_reducible first | exact HB.out | apply below_alloc | apply pw_below_drewN | apply below_drew1) | exact HB.out)⟩
             ·rw [if_neg c15] at H
              have c15b0 : decide (128 ≤ (wrap64 (bt a0 0))) = false := decide_eq_false c15
              clear c15
              have H' := Aside0.mk H
              clear H
              go_wp2
              go_meet
              case rel => exact ⟨_, (1), ((wrap64 (bt a0 0))), (by first | rfl | (simp; done) | (simp [*]; done)), (by first | rfl | (simp; done) | (simp [*]; done)), H', ⟨by have := HJ5.out; have := HJ8.out; have := HJ11.out; first | omega | exact Nat.le_refl _⟩, ⟨by repeat (first | (with_reducible first | exact HB.out | apply below_alloc | apply pw_below_drewN | apply below_drew1) | exact HB.out)⟩⟩
   case rest =>
    clear HC5
    try clear c1
    try clear c2
    try clear c2b0
    try clear c2b1
    try clear p2
    try clear c3
    try clear c3b0
    try clear c3b1
    try clear p4
    try clear q4
    try clear hx4
    try clear qi4
    try clear p6
    try clear c7
    try clear c7b0
    try clear c8
    try clear c10
    try clear c10b0
    try clear c11
    try clear c13
    try clear c13b0
    try clear c14
    try clear c15
    try clear c15b0
    try clear p2
    try clear p4
    try clear p6
    try clear q4
    obtain ⟨kq, x5_4, x6_4, rfl, rfl, HA, HJ4, HB⟩ := hcut
    cases kq with
    | zero => exact absurd HA.out (by simp [dragomanref1_Take.j3])
    | succ kj4 =>
     have H := HA.out
     clear HA
     simp only [dragomanref1_Take.j3] at H
     by_cases c16 : (a0.size : Int) < x5_4
     ·rw [if_pos c16] at H
      have c16b0 : decide ((a0.size : Int) < x5_4) = true := decide_eq_true c16
      clear c16
      simp only [Option.some.injEq, Prod.mk.injEq] at H
      obtain ⟨rfl, rfl⟩ := H
      go_wp2
      go_ret2
      exact ⟨by first | rfl | (simp [errW_none, errW_some] <;> rfl) | (simp [*, errW_none, errW_some, bne]; done) | (simp [*, errW_none, errW_some] <;> rfl), by repeat (first | (with_reducible first | exact HB.out | apply below_alloc | apply pw_below_drewN | apply below_drew1) | exact HB.out)⟩
     ·rw [if_neg c16] at H
      have c16b0 : decide ((a0.size : Int) < x5_4) = false := decide_eq_false c16
      clear c16
      have H' := Aside0.mk H
      clear H
      go_wp2
      go_loopg [6, 7] kj4 (fun kq v6 v7 w' => ∃ (x6_2 : Int) (x7_2 : Int), v6 = .int .i64 x6_2 ∧ v7 = .int .i64 x7_2 ∧ Aside0 (dragomanref1_Take.l0 kq a0 x5_4 x6_2 x7_2 = some (r1, r2)) ∧ Aside0 (kq ≤ kj4) ∧ Aside0 (Below w.heap.size w w'))
      case atStart => exact ⟨(x6_4), (1), (by first | rfl | (simp; done) | (simp [*]; done)), (by first | rfl | (simp; done) | (simp [*]; done)), H', ⟨Nat.le_refl _⟩, ⟨by repeat (first | (with_reducible first | exact HB.out | apply below_alloc | apply pw_below_drewN | apply below_drew1) | exact HB.out)⟩⟩
      case round =>
       clear H'
       try clear c1
       try clear c2
       try clear c2b0
       try clear c2b1
       try clear p2
       try clear c3
       try clear c3b0
       try clear c3b1
       try clear p4
       try clear q4
       try clear hx4
       try clear qi4
       try clear p6
       try clear c7
       try clear c7b0
       try clear c8
       try clear c10
       try clear c10b0
       try clear c11
       try clear c13
       try clear c13b0
       try clear c14
       try clear c15
       try clear c15b0
       try clear c16
       try clear c16b0
       try clear p2
       try clear p4
       try clear p6
       try clear q4
       obtain ⟨x6_2, x7_2, rfl, rfl, HA, HK2, HB⟩ := hrel
       cases gk with
       | zero => exact absurd HA.out (by simp [dragomanref1_Take.l0])
       | succ k2 =>
        have H := HA.out
        clear HA
        simp only [dragomanref1_Take.l0] at H
        by_cases c17 : x7_2 < x5_4
        ·rw [if_pos c17] at H
         have c17b0 : decide (x7_2 < x5_4) = true := decide_eq_true c17
         clear c17
         by_cases c18 : 0 ≤ x7_2
         ·rw [if_pos c18] at H
          have c18b0 : decide (0 ≤ x7_2) = true := decide_eq_true c18
          clear c18
          by_cases c19 : x7_2 < (a0.size : Int)
          ·rw [if_pos c19] at H
           have c19b0 : decide (x7_2 < (a0.size : Int)) = true := decide_eq_true c19
           clear c19
           by_cases c21 : (bt a0 x7_2) < 128
           ·rw [if_pos c21] at H
            have c21b0 : decide ((bt a0 x7_2) < 128) = true := decide_eq_true c21
            clear c21
            simp only [Option.some.injEq, Prod.mk.injEq] at H
            obtain ⟨rfl, rfl⟩ := H
            have p20 : 0 ≤ (x7_2 : Int) := of_decide_eq_true (by first | (with_reducible assumption) | assumption)
            have q20 : x7_2 < (a0.size : Int) := of_decide_eq_true (by first | (with_reducible assumption) | assumption)
            have hx20 := bt_at a0 x7_2
            replace p20 := eq_true p20
            replace q20 := eq_true q20
            go_wp2
            go_ret2
            exact ⟨by first | rfl | (simp [errW_none, errW_some] <;> rfl) | (simp [*, errW_none, errW_some, bne]; done) | (simp [*, errW_none, errW_some] <;> rfl), by repeat (first | (with_reducible first | exact HB.out | apply below_alloc | apply pw_below_drewN | apply below_drew1) | exact HB.out)⟩
           ·rw [if_neg c21] at H
            have c21b0 : decide ((bt a0 x7_2) < 128) = false := decide_eq_false c21
            clear c21
            by_cases c23 : (bt a0 x7_2) > 191
            ·rw [if_pos c23] at H
             have c23b0 : decide (191 < (bt a0 x7_2)) = true := decide_eq_true c23
             clear c23
             simp only [Option.some.injEq, Prod.mk.injEq] at H
             obtain ⟨rfl, rfl⟩ := H
             have p20 : 0 ≤ (x7_2 : Int) := of_decide_eq_true (by first | (with_reducible assumption) | assumption)
             have q20 : x7_2 < (a0.size : Int) := of_decide_eq_true (by first | (with_reducible assumption) | assumption)
             have hx20 := bt_at a0 x7_2
             replace p20 := eq_true p20
             replace q20 := eq_true q20
             have p22 : 0 ≤ (x7_2 : Int) := of_decide_eq_true (by first | (with_reducible assumption) | assumption)
             have q22 : x7_2 < (a0.size : Int) := of_decide_eq_true (by first | (with_reducible assumption) | assumption)
             have hx22 := bt_at a0 x7_2
             replace p22 := eq_true p22
             replace q22 := eq_true q22
             go_wp2
             go_ret2
             exact ⟨by first | rfl | (simp [errW_none, errW_some] <;> rfl) | (simp [*, errW_none, errW_some, bne]; done) | (simp [*, errW_none, errW_some] <;> rfl), by repeat (first | (with_reducible first | exact HB.out | apply below_alloc | apply pw_below_drewN | apply below_drew1) | exact HB.out)⟩
            ·rw [if_neg c23] at H
             have c23b0 : decide (191 < (bt a0 x7_2)) = false := decide_eq_false c23
             clear c23
             have H' := Aside0.mk H
             clear H
             have p20 : 0 ≤ (x7_2 : Int) := of_decide_eq_true (by first | (with_reducible assumption) | assumption)
             have q20 : x7_2 < (a0.size : Int) := of_decide_eq_true (by first | (with_reducible assumption) | assumption)
             have hx20 := bt_at a0 x7_2
             replace p20 := eq_true p20
             replace q20 := eq_true q20
             have p22 : 0 ≤ (x7_2 : Int) := of_decide_eq_true (by first | (with_reducible assumption) | assumption)
             have q22 : x7_2 < (a0.size : Int) := of_decide_eq_true (by first | (with_reducible assumption) | assumption)
             have hx22 := bt_at a0 x7_2
             replace p22 := eq_true p22
             replace q22 := eq_true q22
             have p24 : 0 ≤ (x7_2 : Int) := of_decide_eq_true (by first | (with_reducible assumption) | assumption)
             have q24 : x7_2 < (a0.size : Int) := of_decide_eq_true (by first | (with_reducible assumption) | assumption)
             have hx24 := bt_at a0 x7_2
             replace p24 := eq_true p24
             replace q24 := eq_true q24
             go_wp2
             go_roundg k2
             case measure => have := HJ4.out; have := HK2.out; omega
             case rel => exact ⟨(wrap64 ((wrap64 ((wrap64 (64 * x6_2)) + (wrap64 (bt a0 x7_2)))) - 128)), (wrap64 (x7_2 + 1)), (by first | rfl | (simp; done) | (simp [*]; done)), (by first | rfl | (simp; done) | (simp [*]; done)), H', ⟨by have := HJ4.out; have := HK2.out; omega⟩, ⟨by repeat (first | (with_reducible first | exact HB.out | apply below_alloc | apply pw_below_drewN | apply below_drew1) | exact HB.out)⟩⟩
          ·rw [if_neg c19] at H
           exact absurd H (by simp)
         ·rw [if_neg c18] at H
          exact absurd H (by simp)
        ·rw [if_neg c17] at H
         have c17b0 : decide (x7_2 < x5_4) = false := decide_eq_false c17
         clear c17
         replace H := Option.bind_eq_some_iff.mp H
         obtain ⟨t246, A250, H⟩ := H
         replace H : (if 0 ≤ x5_4 then (if x5_4 ≤ (a0.size : Int) then (if t246.toList = (a0.extract 0 (x5_4 : Int).toNat).toList then (some (x6_2, x5_4)) else (some (0, 0))) else (none)) else (none)) = some (r1, r2) := H
         have A25 := Aside0.mk A250
         clear A250
         by_cases c26 : 0 ≤ x5_4
         ·rw [if_pos c26] at H
          have c26b0 := eq_true c26
          have c26b1 : decide (0 ≤ x5_4) = true := decide_eq_true c26
          clear c26
          by_cases c27 : x5_4 ≤ (a0.size : Int)
          ·rw [if_pos c27] at H
           have c27b0 := eq_true c27
           have c27b1 : decide (x5_4 ≤ (a0.size : Int)) = true := decide_eq_true c27
           clear c27
           by_cases c28 : t246.toList = (a0.extract 0 (x5_4 : Int).toNat).toList
           ·rw [if_pos c28] at H
            have c28b0 : (t246.toList == (a0.extract 0 (x5_4 : Int).toNat).toList) = true := beq_iff_eq.mpr c28
            have c28b1 : (t246.toList != (a0.extract 0 (x5_4 : Int).toNat).toList) = false := bne_eq_false_iff_eq.mpr c28
            clear c28
            simp only [Option.some.injEq, Prod.mk.injEq] at H
            obtain ⟨rfl, rfl⟩ := H
            try go_wp2
            have n0_ := Aside0.mk (below_drew1 HB.out)
            clear HB
            have HB := n0_
            clear n0_
            refine start_ (n := 6) (S := fun w' => True) (ds := []) #[false, false, false, false, false, false] (by kernel_rfl) rfl rfl trivial (fun hHeld => ?_)
            generalize wr.drew = w29 at HB hHeld ⊢
            refine pure_ (i := 0) (N := some 71) (v := ?_) (a' := ?_) #[true, false, false, false, false, false] rfl rfl (by kernel_rfl) (fun _ _ _ h => h) (Or.inl ⟨by rfl, ?_⟩) ?_ ?_
            rotate_left
            ·intro w'
             go_simp
             with_reducible rfl
            rotate_left
            ·simp only [Act.put, List.setIfInBounds_toArray, List.set_cons_zero, List.set_cons_succ, i64_w, i32_w]
             rfl
            refine pure_ (i := 2) (N := some 73) (v := ?_) (a' := ?_) #[true, false, true, false, false, false] rfl rfl (by kernel_rfl) (fun _ _ _ h => h) (Or.inl ⟨by rfl, ?_⟩) ?_ ?_
            rotate_left
            ·intro w'
             go_simp
             with_reducible rfl
            rotate_left
            ·simp only [Act.put, List.setIfInBounds_toArray, List.set_cons_zero, List.set_cons_succ, i64_w, i32_w]
             rfl
            refine pure_ (i := 3) (N := some 74) (v := ?_) (a' := ?_) #[true, false, true, true, false, false] rfl rfl (by kernel_rfl) (fun _ _ _ h => h) (Or.inl ⟨by rfl, ?_⟩) ?_ ?_
            rotate_left
            ·intro w'
             go_simp
             with_reducible rfl
            rotate_left
            ·simp only [Act.put, List.setIfInBounds_toArray, List.set_cons_zero, List.set_cons_succ, i64_w, i32_w]
             rfl
            refine pure_ (i := 4) (N := some 75) (v := ?_) (a' := ?_) #[true, false, true, true, true, false] rfl rfl (by kernel_rfl) (fun _ _ _ h => h) (Or.inl ⟨by rfl, ?_⟩) ?_ ?_
            rotate_left
            ·intro w'
             go_simp
             with_reducible rfl
            rotate_left
            ·simp only [Act.put, List.setIfInBounds_toArray, List.set_cons_zero, List.set_cons_succ, i64_w, i32_w]
             rfl
            refine one_ (i := 1) (N := some 72) #[true, true, true, true, true, false] rfl rfl (by kernel_rfl) (by decide) (fun K hK => ?_)
            refine goes_ Try.func30 (by kernel_rfl) rfl #[.int .i64 x6_2] (by rfl) rfl rfl (by (try simp only [List.map_toArray, List.map_cons, List.map_nil]); first | done | rfl | (simp only [List.length_drop, List.length_take]; rfl)) ?_
            with_reducible refine (dragomanref1_Put.calls x6_2 t246 _ A25.out).mono ?_
            rintro e w30 ⟨rfl, hb⟩
            refine ⟨_, rfl, ?_⟩
            have n0_ := Aside0.mk (below_step (by repeat (first | (with_reducible first | exact HB.out | apply below_alloc | apply pw_below_drewN | apply below_drew1) | exact HB.out)) hb)
            clear HB
            have HB := n0_
            clear n0_
            (try clear hb)
            (try clear hb2)
            (try clear hk)
            (try clear hi)
            refine hK.out _ _ trivial (fun hHeld => ?_)
            clear hK K
            refine norm_ (a' := ?_) ?_ ?_
            rotate_left
            ·show Act.put _ (some 72) _ = _
             simp only [Act.put, List.setIfInBounds_toArray, List.set_cons_zero, List.set_cons_succ, i64_w, i32_w]
             rfl
            refine pure_ (i := 5) (N := some 76) (v := ?_) (a' := ?_) #[true, true, true, true, true, true] rfl rfl (by kernel_rfl) (fun _ _ _ h => h) (Or.inl ⟨by rfl, ?_⟩) ?_ ?_
            rotate_left
            ·intro w'
             go_simp
             with_reducible rfl
            rotate_left
            ·simp only [Act.put, List.setIfInBounds_toArray, List.set_cons_zero, List.set_cons_succ, i64_w, i32_w]
             rfl
            refine done_ (by kernel_rfl) ?_
            try go_wp2
            go_ret2
            exact ⟨by first | rfl | (simp [errW_none, errW_some] <;> rfl) | (simp [*, errW_none, errW_some, bne]; done) | (simp [*, errW_none, errW_some] <;> rfl), by repeat (first | (with_reducible first | exact HB.out | apply below_alloc | apply pw_below_drewN | apply below_drew1) | exact HB.out)⟩
           ·rw [if_neg c28] at H
            have c28b0 : (t246.toList == (a0.extract 0 (x5_4 : Int).toNat).toList) = false := beq_eq_false_iff_ne.mpr c28
            have c28b1 : (t246.toList != (a0.extract 0 (x5_4 : Int).toNat).toList) = true := bne_iff_ne.mpr c28
            simp only [Option.some.injEq, Prod.mk.injEq] at H
            obtain ⟨rfl, rfl⟩ := H
            try go_wp2
            have n0_ := Aside0.mk (below_drew1 HB.out)
            clear HB
            have HB := n0_
            clear n0_
            refine start_ (n := 6) (S := fun w' => True) (ds := []) #[false, false, false, false, false, false] (by kernel_rfl) rfl rfl trivial (fun hHeld => ?_)
            generalize wr.drew = w31 at HB hHeld ⊢
            refine pure_ (i := 0) (N := some 71) (v := ?_) (a' := ?_) #[true, false, false, false, false, false] rfl rfl (by kernel_rfl) (fun _ _ _ h => h) (Or.inl ⟨by rfl, ?_⟩) ?_ ?_
            rotate_left
            ·intro w'
             go_simp
             with_reducible rfl
            rotate_left
            ·simp only [Act.put, List.setIfInBounds_toArray, List.set_cons_zero, List.set_cons_succ, i64_w, i32_w]
             rfl
            refine pure_ (i := 2) (N := some 73) (v := ?_) (a' := ?_) #[true, false, true, false, false, false] rfl rfl (by kernel_rfl) (fun _ _ _ h => h) (Or.inl ⟨by rfl, ?_⟩) ?_ ?_
            rotate_left
            ·intro w'
             go_simp
             with_reducible rfl
            rotate_left
            ·simp only [Act.put, List.setIfInBounds_toArray, List.set_cons_zero, List.set_cons_succ, i64_w, i32_w]
             rfl
            refine pure_ (i := 3) (N := some 74) (v := ?_) (a' := ?_) #[true, false, true, true, false, false] rfl rfl (by kernel_rfl) (fun _ _ _ h => h) (Or.inl ⟨by rfl, ?_⟩) ?_ ?_
            rotate_left
            ·intro w'
             go_simp
             with_reducible rfl
            rotate_left
            ·simp only [Act.put, List.setIfInBounds_toArray, List.set_cons_zero, List.set_cons_succ, i64_w, i32_w]
             rfl
            refine pure_ (i := 4) (N := some 75) (v := ?_) (a' := ?_) #[true, false, true, true, true, false] rfl rfl (by kernel_rfl) (fun _ _ _ h => h) (Or.inl ⟨by rfl, ?_⟩) ?_ ?_
            rotate_left
            ·intro w'
             go_simp
             with_reducible rfl
            rotate_left
            ·simp only [Act.put, List.setIfInBounds_toArray, List.set_cons_zero, List.set_cons_succ, i64_w, i32_w]
             rfl
            refine one_ (i := 1) (N := some 72) #[true, true, true, true, true, false] rfl rfl (by kernel_rfl) (by decide) (fun K hK => ?_)
            refine goes_ Try.func30 (by kernel_rfl) rfl #[.int .i64 x6_2] (by rfl) rfl rfl (by (try simp only [List.map_toArray, List.map_cons, List.map_nil]); first | done | rfl | (simp only [List.length_drop, List.length_take]; rfl)) ?_
            with_reducible refine (dragomanref1_Put.calls x6_2 t246 _ A25.out).mono ?_
            rintro e w32 ⟨rfl, hb⟩
            refine ⟨_, rfl, ?_⟩
            have n0_ := Aside0.mk (below_step (by repeat (first | (with_reducible first | exact HB.out | apply below_alloc | apply pw_below_drewN | apply below_drew1) | exact HB.out)) hb)
            clear HB
            have HB := n0_
            clear n0_
            (try clear hb)
            (try clear hb2)
            (try clear hk)
            (try clear hi)
            refine hK.out _ _ trivial (fun hHeld => ?_)
            clear hK K
            refine norm_ (a' := ?_) ?_ ?_
            rotate_left
            ·show Act.put _ (some 72) _ = _
             simp only [Act.put, List.setIfInBounds_toArray, List.set_cons_zero, List.set_cons_succ, i64_w, i32_w]
             rfl
            refine pure_ (i := 5) (N := some 76) (v := ?_) (a' := ?_) #[true, true, true, true, true, true] rfl rfl (by kernel_rfl) (fun _ _ _ h => h) (Or.inl ⟨by rfl, ?_⟩) ?_ ?_
            rotate_left
            ·intro w'
             go_simp
             with_reducible rfl
            rotate_left
            ·simp only [Act.put, List.setIfInBounds_toArray, List.set_cons_zero, List.set_cons_succ, i64_w, i32_w]
             rfl
            refine done_ (by kernel_rfl) ?_
            try go_wp2
            go_ret2
            exact ⟨by first | rfl | (simp [errW_none, errW_some] <;> rfl) | (simp [*, errW_none, errW_some, bne]; done) | (simp [*, errW_none, errW_some] <;> rfl), by repeat (first | (with_reducible first | exact HB.out | apply below_alloc | apply pw_below_drewN | apply below_drew1) | exact HB.out)⟩
          ·rw [if_neg c27] at H
           exact absurd H (by simp)
         ·rw [if_neg c26] at H
          exact absurd H (by simp)
  ·rw [if_neg c3] at H
   exact absurd H (by simp)
end Go.Proofs.Ytjmmdphkgioooaa.P
end
section
namespace Go.Proofs.Ytjmmdphkgioooaa.P
open Go.RowKit Go.Proofs.YtjmmdphkgioooaaW.PrintWords Go.Proofs.YtjmmdphkgioooaaW.PrintLast Go.Proofs.YtjmmdphkgioooaaW.PrintMore
attribute [local go_sem] max2_int min2_int max_two min_two max_three min_three max_four min_four   -- for this text's walks alone
set_option linter.unusedVariables false
set_option linter.unusedSimpArgs false
/-! ### dragomanref1_Valid: function 16 -/
def dragomanref1_Valid.l0 : Nat → ByteArray → Int → Option (Int)
 | 0, _, _ => none
 | k + 1, x0, x3 => if x3 < (x0.size : Int) then (if 0 ≤ x3 then (if x3 ≤ (x0.size : Int) then ((dragomanref1_Take.f k (x0.extract (x3 : Int).toNat x0.size)).bind fun bt247 => (if bt247.2 = 0 then (some x3) else (dragomanref1_Valid.l0 k x0 (wrap64 (x3 + bt247.2))))) else (none)) else (none)) else (some (-1))
def dragomanref1_Valid.f (k : Nat) (a0 : ByteArray) : Option (Int) := dragomanref1_Valid.l0 k a0 0
set_option maxHeartbeats 8000000 in
set_option maxRecDepth 100000 in
theorem dragomanref1_Valid.calls (k : Nat) (a0 : ByteArray) (r : Int) (w : World) (h : dragomanref1_Valid.f k a0 = some r) :
  Calls Try.prog 16 #[.string a0] w fun e w' => e = .returned (.int .i64 r) ∧ Below w.heap.size w w' := by
 have HB := Aside0.mk (Below.refl w.heap.size w)
 have H : (dragomanref1_Valid.l0 k a0 0) = some r := h
 clear h
 have H' := Aside0.mk H
 clear H
 go_enter Try.func16, Try.ntmps16
 go_wp2
 go_loopg [3] k (fun kq v3 w' => ∃ (x3_1 : Int), v3 = .int .i64 x3_1 ∧ Aside0 (dragomanref1_Valid.l0 kq a0 x3_1 = some r) ∧ Aside0 (kq ≤ k) ∧ Aside0 (Below w.heap.size w w'))
 case atStart => exact ⟨(0), (by first | rfl | (simp; done) | (simp [*]; done)), H', ⟨Nat.le_refl _⟩, ⟨by repeat (first | (with_reducible first | exact HB.out | apply below_alloc | apply pw_below_drewN | apply below_drew1) | exact HB.out)⟩⟩
 case round =>
  clear H'
  try clear c1
  obtain ⟨x3_1, rfl, HA, HK1, HB⟩ := hrel
  cases gk with
  | zero => exact absurd HA.out (by simp [dragomanref1_Valid.l0])
  | succ k1 =>
   have H := HA.out
   clear HA
   simp only [dragomanref1_Valid.l0] at H
   by_cases c2 : x3_1 < (a0.size : Int)
   ·rw [if_pos c2] at H
    have c2b0 : decide (x3_1 < (a0.size : Int)) = true := decide_eq_true c2
    clear c2
    by_cases c3 : 0 ≤ x3_1
    ·rw [if_pos c3] at H
     have c3b0 := eq_true c3
     have c3b1 : decide (0 ≤ x3_1) = true := decide_eq_true c3
     clear c3
     by_cases c4 : x3_1 ≤ (a0.size : Int)
     ·rw [if_pos c4] at H
      have c4b0 := eq_true c4
      have c4b1 : decide (x3_1 ≤ (a0.size : Int)) = true := decide_eq_true c4
      clear c4
      replace H := Option.bind_eq_some_iff.mp H
      obtain ⟨⟨t247, t248⟩, A50, H⟩ := H
      replace H : (if t248 = 0 then (some x3_1) else (dragomanref1_Valid.l0 k1 a0 (wrap64 (x3_1 + t248)))) = some r := H
      have A5 := Aside0.mk A50
      clear A50
      by_cases c6 : t248 = 0
      ·rw [if_pos c6] at H
       have c6b0 : (t248 == 0) = true := beq_iff_eq.mpr c6
       have c6b1 : (t248 != 0) = false := bne_eq_false_iff_eq.mpr c6
       clear c6
       obtain rfl := Option.some.inj H
       go_wp2_with (first | ((with_reducible refine gate_callee (f := 24) rfl ?_); refine goesL_ (some 14) rfl rfl Try.func24 (by kernel_rfl) rfl #[.string (a0.extract (x3_1 : Int).toNat a0.size)] rfl (by (try simp only [List.map_toArray, List.map_cons, List.map_nil]); first | done | rfl | (simp only [List.length_drop, List.length_take]; rfl)) ?_; (with_reducible refine (dragomanref1_Take.calls k1 (a0.extract (x3_1 : Int).toNat a0.size) t247 t248 _ A5.out).mono ?_); rintro e w7 ⟨rfl, hb⟩; refine ⟨_, rfl, ?_⟩; have n0_ := Aside0.mk (below_step (by repeat (first | (with_reducible first | exact HB.out | apply below_alloc | apply pw_below_drewN | apply below_drew1) | exact HB.out)) hb); clear HB; have HB := n0_; clear n0_; (try clear hb); (try clear hb2); (try clear hk); (try clear hi)))
       go_ret
       exact ⟨by first | rfl | (simp [errW_none, errW_some] <;> rfl) | (simp [*, errW_none, errW_some, bne]; done) | (simp [*, errW_none, errW_some] <;> rfl), by repeat (first | (with_reducible first | exact HB.out | apply below_alloc | apply pw_below_drewN | apply below_drew1) | exact HB.out)⟩
      ·rw [if_neg c6] at H
       have c6b0 : (t248 == 0) = false := beq_eq_false_iff_ne.mpr c6
       have c6b1 : (t248 != 0) = true := bne_iff_ne.mpr c6
       have H' := Aside0.mk H
       clear H
       go_wp2_with (first | ((with_reducible refine gate_callee (f := 24) rfl ?_); refine goesL_ (some 14) rfl rfl Try.func24 (by kernel_rfl) rfl #[.string (a0.extract (x3_1 : Int).toNat a0.size)] rfl (by (try simp only [List.map_toArray, List.map_cons, List.map_nil]); first | done | rfl | (simp only [List.length_drop, List.length_take]; rfl)) ?_; (with_reducible refine (dragomanref1_Take.calls k1 (a0.extract (x3_1 : Int).toNat a0.size) t247 t248 _ A5.out).mono ?_); rintro e w8 ⟨rfl, hb⟩; refine ⟨_, rfl, ?_⟩; have n0_ := Aside0.mk (below_step (by repeat (first | (with_reducible first | exact HB.out | apply below_alloc | apply pw_below_drewN | apply below_drew1) | exact HB.out)) hb); clear HB; have HB := n0_; clear n0_; (try clear hb); (try clear hb2); (try clear hk); (try clear hi)))
       go_roundg k1
       case measure => have := HK1.out; omega
       case rel => exact ⟨(wrap64 (x3_1 + t248)), (by first | rfl | (simp; done) | (simp [*]; done)), H', ⟨by have := HK1.out; omega⟩, ⟨by repeat (first | (with_reducible first | exact HB.out | apply below_alloc | apply pw_below_drewN | apply below_drew1) | exact HB.out)⟩⟩
     ·rw [if_neg c4] at H
      exact absurd H (by simp)
    ·rw [if_neg c3] at H
     exact absurd H (by simp)
   ·rw [if_neg c2] at H
    have c2b0 : decide (x3_1 < (a0.size : Int)) = false := decide_eq_false c2
    clear c2
    obtain rfl := Option.some.inj H
    go_wp2
    go_ret
    exact ⟨by first | rfl | (simp [errW_none, errW_some] <;> rfl) | (simp [*, errW_none, errW_some, bne]; done) | (simp [*, errW_none, errW_some] <;> rfl), by repeat (first | (with_reducible first | exact HB.out | apply below_alloc | apply pw_below_drewN | apply below_drew1) | exact HB.out)⟩
end Go.Proofs.Ytjmmdphkgioooaa.P
end
section
namespace Go.Proofs.Ytjmmdphkgioooaa.P
open Go.RowKit Go.Proofs.YtjmmdphkgioooaaW.PrintWords Go.Proofs.YtjmmdphkgioooaaW.PrintLast Go.Proofs.YtjmmdphkgioooaaW.PrintMore
attribute [local go_sem] max2_int min2_int max_two min_two max_three min_three max_four min_four   -- for this text's walks alone
set_option linter.unusedVariables false
set_option linter.unusedSimpArgs false
/-! ### dragomanref1_Starts: function 25 -/
def dragomanref1_Starts.l0 : Nat → ByteArray → List Int → Int → Option (List Int)
 | 0, _, _, _ => none
 | k + 1, x0, x3, x4 => if x4 < (x0.size : Int) then (if x3.length < 17592186044416 then ((some (x3 ++ [x4] : List Int)).bind fun y290 => (if 0 ≤ x4 then (if x4 ≤ (x0.size : Int) then ((dragomanref1_Take.f k (x0.extract (x4 : Int).toNat x0.size)).bind fun bt293 => (if bt293.2 = 0 then (dragomanref1_Starts.l0 k x0 y290 (wrap64 (x4 + 1))) else (dragomanref1_Starts.l0 k x0 y290 (wrap64 (x4 + bt293.2))))) else (none)) else (none))) else (none)) else (if x3.length < 17592186044416 then (some (x3 ++ [(x0.size : Int)])) else (none))
def dragomanref1_Starts.f (k : Nat) (a0 : ByteArray) : Option (List Int) := dragomanref1_Starts.l0 k a0 ([] : List Int) 0
set_option maxHeartbeats 8000000 in
set_option maxRecDepth 100000 in
theorem dragomanref1_Starts.calls (k : Nat) (a0 : ByteArray) (r : List Int) (w : World) (h : dragomanref1_Starts.f k a0 = some r) :
  Calls Try.prog 25 #[.string a0] w fun e w' => ∃ v0_ : Value, e = .returned (v0_) ∧ Kd.R (Kd.int .i64) 3 w' w.heap.size (fun _ => True) v0_ r ∧ Below w.heap.size w w' := by
 have HB := Aside0.mk (Below.refl w.heap.size w)
 have H : (dragomanref1_Starts.l0 k a0 ([] : List Int) 0) = some r := h
 clear h
 have H' := Aside0.mk H
 clear H
 go_enter Try.func25, Try.ntmps25
 go_wp2
 go_loopg [3, 4] k (fun kq v3 v4 w' => ∃ (x3_1 : List Int) (x4_1 : Int), v4 = .int .i64 x4_1 ∧ Aside0 (dragomanref1_Starts.l0 kq a0 x3_1 x4_1 = some r) ∧ Aside0 (kq ≤ k) ∧ Aside0 (Kd.R (Kd.int .i64) 3 w' w.heap.size (fun _ => True) v3 x3_1) ∧ Aside0 (Below w.heap.size w w'))
 case atStart => exact ⟨(([] : List Int)), (0), (by first | rfl | (simp; done) | (simp [*]; done)), H', ⟨Nat.le_refl _⟩, ⟨by first | exact Kd.R_nil _ _ _ _ _ | exact Kd.N_nil _ _ _ _ _ | exact Kd.V_nil _ _ _ _ _ | exact Kd.Q_nil _ _ _ _ _ | exact Kd.S_nil _ _ _ _ _⟩, ⟨by repeat (first | (with_reducible first | exact HB.out | apply below_alloc | apply pw_below_drewN | apply below_drew1) | exact HB.out)⟩⟩
 case round =>
  clear H'
  obtain ⟨x3_1, x4_1, rfl, HA, HK1, HO_3, HB⟩ := hrel
  cases gk with
  | zero => exact absurd HA.out (by simp [dragomanref1_Starts.l0])
  | succ k1 =>
   have H := HA.out
   clear HA
   simp only [dragomanref1_Starts.l0] at H
   by_cases c2 : x4_1 < (a0.size : Int)
   ·rw [if_pos c2] at H
    have c2b0 : decide (x4_1 < (a0.size : Int)) = true := decide_eq_true c2
    clear c2
    by_cases c3 : x3_1.length < 17592186044416
    ·rw [if_pos c3] at H
     have LMc3 := Aside0.mk c3
     clear c3
     obtain ⟨y290, hy290⟩ : ∃ y_ : List Int, y_ = (x3_1 ++ [x4_1]) := ⟨_, rfl⟩
     replace H : (if 0 ≤ x4_1 then (if x4_1 ≤ (a0.size : Int) then ((dragomanref1_Take.f k1 (a0.extract (x4_1 : Int).toNat a0.size)).bind fun bt293 => (if bt293.2 = 0 then (dragomanref1_Starts.l0 k1 a0 y290 (wrap64 (x4_1 + 1))) else (dragomanref1_Starts.l0 k1 a0 y290 (wrap64 (x4_1 + bt293.2))))) else (none)) else (none)) = some r := by first | (rw [hy290]; with_reducible exact H) | (have H2_ := (Option.bind_some _ _).symm.trans H; rw [hy290]; with_reducible exact H2_) | (have H2_ := (Option.bind_some _ _).symm.trans H; with_reducible exact H2_) | with_reducible exact H | (rw [hy290]; exact H) | exact H
     have Ny290 := Aside0.mk hy290
     clear hy290
     by_cases c4 : 0 ≤ x4_1
     ·rw [if_pos c4] at H
      have c4b0 := eq_true c4
      have c4b1 : decide (0 ≤ x4_1) = true := decide_eq_true c4
      clear c4
      by_cases c5 : x4_1 ≤ (a0.size : Int)
      ·rw [if_pos c5] at H
       have c5b0 := eq_true c5
       have c5b1 : decide (x4_1 ≤ (a0.size : Int)) = true := decide_eq_true c5
       clear c5
       replace H := Option.bind_eq_some_iff.mp H
       obtain ⟨⟨t293, t294⟩, A60, H⟩ := H
       replace H : (if t294 = 0 then (dragomanref1_Starts.l0 k1 a0 y290 (wrap64 (x4_1 + 1))) else (dragomanref1_Starts.l0 k1 a0 y290 (wrap64 (x4_1 + t294)))) = some r := H
       have A6 := Aside0.mk A60
       clear A60
       by_cases c7 : t294 = 0
       ·rw [if_pos c7] at H
        have c7b0 : (t294 == 0) = true := beq_iff_eq.mpr c7
        have c7b1 : (t294 != 0) = false := bne_eq_false_iff_eq.mpr c7
        clear c7
        have H' := Aside0.mk H
        clear H
        go_wp2_with (first | ((with_reducible refine gate_builtin (b := .append) (xs := #[.tmp 11, .tmp 13]) rfl ?_); at_builtin; refine Kd.R_append (Kd.int .i64) (w0 := w) w.heap.size rfl (.tmp 11) (.tmp 13) 49 3 (.int .i64 0) 8 rfl Try.underlying49 info3 rfl (by decide) (by omega) u3 x3_1 x4_1 [.int .i64 x4_1] (fun _ => True) (fun _ => False) rfl rfl ?aP (fun _ hk => hk.elim) ?aF ?aO ?aB ?aS ?aL ?_; (case aP => exact rfl); (case aB => exact (by repeat (first | (with_reducible first | exact HB.out | apply below_alloc | apply pw_below_drewN | apply below_drew1) | exact HB.out))); (case aF => exact (fun _ _ => trivial)); (case aO => exact (by (with_reducible repeat (first | apply Kd.R_alloc | apply Kd.R_drewN | apply Kd.R_drew)); exact HO_3.out)); (case aS => exact (below_size (by repeat (first | (with_reducible first | exact HB.out | apply below_alloc | apply pw_below_drewN | apply below_drew1) | exact HB.out)))); (case aL => have := LMc3.out; omega); intro v291 w8 ho hb hg hat; rw [← Ny290.out] at ho; have n0_ := Aside0.mk (hb); have n1_ := Aside0.mk (ho); clear HB; clear HO_3; have HB := n0_; have HO292 := n1_; clear n0_ n1_; clear ho hb hg hat) | ((with_reducible refine gate_callee (f := 24) rfl ?_); refine goesL_ (some 19) rfl rfl Try.func24 (by kernel_rfl) rfl #[.string (a0.extract (x4_1 : Int).toNat a0.size)] rfl (by (try simp only [List.map_toArray, List.map_cons, List.map_nil]); first | done | rfl | (simp only [List.length_drop, List.length_take]; rfl)) ?_; (with_reducible refine (dragomanref1_Take.calls k1 (a0.extract (x4_1 : Int).toNat a0.size) t293 t294 _ A6.out).mono ?_); rintro e w9 ⟨rfl, hb⟩; refine ⟨_, rfl, ?_⟩; have n0_ := Aside0.mk (Kd.R_below (by (with_reducible repeat (first | apply Kd.R_alloc | apply Kd.R_drewN | apply Kd.R_drew)); exact HO292.out) hb); have n1_ := Aside0.mk (below_step (by repeat (first | (with_reducible first | exact HB.out | apply below_alloc | apply pw_below_drewN | apply below_drew1) | exact HB.out)) hb); clear HO292; clear HB; have HO292 := n0_; have HB := n1_; clear n0_ n1_; (try clear hb); (try clear hb2); (try clear hk); (try clear hi)))
        go_roundg k1
        case measure => have := HK1.out; omega
        case rel => exact ⟨(y290), (wrap64 (x4_1 + 1)), (by first | rfl | (simp; done) | (simp [*]; done)), H', ⟨by have := HK1.out; omega⟩, ⟨by (with_reducible repeat (first | apply Kd.R_alloc | apply Kd.R_drewN | apply Kd.R_drew)); exact HO292.out⟩, ⟨by repeat (first | (with_reducible first | exact HB.out | apply below_alloc | apply pw_below_drewN | apply below_drew1) | exact HB.out)⟩⟩
       ·rw [if_neg c7] at H
        have c7b0 : (t294 == 0) = false := beq_eq_false_iff_ne.mpr c7
        have c7b1 : (t294 != 0) = true := bne_iff_ne.mpr c7
        have H' := Aside0.mk H
        clear H
        go_wp2_with (first | ((with_reducible refine gate_builtin (b := .append) (xs := #[.tmp 11, .tmp 13]) rfl ?_); at_builtin; refine Kd.R_append (Kd.int .i64) (w0 := w) w.heap.size rfl (.tmp 11) (.tmp 13) 49 3 (.int .i64 0) 8 rfl Try.underlying49 info3 rfl (by decide) (by omega) u3 x3_1 x4_1 [.int .i64 x4_1] (fun _ => True) (fun _ => False) rfl rfl ?aP (fun _ hk => hk.elim) ?aF ?aO ?aB ?aS ?aL ?_; (case aP => exact rfl); (case aB => exact (by repeat (first | (with_reducible first | exact HB.out | apply below_alloc | apply pw_below_drewN | apply below_drew1) | exact HB.out))); (case aF => exact (fun _ _ => trivial)); (case aO => exact (by (with_reducible repeat (first | apply Kd.R_alloc | apply Kd.R_drewN | apply Kd.R_drew)); exact HO_3.out)); (case aS => exact (below_size (by repeat (first | (with_reducible first | exact HB.out | apply below_alloc | apply pw_below_drewN | apply below_drew1) | exact HB.out)))); (case aL => have := LMc3.out; omega); intro v291 w10 ho hb hg hat; rw [← Ny290.out] at ho; have n0_ := Aside0.mk (hb); have n1_ := Aside0.mk (ho); clear HB; clear HO_3; have HB := n0_; have HO292 := n1_; clear n0_ n1_; clear ho hb hg hat) | ((with_reducible refine gate_callee (f := 24) rfl ?_); refine goesL_ (some 19) rfl rfl Try.func24 (by kernel_rfl) rfl #[.string (a0.extract (x4_1 : Int).toNat a0.size)] rfl (by (try simp only [List.map_toArray, List.map_cons, List.map_nil]); first | done | rfl | (simp only [List.length_drop, List.length_take]; rfl)) ?_; (with_reducible refine (dragomanref1_Take.calls k1 (a0.extract (x4_1 : Int).toNat a0.size) t293 t294 _ A6.out).mono ?_); rintro e w11 ⟨rfl, hb⟩; refine ⟨_, rfl, ?_⟩; have n0_ := Aside0.mk (Kd.R_below (by (with_reducible repeat (first | apply Kd.R_alloc | apply Kd.R_drewN | apply Kd.R_drew)); exact HO292.out) hb); have n1_ := Aside0.mk (below_step (by repeat (first | (with_reducible first | exact HB.out | apply below_alloc | apply pw_below_drewN | apply below_drew1) | exact HB.out)) hb); clear HO292; clear HB; have HO292 := n0_; have HB := n1_; clear n0_ n1_; (try clear hb); (try clear hb2); (try clear hk); (try clear hi)))
        go_roundg k1
        case measure => have := HK1.out; omega
        case rel => exact ⟨(y290), (wrap64 (x4_1 + t294)), (by first | rfl | (simp; done) | (simp [*]; done)), H', ⟨by have := HK1.out; omega⟩, ⟨by (with_reducible repeat (first | apply Kd.R_alloc | apply Kd.R_drewN | apply Kd.R_drew)); exact HO292.out⟩, ⟨by repeat (first | (with_reducible first | exact HB.out | apply below_alloc | apply pw_below_drewN | apply below_drew1) | exact HB.out)⟩⟩
      ·rw [if_neg c5] at H
       exact absurd H (by simp)
     ·rw [if_neg c4] at H
      exact absurd H (by simp)
    ·rw [if_neg c3] at H
     exact absurd H (by simp)
   ·rw [if_neg c2] at H
    have c2b0 : decide (x4_1 < (a0.size : Int)) = false := decide_eq_false c2
    clear c2
    by_cases c12 : x3_1.length < 17592186044416
    ·rw [if_pos c12] at H
     have LMc12 := Aside0.mk c12
     clear c12
     obtain ⟨y295, hy295⟩ : ∃ y_ : List Int, y_ = (x3_1 ++ [(a0.size : Int)]) := ⟨_, rfl⟩
     replace H : (some y295) = some r := by first | (rw [hy295]; with_reducible exact H) | (have H2_ := (Option.bind_some _ _).symm.trans H; rw [hy295]; with_reducible exact H2_) | (have H2_ := (Option.bind_some _ _).symm.trans H; with_reducible exact H2_) | with_reducible exact H | (rw [hy295]; exact H) | exact H
     have Ny295 := Aside0.mk hy295
     clear hy295
     obtain rfl := Option.some.inj H
     go_wp2_with (first | ((with_reducible refine gate_builtin (b := .append) (xs := #[.tmp 27, .tmp 30]) rfl ?_); at_builtin; refine Kd.R_append (Kd.int .i64) (w0 := w) w.heap.size rfl (.tmp 27) (.tmp 30) 49 3 (.int .i64 0) 8 rfl Try.underlying49 info3 rfl (by decide) (by omega) u3 x3_1 (a0.size : Int) [.int .i64 (a0.size : Int)] (fun _ => True) (fun _ => False) rfl rfl ?aP (fun _ hk => hk.elim) ?aF ?aO ?aB ?aS ?aL ?_; (case aP => exact rfl); (case aB => exact (by repeat (first | (with_reducible first | exact HB.out | apply below_alloc | apply pw_below_drewN | apply below_drew1) | exact HB.out))); (case aF => exact (fun _ _ => trivial)); (case aO => exact (by (with_reducible repeat (first | apply Kd.R_alloc | apply Kd.R_drewN | apply Kd.R_drew)); exact HO_3.out)); (case aS => exact (below_size (by repeat (first | (with_reducible first | exact HB.out | apply below_alloc | apply pw_below_drewN | apply below_drew1) | exact HB.out)))); (case aL => have := LMc12.out; omega); intro v296 w13 ho hb hg hat; rw [← Ny295.out] at ho; have n0_ := Aside0.mk (hb); have n1_ := Aside0.mk (ho); clear HB; clear HO_3; have HB := n0_; have HO297 := n1_; clear n0_ n1_; clear ho hb hg hat))
     go_ret
     exact ⟨_, by first | rfl | (simp [errW_none, errW_some] <;> rfl) | (simp [*, errW_none, errW_some, bne]; done) | (simp [*, errW_none, errW_some] <;> rfl), by (with_reducible repeat (first | apply Kd.R_alloc | apply Kd.R_drewN | apply Kd.R_drew)); exact HO297.out, by repeat (first | (with_reducible first | exact HB.out | apply below_alloc | apply pw_below_drewN | apply below_drew1) | exact HB.out)⟩
    ·rw [if_neg c12] at H
     exact absurd H (by simp)
end Go.Proofs.Ytjmmdphkgioooaa.P
end
section
namespace Go.Proofs.Ytjmmdphkgioooaa.La
open Go.RowKit Go.Proofs.Ytjmmdphkgioooaa.P Go.Proofs.YtjmmdphkgioooaaW.PrintWords Go.Proofs.YtjmmdphkgioooaaW.PrintLast Go.Proofs.YtjmmdphkgioooaaW.PrintMore
theorem ref_good_eq (r : Int) : dragomanref1_Good.f r = some (decide (good r)) := good_eq r
def enc0 (r : Int) : List Int := if good r then enc r else []
theorem enc0_bytes (r : Int) : Bytes (enc0 r) := by
 unfold enc0
 split
 ·rename_i h; exact enc_bytes h
 ·intro x hx; cases hx
theorem ref_put_eq (r : Int) : dragomanref1_Put.f r = some (strOfNums (enc0 r)) := by
 unfold dragomanref1_Put.f enc0
 rw [ref_good_eq, Option.bind_some]
 by_cases hg : good r
 ·have hg' := good_iff.1 hg
  have d1 : Int.tdiv r 64 = r / 64 := Int.tdiv_eq_ediv_of_nonneg (by omega)
  have d2 : Int.tdiv r 4096 = r / 4096 := Int.tdiv_eq_ediv_of_nonneg (by omega)
  have d3 : Int.tdiv r 262144 = r / 262144 := Int.tdiv_eq_ediv_of_nonneg (by omega)
  have m1 : Int.tmod r 64 = r % 64 := Int.tmod_eq_emod_of_nonneg (by omega)
  have m2 : Int.tmod (r / 64) 64 = r / 64 % 64 := Int.tmod_eq_emod_of_nonneg (by omega)
  have m3 : Int.tmod (r / 4096) 64 = r / 4096 % 64 := Int.tmod_eq_emod_of_nonneg (by omega)
  have w1 : wrap64 (r / 64) = r / 64 := wrap_id (by omega) (by omega)
  have w2 : wrap64 (r / 4096) = r / 4096 := wrap_id (by omega) (by omega)
  have w3 : wrap64 (r / 262144) = r / 262144 := wrap_id (by omega) (by omega)
  rw [if_pos (decide_eq_true hg), if_pos hg, d1, d2, d3, w1, w2, w3, m1, m2, m3]
  unfold enc
  split
  ·rw [show r % 256 = r by omega]
  ·split
   ·rw [wrap_id (n := 192 + r / 64) (by omega) (by omega), wrap_id (n := 128 + r % 64) (by omega) (by omega), show (192 + r / 64) % 256 = 192 + r / 64 by omega, show (128 + r % 64) % 256 = 128 + r % 64 by omega]
   ·split
    ·rw [wrap_id (n := 224 + r / 4096) (by omega) (by omega), wrap_id (n := 128 + r / 64 % 64) (by omega) (by omega), wrap_id (n := 128 + r % 64) (by omega) (by omega), show (224 + r / 4096) % 256 = 224 + r / 4096 by omega, show (128 + r / 64 % 64) % 256 = 128 + r / 64 % 64 by omega, show (128 + r % 64) % 256 = 128 + r % 64 by omega]
    ·rw [wrap_id (n := 240 + r / 262144) (by omega) (by omega), wrap_id (n := 128 + r / 4096 % 64) (by omega) (by omega), wrap_id (n := 128 + r / 64 % 64) (by omega) (by omega), wrap_id (n := 128 + r % 64) (by omega) (by omega), show (240 + r / 262144) % 256 = 240 + r / 262144 by omega, show (128 + r / 4096 % 64) % 256 = 128 + r / 4096 % 64 by omega, show (128 + r / 64 % 64) % 256 = 128 + r / 64 % 64 by omega, show (128 + r % 64) % 256 = 128 + r % 64 by omega]
 ·rw [if_neg (by simpa using hg), if_neg hg]
  rfl
def rend (r : Int) (n : Nat) (l : List Int) : Int × Int := if enc0 r = l.take n then (r, (n : Int)) else (0, 0)
theorem rl0_end (k : Nat) (s : ByteArray) {r i : Int} {n : Nat} (h : ¬ i < (n : Int)) (hn : n ≤ s.size) : dragomanref1_Take.l0 (k + 1) s (n : Int) r i = some (rend r n (bytesOf s)) := by
 simp only [dragomanref1_Take.l0]
 rw [if_neg h, ref_put_eq, Option.bind_some, if_pos (by omega), if_pos (by omega)]
 unfold rend
 have : ((strOfNums (enc0 r)).toList = (s.extract 0 ((n : Int)).toNat).toList) ↔ enc0 r = (bytesOf s).take n := by
  rw [toList_eq_iff, strOfNums_bytes (enc0_bytes r), bytesOf_take, Int.toNat_natCast]
 simp only [this]
 split <;> rfl
theorem rl0_bad (k : Nat) (s : ByteArray) {n r i : Int} (h : i < n) (h0 : 0 ≤ i) (hs : i < s.size) (hb : ¬ (128 ≤ bt s i ∧ bt s i < 192)) : dragomanref1_Take.l0 (k + 1) s n r i = some (0, 0) := by
 simp only [dragomanref1_Take.l0]
 rw [if_pos h, if_pos h0, if_pos hs]
 by_cases c : bt s i < 128
 ·rw [if_pos c]
 ·rw [if_neg c, if_pos (by omega)]
theorem rl0_more (k : Nat) (s : ByteArray) {n r i : Int} (h : i < n) (h0 : 0 ≤ i) (hs : i < s.size) (hb : 128 ≤ bt s i ∧ bt s i < 192) (r0 : 0 ≤ r) (r1 : r < 2097152) (i1 : i < 10) : dragomanref1_Take.l0 (k + 1) s n r i = dragomanref1_Take.l0 k s n (r * 64 + (bt s i - 128)) (i + 1) := by
 simp only [dragomanref1_Take.l0]
 rw [if_pos h, if_pos h0, if_pos hs, if_neg (by omega), if_neg (by omega), wrap_id (n := 64 * r) (by omega) (by omega), wrap_id (n := bt s i) (by omega) (by omega), wrap_id (n := 64 * r + bt s i) (by omega) (by omega), wrap_id (n := 64 * r + bt s i - 128) (by omega) (by omega), wrap_id (n := i + 1) (by omega) (by omega), show 64 * r + bt s i - 128 = r * 64 + (bt s i - 128) by omega]
theorem enc0_eq {r : Int} {l : List Int} (hl : l ≠ []) : enc0 r = l ↔ good r ∧ enc r = l := by
 unfold enc0
 split
 ·rename_i h; exact ⟨fun e => ⟨h, e⟩, fun e => e.2⟩
 ·rename_i h; exact ⟨fun e => absurd e.symm hl, fun e => absurd e.1 h⟩
theorem enc2 {r a b : Int} (h : r = tk2 a b) (ha : 192 ≤ a ∧ a < 224) (hb : 128 ≤ b ∧ b < 192) : enc r = [a, b] ↔ 128 ≤ r := by
 unfold tk2 at h
 unfold enc
 by_cases c : r < 128
 ·rw [if_pos c]; simp; omega
 ·rw [if_neg c, if_pos (by omega)]; simp; omega
theorem enc3 {r a b c : Int} (h : r = tk3 a b c) (ha : 224 ≤ a ∧ a < 240) (hb : 128 ≤ b ∧ b < 192) (hc : 128 ≤ c ∧ c < 192) : enc r = [a, b, c] ↔ 2048 ≤ r := by
 unfold tk3 at h
 unfold enc
 by_cases c1 : r < 128
 ·rw [if_pos c1]; simp; omega
 ·rw [if_neg c1]
  by_cases c2 : r < 2048
  ·rw [if_pos c2]; simp; omega
  ·rw [if_neg c2, if_pos (by omega)]; simp; omega
theorem enc4 {r a b c d : Int} (h : r = tk4 a b c d) (_ha : 240 ≤ a ∧ a < 248) (hb : 128 ≤ b ∧ b < 192) (hc : 128 ≤ c ∧ c < 192) (hd : 128 ≤ d ∧ d < 192) : enc r = [a, b, c, d] ↔ 65536 ≤ r := by
 unfold tk4 at h
 unfold enc
 by_cases c1 : r < 128
 ·rw [if_pos c1]; simp; omega
 ·rw [if_neg c1]
  by_cases c2 : r < 2048
  ·rw [if_pos c2]; simp; omega
  ·rw [if_neg c2]
   by_cases c3 : r < 65536
   ·rw [if_pos c3]; simp; omega
   ·rw [if_neg c3]; simp; omega
theorem ref_take_eq (k : Nat) (s : ByteArray) : dragomanref1_Take.f (k + 9) s = some (tk (bytesOf s)) := by
 have hB := bytes_of s
 have hS := size_of s
 generalize hl : bytesOf s = l at hB hS
 have hbt : ∀ i, bt s i = l.getD i.toNat 0 := fun i => by rw [bt_get, hl]
 unfold dragomanref1_Take.f
 match l with
 | [] => rw [if_pos ((toList_nil_iff s).2 hl)]; rfl
 | a :: t =>
  have ha := hB a List.mem_cons_self
  have h0 : bt s 0 = a := by rw [hbt]; rfl
  have hsz : (s.size : Int) = (t.length : Int) + 1 := by rw [← hS]; simp
  rw [if_neg (fun h => by rw [toList_nil_iff, hl] at h; cases h), if_pos (by omega), h0, wrap_id (by omega) (by omega)]
  simp only [tk]
  by_cases c5 : 240 ≤ a
  ·rw [if_pos c5, if_neg (show ¬ a < 128 by omega), if_neg (show ¬ a < 192 by omega), if_neg (show ¬ a < 224 by omega), if_neg (show ¬ a < 240 by omega)]
   by_cases c6 : a < 248
   ·rw [decide_eq_true c6, if_pos c6]
    simp only [dragomanref1_Take.j0]
    rw [if_pos trivial]
    simp only [dragomanref1_Take.j3]
    rw [wrap_id (by omega) (by omega)]
    match t with
    | [] =>
     simp at hsz
     rw [if_pos (by omega)]
    | [b] =>
     simp at hsz
     rw [if_pos (by omega)]
    | [b, c] =>
     simp at hsz
     rw [if_pos (by omega)]
    | b :: c :: d :: t =>
     simp at hsz
     dsimp only
     have hb : bt s 1 = b := by rw [hbt]; rfl
     have hc : bt s 2 = c := by rw [hbt]; rfl
     have hd : bt s 3 = d := by rw [hbt]; rfl
     rw [if_neg (by omega)]
     have hr := hB b (by simp)
     have hr2 := hB c (by simp)
     have hr3 := hB d (by simp)
     by_cases k1 : 128 ≤ b ∧ b < 192
     ·rw [rl0_more _ _ (by decide) (by decide) (by omega) (by rw [hb]; exact k1) (by omega) (by omega) (by decide), hb]
      by_cases k2 : 128 ≤ c ∧ c < 192
      ·rw [rl0_more _ _ (by decide) (by decide) (by omega) (by rw [show (1 : Int) + 1 = 2 by decide, hc]; exact k2) (by omega) (by omega) (by decide), show (1 : Int) + 1 = 2 by decide, hc]
       by_cases k3 : 128 ≤ d ∧ d < 192
       ·rw [rl0_more _ _ (by decide) (by decide) (by omega) (by rw [show (2 : Int) + 1 = 3 by decide, hd]; exact k3) (by omega) (by omega) (by decide), show (2 : Int) + 1 = 3 by decide, hd]
        have e : (((a - 240) * 64 + (b - 128)) * 64 + (c - 128)) * 64 + (d - 128) = tk4 a b c d := by unfold tk4; omega
        have e1 : 0 ≤ tk4 a b c d := by unfold tk4; omega
        rw [e, show (4 : Int) = ((4 : Nat) : Int) by rfl, rl0_end _ _ (by decide) (by omega), hl]
        unfold rend
        simp only [List.take_succ_cons, List.take_zero, enc0_eq (List.cons_ne_nil _ _), enc4 rfl ⟨c5, c6⟩ k1 k2 k3, good_iff]
        by_cases k4 : 65536 ≤ tk4 a b c d ∧ tk4 a b c d ≤ 1114111
        ·rw [if_pos (by omega), if_pos (by omega)]
        ·rw [if_neg (by omega), if_neg (by omega)]
       ·rw [rl0_bad _ _ (by decide) (by decide) (by omega) (by rw [show (2 : Int) + 1 = 3 by decide, hd]; exact k3), if_neg (by omega)]
      ·rw [rl0_bad _ _ (by decide) (by decide) (by omega) (by rw [show (1 : Int) + 1 = 2 by decide, hc]; exact k2), if_neg (by omega)]
     ·rw [rl0_bad _ _ (by decide) (by decide) (by omega) (by rw [hb]; exact k1), if_neg (by omega)]
   ·rw [decide_eq_false c6, if_neg c6]
    simp only [dragomanref1_Take.j0]
    rw [if_neg (by decide), if_pos (by omega)]
    simp only [dragomanref1_Take.j1]
    rw [if_neg (by simp; omega), if_pos (by omega)]
    simp only [dragomanref1_Take.j2]
    rw [if_neg (by simp; omega), if_pos (by omega)]
  ·rw [if_neg c5]
   simp only [dragomanref1_Take.j0]
   rw [if_neg (by decide)]
   by_cases c4 : 224 ≤ a
   ·rw [if_pos c4, if_neg (show ¬ a < 128 by omega), if_neg (show ¬ a < 192 by omega), if_neg (show ¬ a < 224 by omega), if_pos (show a < 240 by omega)]
    simp only [dragomanref1_Take.j1]
    rw [if_pos (decide_eq_true (by omega)), wrap_id (by omega) (by omega)]
    simp only [dragomanref1_Take.j3]
    match t with
    | [] =>
     simp at hsz
     rw [if_pos (by omega)]
    | [b] =>
     simp at hsz
     rw [if_pos (by omega)]
    | b :: c :: t =>
     simp at hsz
     dsimp only
     have hb : bt s 1 = b := by rw [hbt]; rfl
     have hc : bt s 2 = c := by rw [hbt]; rfl
     rw [if_neg (by omega)]
     have hr := hB b (by simp)
     have hr2 := hB c (by simp)
     by_cases k1 : 128 ≤ b ∧ b < 192
     ·rw [rl0_more _ _ (by decide) (by decide) (by omega) (by rw [hb]; exact k1) (by omega) (by omega) (by decide), hb]
      by_cases k2 : 128 ≤ c ∧ c < 192
      ·rw [rl0_more _ _ (by decide) (by decide) (by omega) (by rw [show (1 : Int) + 1 = 2 by decide, hc]; exact k2) (by omega) (by omega) (by decide), show (1 : Int) + 1 = 2 by decide, hc]
       have e : ((a - 224) * 64 + (b - 128)) * 64 + (c - 128) = tk3 a b c := by unfold tk3; omega
       have e1 : 0 ≤ tk3 a b c ∧ tk3 a b c < 65536 := by unfold tk3; omega
       rw [e, show (3 : Int) = ((3 : Nat) : Int) by rfl, rl0_end _ _ (by decide) (by omega), hl]
       unfold rend
       simp only [List.take_succ_cons, List.take_zero, enc0_eq (List.cons_ne_nil _ _), enc3 rfl ⟨c4, by omega⟩ k1 k2, good_iff]
       by_cases k4 : 2048 ≤ tk3 a b c ∧ (tk3 a b c < 55296 ∨ 57343 < tk3 a b c)
       ·rw [if_pos (by omega), if_pos (by omega)]
       ·rw [if_neg (by omega), if_neg (by omega)]
      ·rw [rl0_bad _ _ (by decide) (by decide) (by omega) (by rw [show (1 : Int) + 1 = 2 by decide, hc]; exact k2), if_neg (by omega)]
     ·rw [rl0_bad _ _ (by decide) (by decide) (by omega) (by rw [hb]; exact k1), if_neg (by omega)]
   ·rw [if_neg c4]
    simp only [dragomanref1_Take.j1]
    rw [if_neg (by decide)]
    by_cases c3 : 192 ≤ a
    ·rw [if_pos c3, if_neg (show ¬ a < 128 by omega), if_neg (show ¬ a < 192 by omega), if_pos (show a < 224 by omega)]
     simp only [dragomanref1_Take.j2]
     rw [if_pos (decide_eq_true (by omega)), wrap_id (by omega) (by omega)]
     simp only [dragomanref1_Take.j3]
     match t with
     | [] =>
      simp at hsz
      rw [if_pos (by omega)]
     | b :: t =>
      simp at hsz
      dsimp only
      have hb : bt s 1 = b := by rw [hbt]; rfl
      rw [if_neg (by omega)]
      have hr := hB b (by simp)
      by_cases k1 : 128 ≤ b ∧ b < 192
      ·rw [rl0_more _ _ (by decide) (by decide) (by omega) (by rw [hb]; exact k1) (by omega) (by omega) (by decide), hb]
       have e : (a - 192) * 64 + (b - 128) = tk2 a b := by unfold tk2; omega
       have e1 : 0 ≤ tk2 a b ∧ tk2 a b < 2048 := by unfold tk2; omega
       rw [e, show (2 : Int) = ((2 : Nat) : Int) by rfl, rl0_end _ _ (by decide) (by omega), hl]
       unfold rend
       simp only [List.take_succ_cons, List.take_zero, enc0_eq (List.cons_ne_nil _ _), enc2 rfl ⟨c3, by omega⟩ k1, good_iff]
       by_cases k4 : 128 ≤ tk2 a b
       ·rw [if_pos (by omega), if_pos (by omega)]
       ·rw [if_neg (by omega), if_neg (by omega)]
      ·rw [rl0_bad _ _ (by decide) (by decide) (by omega) (by rw [hb]; exact k1), if_neg (by omega)]
    ·rw [if_neg c3]
     simp only [dragomanref1_Take.j2]
     rw [if_neg (by decide)]
     by_cases c2 : 128 ≤ a
     ·rw [if_pos c2, if_neg (show ¬ a < 128 by omega), if_pos (show a < 192 by omega)]
     ·rw [if_neg c2, if_pos (show a < 128 by omega)]
      simp only [dragomanref1_Take.j3]
      rw [if_neg (by omega), show (1 : Int) = ((1 : Nat) : Int) by rfl, rl0_end _ _ (by decide) (by omega), hl]
      unfold rend
      rw [List.take_succ_cons, List.take_zero, if_pos ((enc0_eq (List.cons_ne_nil _ _)).2 ⟨good_iff.2 (by omega), by unfold enc; rw [if_pos (by omega)]⟩)]
theorem ref_take_ev (s : ByteArray) : Ev (fun k => dragomanref1_Take.f k s) (tk (bytesOf s)) := ⟨9, fun k hk => by
 obtain ⟨m, rfl⟩ : ∃ m, k = m + 9 := ⟨k - 9, by omega⟩
 exact ref_take_eq m s⟩
def rbadR (at_ : Nat) : Option Nat → Int
 | none => -1
 | some p => ((at_ + p : Nat) : Int)
theorem ref_valid_l0 (s : ByteArray) (hs : s.size ≤ 140737488355328) (n : Nat) : ∀ (i : Nat), i ≤ s.size → s.size - i = n → Ev (fun k => dragomanref1_Valid.l0 k s (i : Int)) (rbadR i (bad ((bytesOf s).drop i))) := by
 induction n using Nat.strongRecOn with
 | _ n ih =>
 intro i hi hn
 have hL : ((bytesOf s).drop i).length = s.size - i := by rw [List.length_drop, size_of]
 have hBd : Bytes ((bytesOf s).drop i) := (bytes_of s).drop i
 refine Ev.step (fun k => by rw [dragomanref1_Valid.l0]) ?_
 by_cases h : i < s.size
 ·have h1 : (i : Int) < (s.size : Int) := by omega
  have h2 : (0 : Int) ≤ (i : Int) := by omega
  have h3 : (i : Int) ≤ (s.size : Int) := by omega
  have hne : (bytesOf s).drop i ≠ [] := fun e => by rw [e] at hL; simp at hL; omega
  simp only [if_pos h1, if_pos h2, if_pos h3, Int.toNat_natCast]
  refine Ev.bind (ref_take_ev _) ?_
  rw [bytesOf_drop]
  by_cases h0 : (tk ((bytesOf s).drop i)).2 = 0
  ·simp only [if_pos h0, bad_none hne h0, rbadR]
   exact Ev.now _
  ·simp only [if_neg h0]
   have hb := tk_bound _ hBd
   have hp := stp_pos _ hBd
   have hst := stp_le hBd hne
   rw [stp_int hBd h0, wrap_id (by omega) (by omega), bad_step hne h0, List.drop_drop]
   have e : (i : Int) + (stp ((bytesOf s).drop i) : Int) = ((i + stp ((bytesOf s).drop i) : Nat) : Int) := by omega
   rw [e]
   have := ih (s.size - (i + stp ((bytesOf s).drop i))) (by omega) (i + stp ((bytesOf s).drop i)) (by omega) rfl
   generalize stp ((bytesOf s).drop i) = q at *
   cases hc : bad ((bytesOf s).drop (i + q)) with
   | none => rw [hc] at this; exact this
   | some p =>
    rw [hc] at this
    simp only [Option.map_some, rbadR] at this ⊢
    rw [show i + (p + q) = i + q + p by omega]
    exact this
 ·obtain rfl : i = s.size := by omega
  simp only [if_neg (show ¬ ((s.size : Int) < (s.size : Int)) by omega)]
  rw [List.drop_eq_nil_of_le (by rw [size_of]; omega), bad_nil]
  exact Ev.now _
theorem ref_valid_ev (s : ByteArray) (hs : s.size ≤ 140737488355328) : Ev (fun k => dragomanref1_Valid.f k s) (rbadR 0 (bad (bytesOf s))) :=
 ref_valid_l0 s hs _ 0 (by omega) rfl
def ints (l : List Nat) : List Int := l.map fun n : Nat => (n : Int)
theorem starts_l0 (s : ByteArray) (hs : s.size ≤ 8796093022208) (n : Nat) : ∀ (acc : List Int) (i : Nat), i ≤ s.size → s.size - i = n → acc.length ≤ i → Ev (fun k => dragomanref1_Starts.l0 k s acc (i : Int)) (acc ++ ints ((sts ((bytesOf s).drop i)).map (· + i))) := by
 induction n using Nat.strongRecOn with
 | _ n ih =>
 intro acc i hi hn hc
 have hL : ((bytesOf s).drop i).length = s.size - i := by rw [List.length_drop, size_of]
 have hBd : Bytes ((bytesOf s).drop i) := (bytes_of s).drop i
 refine Ev.step (fun k => by rw [dragomanref1_Starts.l0]) ?_
 by_cases h : i < s.size
 ·have h1 : (i : Int) < (s.size : Int) := by omega
  have h2 : (0 : Int) ≤ (i : Int) := by omega
  have h3 : (i : Int) ≤ (s.size : Int) := by omega
  have hne : (bytesOf s).drop i ≠ [] := fun e => by rw [e] at hL; simp at hL; omega
  have h4 : acc.length < 17592186044416 := by omega
  simp only [if_pos h1, if_pos h2, if_pos h3, if_pos h4, Int.toNat_natCast, Option.bind_some]
  refine Ev.bind (ref_take_ev _) ?_
  rw [bytesOf_drop]
  have hb := tk_bound _ hBd
  have hp := stp_pos _ hBd
  have hst := stp_le hBd hne
  have key : Ev (fun k => dragomanref1_Starts.l0 k s (acc ++ [(i : Int)]) ((i + stp ((bytesOf s).drop i) : Nat) : Int)) (acc ++ ints ((sts ((bytesOf s).drop i)).map (· + i))) := by
   have := ih (s.size - (i + stp ((bytesOf s).drop i))) (by omega) (acc ++ [(i : Int)]) (i + stp ((bytesOf s).drop i)) (by omega) rfl (by simp; omega)
   rw [sts_step hne, List.drop_drop]
   rw [show acc ++ ints ((0 :: (sts ((bytesOf s).drop (i + stp ((bytesOf s).drop i)))).map (· + stp ((bytesOf s).drop i))).map (· + i)) = acc ++ [(i : Int)] ++ ints ((sts ((bytesOf s).drop (i + stp ((bytesOf s).drop i)))).map (· + (i + stp ((bytesOf s).drop i)))) by
    simp [ints, List.map_map]
    intro x _
    omega]
   exact this
  by_cases h0 : (tk ((bytesOf s).drop i)).2 = 0
  ·simp only [if_pos h0]
   have : stp ((bytesOf s).drop i) = 1 := by unfold stp; rw [if_pos h0]
   rw [this] at key
   rw [wrap_id (by omega) (by omega)]
   exact key
  ·simp only [if_neg h0]
   rw [stp_int hBd h0, wrap_id (by omega) (by omega)]
   rw [show (i : Int) + (stp ((bytesOf s).drop i) : Int) = ((i + stp ((bytesOf s).drop i) : Nat) : Int) by omega]
   exact key
 ·obtain rfl : i = s.size := by omega
  have h4 : acc.length < 17592186044416 := by omega
  simp only [if_neg (show ¬ ((s.size : Int) < (s.size : Int)) by omega), if_pos h4]
  rw [List.drop_eq_nil_of_le (by rw [size_of]; omega), sts_nil]
  simp only [List.map_cons, List.map_nil, Nat.zero_add, ints]
  exact Ev.now _
theorem starts_ev (s : ByteArray) (hs : s.size ≤ 8796093022208) : Ev (fun k => dragomanref1_Starts.f k s) (ints (sts (bytesOf s))) := by
 have := starts_l0 s hs _ [] 0 (by omega) rfl (by simp)
 refine Ev.congr (fun k => by rw [dragomanref1_Starts.f]) (g := fun k => dragomanref1_Starts.f k s) (f := fun k => dragomanref1_Starts.l0 k s [] 0) ?_
 simpa using this
theorem ints_length (l : List Nat) : (ints l).length = l.length := by simp [ints]
end Go.Proofs.Ytjmmdphkgioooaa.La
end
section
namespace Go.Proofs.Ytjmmdphkgioooaa.P
open Go.RowKit Go.Proofs.YtjmmdphkgioooaaW.PrintWords Go.Proofs.YtjmmdphkgioooaaW.PrintLast Go.Proofs.YtjmmdphkgioooaaW.PrintMore
attribute [local go_sem] max2_int min2_int max_two min_two max_three min_three max_four min_four   -- for this text's walks alone
set_option linter.unusedVariables false
set_option linter.unusedSimpArgs false
/-! ### dragomanref1_clamp: function 20 -/
def dragomanref1_clamp.f (a0 : ByteArray) (a1 : Int) : Option (Int) := if a1 < 0 then (some 0) else (if a1 > (a0.size : Int) then (some (a0.size : Int)) else (some a1))
set_option maxHeartbeats 8000000 in
set_option maxRecDepth 100000 in
theorem dragomanref1_clamp.calls (a0 : ByteArray) (a1 : Int) (r : Int) (w : World) (h : dragomanref1_clamp.f a0 a1 = some r) :
  Calls Try.prog 20 #[.string a0, .int .i64 a1] w fun e w' => e = .returned (.int .i64 r) ∧ Drawn0 w w' := by
 have H : (if a1 < 0 then (some 0) else (if a1 > (a0.size : Int) then (some (a0.size : Int)) else (some a1))) = some r := h
 clear h
 by_cases c3 : a1 < 0
 ·rw [if_pos c3] at H
  have c3b0 : decide (a1 < 0) = true := decide_eq_true c3
  clear c3
  obtain rfl := Option.some.inj H
  go_enter Try.func20, Try.ntmps20
  go_wp2
  go_ret
  exact ⟨by first | rfl | (simp; done) | (simp [*]; done), by repeat (first | exact Drawn0.refl _ | apply Drawn0.step)⟩
 ·rw [if_neg c3] at H
  have c3b0 : decide (a1 < 0) = false := decide_eq_false c3
  clear c3
  by_cases c4 : a1 > (a0.size : Int)
  ·rw [if_pos c4] at H
   have c4b0 : decide ((a0.size : Int) < a1) = true := decide_eq_true c4
   clear c4
   obtain rfl := Option.some.inj H
   go_enter Try.func20, Try.ntmps20
   go_wp2
   go_ret
   exact ⟨by first | rfl | (simp; done) | (simp [*]; done), by repeat (first | exact Drawn0.refl _ | apply Drawn0.step)⟩
  ·rw [if_neg c4] at H
   have c4b0 : decide ((a0.size : Int) < a1) = false := decide_eq_false c4
   clear c4
   obtain rfl := Option.some.inj H
   go_enter Try.func20, Try.ntmps20
   go_wp2
   go_ret
   exact ⟨by first | rfl | (simp; done) | (simp [*]; done), by repeat (first | exact Drawn0.refl _ | apply Drawn0.step)⟩
end Go.Proofs.Ytjmmdphkgioooaa.P
end
section
namespace Go.Proofs.Ytjmmdphkgioooaa.P
open Go.RowKit Go.Proofs.YtjmmdphkgioooaaW.PrintWords Go.Proofs.YtjmmdphkgioooaaW.PrintLast Go.Proofs.YtjmmdphkgioooaaW.PrintMore
attribute [local go_sem] max2_int min2_int max_two min_two max_three min_three max_four min_four   -- for this text's walks alone
set_option linter.unusedVariables false
set_option linter.unusedSimpArgs false
/-! ### dragomanref1_Of: function 19 -/
def dragomanref1_Of.l0 : Nat → ByteArray → Int → Int → Int → Int → Option (Int × Int)
 | 0, _, _, _, _, _ => none
 | k + 1, x0, x1, x6, x7, x8 => if x8 < x1 then (if 0 ≤ x8 then (if x8 < (x0.size : Int) then (if (bt x0 x8) = 10 then (dragomanref1_Of.l0 k x0 x1 (wrap64 (x6 + 1)) (wrap64 (x8 + 1)) (wrap64 (x8 + 1))) else (dragomanref1_Of.l0 k x0 x1 x6 x7 (wrap64 (x8 + 1)))) else (none)) else (none)) else (if 0 ≤ x7 then (if x7 ≤ x1 then (if x1 ≤ (x0.size : Int) then ((dragomanref1_Starts.f k (x0.extract (x7 : Int).toNat (x1 : Int).toNat)).bind fun t299 => (some (x6, (t299.length : Int)))) else (none)) else (none)) else (none))
def dragomanref1_Of.f (k : Nat) (a0 : ByteArray) (a1 : Int) : Option (Int × Int) := (dragomanref1_clamp.f a0 a1).bind fun t298 => (dragomanref1_Of.l0 k a0 t298 1 0 0)
set_option maxHeartbeats 8000000 in
set_option maxRecDepth 100000 in
theorem dragomanref1_Of.calls (k : Nat) (a0 : ByteArray) (a1 : Int) (r1 : Int) (r2 : Int) (w : World) (h : dragomanref1_Of.f k a0 a1 = some (r1, r2)) :
  Calls Try.prog 19 #[.string a0, .int .i64 a1] w fun e w' => e = .returned (.tuple #[.int .i64 r1, .int .i64 r2]) ∧ Below w.heap.size w w' := by
 have HB := Aside0.mk (Below.refl w.heap.size w)
 have H : ((dragomanref1_clamp.f a0 a1).bind fun t298 => (dragomanref1_Of.l0 k a0 t298 1 0 0)) = some (r1, r2) := h
 clear h
 replace H := Option.bind_eq_some_iff.mp H
 obtain ⟨t298, A30, H⟩ := H
 replace H : (dragomanref1_Of.l0 k a0 t298 1 0 0) = some (r1, r2) := H
 have A3 := Aside0.mk A30
 clear A30
 have H' := Aside0.mk H
 clear H
 go_enter Try.func19, Try.ntmps19
 go_wp2_with (first | ((with_reducible refine gate_callee (f := 20) rfl ?_); refine goesL_ (some 11) rfl rfl Try.func20 (by kernel_rfl) rfl #[.string a0, .int .i64 a1] rfl (by (try simp only [List.map_toArray, List.map_cons, List.map_nil]); first | done | rfl | (simp only [List.length_drop, List.length_take]; rfl)) ?_; (with_reducible refine (dragomanref1_clamp.calls a0 a1 t298 _ A3.out).mono ?_); rintro e w' ⟨rfl, ⟨nd, rfl⟩⟩; refine ⟨_, rfl, ?_⟩))
 go_loopg [6, 7, 8] k (fun kq v6 v7 v8 w' => ∃ (x6_1 : Int) (x7_1 : Int) (x8_1 : Int), v6 = .int .i64 x6_1 ∧ v7 = .int .i64 x7_1 ∧ v8 = .int .i64 x8_1 ∧ Aside0 (dragomanref1_Of.l0 kq a0 t298 x6_1 x7_1 x8_1 = some (r1, r2)) ∧ Aside0 (kq ≤ k) ∧ Aside0 (Below w.heap.size w w'))
 case atStart => exact ⟨(1), (0), (0), (by first | rfl | (simp; done) | (simp [*]; done)), (by first | rfl | (simp; done) | (simp [*]; done)), (by first | rfl | (simp; done) | (simp [*]; done)), H', ⟨Nat.le_refl _⟩, ⟨by repeat (first | (with_reducible first | exact HB.out | apply below_alloc | apply pw_below_drewN | apply below_drew1) | exact HB.out)⟩⟩
 case round =>
  clear H'
  try clear c1
  try clear c2
  try clear p2
  obtain ⟨x6_1, x7_1, x8_1, rfl, rfl, rfl, HA, HK1, HB⟩ := hrel
  cases gk with
  | zero => exact absurd HA.out (by simp [dragomanref1_Of.l0])
  | succ k1 =>
   have H := HA.out
   clear HA
   simp only [dragomanref1_Of.l0] at H
   by_cases c4 : x8_1 < t298
   ·rw [if_pos c4] at H
    have c4b0 : decide (x8_1 < t298) = true := decide_eq_true c4
    clear c4
    by_cases c5 : 0 ≤ x8_1
    ·rw [if_pos c5] at H
     have c5b0 : decide (0 ≤ x8_1) = true := decide_eq_true c5
     clear c5
     by_cases c6 : x8_1 < (a0.size : Int)
     ·rw [if_pos c6] at H
      have c6b0 : decide (x8_1 < (a0.size : Int)) = true := decide_eq_true c6
      clear c6
      by_cases c8 : (bt a0 x8_1) = 10
      ·rw [if_pos c8] at H
       have c8b0 : ((bt a0 x8_1) == 10) = true := beq_iff_eq.mpr c8
       have c8b1 : ((bt a0 x8_1) != 10) = false := bne_eq_false_iff_eq.mpr c8
       clear c8
       have H' := Aside0.mk H
       clear H
       have p7 : 0 ≤ (x8_1 : Int) := of_decide_eq_true (by first | (with_reducible assumption) | assumption)
       have q7 : x8_1 < (a0.size : Int) := of_decide_eq_true (by first | (with_reducible assumption) | assumption)
       have hx7 := bt_at a0 x8_1
       replace p7 := eq_true p7
       replace q7 := eq_true q7
       go_wp2
       go_roundg k1
       case measure => have := HK1.out; omega
       case rel => exact ⟨(wrap64 (x6_1 + 1)), (wrap64 (x8_1 + 1)), (wrap64 (x8_1 + 1)), (by first | rfl | (simp; done) | (simp [*]; done)), (by first | rfl | (simp; done) | (simp [*]; done)), (by first | rfl | (simp; done) | (simp [*]; done)), H', ⟨by have := HK1.out; omega⟩, ⟨by repeat (first | (with_reducible first | exact HB.out | apply below_alloc | apply pw_below_drewN | apply below_drew1) | exact HB.out)⟩⟩
      ·rw [if_neg c8] at H
       have c8b0 : ((bt a0 x8_1) == 10) = false := beq_eq_false_iff_ne.mpr c8
       have c8b1 : ((bt a0 x8_1) != 10) = true := bne_iff_ne.mpr c8
       have H' := Aside0.mk H
       clear H
       have p7 : 0 ≤ (x8_1 : Int) := of_decide_eq_true (by first | (with_reducible assumption) | assumption)
       have q7 : x8_1 < (a0.size : Int) := of_decide_eq_true (by first | (with_reducible assumption) | assumption)
       have hx7 := bt_at a0 x8_1
       replace p7 := eq_true p7
       replace q7 := eq_true q7
       go_wp2
       go_roundg k1
       case measure => have := HK1.out; omega
       case rel => exact ⟨(x6_1), (x7_1), (wrap64 (x8_1 + 1)), (by first | rfl | (simp; done) | (simp [*]; done)), (by first | rfl | (simp; done) | (simp [*]; done)), (by first | rfl | (simp; done) | (simp [*]; done)), H', ⟨by have := HK1.out; omega⟩, ⟨by repeat (first | (with_reducible first | exact HB.out | apply below_alloc | apply pw_below_drewN | apply below_drew1) | exact HB.out)⟩⟩
     ·rw [if_neg c6] at H
      exact absurd H (by simp)
    ·rw [if_neg c5] at H
     exact absurd H (by simp)
   ·rw [if_neg c4] at H
    have c4b0 : decide (x8_1 < t298) = false := decide_eq_false c4
    clear c4
    by_cases c9 : 0 ≤ x7_1
    ·rw [if_pos c9] at H
     have c9b0 := eq_true c9
     have c9b1 : decide (0 ≤ x7_1) = true := decide_eq_true c9
     clear c9
     by_cases c10 : x7_1 ≤ t298
     ·rw [if_pos c10] at H
      have c10b0 := eq_true c10
      have c10b1 : decide (x7_1 ≤ t298) = true := decide_eq_true c10
      clear c10
      by_cases c11 : t298 ≤ (a0.size : Int)
      ·rw [if_pos c11] at H
       have c11b0 := eq_true c11
       have c11b1 : decide (t298 ≤ (a0.size : Int)) = true := decide_eq_true c11
       clear c11
       replace H := Option.bind_eq_some_iff.mp H
       obtain ⟨t299, A120, H⟩ := H
       replace H : (some (x6_1, (t299.length : Int))) = some (r1, r2) := H
       have A12 := Aside0.mk A120
       clear A120
       simp only [Option.some.injEq, Prod.mk.injEq] at H
       obtain ⟨rfl, rfl⟩ := H
       go_wp2_with (first | ((with_reducible refine gate_callee (f := 25) rfl ?_); refine goesL_ (some 30) rfl rfl Try.func25 (by kernel_rfl) rfl #[.string (a0.extract (x7_1 : Int).toNat (t298 : Int).toNat)] rfl (by (try simp only [List.map_toArray, List.map_cons, List.map_nil]); first | done | rfl | (simp only [List.length_drop, List.length_take]; rfl)) ?_; (with_reducible refine (dragomanref1_Starts.calls k1 (a0.extract (x7_1 : Int).toNat (t298 : Int).toNat) t299 _ A12.out).mono ?_); rintro e w13 ⟨v300, rfl, ho0, hb⟩; refine ⟨_, rfl, ?_⟩; have n0_ := Aside0.mk (Kd.R_lower ho0 (below_size (by repeat (first | (with_reducible first | exact HB.out | apply below_alloc | apply pw_below_drewN | apply below_drew1) | exact HB.out)))); have n1_ := Aside0.mk (below_step (by repeat (first | (with_reducible first | exact HB.out | apply below_alloc | apply pw_below_drewN | apply below_drew1) | exact HB.out)) hb); clear HB; have HO301 := n0_; have HB := n1_; clear n0_ n1_; (try clear hb); (try clear hb2); (try clear hk); (try clear hi); (try clear ho0); obtain ⟨Ao14, co14, eo14⟩ := Kd.R_slice HO301.out; subst eo14))
       go_ret2
       exact ⟨by first | rfl | (simp [errW_none, errW_some] <;> rfl) | (simp [*, errW_none, errW_some, bne]; done) | (simp [*, errW_none, errW_some] <;> rfl), by repeat (first | (with_reducible first | exact HB.out | apply below_alloc | apply pw_below_drewN | apply below_drew1) | exact HB.out)⟩
      ·rw [if_neg c11] at H
       exact absurd H (by simp)
     ·rw [if_neg c10] at H
      exact absurd H (by simp)
    ·rw [if_neg c9] at H
     exact absurd H (by simp)
end Go.Proofs.Ytjmmdphkgioooaa.P
end
section
namespace Go.Proofs.Ytjmmdphkgioooaa.P
open Go.RowKit Go.Proofs.YtjmmdphkgioooaaW.PrintWords Go.Proofs.YtjmmdphkgioooaaW.PrintLast Go.Proofs.YtjmmdphkgioooaaW.PrintMore
attribute [local go_sem] max2_int min2_int max_two min_two max_three min_three max_four min_four   -- for this text's walks alone
set_option linter.unusedVariables false
set_option linter.unusedSimpArgs false
/-! ### dragomanref1_Fault: function 11 -/
def dragomanref1_Fault.f (k : Nat) (a0 : ByteArray) (a1 : Int) (a2 : Int) : Option (Int × Int × Int × Int) := (dragomanref1_Of.f k a0 a1).bind fun bt303 => ((dragomanref1_clamp.f a0 a1).bind fun t305 => (some (a2, t305, bt303.1, bt303.2)))
set_option maxHeartbeats 8000000 in
set_option maxRecDepth 100000 in
theorem dragomanref1_Fault.calls (k : Nat) (a0 : ByteArray) (a1 : Int) (a2 : Int) (r1 : Int) (r2 : Int) (r3 : Int) (r4 : Int) (w : World) (h : dragomanref1_Fault.f k a0 a1 a2 = some (r1, r2, r3, r4)) :
  Calls Try.prog 11 #[.string a0, .int .i64 a1, .int .i64 a2] w fun e w' => e = .returned (.agg #[.int .i64 r1, .int .i64 r2, .int .i64 r3, .int .i64 r4]) ∧ Below w.heap.size w w' := by
 have hu26 := Try.underlying26
 have HB := Aside0.mk (Below.refl w.heap.size w)
 have H : ((dragomanref1_Of.f k a0 a1).bind fun bt303 => ((dragomanref1_clamp.f a0 a1).bind fun t305 => (some (a2, t305, bt303.1, bt303.2)))) = some (r1, r2, r3, r4) := h
 clear h
 replace H := Option.bind_eq_some_iff.mp H
 obtain ⟨⟨t303, t304⟩, A40, H⟩ := H
 replace H : ((dragomanref1_clamp.f a0 a1).bind fun t305 => (some (a2, t305, t303, t304))) = some (r1, r2, r3, r4) := H
 have A4 := Aside0.mk A40
 clear A40
 replace H := Option.bind_eq_some_iff.mp H
 obtain ⟨t305, A50, H⟩ := H
 replace H : (some (a2, t305, t303, t304)) = some (r1, r2, r3, r4) := H
 have A5 := Aside0.mk A50
 clear A50
 simp only [Option.some.injEq, Prod.mk.injEq] at H
 obtain ⟨rfl, rfl, rfl, rfl⟩ := H
 go_enter Try.func11, Try.ntmps11
 go_wp2_with (first | ((with_reducible refine gate_dst (N := 6) rfl ?_); refine box_event ?hg (N := 6) ?hd (cs := #[.int .i64 0, .int .i64 0, .int .i64 0, .int .i64 0]) (t := 26) ?hr ?_; (case hd => rfl); (case hg => rfl); (case hr => first | (go_simp; done) | (go_simp; rfl)); intro gb302 hg w6 hbox hb; have n0_ := Aside0.mk (below_step (by repeat (first | (with_reducible first | exact HB.out | apply below_alloc | apply pw_below_drewN | apply below_drew1) | exact HB.out)) hb); have n1_ := Aside0.mk (hbox); have n2_ := Aside0.mk ((by rw [hg]; exact (below_size (by repeat (first | (with_reducible first | exact HB.out | apply below_alloc | apply pw_below_drewN | apply below_drew1) | exact HB.out))) : w.heap.size ≤ gb302)); have n3_ := Aside0.mk ((by rw [hg]; exact (below_size (by repeat (first | (with_reducible first | exact HB.out | apply below_alloc | apply pw_below_drewN | apply below_drew1) | exact HB.out))) : w.heap.size ≤ gb302)); clear HB; have HB := n0_; have BK302 := n1_; have GW302 := n2_; have GE302 := n3_; clear n0_ n1_ n2_ n3_; clear hb hbox hg) | ((with_reducible refine gate_callee (f := 19) rfl ?_); refine goesL_ (some 12) rfl rfl Try.func19 (by kernel_rfl) rfl #[.string a0, .int .i64 a1] rfl (by (try simp only [List.map_toArray, List.map_cons, List.map_nil]); first | done | rfl | (simp only [List.length_drop, List.length_take]; rfl)) ?_; (with_reducible refine (dragomanref1_Of.calls k a0 a1 t303 t304 _ A4.out).mono ?_); rintro e w7 ⟨rfl, hb⟩; refine ⟨_, rfl, ?_⟩; have n0_ := Aside0.mk (blk_below (g := gb302) (o := .cells #[.int .i64 0, .int .i64 0, .int .i64 0, .int .i64 0] 26 (0, 0)) (by (with_reducible repeat (first | refine blk_drewN ?_ _ | refine blk_drew ?_ | refine blk_alloc ?_ _)); exact BK302.out) hb); have n1_ := Aside0.mk (below_step (by repeat (first | (with_reducible first | exact HB.out | apply below_alloc | apply pw_below_drewN | apply below_drew1 | refine below_set ?_ GE302.out) | exact HB.out)) hb); clear BK302; clear HB; have BK302 := n0_; have HB := n1_; clear n0_ n1_; (try clear hb); (try clear hb2); (try clear hk); (try clear hi)) | ((with_reducible refine gate_callee (f := 20) rfl ?_); refine goesL_ (some 18) rfl rfl Try.func20 (by kernel_rfl) rfl #[.string a0, .int .i64 a1] rfl (by (try simp only [List.map_toArray, List.map_cons, List.map_nil]); first | done | rfl | (simp only [List.length_drop, List.length_take]; rfl)) ?_; (with_reducible refine (dragomanref1_clamp.calls a0 a1 t305 _ A5.out).mono ?_); rintro e w' ⟨rfl, ⟨nd, rfl⟩⟩; refine ⟨_, rfl, ?_⟩; (try (rw [drewN_self w7]; generalize hq_ : World.drewN w7 _ = w7; have n0_ : Aside0 (w7.heap[gb302]? = some (.cells #[.int .i64 0, .int .i64 0, .int .i64 0, .int .i64 0] 26 (0, 0))) := ⟨by rw [← hq_]; exact (by (with_reducible repeat (first | refine blk_drewN ?_ _ | refine blk_drew ?_ | refine blk_alloc ?_ _)); exact BK302.out)⟩; have n1_ : Aside0 (Below w.heap.size w w7) := ⟨by rw [← hq_]; exact (by repeat (first | (with_reducible first | exact HB.out | apply below_alloc | apply pw_below_drewN | apply below_drew1 | refine below_set ?_ GE302.out) | exact HB.out))⟩; clear BK302 HB hq_; have BK302 := n0_; have HB := n1_; clear n0_ n1_)); have hcz8_0 : w7.cell? ⟨gb302, 0, none⟩ = some (.int .i64 0) := (blk_cell BK302.out 0).trans rfl; have hcz8_1 : w7.cell? ⟨gb302, 1, none⟩ = some (.int .i64 0) := (blk_cell BK302.out 1).trans rfl; have hcz8_2 : w7.cell? ⟨gb302, 2, none⟩ = some (.int .i64 0) := (blk_cell BK302.out 2).trans rfl; have hcz8_3 : w7.cell? ⟨gb302, 3, none⟩ = some (.int .i64 0) := (blk_cell BK302.out 3).trans rfl; have hfz8_0 := blk_frozen BK302.out 0; have hfz8_1 := blk_frozen BK302.out 1; have hfz8_2 := blk_frozen BK302.out 2; have hfz8_3 := blk_frozen BK302.out 3))
 refine bodyPost_ret (results_cell_row rfl _ _ gb302 26 #[.int .i64 a2, .int .i64 t305, .int .i64 t303, .int .i64 t304] (0, 0) _ rfl (by (with_reducible repeat (first | refine blk_drewN ?_ _ | refine blk_drew ?_ | refine blk_alloc ?_ _)); refine blk_put (cs := #[.int .i64 a2, .int .i64 t305, .int .i64 t303, .int .i64 0]) ?_ 3 _ rfl; (with_reducible repeat (first | refine blk_drewN ?_ _ | refine blk_drew ?_ | refine blk_alloc ?_ _)); refine blk_put (cs := #[.int .i64 a2, .int .i64 t305, .int .i64 0, .int .i64 0]) ?_ 2 _ rfl; (with_reducible repeat (first | refine blk_drewN ?_ _ | refine blk_drew ?_ | refine blk_alloc ?_ _)); refine blk_put (cs := #[.int .i64 a2, .int .i64 0, .int .i64 0, .int .i64 0]) ?_ 1 _ rfl; (with_reducible repeat (first | refine blk_drewN ?_ _ | refine blk_drew ?_ | refine blk_alloc ?_ _)); refine blk_put (cs := #[.int .i64 0, .int .i64 0, .int .i64 0, .int .i64 0]) ?_ 0 _ rfl; (with_reducible repeat (first | refine blk_drewN ?_ _ | refine blk_drew ?_ | refine blk_alloc ?_ _)); exact BK302.out) Try.underlying26 rfl (by kernel_rfl)) rfl ?_
 exact ⟨by first | rfl | (simp [errW_none, errW_some] <;> rfl) | (simp [*, errW_none, errW_some, bne]; done) | (simp [*, errW_none, errW_some] <;> rfl), by repeat (first | (with_reducible first | exact HB.out | apply below_alloc | apply pw_below_drewN | apply below_drew1 | refine below_set ?_ GE302.out) | exact HB.out)⟩
end Go.Proofs.Ytjmmdphkgioooaa.P
end
section
namespace Go.Proofs.Ytjmmdphkgioooaa.La
open Go.RowKit Go.Proofs.Ytjmmdphkgioooaa.P Go.Proofs.YtjmmdphkgioooaaW.PrintWords Go.Proofs.YtjmmdphkgioooaaW.PrintLast Go.Proofs.YtjmmdphkgioooaaW.PrintMore
def clamp (size : Nat) (i : Int) : Nat := if i < 0 then 0 else if i > (size : Int) then size else i.toNat
theorem clamp_le (size : Nat) (i : Int) : clamp size i ≤ size := by unfold clamp; (repeat' split) <;> omega
theorem clamp_eq (s : ByteArray) (i : Int) : place_clamp.f s i = some (clamp s.size i : Int) := by
 unfold place_clamp.f mn mx clamp
 congr 1
 (repeat' split) <;> omega
theorem ref_clamp_eq (s : ByteArray) (i : Int) : dragomanref1_clamp.f s i = some (clamp s.size i : Int) := by
 unfold dragomanref1_clamp.f clamp
 (repeat' split) <;> first | rfl | (congr 1; omega)
theorem count10 (s : ByteArray) : strings_Count.f s (⟨#[10]⟩ : ByteArray) = some (nl (bytesOf s) : Int) := by
 unfold strings_Count.f
 rw [if_pos (by rfl)]
 rfl
theorem last_l0 (s : ByteArray) (hs : s.size ≤ 140737488355328) (m : Nat) : m ≤ s.size → Ev (fun k => bytealg_LastIndexByteString.l0 k s 10 ((m : Int) - 1)) ((lst ((bytesOf s).take m) : Int) - 1) := by
 induction m with
 | zero =>
  intro _
  refine Ev.step (fun k => by rw [bytealg_LastIndexByteString.l0]) ?_
  simp only [if_neg (show ¬ (((0 : Nat) : Int) - 1 ≥ 0) by omega)]
  exact Ev.now _
 | succ m ih =>
  intro hm
  refine Ev.step (fun k => by rw [bytealg_LastIndexByteString.l0]) ?_
  have e : ((m + 1 : Nat) : Int) - 1 = (m : Int) := by omega
  have hlt : m < (bytesOf s).length := by rw [size_of]; omega
  have hb : bt s (m : Int) = (bytesOf s)[m] := by rw [bt_get]; simp [List.getD_eq_getElem?_getD, hlt]
  simp only [e, if_pos (show (m : Int) ≥ 0 by omega), if_pos (show (m : Int) < (s.size : Int) by omega)]
  rw [List.take_succ_eq_append_getElem hlt, lst_snoc, hb]
  by_cases h : (bytesOf s)[m] = 10
  ·simp only [if_pos h, List.length_take, Nat.min_eq_left (Nat.le_of_lt hlt)]
   have : ((m + 1 : Nat) : Int) - 1 = (m : Int) := by omega
   rw [this]
   exact Ev.now _
  ·simp only [if_neg h]
   rw [wrap_id (by omega) (by omega)]
   exact ih (by omega)
theorem last_ev (s : ByteArray) (hs : s.size ≤ 140737488355328) : Ev (fun k => strings_LastIndexByte.f k s 10) ((lst (bytesOf s) : Int) - 1) := by
 have h := last_l0 s hs s.size (Nat.le_refl _)
 rw [List.take_of_length_le (by rw [size_of]; omega)] at h
 refine Ev.congr (fun k => by rw [strings_LastIndexByte.f, bytealg_LastIndexByteString.f, wrap_id (by omega) (by omega)]) (Ev.bind h ?_)
 exact Ev.now _
/-- A place's line and column. -/
def lineOf (l : List Int) : Int := (nl l : Int) + 1
def colOf (l : List Int) : Int := (cnt (l.drop (lst l)) : Int) + 1
theorem of_ev (s : ByteArray) (hs : s.size ≤ 8796093022208) (i : Int) : Ev (fun k => place_Of.f k s i) (lineOf ((bytesOf s).take (clamp s.size i)), colOf ((bytesOf s).take (clamp s.size i))) := by
 have hc := clamp_le s.size i
 refine Ev.congr (fun k => by rw [place_Of.f, clamp_eq, Option.bind_some]) ?_
 generalize clamp s.size i = c at *
 have hsz : (s.extract 0 c).size = c := size_take s hc
 have hl := lst_le ((bytesOf s).take c)
 rw [List.length_take, size_of, Nat.min_eq_left hc] at hl
 simp only [if_pos (show (0 : Int) ≤ (c : Int) by omega), if_pos (show (c : Int) ≤ (s.size : Int) by omega), Int.toNat_natCast]
 refine Ev.bind (last_ev (s.extract 0 c) (by rw [hsz]; omega)) ?_
 rw [bytesOf_take]
 have hn : nl ((bytesOf s).take c) ≤ c := by
  have := cntB_le ((bytesOf s).take c) 10
  rw [List.length_take, size_of, Nat.min_eq_left hc] at this
  exact this
 have hw : wrap64 ((lst ((bytesOf s).take c) : Int) - 1 + 1) = (lst ((bytesOf s).take c) : Int) := by rw [wrap_id (by omega) (by omega)]; omega
 simp only [count10, Option.bind_some, hw, hsz, bytesOf_take, if_pos (show (0 : Int) ≤ (lst ((bytesOf s).take c) : Int) by omega), if_pos (show (lst ((bytesOf s).take c) : Int) ≤ (c : Int) by omega), Int.toNat_natCast]
 have hx : bytesOf ((s.extract 0 c).extract (lst ((bytesOf s).take c)) c) = ((bytesOf s).take c).drop (lst ((bytesOf s).take c)) := by
  rw [bytesOf_extract, bytesOf_take, List.take_take, Nat.min_self]
 have hxs : ((s.extract 0 c).extract (lst ((bytesOf s).take c)) c).size ≤ 140737488355328 := by rw [← size_of, hx, List.length_drop, List.length_take, size_of]; omega
 refine Ev.bind (count_ev _ hxs) ?_
 rw [hx]
 have hcn := cnt_le (((bytesOf s).take c).drop (lst ((bytesOf s).take c)))
 rw [List.length_drop, List.length_take, size_of] at hcn
 rw [wrap_id (by omega) (by omega), wrap_id (by omega) (by omega)]
 exact Ev.now _
theorem fault_ev (s : ByteArray) (hs : s.size ≤ 8796093022208) (i e : Int) : Ev (fun k => place_Fault.f k s i e) (e, (clamp s.size i : Int), lineOf ((bytesOf s).take (clamp s.size i)), colOf ((bytesOf s).take (clamp s.size i))) := by
 refine Ev.congr (fun k => by rw [place_Fault.f]) (Ev.bind (of_ev s hs i) ?_)
 rw [clamp_eq, Option.bind_some]
 exact Ev.now _
theorem ref_of_l0 (s : ByteArray) (hs : s.size ≤ 8796093022208) (c : Nat) (hc : c ≤ s.size) (n : Nat) : ∀ i : Nat, i ≤ c → c - i = n →
  Ev (fun k => dragomanref1_Of.l0 k s (c : Int) (lineOf ((bytesOf s).take i)) (lst ((bytesOf s).take i) : Int) (i : Int)) (lineOf ((bytesOf s).take c), colOf ((bytesOf s).take c)) := by
 induction n with
 | zero =>
  intro i hi hn
  obtain rfl : i = c := by omega
  have hl := lst_le ((bytesOf s).take i)
  rw [List.length_take, size_of, Nat.min_eq_left hc] at hl
  refine Ev.step (fun k => by rw [dragomanref1_Of.l0]) ?_
  simp only [if_neg (show ¬ (i : Int) < (i : Int) by omega), if_pos (show (0 : Int) ≤ (lst ((bytesOf s).take i) : Int) by omega), if_pos (show (lst ((bytesOf s).take i) : Int) ≤ (i : Int) by omega), if_pos (show (i : Int) ≤ (s.size : Int) by omega), Int.toNat_natCast]
  have hx : bytesOf (s.extract (lst ((bytesOf s).take i)) i) = ((bytesOf s).take i).drop (lst ((bytesOf s).take i)) := bytesOf_extract _ _ _
  have hxs : (s.extract (lst ((bytesOf s).take i)) i).size ≤ 8796093022208 := by rw [← size_of, hx, List.length_drop, List.length_take, size_of]; omega
  refine Ev.bind (starts_ev _ hxs) ?_
  rw [hx, ints_length, sts_len]
  exact Ev.now _
 | succ n ih =>
  intro i hi hn
  refine Ev.step (fun k => by rw [dragomanref1_Of.l0]) ?_
  have hlt : i < (bytesOf s).length := by rw [size_of]; omega
  have hb : bt s (i : Int) = (bytesOf s)[i] := by rw [bt_get]; simp [List.getD_eq_getElem?_getD, hlt]
  have := ih (i + 1) (by omega) (by omega)
  rw [List.take_succ_eq_append_getElem hlt] at this
  have hn2 : nl ((bytesOf s).take i) ≤ i := by
   have := cntB_le ((bytesOf s).take i) 10
   rw [List.length_take, size_of, Nat.min_eq_left (by omega)] at this
   exact this
  have hw : wrap64 ((i : Int) + 1) = ((i + 1 : Nat) : Int) := by rw [wrap_id (by omega) (by omega)]; omega
  simp only [if_pos (show (i : Int) < (c : Int) by omega), if_pos (show (0 : Int) ≤ (i : Int) by omega), if_pos (show (i : Int) < (s.size : Int) by omega), hb, hw]
  rw [lst_snoc] at this
  unfold lineOf at this ⊢
  rw [nl_append] at this
  by_cases h : (bytesOf s)[i] = 10
  ·simp only [if_pos h]
   rw [wrap_id (by omega) (by omega)]
   have h1 : nl [(bytesOf s)[i]] = 1 := by simp [nl, cntB, h]
   simp only [if_pos h, h1, List.length_take, Nat.min_eq_left (Nat.le_of_lt hlt)] at this
   rw [show (nl ((bytesOf s).take i) : Int) + 1 + 1 = ((nl ((bytesOf s).take i) + 1 : Nat) : Int) + 1 by omega]
   exact this
  ·simp only [if_neg h]
   have h1 : nl [(bytesOf s)[i]] = 0 := by simp [nl, cntB, h]
   simp only [if_neg h, h1, Nat.add_zero] at this
   exact this
theorem ref_of_ev (s : ByteArray) (hs : s.size ≤ 8796093022208) (i : Int) : Ev (fun k => dragomanref1_Of.f k s i) (lineOf ((bytesOf s).take (clamp s.size i)), colOf ((bytesOf s).take (clamp s.size i))) := by
 refine Ev.congr (fun k => by rw [dragomanref1_Of.f, ref_clamp_eq, Option.bind_some]) ?_
 exact ref_of_l0 s hs _ (clamp_le _ _) _ 0 (by omega) rfl
theorem ref_fault_ev (s : ByteArray) (hs : s.size ≤ 8796093022208) (i e : Int) : Ev (fun k => dragomanref1_Fault.f k s i e) (e, (clamp s.size i : Int), lineOf ((bytesOf s).take (clamp s.size i)), colOf ((bytesOf s).take (clamp s.size i))) := by
 refine Ev.congr (fun k => by rw [dragomanref1_Fault.f]) (Ev.bind (ref_of_ev s hs i) ?_)
 rw [ref_clamp_eq, Option.bind_some]
 exact Ev.now _
end Go.Proofs.Ytjmmdphkgioooaa.La
end
section
namespace Go.Proofs.Ytjmmdphkgioooaa.P
open Go.RowKit Go.Proofs.Ytjmmdphkgioooaa.La Go.Proofs.YtjmmdphkgioooaaW.PrintWords Go.Proofs.YtjmmdphkgioooaaW.PrintLast Go.Proofs.YtjmmdphkgioooaaW.PrintMore
theorem wpQ {P : Program} {c : Code} {Q : Exit → Act → World → Prop} {a : Act} {w : World} (R : Act → World → Prop) (h : ∀ Q', (∀ a' w', R a' w' → Q' Exit.normal a' w') → c.wp P Q' a w) (hR : ∀ a' w', R a' w' → Q .normal a' w') : c.wp P Q a w := h Q hR
theorem tassert_yes (v : Value) (xT : TypeId) (w : World) : (Instr.typeAssert (.iface 62 v) xT 62 true).run Try.prog w = .ok (.tuple #[v, .bool true]) w := by
 simp [Instr.typeAssert, run_underlying Try.underlying62, go_sem, Result.andThen]
theorem tassert_nil (xT : TypeId) (w : World) : (Instr.typeAssert .nilIface xT 62 true).run Try.prog w = .ok (.tuple #[.agg #[.int .i64 0, .int .i64 0], .bool false]) w := by
 simp [Instr.typeAssert, run_underlying Try.underlying62, Try.zeroValue62, go_sem, Result.andThen]
set_option maxRecDepth 100000 in
set_option maxHeartbeats 8000000 in
/-- The deferred closure, where something was thrown. -/
theorem catch_thrown {W : World} {b : Nat} {text : ByteArray} {at_ er : Int} {k : Nat} {r1 r2 r3 r4 : Int} (older : List PanicEntry) (hF : place_Fault.f k text at_ er = some (r1, r2, r3, r4))
  (h0 : W.heap[b]? = some (.cells #[.string text] 9 (0, 0))) (h1 : W.heap[b + 1]? = some (.cells #[.slice none 0 0] 42 (0, 0))) (h2 : W.heap[b + 2]? = some (.cells #[.int .i64 0, .int .i64 0, .int .i64 0, .int .i64 0] 26 (0, 0))) :
  CallsD Try.prog 28 #[.pointer (some ⟨b, 0, none⟩), .pointer (some ⟨b + 1, 0, none⟩), .pointer (some ⟨b + 2, 0, none⟩)] (.panicking ({ v := .iface 62 (.agg #[.int .i64 er, .int .i64 at_]), recovered := false } :: older)) W fun e u' w' =>
   e = .returned (.tuple #[]) ∧ u' = .panicking ({ v := .iface 62 (.agg #[.int .i64 er, .int .i64 at_]), recovered := true } :: older) ∧ Below b W w' ∧
   w'.heap[b + 1]? = some (.cells #[.slice none 0 0] 42 (0, 0)) ∧ w'.heap[b + 2]? = some (.cells #[.int .i64 r1, .int .i64 r2, .int .i64 r3, .int .i64 r4] 26 (0, 0)) := by
 have hlt := cblk_lt h2
 have hA : Below W.heap.size W (W.alloc (.cells #[.int .i64 er, .int .i64 at_] 62)) := below_alloc (Below.refl _ _) _
 have hA0 := (hA.block b (by omega)).trans h0
 have e0 : (W.alloc (.cells #[.int .i64 er, .int .i64 at_] 62)).cell? ⟨b, 0, none⟩ = some (.string text) := by rw [cblk_cell hA0]; rfl
 refine callsD_of_wpS Try.func28 rfl fun c₀ cs hu => ?_
 simp only [Try.ntmps28, List.size_toArray, List.length_cons, List.length_nil, Nat.reduceAdd, Nat.reduceSub, Array.replicate_succ, Array.replicate_zero, List.push_toArray, List.append_toArray, List.nil_append, List.cons_append]
 apply wpS_seq
 apply wpS_region
 simp [wpOpsS, go_sem, recoverD, hu, Exit.thenS]
 refine wpS_of_wp ?_
 refine wpQ (fun a' w' => a'.defers = [] ∧ Below b W w' ∧ w'.heap[b + 1]? = some (.cells #[.slice none 0 0] 42 (0, 0)) ∧ w'.heap[b + 2]? = some (.cells #[.int .i64 r1, .int .i64 r2, .int .i64 r3, .int .i64 r4] 26 (0, 0))) ?_ ?_
 ·intro Q' hQ'
  have HQ := Lib.hid hQ'
  clear hQ' hu
  have hta := tassert_yes
  go_wp2_with fail
  refine (place_Fault.calls k _ _ _ _ _ _ _ _ hF).mono ?_
  rintro e w5 ⟨rfl, hb5⟩
  have hB := below_step hA hb5
  have g1 := (hB.block (b + 1) (by omega)).trans h1
  have g2 := (hB.block (b + 2) (by omega)).trans h2
  clear e0 hA0 hA hb5
  have k1 : w5.cell? ⟨b + 1, 0, none⟩ = some (.slice none 0 0) := by rw [cblk_cell g1]; rfl
  have k2 := cblk_free g1 0
  have m0 : w5.cell? ⟨b + 2, 0, none⟩ = some (.int .i64 0) := by rw [cblk_cell g2]; rfl
  have m1 : w5.cell? ⟨b + 2, 1, none⟩ = some (.int .i64 0) := by rw [cblk_cell g2]; rfl
  have m2 : w5.cell? ⟨b + 2, 2, none⟩ = some (.int .i64 0) := by rw [cblk_cell g2]; rfl
  have m3 : w5.cell? ⟨b + 2, 3, none⟩ = some (.int .i64 0) := by rw [cblk_cell g2]; rfl
  have n0 := cblk_free g2 0
  have n1 := cblk_free g2 1
  have n2 := cblk_free g2 2
  have n3 := cblk_free g2 3
  go_wp2_with fail
  refine HQ.out _ _ ⟨rfl, ?_, ?_, ?_⟩
  ·exact (((((hB.mono (show b ≤ W.heap.size by omega)).setCell (p := ⟨b + 1, 0, none⟩) (Nat.le_add_right b 1) _).setCell (p := ⟨b + 2, 0, none⟩) (Nat.le_add_right b 2) _).setCell (p := ⟨b + 2, 1, none⟩) (Nat.le_add_right b 2) _).setCell (p := ⟨b + 2, 2, none⟩) (Nat.le_add_right b 2) _).setCell (p := ⟨b + 2, 3, none⟩) (Nat.le_add_right b 2) _
  ·rw [Below.heap_setCell _ _ _ _ (show b + 1 ≠ b + 2 by omega), Below.heap_setCell _ _ _ _ (show b + 1 ≠ b + 2 by omega), Below.heap_setCell _ _ _ _ (show b + 1 ≠ b + 2 by omega), Below.heap_setCell _ _ _ _ (show b + 1 ≠ b + 2 by omega)]
   exact cblk_set g1 0 _
  ·exact cblk_set (cblk_set (cblk_set (cblk_set ((Below.heap_setCell _ _ _ _ (show b + 2 ≠ b + 1 by omega)).trans g2) 0 (.int .i64 r1)) 1 (.int .i64 r2)) 2 (.int .i64 r3)) 3 (.int .i64 r4)
 ·rintro a' w' ⟨h1, h2⟩
  exact ⟨h1, _, rfl, _, results_none rfl _ _ _, rfl, rfl, h2⟩
set_option maxRecDepth 100000 in
set_option maxHeartbeats 8000000 in
/-- .. where nothing was thrown. -/
theorem catch_idle (b : Nat) (W : World) :
  CallsD Try.prog 28 #[.pointer (some ⟨b, 0, none⟩), .pointer (some ⟨b + 1, 0, none⟩), .pointer (some ⟨b + 2, 0, none⟩)] .returning W fun e u' w' =>
   e = .returned (.tuple #[]) ∧ u' = .returning ∧ Below W.heap.size W w' := by
 refine callsD_of_wpS Try.func28 rfl fun c₀ cs hu => ?_
 simp only [Try.ntmps28, List.size_toArray, List.length_cons, List.length_nil, Nat.reduceAdd, Nat.reduceSub, Array.replicate_succ, Array.replicate_zero, List.push_toArray, List.append_toArray, List.nil_append, List.cons_append]
 apply wpS_seq
 apply wpS_region
 simp [wpOpsS, go_sem, recoverD, hu, Exit.thenS]
 refine wpS_of_wp ?_
 refine wpQ (fun a' w' => a'.defers = [] ∧ Below W.heap.size W w') ?_ ?_
 ·intro Q' hQ'
  have HQ := Lib.hid hQ'
  clear hQ' hu
  have hta := tassert_nil
  go_wp2_with fail
  exact HQ.out _ _ ⟨rfl, below_alloc (Below.refl _ _) _⟩
 ·rintro a' w' ⟨h1, h2⟩
  cases c₀
  exact ⟨h1, _, by simp_all, _, results_none rfl _ _ _, rfl, rfl, h2⟩
theorem rowS_drop {L : List Int} : ∀ (k : Nat) (acc : List S47) (i : Nat) (r : List S47) (l2 : List Int) (j : Nat), i ≤ L.length → rowS k acc (L.drop i) i = .inr (r, l2, j) → l2 = L.drop j ∧ j ≤ L.length
 | 0, _, _, _, _, _, _, h => by cases h
 | k + 1, acc, i, r, l2, j, hi, h => by
  rw [rowS] at h
  cases hf : fieldS (L.drop i) i with
  | inl e => rw [hf] at h; cases h
  | inr p =>
   rw [hf] at h
   obtain ⟨_, _, h3⟩ := fieldS_len hf
   rw [List.length_drop] at h3
   simp only [List.drop_drop] at h
   by_cases h44 : (L.drop (i + p.2)).take 1 = [44]
   ·rw [if_pos h44] at h
    have h5 := congrArg List.length h44
    rw [List.length_take, List.length_drop] at h5
    simp at h5
    exact rowS_drop k _ (i + p.2 + 1) r l2 j (by omega) h
   ·rw [if_neg h44] at h
    have h6 := Prod.mk.inj (Sum.inr.inj h)
    obtain ⟨h7, h8⟩ := Prod.mk.inj h6.2
    have h9 := lend_le (L.drop (i + p.2))
    rw [List.length_drop] at h9
    subst h7
    subst h8
    exact ⟨by congr 1; omega, by omega⟩
/-- One row more. -/
theorem wholeS_step {L : List Int} {n i : Nat} {rows : List (List S47)} (hi : i < L.length) (hn : rows.length + n = 513) :
  (∃ e, rowR rows (L.drop i) i = .inl e ∧ wholeS n rows (L.drop i) i = .inl e) ∨ (∃ r j m, rowR rows (L.drop i) i = .inr (r, j) ∧ n = m + 1 ∧ j ≤ L.length ∧ wholeS n rows (L.drop i) i = wholeS m (rows ++ [r]) (L.drop j) j) := by
 have hne : L.drop i ≠ [] := by
  intro h
  have := congrArg List.length h
  rw [List.length_drop] at this
  simp at this; omega
 unfold rowR
 cases n with
 | zero => exact .inl ⟨(2, i), by rw [if_pos (by omega)], by rw [wholeS, if_neg hne]⟩
 | succ m =>
  rw [if_neg (by omega), wholeS, if_neg hne]
  cases hr : rowS 64 [] (L.drop i) i with
  | inl e => exact .inl ⟨e, rfl, rfl⟩
  | inr x =>
   obtain ⟨r, l2, j⟩ := x
   obtain ⟨h1, h2⟩ := rowS_drop 64 [] i r l2 j (by omega) hr
   by_cases hc : rows ≠ [] ∧ r.length ≠ (rows.headD []).length
   ·exact .inl ⟨(7, i), by simp only; rw [if_pos hc], by simp only; rw [if_pos hc]⟩
   ·exact .inr ⟨r, j, m, by simp only; rw [if_neg hc], rfl, h2, by simp only; rw [if_neg hc, h1]⟩
/-- The state of the loop over the rows. -/
def WInv (w : World) (g : Nat) (text : ByteArray) (res : (Int × Nat) ⊕ List (List S47)) (k : Nat) (wx : World) : Prop :=
 ∃ (n i : Nat) (rows : List (List S47)) (rv : Value), k = n + 1 ∧ Cur wx g text i rv ∧ Kd.S (Kd.slice 47 k47) 45 wx g (fun k => k ≠ g) rv rows ∧ Below g w wx ∧ rows.length + n = 513 ∧ i ≤ text.size ∧ res = wholeS n rows ((bytesOf text).drop i) i
theorem wstores {W : World} {b1 b2 : Nat} (hne : b1 ≠ b2) {v v0 : Value} (h1 : W.heap[b1]? = some (.cells #[v0] 42 (0, 0))) (h2 : W.heap[b2]? = some (.cells #[.int .i64 0, .int .i64 0, .int .i64 0, .int .i64 0] 26 (0, 0))) (B : Nat) (hB1 : B ≤ b1) (hB2 : B ≤ b2) :
  (((((W.setCell ⟨b1, 0, none⟩ v).setCell ⟨b2, 0, none⟩ (.int .i64 0)).setCell ⟨b2, 1, none⟩ (.int .i64 0)).setCell ⟨b2, 2, none⟩ (.int .i64 0)).setCell ⟨b2, 3, none⟩ (.int .i64 0)).heap[b1]? = some (.cells #[v] 42 (0, 0)) ∧
  (((((W.setCell ⟨b1, 0, none⟩ v).setCell ⟨b2, 0, none⟩ (.int .i64 0)).setCell ⟨b2, 1, none⟩ (.int .i64 0)).setCell ⟨b2, 2, none⟩ (.int .i64 0)).setCell ⟨b2, 3, none⟩ (.int .i64 0)).heap[b2]? = some (.cells #[.int .i64 0, .int .i64 0, .int .i64 0, .int .i64 0] 26 (0, 0)) ∧
  Below B W (((((W.setCell ⟨b1, 0, none⟩ v).setCell ⟨b2, 0, none⟩ (.int .i64 0)).setCell ⟨b2, 1, none⟩ (.int .i64 0)).setCell ⟨b2, 2, none⟩ (.int .i64 0)).setCell ⟨b2, 3, none⟩ (.int .i64 0)) ∧
  (∀ k, k ≠ b1 → k ≠ b2 → (((((W.setCell ⟨b1, 0, none⟩ v).setCell ⟨b2, 0, none⟩ (.int .i64 0)).setCell ⟨b2, 1, none⟩ (.int .i64 0)).setCell ⟨b2, 2, none⟩ (.int .i64 0)).setCell ⟨b2, 3, none⟩ (.int .i64 0)).heap[k]? = W.heap[k]?) := by
 refine ⟨?_, ?_, ?_, ?_⟩
 ·rw [Below.heap_setCell _ _ _ _ hne, Below.heap_setCell _ _ _ _ hne, Below.heap_setCell _ _ _ _ hne, Below.heap_setCell _ _ _ _ hne]
  exact cblk_set h1 0 v
 ·exact cblk_set (cblk_set (cblk_set (cblk_set ((Below.heap_setCell _ _ _ _ (Ne.symm hne)).trans h2) 0 (.int .i64 0)) 1 (.int .i64 0)) 2 (.int .i64 0)) 3 (.int .i64 0)
 ·exact (((((Below.refl B W).setCell (p := ⟨b1, 0, none⟩) hB1 _).setCell (p := ⟨b2, 0, none⟩) hB2 _).setCell (p := ⟨b2, 1, none⟩) hB2 _).setCell (p := ⟨b2, 2, none⟩) hB2 _).setCell (p := ⟨b2, 3, none⟩) hB2 _
 ·intro k n1 n2
  rw [Below.heap_setCell _ _ _ _ n2, Below.heap_setCell _ _ _ _ n2, Below.heap_setCell _ _ _ _ n2, Below.heap_setCell _ _ _ _ n2, Below.heap_setCell _ _ _ _ n1]
theorem wresults (tmps : Array Value) (w : World) (b1 b2 : Nat) (v : Value) (r1 r2 r3 r4 : Int) (h2 : tmps.getD 2 undef = .pointer (some ⟨b1, 0, none⟩)) (h3 : tmps.getD 3 undef = .pointer (some ⟨b2, 0, none⟩))
  (g1 : w.heap[b1]? = some (.cells #[v] 42 (0, 0))) (g2 : w.heap[b2]? = some (.cells #[.int .i64 r1, .int .i64 r2, .int .i64 r3, .int .i64 r4] 26 (0, 0))) :
  (results Try.f23 tmps).run Try.prog w = .ok (.tuple #[v, .agg #[.int .i64 r1, .int .i64 r2, .int .i64 r3, .int .i64 r4]]) w := by
 have c1 : w.cell? ⟨b1, 0, none⟩ = some v := by rw [cblk_cell g1]; rfl
 have hr : Try.f23.results = [.cell 2 42, .cell 3 26].toArray := rfl
 have hl := run_loadVar_row (P := Try.prog) w b2 26 26 _ (0, 0) _ g2 Try.underlying26 rfl (by kernel_rfl)
 have hl1 : (loadVar 42 ⟨b1, 0, none⟩).run Try.prog w = .ok v w := by
  simp [loadVar, go_sem, c1]
 unfold results
 rw [hr, List.mapM_toArray]
 rw [Array.getD_eq_getD_getElem?] at h2 h3
 simp [List.mapM_cons, asAddr, h2, h3, hl, hl1, Result.andThen]
/-- A fault at a place. -/
def faultR (s : ByteArray) (at_ e : Int) : Int × Int × Int × Int := (e, (clamp s.size at_ : Int), lineOf ((bytesOf s).take (clamp s.size at_)), colOf ((bytesOf s).take (clamp s.size at_)))
/-- What is answered. -/
def wholeR (a0 : ByteArray) : (Int × Nat) ⊕ List (List S47) → List (List S47) × Int × Int × Int × Int
 | .inl e => ([], faultR a0 e.2 e.1)
 | .inr rows => (rows, 0, 0, 0, 0)
def cread_whole.f (a0 : ByteArray) : Option (List (List S47) × Int × Int × Int × Int) :=
 if a0.size ≤ 70000 then some (wholeR a0 (wholeS 513 [] (bytesOf a0) 0)) else none
set_option maxRecDepth 100000 in
set_option maxHeartbeats 8000000 in
theorem cread_whole.calls (a0 : ByteArray) (r1 : List (List S47)) (r2 r3 r4 r5 : Int) (w : World) (h : cread_whole.f a0 = some (r1, r2, r3, r4, r5)) :
  Calls Try.prog 23 #[.string a0] w fun e w' => ∃ v0_ : Value, e = .returned (.tuple #[v0_, .agg #[.int .i64 r2, .int .i64 r3, .int .i64 r4, .int .i64 r5]]) ∧ Kd.S (Kd.slice 47 k47) 45 w' w.heap.size (fun _ => True) v0_ r1 ∧ Below w.heap.size w w' := by
 have hmf : ∀ (fn : Fn) (first cap : Array Value) (w : World), (Instr.makeFunc fn first cap).run Try.prog w = .ok (.func fn first cap) w := fun _ _ _ _ => rfl
 unfold cread_whole.f at h
 by_cases hs : a0.size ≤ 70000
 ·rw [if_pos hs] at h
  obtain ⟨res, hres⟩ : ∃ res, wholeS 513 [] (bytesOf a0) 0 = res := ⟨_, rfl⟩
  rw [hres] at h
  have H := Lib.hid (Option.some.inj h)
  have HRES := Lib.hid hres
  clear h hres
  go_enter_defers Try.func23, Try.ntmps23
  go_wp2_with fail
  have hB4 : Below w.heap.size w ((((w.alloc (.cells #[.string a0] 9)).alloc (.cells #[.slice none 0 0] 42)).alloc (.cells #[.int .i64 0, .int .i64 0, .int .i64 0, .int .i64 0] 26)).alloc (.cells #[.string a0, .int .i64 0, .slice none 0 0] 66)) :=
   below_alloc (below_alloc (below_alloc (below_alloc (Below.refl _ _) _) _) _) _
  have hz0 : (w.alloc (.cells #[.string a0] 9)).heap.size = w.heap.size + 1 := Array.size_push _
  have hz1 : ((w.alloc (.cells #[.string a0] 9)).alloc (.cells #[.slice none 0 0] 42)).heap.size = w.heap.size + 1 + 1 := by rw [← hz0]; exact Array.size_push _
  have hz2 : (((w.alloc (.cells #[.string a0] 9)).alloc (.cells #[.slice none 0 0] 42)).alloc (.cells #[.int .i64 0, .int .i64 0, .int .i64 0, .int .i64 0] 26)).heap.size = w.heap.size + 1 + 1 + 1 := by rw [← hz1]; exact Array.size_push _
  have hnew : ∀ (W : World) (o : Obj), (W.alloc o).heap[W.heap.size]? = some o := fun W o => Array.getElem?_push_size
  have hold : ∀ (W : World) (o : Obj) (k : Nat), k < W.heap.size → (W.alloc o).heap[k]? = W.heap[k]? := fun W o k hk => Below.heap_alloc W o k hk
  have g3 := hnew (((w.alloc (.cells #[.string a0] 9)).alloc (.cells #[.slice none 0 0] 42)).alloc (.cells #[.int .i64 0, .int .i64 0, .int .i64 0, .int .i64 0] 26)) (.cells #[.string a0, .int .i64 0, .slice none 0 0] 66)
  rw [hz2] at g3
  have g2 := (hold (((w.alloc (.cells #[.string a0] 9)).alloc (.cells #[.slice none 0 0] 42)).alloc (.cells #[.int .i64 0, .int .i64 0, .int .i64 0, .int .i64 0] 26)) (.cells #[.string a0, .int .i64 0, .slice none 0 0] 66) (w.heap.size + 1 + 1) (by omega)).trans (show _ = some (.cells #[.int .i64 0, .int .i64 0, .int .i64 0, .int .i64 0] 26 (0, 0)) from by
   have h := hnew ((w.alloc (.cells #[.string a0] 9)).alloc (.cells #[.slice none 0 0] 42)) (.cells #[.int .i64 0, .int .i64 0, .int .i64 0, .int .i64 0] 26)
   rw [hz1] at h
   exact h)
  have g1 := (hold (((w.alloc (.cells #[.string a0] 9)).alloc (.cells #[.slice none 0 0] 42)).alloc (.cells #[.int .i64 0, .int .i64 0, .int .i64 0, .int .i64 0] 26)) (.cells #[.string a0, .int .i64 0, .slice none 0 0] 66) (w.heap.size + 1) (by omega)).trans ((hold ((w.alloc (.cells #[.string a0] 9)).alloc (.cells #[.slice none 0 0] 42)) (.cells #[.int .i64 0, .int .i64 0, .int .i64 0, .int .i64 0] 26) (w.heap.size + 1) (by omega)).trans (show _ = some (.cells #[.slice none 0 0] 42 (0, 0)) from by
   have h := hnew (w.alloc (.cells #[.string a0] 9)) (.cells #[.slice none 0 0] 42)
   rw [hz0] at h
   exact h))
  have g0 := (hold (((w.alloc (.cells #[.string a0] 9)).alloc (.cells #[.slice none 0 0] 42)).alloc (.cells #[.int .i64 0, .int .i64 0, .int .i64 0, .int .i64 0] 26)) (.cells #[.string a0, .int .i64 0, .slice none 0 0] 66) w.heap.size (by omega)).trans ((hold ((w.alloc (.cells #[.string a0] 9)).alloc (.cells #[.slice none 0 0] 42)) (.cells #[.int .i64 0, .int .i64 0, .int .i64 0, .int .i64 0] 26) w.heap.size (by omega)).trans ((hold (w.alloc (.cells #[.string a0] 9)) (.cells #[.slice none 0 0] 42) w.heap.size (by omega)).trans (hnew w (.cells #[.string a0] 9))))
  generalize (((w.alloc (.cells #[.string a0] 9)).alloc (.cells #[.slice none 0 0] 42)).alloc (.cells #[.int .i64 0, .int .i64 0, .int .i64 0, .int .i64 0] 26)).alloc (.cells #[.string a0, .int .i64 0, .slice none 0 0] 66) = w4 at hB4 g0 g1 g2 g3 ⊢
  clear hz0 hz1 hz2 hnew hold
  go_loopg [] 514 (fun k wx => WInv w4 (w.heap.size + 1 + 1 + 1) a0 res k wx)
  case atStart => exact ⟨513, 0, [], .slice none 0 0, rfl, g3, Kd.S_nil _ _ _ _ _, Below.refl _ _, rfl, by omega, by rw [List.drop_zero]; exact HRES.out.symm⟩
  case round =>
   obtain ⟨n, i, rows, rv, hk, hC, hS, hB, hn, hi, hr⟩ := hrel
   have HR := Lib.hid hr
   have HK := Lib.hid hk
   clear hr hk
   have b0 := (hB.block w.heap.size (by omega)).trans g0
   have b1 := (hB.block (w.heap.size + 1) (by omega)).trans g1
   have b2 := (hB.block (w.heap.size + 1 + 1) (by omega)).trans g2
   obtain ⟨c0, c1, c2, f1, f2, hlt⟩ := hC.open_
   have t0 : wr.cell? ⟨w.heap.size, 0, none⟩ = some (.string a0) := by rw [cblk_cell b0]; rfl
   by_cases hlt2 : i < a0.size
   ·have e1 : decide ((i : Int) < (a0.size : Int)) = true := decide_eq_true (by omega)
    go_wp2_with fail
    go_quiet (fail)
    go_wp2_with fail
    refine (crow (hC.drewN nq) (Kd.S_drewN hS nq) (Nat.le_refl _) hi hs (by omega)).mono ?_
    rintro e w5 ⟨hB5, hrr⟩
    have hB6 := (pw_below_drewN hB nq).trans hB5
    rcases wholeS_step (L := bytesOf a0) (n := n) (i := i) (rows := rows) (by rw [size_of]; exact hlt2) hn with ⟨e, h1, h2⟩ | ⟨r, j, m, h1, hnm, hj, h2⟩
    ·rw [h1] at hrr
     obtain rfl := hrr
     have hres := HR.out.trans h2
     have HH := H.out
     rw [hres] at HH
     have hf := fault_ev a0 (by omega) e.2 e.1
     obtain ⟨K, hK⟩ := hf
     have b0' := (hB6.block w.heap.size (by omega)).trans g0
     have b1' := (hB6.block (w.heap.size + 1) (by omega)).trans g1
     have b2' := (hB6.block (w.heap.size + 1 + 1) (by omega)).trans g2
     refine leaves_cons (f := 28) (args := #[.pointer (some ⟨w.heap.size, 0, none⟩), .pointer (some ⟨w.heap.size + 1, 0, none⟩), .pointer (some ⟨w.heap.size + 1 + 1, 0, none⟩)]) (by simp) (by simp [go_sem]) ?_
     refine (catch_thrown [] (hK K (Nat.le_refl _)) b0' b1' b2').mono ?_
     rintro e7 u7 w7 ⟨rfl, rfl, hB7, h7, h8⟩
     refine ⟨_, wresults _ w7 _ _ _ _ _ _ _ rfl rfl h7 h8, ?_⟩
     obtain ⟨q1, q2⟩ := Prod.mk.inj HH
     obtain ⟨q2, q3⟩ := Prod.mk.inj q2
     obtain ⟨q3, q4⟩ := Prod.mk.inj q3
     obtain ⟨q4, q5⟩ := Prod.mk.inj q4
     subst q1
     exact ⟨_, by rw [← q2, ← q3, ← q4, ← q5], Kd.S_nil _ _ _ _ _, hB4.trans ((hB6.mono (by omega)).trans hB7)⟩
    ·rw [h1] at hrr
     obtain ⟨rfl, rv', hC5, hS5⟩ := hrr
     have hk := HK.out
     subst hnm
     subst hk
     go_wp2_with fail
     go_roundg (m + 1)
     case rel => exact ⟨m, j, rows ++ [r], rv', rfl, hC5, hS5, hB6, by rw [List.length_append]; simp; omega, by rw [size_of] at hj; exact hj, HR.out.trans h2⟩
     case measure => omega
   ·have e1 : decide ((i : Int) < (a0.size : Int)) = false := decide_eq_false (by omega)
    obtain ⟨RA, RC, hrv, _, _⟩ := Kd.S_reads hS
    have HRV := Lib.hid hrv
    subst hrv
    have k1 : wr.cell? ⟨w.heap.size + 1, 0, none⟩ = some (.slice none 0 0) := by rw [cblk_cell b1]; rfl
    have k2 := cblk_free b1 0
    have m0 : wr.cell? ⟨w.heap.size + 1 + 1, 0, none⟩ = some (.int .i64 0) := by rw [cblk_cell b2]; rfl
    have m1 : wr.cell? ⟨w.heap.size + 1 + 1, 1, none⟩ = some (.int .i64 0) := by rw [cblk_cell b2]; rfl
    have m2 : wr.cell? ⟨w.heap.size + 1 + 1, 2, none⟩ = some (.int .i64 0) := by rw [cblk_cell b2]; rfl
    have m3 : wr.cell? ⟨w.heap.size + 1 + 1, 3, none⟩ = some (.int .i64 0) := by rw [cblk_cell b2]; rfl
    have n0 := cblk_free b2 0
    have n1 := cblk_free b2 1
    have n2 := cblk_free b2 2
    have n3 := cblk_free b2 3
    go_wp2_with fail
    go_quiet (fail)
    go_wp2_with fail
    have hil : i = a0.size := by omega
    have hres : res = .inr rows := by
     rw [HR.out, List.drop_eq_nil_of_le (by rw [size_of]; omega)]
     cases n <;> rfl
    have HH := H.out
    rw [hres] at HH
    obtain ⟨q1, q2⟩ := Prod.mk.inj HH
    obtain ⟨q2, q3⟩ := Prod.mk.inj q2
    obtain ⟨q3, q4⟩ := Prod.mk.inj q3
    obtain ⟨q4, q5⟩ := Prod.mk.inj q4
    subst q1
    refine leaves_cons (f := 28) (args := #[.pointer (some ⟨w.heap.size, 0, none⟩), .pointer (some ⟨w.heap.size + 1, 0, none⟩), .pointer (some ⟨w.heap.size + 1 + 1, 0, none⟩)]) (by simp) (by simp [go_sem]) ?_
    refine (catch_idle w.heap.size _).mono ?_
    rintro e7 u7 w7 ⟨rfl, rfl, hB7⟩
    obtain ⟨p1, p2, p3, p4⟩ := wstores (W := wr.drewN nq) (b1 := w.heap.size + 1) (b2 := w.heap.size + 1 + 1) (by omega) (v := .slice RA rows.length RC) b1 b2 w.heap.size (by omega) (by omega)
    have s1 := Kd.S_mono (Kd.S_step (Kd.S_bound (Kd.S_drewN hS nq)) (fun k hk _ => p4 k (by have := hk.2.1; omega) (by have := hk.2.1; omega))) (fun k hk => hk.1)
    have s2 := Kd.S_mono (Kd.S_lower (Kd.S_below s1 hB7) (show w.heap.size ≤ w.heap.size + 1 + 1 + 1 by omega)) (fun _ _ => trivial)
    have hlt1 := cblk_lt p1
    have hlt2 := cblk_lt p2
    refine ⟨_, wresults _ w7 _ _ _ _ _ _ _ rfl rfl ((hB7.block _ hlt1).trans p1) ((hB7.block _ hlt2).trans p2), ?_⟩
    exact ⟨_, by rw [← q2, ← q3, ← q4, ← q5], s2, hB4.trans (((pw_below_drewN (hB.mono (by omega)) nq).trans p3).trans (hB7.mono (Nat.le_trans hB4.size (Nat.le_trans hB.size p3.size))))⟩
 ·rw [if_neg hs] at h
  cases h
end Go.Proofs.Ytjmmdphkgioooaa.P
end
section
namespace Go.Proofs.Ytjmmdphkgioooaa.P
open Go.RowKit Go.Proofs.YtjmmdphkgioooaaW.PrintWords Go.Proofs.YtjmmdphkgioooaaW.PrintLast Go.Proofs.YtjmmdphkgioooaaW.PrintMore
attribute [local go_sem] max2_int min2_int max_two min_two max_three min_three max_four min_four   -- for this text's walks alone
set_option linter.unusedVariables false
set_option linter.unusedSimpArgs false
/-! ### cread_Fields: function 15 -/
def cread_Fields.f (k : Nat) (a0 : ByteArray) : Option ((List (List (S47))) × Int × Int × Int × Int) := (jlex_Judge.f k a0).bind fun bt141 => (if bt141.1 = 0 then ((cread_whole.f a0).bind fun bt146 => (some (bt146.1, bt146.2.1, bt146.2.2.1, bt146.2.2.2.1, bt146.2.2.2.2))) else (some (([] : List (List (S47))), bt141.1, bt141.2.1, bt141.2.2.1, bt141.2.2.2)))
set_option maxHeartbeats 8000000 in
set_option maxRecDepth 100000 in
theorem cread_Fields.calls (k : Nat) (a0 : ByteArray) (r1 : List (List (S47))) (r2 : Int) (r3 : Int) (r4 : Int) (r5 : Int) (w : World) (h : cread_Fields.f k a0 = some (r1, r2, r3, r4, r5)) :
  Calls Try.prog 15 #[.string a0] w fun e w' => ∃ v0_ : Value, e = .returned (.tuple #[v0_, .agg #[.int .i64 r2, .int .i64 r3, .int .i64 r4, .int .i64 r5]]) ∧ Kd.S (Kd.slice 47 k47) 45 w' w.heap.size (fun _ => True) v0_ r1 ∧ Below w.heap.size w w' := by
 have hu26 := Try.underlying26
 have HB := Aside0.mk (Below.refl w.heap.size w)
 have H : ((jlex_Judge.f k a0).bind fun bt141 => (if bt141.1 = 0 then ((cread_whole.f a0).bind fun bt146 => (some (bt146.1, bt146.2.1, bt146.2.2.1, bt146.2.2.2.1, bt146.2.2.2.2))) else (some (([] : List (List (S47))), bt141.1, bt141.2.1, bt141.2.2.1, bt141.2.2.2)))) = some (r1, r2, r3, r4, r5) := h
 clear h
 replace H := Option.bind_eq_some_iff.mp H
 obtain ⟨⟨t141, t142, t143, t144⟩, A20, H⟩ := H
 replace H : (if t141 = 0 then ((cread_whole.f a0).bind fun bt146 => (some (bt146.1, bt146.2.1, bt146.2.2.1, bt146.2.2.2.1, bt146.2.2.2.2))) else (some (([] : List (List (S47))), t141, t142, t143, t144))) = some (r1, r2, r3, r4, r5) := H
 have A2 := Aside0.mk A20
 clear A20
 by_cases c3 : t141 = 0
 ·rw [if_pos c3] at H
  have c3b0 : (t141 == 0) = true := beq_iff_eq.mpr c3
  have c3b1 : (t141 != 0) = false := bne_eq_false_iff_eq.mpr c3
  clear c3
  replace H := Option.bind_eq_some_iff.mp H
  obtain ⟨⟨t146, t149, t150, t151, t152⟩, A40, H⟩ := H
  replace H : (some (t146, t149, t150, t151, t152)) = some (r1, r2, r3, r4, r5) := H
  have A4 := Aside0.mk A40
  clear A40
  simp only [Option.some.injEq, Prod.mk.injEq] at H
  obtain ⟨rfl, rfl, rfl, rfl, rfl⟩ := H
  go_enter Try.func15, Try.ntmps15
  go_wp2_with (first | ((with_reducible refine gate_dst (N := 3) rfl ?_); refine box_event ?hg (N := 3) ?hd (cs := #[.int .i64 0, .int .i64 0, .int .i64 0, .int .i64 0]) (t := 26) ?hr ?_; (case hd => rfl); (case hg => rfl); (case hr => first | (go_simp; done) | (go_simp; rfl)); intro gb140 hg w5 hbox hb; have n0_ := Aside0.mk (below_step (by repeat (first | (with_reducible first | exact HB.out | apply below_alloc | apply pw_below_drewN | apply below_drew1) | exact HB.out)) hb); have n1_ := Aside0.mk (hbox); have n2_ := Aside0.mk ((by rw [hg]; exact (below_size (by repeat (first | (with_reducible first | exact HB.out | apply below_alloc | apply pw_below_drewN | apply below_drew1) | exact HB.out))) : w.heap.size ≤ gb140)); have n3_ := Aside0.mk ((by rw [hg]; exact (below_size (by repeat (first | (with_reducible first | exact HB.out | apply below_alloc | apply pw_below_drewN | apply below_drew1) | exact HB.out))) : w.heap.size ≤ gb140)); clear HB; have HB := n0_; have BK140 := n1_; have GW140 := n2_; have GE140 := n3_; clear n0_ n1_ n2_ n3_; clear hb hbox hg) | ((with_reducible refine gate_callee (f := 22) rfl ?_); refine goesL_ (some 6) rfl rfl Try.func22 (by kernel_rfl) rfl #[.string a0] rfl (by (try simp only [List.map_toArray, List.map_cons, List.map_nil]); first | done | rfl | (simp only [List.length_drop, List.length_take]; rfl)) ?_; (with_reducible refine (jlex_Judge.calls k a0 t141 t142 t143 t144 _ A2.out).mono ?_); rintro e w6 ⟨rfl, hb⟩; refine ⟨_, rfl, ?_⟩; have n0_ := Aside0.mk (blk_below (g := gb140) (o := .cells #[.int .i64 0, .int .i64 0, .int .i64 0, .int .i64 0] 26 (0, 0)) (by (with_reducible repeat (first | refine blk_drewN ?_ _ | refine blk_drew ?_ | refine blk_alloc ?_ _)); exact BK140.out) hb); have n1_ := Aside0.mk (below_step (by repeat (first | (with_reducible first | exact HB.out | apply below_alloc | apply pw_below_drewN | apply below_drew1 | refine below_set ?_ GE140.out) | exact HB.out)) hb); clear BK140; clear HB; have BK140 := n0_; have HB := n1_; clear n0_ n1_; (try clear hb); (try clear hb2); (try clear hk); (try clear hi)) | ((with_reducible refine gate_dst (N := 4) rfl ?_); refine box_event ?hg (N := 4) ?hd (cs := #[.int .i64 0, .int .i64 0, .int .i64 0, .int .i64 0]) (t := 26) ?hr ?_; (case hd => rfl); (case hg => rfl); (case hr => first | (go_simp; done) | (go_simp; rfl)); intro gb145 hg w7 hbox hb; have n0_ := Aside0.mk (blk_below (g := gb140) (o := .cells #[.int .i64 0, .int .i64 0, .int .i64 0, .int .i64 0] 26 (0, 0)) (by (with_reducible repeat (first | refine blk_drewN ?_ _ | refine blk_drew ?_ | refine blk_alloc ?_ _)); exact BK140.out) hb); have n1_ := Aside0.mk (below_step (by repeat (first | (with_reducible first | exact HB.out | apply below_alloc | apply pw_below_drewN | apply below_drew1 | refine below_set ?_ GE140.out) | exact HB.out)) hb); have n2_ := Aside0.mk (hbox); have n3_ := Aside0.mk ((by rw [hg]; exact (below_size (by repeat (first | (with_reducible first | exact HB.out | apply below_alloc | apply pw_below_drewN | apply below_drew1 | refine below_set ?_ GE140.out) | exact HB.out))) : w.heap.size ≤ gb145)); have n4_ := Aside0.mk ((by rw [hg]; exact (below_size (by repeat (first | (with_reducible first | exact HB.out | apply below_alloc | apply pw_below_drewN | apply below_drew1 | refine below_set ?_ GE140.out) | exact HB.out))) : w.heap.size ≤ gb145)); have n5_ := Aside0.mk ((by rw [hg]; exact Nat.ne_of_lt (blk_lt (g := gb140) (o := .cells #[.int .i64 0, .int .i64 0, .int .i64 0, .int .i64 0] 26 (0, 0)) (by (with_reducible repeat (first | refine blk_drewN ?_ _ | refine blk_drew ?_ | refine blk_alloc ?_ _)); exact BK140.out)) : gb140 ≠ gb145)); have n6_ := Aside0.mk ((by rw [hg]; exact Nat.ne_of_gt (blk_lt (g := gb140) (o := .cells #[.int .i64 0, .int .i64 0, .int .i64 0, .int .i64 0] 26 (0, 0)) (by (with_reducible repeat (first | refine blk_drewN ?_ _ | refine blk_drew ?_ | refine blk_alloc ?_ _)); exact BK140.out)) : gb145 ≠ gb140)); clear BK140; clear HB; have BK140 := n0_; have HB := n1_; have BK145 := n2_; have GW145 := n3_; have GE145 := n4_; have NB140_145 := n5_; have NB145_140 := n6_; clear n0_ n1_ n2_ n3_ n4_ n5_ n6_; clear hb hbox hg; have hnb8 := NB145_140.out; have hnc8 := NB140_145.out; have hcz9_0 : w7.cell? ⟨gb145, 0, none⟩ = some (.int .i64 0) := (blk_cell BK145.out 0).trans rfl; have hcz9_1 : w7.cell? ⟨gb145, 1, none⟩ = some (.int .i64 0) := (blk_cell BK145.out 1).trans rfl; have hcz9_2 : w7.cell? ⟨gb145, 2, none⟩ = some (.int .i64 0) := (blk_cell BK145.out 2).trans rfl; have hcz9_3 : w7.cell? ⟨gb145, 3, none⟩ = some (.int .i64 0) := (blk_cell BK145.out 3).trans rfl; have hfz9_0 := blk_frozen BK145.out 0; have hfz9_1 := blk_frozen BK145.out 1; have hfz9_2 := blk_frozen BK145.out 2; have hfz9_3 := blk_frozen BK145.out 3) | ((with_reducible refine gate_callee (f := 23) rfl ?_); refine goesL_ (some 12) rfl rfl Try.func23 (by kernel_rfl) rfl #[.string a0] rfl (by (try simp only [List.map_toArray, List.map_cons, List.map_nil]); first | done | rfl | (simp only [List.length_drop, List.length_take]; rfl)) ?_; (with_reducible refine (cread_whole.calls a0 t146 t149 t150 t151 t152 _ A4.out).mono ?_); rintro e w10 ⟨v147, rfl, ho0, hb⟩; refine ⟨_, rfl, ?_⟩; have n0_ := Aside0.mk (Kd.S_lower ho0 (below_size (by repeat (first | (with_reducible first | exact HB.out | apply below_alloc | apply pw_below_drewN | apply below_drew1 | refine below_set ?_ GE140.out | refine below_set ?_ GE145.out) | exact HB.out)))); have n1_ := Aside0.mk (blk_below (g := gb140) (o := .cells #[.int .i64 0, .int .i64 0, .int .i64 0, .int .i64 0] 26 (0, 0)) (by (with_reducible repeat (first | refine blk_drewN ?_ _ | refine blk_drew ?_ | refine blk_alloc ?_ _)); refine blk_far ?_ NB140_145.out _; (with_reducible repeat (first | refine blk_drewN ?_ _ | refine blk_drew ?_ | refine blk_alloc ?_ _)); refine blk_far ?_ NB140_145.out _; (with_reducible repeat (first | refine blk_drewN ?_ _ | refine blk_drew ?_ | refine blk_alloc ?_ _)); refine blk_far ?_ NB140_145.out _; (with_reducible repeat (first | refine blk_drewN ?_ _ | refine blk_drew ?_ | refine blk_alloc ?_ _)); refine blk_far ?_ NB140_145.out _; (with_reducible repeat (first | refine blk_drewN ?_ _ | refine blk_drew ?_ | refine blk_alloc ?_ _)); exact BK140.out) hb); have n2_ := Aside0.mk (blk_below (g := gb145) (o := .cells #[.int .i64 t141, .int .i64 t142, .int .i64 t143, .int .i64 t144] 26 (0, 0)) (by (with_reducible repeat (first | refine blk_drewN ?_ _ | refine blk_drew ?_ | refine blk_alloc ?_ _)); refine blk_put (cs := #[.int .i64 t141, .int .i64 t142, .int .i64 t143, .int .i64 0]) ?_ 3 _ rfl; (with_reducible repeat (first | refine blk_drewN ?_ _ | refine blk_drew ?_ | refine blk_alloc ?_ _)); refine blk_put (cs := #[.int .i64 t141, .int .i64 t142, .int .i64 0, .int .i64 0]) ?_ 2 _ rfl; (with_reducible repeat (first | refine blk_drewN ?_ _ | refine blk_drew ?_ | refine blk_alloc ?_ _)); refine blk_put (cs := #[.int .i64 t141, .int .i64 0, .int .i64 0, .int .i64 0]) ?_ 1 _ rfl; (with_reducible repeat (first | refine blk_drewN ?_ _ | refine blk_drew ?_ | refine blk_alloc ?_ _)); refine blk_put (cs := #[.int .i64 0, .int .i64 0, .int .i64 0, .int .i64 0]) ?_ 0 _ rfl; (with_reducible repeat (first | refine blk_drewN ?_ _ | refine blk_drew ?_ | refine blk_alloc ?_ _)); exact BK145.out) hb); have n3_ := Aside0.mk (below_step (by repeat (first | (with_reducible first | exact HB.out | apply below_alloc | apply pw_below_drewN | apply below_drew1 | refine below_set ?_ GE140.out | refine below_set ?_ GE145.out) | exact HB.out)) hb); clear BK140; clear BK145; clear HB; have HO148 := n0_; have BK140 := n1_; have BK145 := n2_; have HB := n3_; clear n0_ n1_ n2_ n3_; (try clear hb); (try clear hb2); (try clear hk); (try clear hi); (try clear ho0); have hcz11_0 : w10.cell? ⟨gb140, 0, none⟩ = some (.int .i64 0) := (blk_cell BK140.out 0).trans rfl; have hcz11_1 : w10.cell? ⟨gb140, 1, none⟩ = some (.int .i64 0) := (blk_cell BK140.out 1).trans rfl; have hcz11_2 : w10.cell? ⟨gb140, 2, none⟩ = some (.int .i64 0) := (blk_cell BK140.out 2).trans rfl; have hcz11_3 : w10.cell? ⟨gb140, 3, none⟩ = some (.int .i64 0) := (blk_cell BK140.out 3).trans rfl; have hfz11_0 := blk_frozen BK140.out 0; have hfz11_1 := blk_frozen BK140.out 1; have hfz11_2 := blk_frozen BK140.out 2; have hfz11_3 := blk_frozen BK140.out 3))
  refine bodyPost_ret (results_tc rfl _ _ gb140 26 #[.int .i64 t149, .int .i64 t150, .int .i64 t151, .int .i64 t152] (0, 0) _ rfl (by (with_reducible repeat (first | refine blk_drewN ?_ _ | refine blk_drew ?_ | refine blk_alloc ?_ _)); refine blk_put (cs := #[.int .i64 t149, .int .i64 t150, .int .i64 t151, .int .i64 0]) ?_ 3 _ rfl; (with_reducible repeat (first | refine blk_drewN ?_ _ | refine blk_drew ?_ | refine blk_alloc ?_ _)); refine blk_put (cs := #[.int .i64 t149, .int .i64 t150, .int .i64 0, .int .i64 0]) ?_ 2 _ rfl; (with_reducible repeat (first | refine blk_drewN ?_ _ | refine blk_drew ?_ | refine blk_alloc ?_ _)); refine blk_put (cs := #[.int .i64 t149, .int .i64 0, .int .i64 0, .int .i64 0]) ?_ 1 _ rfl; (with_reducible repeat (first | refine blk_drewN ?_ _ | refine blk_drew ?_ | refine blk_alloc ?_ _)); refine blk_put (cs := #[.int .i64 0, .int .i64 0, .int .i64 0, .int .i64 0]) ?_ 0 _ rfl; (with_reducible repeat (first | refine blk_drewN ?_ _ | refine blk_drew ?_ | refine blk_alloc ?_ _)); exact BK140.out) Try.underlying26 rfl (by kernel_rfl)) rfl ?_
  exact ⟨_, by first | rfl | (simp [errW_none, errW_some] <;> rfl) | (simp [*, errW_none, errW_some, bne]; done) | (simp [*, errW_none, errW_some] <;> rfl), by (with_reducible repeat (first | apply Kd.S_alloc | apply Kd.S_drewN | apply Kd.S_drew)); exact Kd.S_mono (Kd.S_far (p := ⟨gb140, 3, none⟩) (Kd.S_far (p := ⟨gb140, 2, none⟩) (Kd.S_far (p := ⟨gb140, 1, none⟩) (Kd.S_far (p := ⟨gb140, 0, none⟩) (Kd.S_types HO148.out BK140.out (by decide)) (fun _ hk => hk.2) (.int .i64 t149)) (fun _ hk => hk.2) (.int .i64 t150)) (fun _ hk => hk.2) (.int .i64 t151)) (fun _ hk => hk.2) (.int .i64 t152)) (fun _ hk => trivial), by repeat (first | (with_reducible first | exact HB.out | apply below_alloc | apply pw_below_drewN | apply below_drew1 | refine below_set ?_ GE140.out | refine below_set ?_ GE145.out) | exact HB.out)⟩
 ·rw [if_neg c3] at H
  have c3b0 : (t141 == 0) = false := beq_eq_false_iff_ne.mpr c3
  have c3b1 : (t141 != 0) = true := bne_iff_ne.mpr c3
  simp only [Option.some.injEq, Prod.mk.injEq] at H
  obtain ⟨rfl, rfl, rfl, rfl, rfl⟩ := H
  go_enter Try.func15, Try.ntmps15
  try go_wp2_with (first | ((with_reducible refine gate_dst (N := 3) rfl ?_); refine box_event ?hg (N := 3) ?hd (cs := #[.int .i64 0, .int .i64 0, .int .i64 0, .int .i64 0]) (t := 26) ?hr ?_; (case hd => rfl); (case hg => rfl); (case hr => first | (go_simp; done) | (go_simp; rfl)); intro gb140 hg w12 hbox hb; have n0_ := Aside0.mk (below_step (by repeat (first | (with_reducible first | exact HB.out | apply below_alloc | apply pw_below_drewN | apply below_drew1) | exact HB.out)) hb); have n1_ := Aside0.mk (hbox); have n2_ := Aside0.mk ((by rw [hg]; exact (below_size (by repeat (first | (with_reducible first | exact HB.out | apply below_alloc | apply pw_below_drewN | apply below_drew1) | exact HB.out))) : w.heap.size ≤ gb140)); have n3_ := Aside0.mk ((by rw [hg]; exact (below_size (by repeat (first | (with_reducible first | exact HB.out | apply below_alloc | apply pw_below_drewN | apply below_drew1) | exact HB.out))) : w.heap.size ≤ gb140)); clear HB; have HB := n0_; have BK140 := n1_; have GW140 := n2_; have GE140 := n3_; clear n0_ n1_ n2_ n3_; clear hb hbox hg) | ((with_reducible refine gate_callee (f := 22) rfl ?_); refine goesL_ (some 6) rfl rfl Try.func22 (by kernel_rfl) rfl #[.string a0] rfl (by (try simp only [List.map_toArray, List.map_cons, List.map_nil]); first | done | rfl | (simp only [List.length_drop, List.length_take]; rfl)) ?_; (with_reducible refine (jlex_Judge.calls k a0 t141 t142 t143 t144 _ A2.out).mono ?_); rintro e w13 ⟨rfl, hb⟩; refine ⟨_, rfl, ?_⟩; have n0_ := Aside0.mk (blk_below (g := gb140) (o := .cells #[.int .i64 0, .int .i64 0, .int .i64 0, .int .i64 0] 26 (0, 0)) (by (with_reducible repeat (first | refine blk_drewN ?_ _ | refine blk_drew ?_ | refine blk_alloc ?_ _)); exact BK140.out) hb); have n1_ := Aside0.mk (below_step (by repeat (first | (with_reducible first | exact HB.out | apply below_alloc | apply pw_below_drewN | apply below_drew1 | refine below_set ?_ GE140.out) | exact HB.out)) hb); clear BK140; clear HB; have BK140 := n0_; have HB := n1_; clear n0_ n1_; (try clear hb); (try clear hb2); (try clear hk); (try clear hi)) | ((with_reducible refine gate_dst (N := 4) rfl ?_); refine box_event ?hg (N := 4) ?hd (cs := #[.int .i64 0, .int .i64 0, .int .i64 0, .int .i64 0]) (t := 26) ?hr ?_; (case hd => rfl); (case hg => rfl); (case hr => first | (go_simp; done) | (go_simp; rfl)); intro gb145 hg w14 hbox hb; have n0_ := Aside0.mk (blk_below (g := gb140) (o := .cells #[.int .i64 0, .int .i64 0, .int .i64 0, .int .i64 0] 26 (0, 0)) (by (with_reducible repeat (first | refine blk_drewN ?_ _ | refine blk_drew ?_ | refine blk_alloc ?_ _)); exact BK140.out) hb); have n1_ := Aside0.mk (below_step (by repeat (first | (with_reducible first | exact HB.out | apply below_alloc | apply pw_below_drewN | apply below_drew1 | refine below_set ?_ GE140.out) | exact HB.out)) hb); have n2_ := Aside0.mk (hbox); have n3_ := Aside0.mk ((by rw [hg]; exact (below_size (by repeat (first | (with_reducible first | exact HB.out | apply below_alloc | apply pw_below_drewN | apply below_drew1 | refine below_set ?_ GE140.out) | exact HB.out))) : w.heap.size ≤ gb145)); have n4_ := Aside0.mk ((by rw [hg]; exact (below_size (by repeat (first | (with_reducible first | exact HB.out | apply below_alloc | apply pw_below_drewN | apply below_drew1 | refine below_set ?_ GE140.out) | exact HB.out))) : w.heap.size ≤ gb145)); have n5_ := Aside0.mk ((by rw [hg]; exact Nat.ne_of_lt (blk_lt (g := gb140) (o := .cells #[.int .i64 0, .int .i64 0, .int .i64 0, .int .i64 0] 26 (0, 0)) (by (with_reducible repeat (first | refine blk_drewN ?_ _ | refine blk_drew ?_ | refine blk_alloc ?_ _)); exact BK140.out)) : gb140 ≠ gb145)); have n6_ := Aside0.mk ((by rw [hg]; exact Nat.ne_of_gt (blk_lt (g := gb140) (o := .cells #[.int .i64 0, .int .i64 0, .int .i64 0, .int .i64 0] 26 (0, 0)) (by (with_reducible repeat (first | refine blk_drewN ?_ _ | refine blk_drew ?_ | refine blk_alloc ?_ _)); exact BK140.out)) : gb145 ≠ gb140)); clear BK140; clear HB; have BK140 := n0_; have HB := n1_; have BK145 := n2_; have GW145 := n3_; have GE145 := n4_; have NB140_145 := n5_; have NB145_140 := n6_; clear n0_ n1_ n2_ n3_ n4_ n5_ n6_; clear hb hbox hg; have hnb15 := NB145_140.out; have hnc15 := NB140_145.out; have hcz16_0 : w14.cell? ⟨gb145, 0, none⟩ = some (.int .i64 0) := (blk_cell BK145.out 0).trans rfl; have hcz16_1 : w14.cell? ⟨gb145, 1, none⟩ = some (.int .i64 0) := (blk_cell BK145.out 1).trans rfl; have hcz16_2 : w14.cell? ⟨gb145, 2, none⟩ = some (.int .i64 0) := (blk_cell BK145.out 2).trans rfl; have hcz16_3 : w14.cell? ⟨gb145, 3, none⟩ = some (.int .i64 0) := (blk_cell BK145.out 3).trans rfl; have hfz16_0 := blk_frozen BK145.out 0; have hfz16_1 := blk_frozen BK145.out 1; have hfz16_2 := blk_frozen BK145.out 2; have hfz16_3 := blk_frozen BK145.out 3))
  have n0_ : Aside0 (((((w14.setCell ⟨gb145, 0, none⟩ (.int .i64 t141)).setCell ⟨gb145, 1, none⟩ (.int .i64 t142)).setCell ⟨gb145, 2, none⟩ (.int .i64 t143)).setCell ⟨gb145, 3, none⟩ (.int .i64 t144)).heap[gb140]? = some (.cells #[.int .i64 0, .int .i64 0, .int .i64 0, .int .i64 0] 26 (0, 0))) := ⟨by (with_reducible repeat (first | refine blk_drewN ?_ _ | refine blk_drew ?_ | refine blk_alloc ?_ _)); refine blk_far ?_ NB140_145.out _; (with_reducible repeat (first | refine blk_drewN ?_ _ | refine blk_drew ?_ | refine blk_alloc ?_ _)); refine blk_far ?_ NB140_145.out _; (with_reducible repeat (first | refine blk_drewN ?_ _ | refine blk_drew ?_ | refine blk_alloc ?_ _)); refine blk_far ?_ NB140_145.out _; (with_reducible repeat (first | refine blk_drewN ?_ _ | refine blk_drew ?_ | refine blk_alloc ?_ _)); refine blk_far ?_ NB140_145.out _; (with_reducible repeat (first | refine blk_drewN ?_ _ | refine blk_drew ?_ | refine blk_alloc ?_ _)); exact BK140.out⟩
  have n1_ : Aside0 (((((w14.setCell ⟨gb145, 0, none⟩ (.int .i64 t141)).setCell ⟨gb145, 1, none⟩ (.int .i64 t142)).setCell ⟨gb145, 2, none⟩ (.int .i64 t143)).setCell ⟨gb145, 3, none⟩ (.int .i64 t144)).heap[gb145]? = some (.cells #[.int .i64 t141, .int .i64 t142, .int .i64 t143, .int .i64 t144] 26 (0, 0))) := ⟨by (with_reducible repeat (first | refine blk_drewN ?_ _ | refine blk_drew ?_ | refine blk_alloc ?_ _)); refine blk_put (cs := #[.int .i64 t141, .int .i64 t142, .int .i64 t143, .int .i64 0]) ?_ 3 _ rfl; (with_reducible repeat (first | refine blk_drewN ?_ _ | refine blk_drew ?_ | refine blk_alloc ?_ _)); refine blk_put (cs := #[.int .i64 t141, .int .i64 t142, .int .i64 0, .int .i64 0]) ?_ 2 _ rfl; (with_reducible repeat (first | refine blk_drewN ?_ _ | refine blk_drew ?_ | refine blk_alloc ?_ _)); refine blk_put (cs := #[.int .i64 t141, .int .i64 0, .int .i64 0, .int .i64 0]) ?_ 1 _ rfl; (with_reducible repeat (first | refine blk_drewN ?_ _ | refine blk_drew ?_ | refine blk_alloc ?_ _)); refine blk_put (cs := #[.int .i64 0, .int .i64 0, .int .i64 0, .int .i64 0]) ?_ 0 _ rfl; (with_reducible repeat (first | refine blk_drewN ?_ _ | refine blk_drew ?_ | refine blk_alloc ?_ _)); exact BK145.out⟩
  have n2_ : Aside0 (Below w.heap.size w ((((w14.setCell ⟨gb145, 0, none⟩ (.int .i64 t141)).setCell ⟨gb145, 1, none⟩ (.int .i64 t142)).setCell ⟨gb145, 2, none⟩ (.int .i64 t143)).setCell ⟨gb145, 3, none⟩ (.int .i64 t144))) := ⟨by repeat (first | (with_reducible first | exact HB.out | apply below_alloc | apply pw_below_drewN | apply below_drew1 | refine below_set ?_ GE140.out | refine below_set ?_ GE145.out) | exact HB.out)⟩
  (try clear BK140)
  (try clear BK145)
  (try clear HB)
  generalize ((((w14.setCell ⟨gb145, 0, none⟩ (.int .i64 t141)).setCell ⟨gb145, 1, none⟩ (.int .i64 t142)).setCell ⟨gb145, 2, none⟩ (.int .i64 t143)).setCell ⟨gb145, 3, none⟩ (.int .i64 t144)) = w17 at n0_ n1_ n2_ ⊢
  have BK140 := n0_
  have BK145 := n1_
  have HB := n2_
  clear n0_ n1_ n2_
  have n0_ := Aside0.mk (blk_drew BK140.out)
  have n1_ := Aside0.mk (blk_drew BK145.out)
  have n2_ := Aside0.mk (below_drew1 HB.out)
  clear BK140
  clear BK145
  clear HB
  have BK140 := n0_
  have BK145 := n1_
  have HB := n2_
  clear n0_ n1_ n2_
  refine start_ (n := 3) (S := fun w' => w'.cell? ⟨gb145, 0, none⟩ = some (.int .i64 t141) ∧ w'.cell? ⟨gb145, 1, none⟩ = some (.int .i64 t142) ∧ w'.cell? ⟨gb145, 2, none⟩ = some (.int .i64 t143) ∧ w'.cell? ⟨gb145, 3, none⟩ = some (.int .i64 t144)) (ds := []) #[false, false, false] (by kernel_rfl) rfl rfl ⟨(blk_cell BK145.out 0).trans rfl, (blk_cell BK145.out 1).trans rfl, (blk_cell BK145.out 2).trans rfl, (blk_cell BK145.out 3).trans rfl⟩ (fun hHeld => ?_)
  generalize w17.drew = w18 at BK140 BK145 HB hHeld ⊢
  refine pure_ (i := 1) (N := some 2) (v := ?_) (a' := ?_) #[false, true, false] rfl rfl (by kernel_rfl) (fun _ _ _ h => h) (Or.inl ⟨by rfl, ?_⟩) ?_ ?_
  rotate_left
  ·intro w'
   go_simp
   with_reducible rfl
  rotate_left
  ·simp only [Act.put, List.setIfInBounds_toArray, List.set_cons_zero, List.set_cons_succ, i64_w, i32_w]
   rfl
  refine take_ (i := 0) (N := some 10) (v := ?_) (a' := ?_) #[true, true, false] rfl rfl (by kernel_rfl) (fun _ _ _ h => h) (Or.inl ⟨by rfl, ?_⟩) hHeld ?_ ?_
  rotate_left
  ·rintro w' ⟨s0, s1, s2, s3⟩
   go_simp
   with_reducible rfl
  rotate_left
  ·simp only [Act.put, List.setIfInBounds_toArray, List.set_cons_zero, List.set_cons_succ, i64_w, i32_w]
   rfl
  refine one_ (i := 2) (N := none) #[true, true, true] rfl rfl (by kernel_rfl) (by decide) (fun K hK => ?_)
  have hs19 : w18.cell? ⟨gb140, 0, none⟩ = some (.int .i64 0) := (blk_cell BK140.out 0).trans rfl
  have hfs19 := blk_frozen BK140.out 0
  have hns19_1 := NB145_140.out
  have hms19_1 := NB140_145.out
  have hs20 : w18.cell? ⟨gb140, 1, none⟩ = some (.int .i64 0) := (blk_cell BK140.out 1).trans rfl
  have hfs20 := blk_frozen BK140.out 1
  have hns20_1 := NB145_140.out
  have hms20_1 := NB140_145.out
  have hs21 : w18.cell? ⟨gb140, 2, none⟩ = some (.int .i64 0) := (blk_cell BK140.out 2).trans rfl
  have hfs21 := blk_frozen BK140.out 2
  have hns21_1 := NB145_140.out
  have hms21_1 := NB140_145.out
  have hs22 : w18.cell? ⟨gb140, 3, none⟩ = some (.int .i64 0) := (blk_cell BK140.out 3).trans rfl
  have hfs22 := blk_frozen BK140.out 3
  have hns22_1 := NB145_140.out
  have hms22_1 := NB140_145.out
  refine skip_ (w1 := ?_) (by rfl) rfl ?_ ?_
  rotate_left
  ·go_simp
   rfl
  refine hK.out _ _ ⟨((cell_far (p := ⟨gb140, _, none⟩) NB145_140.out _).trans (((cell_far (p := ⟨gb140, _, none⟩) NB145_140.out _).trans (((cell_far (p := ⟨gb140, _, none⟩) NB145_140.out _).trans (((cell_far (p := ⟨gb140, _, none⟩) NB145_140.out _).trans (hHeld.1)))))))), ((cell_far (p := ⟨gb140, _, none⟩) NB145_140.out _).trans (((cell_far (p := ⟨gb140, _, none⟩) NB145_140.out _).trans (((cell_far (p := ⟨gb140, _, none⟩) NB145_140.out _).trans (((cell_far (p := ⟨gb140, _, none⟩) NB145_140.out _).trans (hHeld.2.1)))))))), ((cell_far (p := ⟨gb140, _, none⟩) NB145_140.out _).trans (((cell_far (p := ⟨gb140, _, none⟩) NB145_140.out _).trans (((cell_far (p := ⟨gb140, _, none⟩) NB145_140.out _).trans (((cell_far (p := ⟨gb140, _, none⟩) NB145_140.out _).trans (hHeld.2.2.1)))))))), ((cell_far (p := ⟨gb140, _, none⟩) NB145_140.out _).trans (((cell_far (p := ⟨gb140, _, none⟩) NB145_140.out _).trans (((cell_far (p := ⟨gb140, _, none⟩) NB145_140.out _).trans (((cell_far (p := ⟨gb140, _, none⟩) NB145_140.out _).trans (hHeld.2.2.2))))))))⟩ (fun hHeld => ?_)
  clear hK K
  refine done_ (by kernel_rfl) ?_
  try go_wp2
  refine bodyPost_ret (results_tc rfl _ _ gb140 26 #[.int .i64 t141, .int .i64 t142, .int .i64 t143, .int .i64 t144] (0, 0) _ rfl (by (with_reducible repeat (first | refine blk_drewN ?_ _ | refine blk_drew ?_ | refine blk_alloc ?_ _)); refine blk_put (cs := #[.int .i64 t141, .int .i64 t142, .int .i64 t143, .int .i64 0]) ?_ 3 _ rfl; (with_reducible repeat (first | refine blk_drewN ?_ _ | refine blk_drew ?_ | refine blk_alloc ?_ _)); refine blk_put (cs := #[.int .i64 t141, .int .i64 t142, .int .i64 0, .int .i64 0]) ?_ 2 _ rfl; (with_reducible repeat (first | refine blk_drewN ?_ _ | refine blk_drew ?_ | refine blk_alloc ?_ _)); refine blk_put (cs := #[.int .i64 t141, .int .i64 0, .int .i64 0, .int .i64 0]) ?_ 1 _ rfl; (with_reducible repeat (first | refine blk_drewN ?_ _ | refine blk_drew ?_ | refine blk_alloc ?_ _)); refine blk_put (cs := #[.int .i64 0, .int .i64 0, .int .i64 0, .int .i64 0]) ?_ 0 _ rfl; (with_reducible repeat (first | refine blk_drewN ?_ _ | refine blk_drew ?_ | refine blk_alloc ?_ _)); exact BK140.out) Try.underlying26 rfl (by kernel_rfl)) rfl ?_
  exact ⟨_, by first | rfl | (simp [errW_none, errW_some] <;> rfl) | (simp [*, errW_none, errW_some, bne]; done) | (simp [*, errW_none, errW_some] <;> rfl), by first | exact Kd.S_nil _ _ _ _ _ | exact Kd.N_nil _ _ _ _ _ | exact Kd.V_nil _ _ _ _ _ | exact Kd.Q_nil _ _ _ _ _ | exact Kd.R_nil _ _ _ _ _, by repeat (first | (with_reducible first | exact HB.out | apply below_alloc | apply pw_below_drewN | apply below_drew1 | refine below_set ?_ GE140.out | refine below_set ?_ GE145.out) | exact HB.out)⟩
end Go.Proofs.Ytjmmdphkgioooaa.P
end
section
namespace Go.Proofs.Ytjmmdphkgioooaa.P
open Go.RowKit Go.Proofs.YtjmmdphkgioooaaW.PrintWords Go.Proofs.YtjmmdphkgioooaaW.PrintLast Go.Proofs.YtjmmdphkgioooaaW.PrintMore
attribute [local go_sem] max2_int min2_int max_two min_two max_three min_three max_four min_four   -- for this text's walks alone
set_option linter.unusedVariables false
set_option linter.unusedSimpArgs false
/-! ### cread_Valid: function 12 -/
def cread_Valid.f (k : Nat) (a0 : ByteArray) : Option (Bool) := (cread_Fields.f k a0).bind fun bt153 => (some (bt153.2.1 == 0))
set_option maxHeartbeats 8000000 in
set_option maxRecDepth 100000 in
theorem cread_Valid.calls (k : Nat) (a0 : ByteArray) (r : Bool) (w : World) (h : cread_Valid.f k a0 = some r) :
  Calls Try.prog 12 #[.string a0] w fun e w' => e = .returned (.bool r) ∧ Below w.heap.size w w' := by
 have hu26 := Try.underlying26
 have HB := Aside0.mk (Below.refl w.heap.size w)
 have H : ((cread_Fields.f k a0).bind fun bt153 => (some (bt153.2.1 == 0))) = some r := h
 clear h
 replace H := Option.bind_eq_some_iff.mp H
 obtain ⟨⟨t153, t156, t157, t158, t159⟩, A20, H⟩ := H
 replace H : (some (t156 == 0)) = some r := H
 have A2 := Aside0.mk A20
 clear A20
 obtain rfl := Option.some.inj H
 go_enter Try.func12, Try.ntmps12
 go_wp2_with (first | ((with_reducible refine gate_callee (f := 15) rfl ?_); refine goesL_ (some 7) rfl rfl Try.func15 (by kernel_rfl) rfl #[.string a0] rfl (by (try simp only [List.map_toArray, List.map_cons, List.map_nil]); first | done | rfl | (simp only [List.length_drop, List.length_take]; rfl)) ?_; (with_reducible refine (cread_Fields.calls k a0 t153 t156 t157 t158 t159 _ A2.out).mono ?_); rintro e w3 ⟨v154, rfl, ho0, hb⟩; refine ⟨_, rfl, ?_⟩; have n0_ := Aside0.mk (Kd.S_lower ho0 (below_size (by repeat (first | (with_reducible first | exact HB.out | apply below_alloc | apply pw_below_drewN | apply below_drew1) | exact HB.out)))); have n1_ := Aside0.mk (below_step (by repeat (first | (with_reducible first | exact HB.out | apply below_alloc | apply pw_below_drewN | apply below_drew1) | exact HB.out)) hb); clear HB; have HO155 := n0_; have HB := n1_; clear n0_ n1_; (try clear hb); (try clear hb2); (try clear hk); (try clear hi); (try clear ho0)) | ((with_reducible refine gate_dst (N := 4) rfl ?_); refine box_event ?hg (N := 4) ?hd (cs := #[.int .i64 0, .int .i64 0, .int .i64 0, .int .i64 0]) (t := 26) ?hr ?_; (case hd => rfl); (case hg => rfl); (case hr => first | (go_simp; done) | (go_simp; rfl)); intro gb160 hg w4 hbox hb; have n0_ := Aside0.mk (Kd.S_below (by (with_reducible repeat (first | apply Kd.S_alloc | apply Kd.S_drewN | apply Kd.S_drew)); exact HO155.out) hb); have n1_ := Aside0.mk (below_step (by repeat (first | (with_reducible first | exact HB.out | apply below_alloc | apply pw_below_drewN | apply below_drew1) | exact HB.out)) hb); have n2_ := Aside0.mk (hbox); have n3_ := Aside0.mk ((by rw [hg]; exact (below_size (by repeat (first | (with_reducible first | exact HB.out | apply below_alloc | apply pw_below_drewN | apply below_drew1) | exact HB.out))) : w.heap.size ≤ gb160)); have n4_ := Aside0.mk ((by rw [hg]; exact (below_size (by repeat (first | (with_reducible first | exact HB.out | apply below_alloc | apply pw_below_drewN | apply below_drew1) | exact HB.out))) : w.heap.size ≤ gb160)); clear HO155; clear HB; have HO155 := n0_; have HB := n1_; have BK160 := n2_; have GW160 := n3_; have GE160 := n4_; clear n0_ n1_ n2_ n3_ n4_; clear hb hbox hg; have hcz5_0 : w4.cell? ⟨gb160, 0, none⟩ = some (.int .i64 0) := (blk_cell BK160.out 0).trans rfl; have hcz5_1 : w4.cell? ⟨gb160, 1, none⟩ = some (.int .i64 0) := (blk_cell BK160.out 1).trans rfl; have hcz5_2 : w4.cell? ⟨gb160, 2, none⟩ = some (.int .i64 0) := (blk_cell BK160.out 2).trans rfl; have hcz5_3 : w4.cell? ⟨gb160, 3, none⟩ = some (.int .i64 0) := (blk_cell BK160.out 3).trans rfl; have hfz5_0 := blk_frozen BK160.out 0; have hfz5_1 := blk_frozen BK160.out 1; have hfz5_2 := blk_frozen BK160.out 2; have hfz5_3 := blk_frozen BK160.out 3))
 go_ret
 exact ⟨by first | rfl | (simp [errW_none, errW_some] <;> rfl) | (simp [*, errW_none, errW_some, bne]; done) | (simp [*, errW_none, errW_some] <;> rfl), by repeat (first | (with_reducible first | exact HB.out | apply below_alloc | apply pw_below_drewN | apply below_drew1 | refine below_set ?_ GE160.out) | exact HB.out)⟩
end Go.Proofs.Ytjmmdphkgioooaa.P
end
section
namespace Go.Proofs.Ytjmmdphkgioooaa.La
open Go.RowKit Go.Proofs.Ytjmmdphkgioooaa.P Go.Proofs.YtjmmdphkgioooaaW.PrintWords Go.Proofs.YtjmmdphkgioooaaW.PrintLast Go.Proofs.YtjmmdphkgioooaaW.PrintMore
/-- What may stand behind a field. -/
def Behind (r : List Int) : Prop := r = [] ∨ r.take 1 = [44] ∨ lend r ≠ 0
/-- The bytes p.1 are read as the field p.2. -/
def Wr (p : List Int × List Int) : Prop := (∀ r, Behind r → raw (p.1 ++ r) = some (p.2, p.1.length)) ∧ p.2.length ≤ 4096
def joinC : List (List Int) → List Int
 | [] => []
 | [a] => a
 | a :: b :: t => a ++ 44 :: joinC (b :: t)
/-- A line: its fields, its end. -/
abbrev Line := List (List Int × List Int) × List Int
def Line.text (l : Line) : List Int := joinC (l.1.map Prod.fst) ++ l.2
def Line.good (l : Line) : Prop := l.1 ≠ [] ∧ (∀ p ∈ l.1, Wr p) ∧ (l.2 = [10] ∨ l.2 = [13, 10]) ∧ l.1.length ≤ 64
end Go.Proofs.Ytjmmdphkgioooaa.La
end
section
namespace Go.Proofs.Ytjmmdphkgioooaa.La
open Go.RowKit Go.Proofs.Ytjmmdphkgioooaa.P Go.Proofs.YtjmmdphkgioooaaW.PrintWords Go.Proofs.YtjmmdphkgioooaaW.PrintLast Go.Proofs.YtjmmdphkgioooaaW.PrintMore
def judgeR (s : ByteArray) : Int × Int × Int × Int :=
 if 65536 < s.size then faultR s s.size 2 else match bad (bytesOf s) with
  | none => (0, 0, 0, 0)
  | some p => faultR s p 3
theorem judge_ev (s : ByteArray) (hs : s.size ≤ 8796093022208) : Ev (fun k => jlex_Judge.f k s) (judgeR s) := by
 unfold judgeR
 by_cases hz : 65536 < s.size
 ·rw [if_pos hz]
  refine Ev.congr (fun k => by rw [jlex_Judge.f, if_pos (by omega)]) (Ev.bind (fault_ev s hs s.size 2) (Ev.now _))
 ·rw [if_neg hz]
  refine Ev.congr (fun k => by rw [jlex_Judge.f, if_neg (by omega)]) (Ev.bind (valid_ev s (by omega)) ?_)
  cases hb : bad (bytesOf s) with
  | none =>
   simp only [badR, if_true]
   exact Ev.now _
  | some p =>
   simp only [badR, Bool.false_eq_true, if_false, Nat.zero_add]
   exact Ev.bind (fault_ev s (by omega) (p : Int) 3) (Ev.now _)
def fieldsR (s : ByteArray) : List (List S47) × Int × Int × Int × Int :=
 if 65536 < s.size then ([], faultR s s.size 2) else match bad (bytesOf s) with
  | some p => ([], faultR s p 3)
  | none => wholeR s (wholeS 513 [] (bytesOf s) 0)
theorem fields_ev (s : ByteArray) (hs : s.size ≤ 8796093022208) : Ev (fun k => cread_Fields.f k s) (fieldsR s) := by
 refine Ev.congr (fun k => by rw [cread_Fields.f]) (Ev.bind (judge_ev s hs) ?_)
 unfold judgeR fieldsR
 by_cases hz : 65536 < s.size
 ·rw [if_pos hz, if_pos hz]
  exact Ev.congr (fun k => if_neg (show ¬ (2 : Int) = 0 by decide)) (Ev.now _)
 ·rw [if_neg hz, if_neg hz]
  cases hb : bad (bytesOf s) with
  | none =>
   simp only [if_true]
   unfold cread_whole.f
   rw [if_pos (by omega)]
   exact Ev.now _
  | some p =>
   exact Ev.congr (fun k => if_neg (show ¬ (3 : Int) = 0 by decide)) (Ev.now _)
theorem rowS_bound : ∀ (k : Nat) (acc : List S47) (l : List Int) (i : Nat) (r : List S47) (l2 : List Int) (j : Nat), rowS k acc l i = .inr (r, l2, j) → r.length ≤ acc.length + k
 | 0, _, _, _, _, _, _, h => by cases h
 | k + 1, acc, l, i, r, l2, j, h => by
  rw [rowS] at h
  cases hf : fieldS l i with
  | inl e => rw [hf] at h; cases h
  | inr p =>
   rw [hf] at h
   simp only at h
   split at h
   ·have := rowS_bound k _ _ _ _ _ _ h
    rw [List.length_append, List.length_singleton] at this
    omega
   ·have h6 := (Prod.mk.inj (Sum.inr.inj h)).1
    rw [← h6, List.length_append, List.length_singleton]
    omega
theorem wholeS_bound : ∀ (n : Nat) (rows : List (List S47)) (l : List Int) (i : Nat) (r : List (List S47)), wholeS n rows l i = .inr r → r.length ≤ rows.length + n ∧ ∀ R ∈ r, R ∈ rows ∨ R.length ≤ 64
 | 0, rows, l, i, r, h => by
  rw [wholeS] at h
  split at h
  ·obtain rfl := Sum.inr.inj h
   exact ⟨by omega, fun R hR => .inl hR⟩
  ·cases h
 | n + 1, rows, l, i, r, h => by
  rw [wholeS] at h
  split at h
  ·obtain rfl := Sum.inr.inj h
   exact ⟨by omega, fun R hR => .inl hR⟩
  ·cases hr : rowS 64 [] l i with
   | inl e => rw [hr] at h; cases h
   | inr x =>
    obtain ⟨a, l2, j⟩ := x
    rw [hr] at h
    simp only at h
    split at h
    ·cases h
    ·obtain ⟨h1, h2⟩ := wholeS_bound n _ _ _ _ h
     have h3 := rowS_bound 64 [] l i a l2 j hr
     rw [List.length_append, List.length_singleton] at h1
     refine ⟨by omega, fun R hR => ?_⟩
     rcases h2 R hR with h4 | h4
     ·rcases List.mem_append.1 h4 with h5 | h5
      ·exact .inl h5
      ·rw [List.mem_singleton.1 h5]
       exact .inr (by simpa using h3)
     ·exact .inr h4
theorem fieldsR_bound (s : ByteArray) : (fieldsR s).1.length ≤ 513 ∧ ∀ R ∈ (fieldsR s).1, R.length ≤ 64 := by
 unfold fieldsR
 split
 ·exact ⟨by simp, fun R hR => by cases hR⟩
 ·split
  ·exact ⟨by simp, fun R hR => by cases hR⟩
  ·cases hw : wholeS 513 [] (bytesOf s) 0 with
   | inl e => exact ⟨by simp [wholeR], fun R hR => by cases hR⟩
   | inr r =>
    obtain ⟨h1, h2⟩ := wholeS_bound 513 [] _ _ _ hw
    refine ⟨by simpa [wholeR] using h1, fun R hR => ?_⟩
    rcases h2 R hR with h | h
    ·cases h
    ·exact h
/-- What cread.Rows answers. -/
def readR (s : ByteArray) : List (List ByteArray) × Int × Int × Int × Int := ((fieldsR s).1.map (·.map S47.f0), (fieldsR s).2)
end Go.Proofs.Ytjmmdphkgioooaa.La
end
section
namespace Go.Proofs.Ytjmmdphkgioooaa.P
open Go.RowKit Go.Proofs.Ytjmmdphkgioooaa.La Go.Proofs.YtjmmdphkgioooaaW.PrintWords Go.Proofs.YtjmmdphkgioooaaW.PrintLast Go.Proofs.YtjmmdphkgioooaaW.PrintMore
theorem cinfoT : (Try.prog.info? 9).map (fun i => (i.zero, i.size, i.bytes)) = some (some (.string ⟨#[]⟩), 1, 16) := by kernel_rfl
theorem cinfoTs : (Try.prog.info? 29).map (fun i => (i.zero, i.size, i.bytes)) = some (some (.slice none 0 0), 1, 24) := by kernel_rfl
abbrev OutS (wx : World) (B : Nat) (ok : Nat → Prop) (v : Value) (xs : List (List ByteArray)) : Prop := Kd.S (Kd.slice 9 Kd.string) 29 wx B ok v xs
abbrev InS (wx : World) (B : Nat) (ok : Nat → Prop) (v : Value) (xs : List (List S47)) : Prop := Kd.S (Kd.slice 47 k47) 45 wx B ok v xs
def Boxes (wx : World) (b bf : Nat) (q1 q2 q3 q4 : Int) : Prop := wx.heap[b]? = some (.cells #[.int .i64 0, .int .i64 0, .int .i64 0, .int .i64 0] 26 (0, 0)) ∧ wx.heap[bf]? = some (.cells #[.int .i64 q1, .int .i64 q2, .int .i64 q3, .int .i64 q4] 26 (0, 0))
theorem Boxes.step {wx w1 : World} {b bf : Nat} {q1 q2 q3 q4 : Int} (h : Boxes wx b bf q1 q2 q3 q4) (hm : ∀ k, k < wx.heap.size → (k = b ∨ k = bf) → w1.heap[k]? = wx.heap[k]?) : Boxes w1 b bf q1 q2 q3 q4 :=
 ⟨(hm b (cblk_lt h.1) (.inl rfl)).trans h.1, (hm bf (cblk_lt h.2) (.inr rfl)).trans h.2⟩
/-- The outer loop's state. -/
def OInv (w : World) (rows : List (List S47)) (rv : Value) (bf : Nat) (q1 q2 q3 q4 : Int) (k : Nat) (vo vi : Value) (wx : World) : Prop :=
 ∃ x : Int, 0 ≤ x ∧ x ≤ rows.length ∧ k = rows.length - x.toNat + 1 ∧ vi = .int .i64 x ∧ OutS wx w.heap.size (fun _ => True) vo ((rows.take x.toNat).map (·.map S47.f0)) ∧ InS wx w.heap.size (fun _ => True) rv rows ∧ Boxes wx w.heap.size bf q1 q2 q3 q4 ∧ Below w.heap.size w wx
/-- The inner loop's state. -/
def NInv (w : World) (N : Nat) (rows : List (List S47)) (rv : Value) (outs : List (List ByteArray)) (vo : Value) (row : List S47) (vr : Value) (bf : Nat) (q1 q2 q3 q4 : Int) (k : Nat) (vl vi : Value) (wx : World) : Prop :=
 ∃ x : Int, 0 ≤ x ∧ x ≤ row.length ∧ k = row.length - x.toNat + 1 ∧ vi = .int .i64 x ∧ Kd.R Kd.string 9 wx N (fun _ => True) vl ((row.take x.toNat).map S47.f0) ∧ OutS wx w.heap.size (fun k => k < N) vo outs ∧ InS wx w.heap.size (fun k => k < N) rv rows ∧
  Kd.R k47 47 wx w.heap.size (fun k => k < N) vr row ∧ Boxes wx w.heap.size bf q1 q2 q3 q4 ∧ Below w.heap.size w wx ∧ N ≤ wx.heap.size
def cread_Rows.f (a0 : ByteArray) : Option (List (List ByteArray) × Int × Int × Int × Int) := if a0.size ≤ 8796093022208 then some (readR a0) else none
set_option maxRecDepth 100000 in
set_option maxHeartbeats 8000000 in
theorem cread_Rows.calls (a0 : ByteArray) (r1 : List (List ByteArray)) (r2 r3 r4 r5 : Int) (w : World) (h : cread_Rows.f a0 = some (r1, r2, r3, r4, r5)) :
  Calls Try.prog 9 #[.string a0] w fun e w' => ∃ v0_ : Value, e = .returned (.tuple #[v0_, .agg #[.int .i64 r2, .int .i64 r3, .int .i64 r4, .int .i64 r5]]) ∧ Kd.S (Kd.slice 9 Kd.string) 29 w' w.heap.size (fun _ => True) v0_ r1 ∧ Below w.heap.size w w' := by
 unfold cread_Rows.f at h
 by_cases hs : a0.size ≤ 8796093022208
 ·rw [if_pos hs] at h
  obtain ⟨K, hK⟩ := fields_ev a0 hs
  obtain ⟨hb1, hb2⟩ := fieldsR_bound a0
  have hK := hK K (Nat.le_refl _)
  have H := Lib.hid (Option.some.inj h)
  clear h
  unfold readR at H
  generalize fieldsR a0 = q at hb1 hb2 hK H
  obtain ⟨rows, q1, q2, q3, q4⟩ := q
  go_enter Try.func9, Try.ntmps9
  go_wp2_with fail
  refine (cread_Fields.calls K a0 rows q1 q2 q3 q4 _ hK).mono ?_
  rintro e w1 ⟨v0, rfl, hS, hB⟩
  have hz0 : (w.alloc (.cells #[.int .i64 0, .int .i64 0, .int .i64 0, .int .i64 0] 26)).heap.size = w.heap.size + 1 := Array.size_push _
  have hA : Below w.heap.size w (w.alloc (.cells #[.int .i64 0, .int .i64 0, .int .i64 0, .int .i64 0] 26)) := below_alloc (Below.refl _ _) _
  have hB1 := below_step hA hB
  have g0 : w1.heap[w.heap.size]? = some (.cells #[.int .i64 0, .int .i64 0, .int .i64 0, .int .i64 0] 26 (0, 0)) := (hB.block w.heap.size (by omega)).trans (show (w.heap.push _)[w.heap.size]? = _ from Array.getElem?_push_size)
  have hS1 := Kd.S_lower hS (show w.heap.size ≤ (w.alloc (.cells #[.int .i64 0, .int .i64 0, .int .i64 0, .int .i64 0] 26)).heap.size by omega)
  clear hS hB hA hz0
  have hS2 := Kd.S_alloc hS1 (.cells #[.int .i64 q1, .int .i64 q2, .int .i64 q3, .int .i64 q4] 26)
  have hB2 := below_alloc hB1 (.cells #[.int .i64 q1, .int .i64 q2, .int .i64 q3, .int .i64 q4] 26)
  have hX : Boxes (w1.alloc (.cells #[.int .i64 q1, .int .i64 q2, .int .i64 q3, .int .i64 q4] 26)) w.heap.size w1.heap.size q1 q2 q3 q4 :=
   ⟨(Below.heap_alloc _ _ _ (cblk_lt g0)).trans g0, show (w1.heap.push _)[w1.heap.size]? = _ from Array.getElem?_push_size⟩
  obtain ⟨RA, RC, hrv, hrc, hRC⟩ := Kd.S_reads hS1
  subst hrv
  go_wp2_with fail
  generalize w1.alloc (.cells #[.int .i64 q1, .int .i64 q2, .int .i64 q3, .int .i64 q4] 26) = w2 at hS2 hB2 hX ⊢
  generalize w1.heap.size = bf at hX ⊢
  clear hS1 hB1 g0 hRC hK
  go_loopg [6, 19] (rows.length + 1) (fun k vo vi wx => OInv w rows (.slice RA rows.length RC) bf q1 q2 q3 q4 k vo vi wx)
  case atStart => exact ⟨0, by omega, by omega, by simp, rfl, Kd.S_nil _ _ _ _ _, hS2, hX, hB2⟩
  case round =>
   clear hS2 hX hB2
   obtain ⟨x, hx0, hx1, hk, rfl, hO, hI, hX, hB⟩ := hrel
   have HK := Lib.hid hk
   clear hk
   obtain ⟨OA, OC, hov, hoc, _⟩ := Kd.S_reads hO
   by_cases hxl : x < rows.length
   ·have e1 : decide (x < (rows.length : Int)) = true := decide_eq_true hxl
    obtain ⟨c, ad, hc⟩ : ∃ c ad, (Value.slice RA rows.length RC) = .slice (some ad) rows.length RC ∧ c = RC := by
     obtain ⟨g, cap, h, _⟩ := Kd.S_form hI (by omega)
     injection h with h1 h2 h3
     exact ⟨_, _, by rw [h1], rfl⟩
    injection hc.1 with hRA
    subst hRA
    obtain ⟨cs, hcs, hM, hcell⟩ := Kd.S_get hI [] x hx0 (by omega)
    obtain ⟨vr, rfl, hR⟩ := hM
    have hce := hcell 0 vr rfl
    have hrow : rows.getD x.toNat [] ∈ rows := by
     rw [List.getD_eq_getElem?_getD, List.getElem?_eq_getElem (show x.toNat < rows.length by omega)]
     exact List.getElem_mem _
    obtain ⟨row, hrw⟩ : ∃ row, rows.getD x.toNat [] = row := ⟨_, rfl⟩
    rw [hrw] at hR hrow
    have hrl := hb2 row hrow
    have HRW := Lib.hid hrw
    clear hrw hcell hrow hcs
    replace hce : wr.cell? (ad.add x.toNat) = some vr := by
     have h := hce
     rw [show x.toNat * (Kd.slice 47 k47).sz + 0 = x.toNat from (by show x.toNat * 1 + 0 = x.toNat; omega)] at h
     exact h
    obtain ⟨VA, VC, hvr, hvc, _⟩ := Kd.R_reads hR
    subst hvr
    have p1 := eq_true hx0
    have p2 := eq_true hxl
    have p3 := eq_true (show x.toNat < rows.length by omega)
    have q8 : decide (0 ≤ x) = true := decide_eq_true hx0
    subst hov
    have hO' : OutS wr w.heap.size (fun k => k < wr.heap.size) _ _ := Kd.S_mono (Kd.S_bound hO) (fun k hk => hk.2.2.1)
    have hI' : InS wr w.heap.size (fun k => k < wr.heap.size) _ _ := Kd.S_mono (Kd.S_bound hI) (fun k hk => hk.2.2.1)
    have hR' : Kd.R k47 47 wr w.heap.size (fun k => k < wr.heap.size) _ _ := Kd.R_mono (Kd.R_bound hR) (fun k hk => hk.2.2.1)
    have hol : ((rows.take x.toNat).map (·.map S47.f0)).length = x.toNat := by rw [List.length_map, List.length_take]; omega
    have HOL := Lib.hid hol
    generalize hov2 : (rows.take x.toNat).map (·.map S47.f0) = outs at hO hO' HOL ⊢
    have HOV := Lib.hid hov2
    clear hov2 hol hO hI hR
    have hbN := cblk_lt hX.1
    have hfN := cblk_lt hX.2
    obtain ⟨N, hN⟩ : ∃ N, wr.heap.size = N := ⟨_, rfl⟩
    rw [hN] at hbN hfN
    rw [hN] at hO' hI' hR'
    go_wp2_with fail
    go_loopg [9, 25] (row.length + 1) (fun k vl vi wx => NInv w N rows (.slice (some ad) rows.length RC) outs (.slice OA outs.length OC) row (.slice VA row.length VC) bf q1 q2 q3 q4 k vl vi wx)
    case atStart => exact ⟨0, by omega, by omega, by simp, rfl, Kd.R_nil _ _ _ _ _, hO', hI', hR', hX, hB, by omega⟩
    case round =>
     obtain ⟨y, hy0, hy1, hk2, rfl, hL, hO2, hI2, hR2, hX2, hB2, hN2⟩ := hrel
     have HK2 := Lib.hid hk2
     clear hk2 hce
     obtain ⟨LA, LC, hlv, hlc, _⟩ := Kd.R_reads hL
     obtain ⟨nl, hnl⟩ : ∃ nl, ((row.take y.toNat).map S47.f0).length = nl := ⟨_, rfl⟩
     have HNL := Lib.hid hnl
     rw [hnl] at hlv
     subst hlv
     clear hnl hlc
     by_cases hyl : y < row.length
     ·have e2 : decide (y < (row.length : Int)) = true := decide_eq_true hyl
      obtain ⟨ad2, hVA, k0, k1⟩ := at_T47 (Kd.R_reads' hR2).2.2 y hy0 hyl
      subst hVA
      have p4 := eq_true hy0
      have p5 := eq_true hyl
      have p6 := eq_true (show y.toNat < row.length by omega)
      have q9 : decide (0 ≤ y) = true := decide_eq_true hy0
      have hbL := Kd.R_base hL
      have hll : ((row.take y.toNat).map S47.f0).length ≤ 64 := by rw [List.length_map, List.length_take]; omega
      have hLa := Kd.R_alloc hL (.cells #[.string (rd_T47 row y).f0, .int .i64 (rd_T47 row y).f1] 47)
      have hza : (wr.alloc (.cells #[.string (rd_T47 row y).f0, .int .i64 (rd_T47 row y).f1] 47)).heap.size = wr.heap.size + 1 := Array.size_push _
      have hw1 : IntKind.i64.wrap (y + 1) = y + 1 := cwrap _ (by omega) (by omega)
      go_wp2_with (at_builtin; refine Kd.R_append Kd.string (w0 := wr.alloc (.cells #[.string (rd_T47 row y).f0, .int .i64 (rd_T47 row y).f1] 47)) N rfl (.tmp 29) (.tmp 32) 29 9 (.string ⟨#[]⟩) 16 rfl Try.underlying29 cinfoT rfl (by decide) (by omega) (.slice LA nl LC) ((row.take y.toNat).map S47.f0) (rd_T47 row y).f0 [.string (rd_T47 row y).f0] (fun _ => True) (fun _ => False) rfl (by first | (go_simp; done) | (go_simp; rfl)) rfl (fun _ hk => hk.elim) (fun _ _ => trivial) hLa (Below.refl _ _) (by omega) (by omega) ?_)
      intro v1 w5 hR5 hb5 hg5 hat5
      have hold : ∀ k, k < N → w5.heap[k]? = wr.heap[k]? := fun k hk => (hb5.block k hk).trans (Below.heap_alloc _ _ _ (by omega))
      have hO5 := Kd.S_step (w1 := w5) hO2 (fun k hk _ => hold k hk)
      have hI5 := Kd.S_step (w1 := w5) hI2 (fun k hk _ => hold k hk)
      have hV5 := Kd.R_step (w1 := w5) hR2 (fun k hk _ => hold k hk)
      have hX5 := hX2.step (w1 := w5) (fun k _ hk => hold k (by rcases hk with rfl | rfl <;> omega))
      have hB5 := (below_alloc hB2 (.cells #[.string (rd_T47 row y).f0, .int .i64 (rd_T47 row y).f1] 47)).trans (hb5.mono (show w.heap.size ≤ N by omega))
      have hN5 : N ≤ w5.heap.size := by have := hb5.size; omega
      clear hO2 hI2 hR2 hX2 hB2 hb5 hg5 hat5 hLa hL hold
      go_wp2_with fail
      have hkk := HK2.out
      obtain ⟨gk2, hgk⟩ : ∃ gk2, row.length - y.toNat + 1 = gk2 + 1 := ⟨_, rfl⟩
      rw [hgk] at hkk
      subst hkk
      go_roundg gk2
      case rel =>
       refine ⟨y + 1, by omega, by omega, by omega, rfl, ?_, hO5, hI5, hV5, hX5, hB5, hN5⟩
       rw [show (y + 1).toNat = y.toNat + 1 by omega, List.take_succ_eq_append_getElem (show y.toNat < row.length by omega), List.map_append]
       have e : (rd_T47 row y).f0 = (row[y.toNat]'(by omega)).f0 := by
        unfold rd_T47
        rw [List.getD_eq_getElem?_getD, List.getElem?_eq_getElem (show y.toNat < row.length by omega)]
        rfl
       rw [e] at hR5
       simp only [List.map_take] at hR5 ⊢
       exact hR5
      case measure => omega
     ·have hye : y = row.length := by omega
      have e2 : decide (y < (row.length : Int)) = false := decide_eq_false (by omega)
      have hlen : ((row.take y.toNat).map S47.f0) = row.map S47.f0 := by rw [List.take_of_length_le (by omega)]
      rw [hlen] at hL
      have hbL := Kd.R_base hL
      have hown : ∀ k, (Value.slice OA outs.length OC).ownBlock = some k → k < N := fun k hk => (Kd.S_R hO2).1 k hk
      have hP : (Kd.slice 9 Kd.string).M wr w.heap.size (fun k => N ≤ k) (row.map S47.f0) [.slice LA nl LC] := ⟨_, rfl, Kd.R_mono (Kd.R_lower (Kd.R_bound hL) (by omega)) (fun k hk => hk.2.1)⟩
      have hO3 : OutS wr w.heap.size (fun k => True ∧ ¬ N ≤ k) (.slice OA outs.length OC) outs := Kd.S_mono hO2 (fun k hk => ⟨trivial, by omega⟩)
      have hnb := Kd.S_ne hO2 hX2.1 (by decide)
      have hnf := Kd.S_ne hO2 hX2.2 (by decide)
      have hw1 : IntKind.i64.wrap (x + 1) = x + 1 := cwrap _ (by omega) (by omega)
      go_wp2_with (at_builtin; refine Kd.S_append (Kd.slice 9 Kd.string) (w0 := wr) w.heap.size rfl (.tmp 35) (.tmp 37) 23 29 (.slice none 0 0) 24 rfl Try.underlying23 cinfoTs rfl (by decide) (by omega) (.slice OA outs.length OC) outs (row.map S47.f0) [.slice LA nl LC] (fun _ => True) (fun k => N ≤ k) rfl (by first | (go_simp; done) | (go_simp; rfl)) hP (fun k hk => ⟨trivial, fun e => by have := hown k e.symm; omega⟩) (fun _ _ => trivial) hO3 (Below.refl _ _) (by omega) (by have := HOL.out; omega) ?_)
      intro v2 w6 hS6 hb6 hg6 hat6
      have hI6 : InS w6 w.heap.size (fun _ => True) _ _ := Kd.S_mono (Kd.S_over' hI2 (Kd.S_typed hO2) (by decide) hg6) (fun _ _ => trivial)
      have hX6 := hX2.step (w1 := w6) (fun k hk h => by
       refine hg6.block k hk ?_
       rcases h with rfl | rfl
       ·exact hnb
       ·exact hnf)
      have hB6 := hB2.trans hb6
      clear hO2 hI2 hR2 hX2 hB2 hb6 hg6 hat6 hO3 hP hL
      go_wp2_with fail
      have hkk := HK.out
      obtain ⟨gk3, hgk⟩ : ∃ gk3, rows.length - x.toNat + 1 = gk3 + 1 := ⟨_, rfl⟩
      rw [hgk] at hkk
      subst hkk
      go_roundg gk3
      case rel =>
       refine ⟨x + 1, by omega, by omega, by omega, rfl, ?_, hI6, hX6, hB6⟩
       rw [show (x + 1).toNat = x.toNat + 1 by omega, List.take_succ_eq_append_getElem (show x.toNat < rows.length by omega), List.map_append, HOV.out]
       have e : rows[x.toNat]'(by omega) = row := by
        rw [← HRW.out, List.getD_eq_getElem?_getD, List.getElem?_eq_getElem (show x.toNat < rows.length by omega)]
        rfl
       simp only [List.map_cons, List.map_nil, e]
       exact hS6
      case measure => omega
   ·have hxe : x = rows.length := by omega
    have e1 : decide (x < (rows.length : Int)) = false := decide_eq_false (by omega)
    have k0 : wr.cell? ⟨w.heap.size, 0, none⟩ = some (.int .i64 0) := by rw [cblk_cell hX.1]; rfl
    have k1 : wr.cell? ⟨w.heap.size, 1, none⟩ = some (.int .i64 0) := by rw [cblk_cell hX.1]; rfl
    have k2 : wr.cell? ⟨w.heap.size, 2, none⟩ = some (.int .i64 0) := by rw [cblk_cell hX.1]; rfl
    have k3 : wr.cell? ⟨w.heap.size, 3, none⟩ = some (.int .i64 0) := by rw [cblk_cell hX.1]; rfl
    have n0 := cblk_free hX.1 0
    have n1 := cblk_free hX.1 1
    have n2 := cblk_free hX.1 2
    have n3 := cblk_free hX.1 3
    have m0 : wr.cell? ⟨bf, 0, none⟩ = some (.int .i64 q1) := by rw [cblk_cell hX.2]; rfl
    have m1 : wr.cell? ⟨bf, 1, none⟩ = some (.int .i64 q2) := by rw [cblk_cell hX.2]; rfl
    have m2 : wr.cell? ⟨bf, 2, none⟩ = some (.int .i64 q3) := by rw [cblk_cell hX.2]; rfl
    have m3 : wr.cell? ⟨bf, 3, none⟩ = some (.int .i64 q4) := by rw [cblk_cell hX.2]; rfl
    have ht : (rows.take x.toNat).map (·.map S47.f0) = rows.map (·.map S47.f0) := by rw [List.take_of_length_le (by omega)]
    rw [ht] at hO hov
    subst hov
    have y0 := cblk_set hX.1 0 (.int .i64 q1)
    have y1 := cblk_set y0 1 (.int .i64 q2)
    have y2 := cblk_set y1 2 (.int .i64 q3)
    have y3 := cblk_set y2 3 (.int .i64 q4)
    have s0 := Kd.S_set hO hX.1 (by decide) 0 (.int .i64 q1)
    have s1 := Kd.S_set s0 y0 (by decide) 1 (.int .i64 q2)
    have s2 := Kd.S_set s1 y1 (by decide) 2 (.int .i64 q3)
    have s3 := Kd.S_set s2 y2 (by decide) 3 (.int .i64 q4)
    have b3 := ((((hB.setCell (p := ⟨w.heap.size, 0, none⟩) (Nat.le_refl _) (.int .i64 q1)).setCell (p := ⟨w.heap.size, 1, none⟩) (Nat.le_refl _) (.int .i64 q2)).setCell (p := ⟨w.heap.size, 2, none⟩) (Nat.le_refl _) (.int .i64 q3)).setCell (p := ⟨w.heap.size, 3, none⟩) (Nat.le_refl _) (.int .i64 q4))
    have HH := H.out
    obtain ⟨z1, z2⟩ := Prod.mk.inj HH
    obtain ⟨z2, z3⟩ := Prod.mk.inj z2
    obtain ⟨z3, z4⟩ := Prod.mk.inj z3
    obtain ⟨z4, z5⟩ := Prod.mk.inj z4
    subst z1
    subst z2
    subst z3
    subst z4
    subst z5
    clear H HH hI ht
    go_wp2_with fail
    go_region_with (first | fail)
    all_goals
     go_wp2_with fail
     refine bodyPost_ret (results_list (rs := [.tmp 2, .cell 3 26]) rfl (by simp) (.tmp (.cell w.heap.size 26 #[.int .i64 q1, .int .i64 q2, .int .i64 q3, .int .i64 q4] (0, 0) _ rfl y3 Try.underlying26 rfl (by kernel_rfl) .nil))) rfl ?_
     refine ⟨_, rfl, ?_, Below.drew b3⟩
     have s4 := Kd.S_drew s3
     simp only [List.length_map] at s4
     exact s4
 ·rw [if_neg hs] at h
  cases h
end Go.Proofs.Ytjmmdphkgioooaa.P
end
