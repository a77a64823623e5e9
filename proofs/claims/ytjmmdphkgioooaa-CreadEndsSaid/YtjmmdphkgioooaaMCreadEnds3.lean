/- The parts of this claim's proof, in one text: what each Go function answers and that its call comes to it; plain facts of lists of numbers. Conditions as each theorem names them. -/
import Derived.ArgAppend
import Derived.Below
import Derived.BigCall
import Derived.BigQuiet
import Derived.Deep.AppendLies
import Derived.Deep.CutBlock
import Derived.Deep.DeepCutAuto
import Derived.Deep.Draws
import Derived.Deep.LoopGhost
import Derived.Deep.OwnRows
import Derived.Deep.QuietTactic
import Derived.Deep.RegionHeld3
import Derived.Deep.RegionWith
import Derived.Defers
import Derived.KernelRfl
import Derived.Laws.BitsLemmas
import Derived.Laws.BytesArg
import Derived.Laws.IdiomCopy
import Derived.Laws.MakeOwn
import Derived.Laws.OwnMore
import Derived.Laws.RangeAny
import Derived.Laws.Rows
import Derived.Laws.Runes
import Derived.Laws.Slices
import Derived.Lib.AppendStr
import Derived.Lib.Bytealg
import Derived.Lib.Bytes
import Derived.Lib.ConvBytes
import Derived.Lib.Hide
import Derived.Maps.AppendAt
import Derived.OrdersHeld
import Derived.Outline
import Derived.OwnWalk
import Derived.Recover
import Derived.RowKit
import Derived.RowKit3
import Derived.Shelf.LaysM
import Derived.Shelf.Small.Strs
import Derived.Shelf.Small.Utf8
import Derived.Shelf.Strings.AsciiSet
import Derived.Shelf.Strings.Builder1
import Derived.Shelf.Strings.BuilderF
import Derived.Shelf.Strings.BuilderK
import Derived.Shelf.Strings.Count
import Derived.Shelf.Strings.IndexAny
import Derived.Shelf.Strings.IndexAnyAll
import Derived.Shelf.Strings.Prefix
import Derived.Shelf.Strings.Runes
import Derived.Shelf.Strings.Search1
import Derived.Shelf.Strings.Search2
import Derived.Shelf.Strings.Search3
import Derived.Shelf.Strings.Shaped
import Derived.Shelf.Strings.Split
import Derived.Tactics
import Derived.Tactics2
import Derived.WalkKit
import Derived.WalkSmall
import Derived.WideLaws
import Derived.Test.YtjmmdphkgioooaaProg
import Derived.Test.YtjmmdphkgioooaaWApart
import Derived.Test.YtjmmdphkgioooaaWArr
import Derived.Test.YtjmmdphkgioooaaWAt
import Derived.Test.YtjmmdphkgioooaaWEqStruct
import Derived.Test.YtjmmdphkgioooaaWFoot
import Derived.Test.YtjmmdphkgioooaaWFootNe
import Derived.Test.YtjmmdphkgioooaaWFour
import Derived.Test.YtjmmdphkgioooaaWGuard
import Derived.Test.YtjmmdphkgioooaaWInv
import Derived.Test.YtjmmdphkgioooaaWInvWords
import Derived.Test.YtjmmdphkgioooaaWKept
import Derived.Test.YtjmmdphkgioooaaWLast
import Derived.Test.YtjmmdphkgioooaaWMake0
import Derived.Test.YtjmmdphkgioooaaWMore
import Derived.Test.YtjmmdphkgioooaaWN
import Derived.Test.YtjmmdphkgioooaaWNEv
import Derived.Test.YtjmmdphkgioooaaWQPut
import Derived.Test.YtjmmdphkgioooaaWRepsOne
import Derived.Test.YtjmmdphkgioooaaWShare
import Derived.Test.YtjmmdphkgioooaaWTab
import Derived.Test.YtjmmdphkgioooaaWWords
import Derived.Test.YtjmmdphkgioooaaWZeros
import Derived.Test.YtjmmdphkgioooaaMCreadEnds1
import Derived.Test.YtjmmdphkgioooaaMCreadEnds2
section
namespace Go.Proofs.Ytjmmdphkgioooaa.P
open Go.RowKit Go.Proofs.YtjmmdphkgioooaaW.PrintWords Go.Proofs.YtjmmdphkgioooaaW.PrintLast Go.Proofs.YtjmmdphkgioooaaW.PrintMore
attribute [local go_sem] max2_int min2_int max_two min_two max_three min_three max_four min_four   -- for this text's walks alone
attribute [-simp] ByteArray.size_extract
set_option linter.unusedVariables false
set_option linter.unusedSimpArgs false
/-! ### dragomanlaw13_CreadEnds: function 6 -/
mutual
def dragomanlaw13_CreadEnds.j0 : Nat → List ByteArray → Bool → Option (Bool)
 | 0, _, _ => none
 | k + 1, x0, x22 => if x22 = true then (some true) else (dragomanlaw13_CreadEnds.l0 k x0 (⟨#[]⟩ : ByteArray) (⟨#[]⟩ : ByteArray) 0)
def dragomanlaw13_CreadEnds.l0 : Nat → List ByteArray → ByteArray → ByteArray → Int → Option (Bool)
 | 0, _, _, _, _ => none
 | k + 1, x0, x3, x4, x5 => if x5 < (x0.length : Int) then (if 0 ≤ x5 then (if ((rdOf ByteArray.empty x0 x5).size : Int) > 50 then (dragomanlaw13_CreadEnds.j2 k x0 x3 x4 x5 true) else (if (rdOf ByteArray.empty x0 x5).toList = ([] : List UInt8) then (dragomanlaw13_CreadEnds.j2 k x0 x3 x4 x5 (x5 == (wrap64 ((x0.length : Int) - 1)))) else (dragomanlaw13_CreadEnds.j2 k x0 x3 x4 x5 false))) else (none)) else ((cread_Rows.f x3).bind fun bt373 => ((cread_Rows.f x4).bind fun bt381 => (if 0 ≤ (wrap64 ((x3.size : Int) - 1)) then (if (wrap64 ((x3.size : Int) - 1)) ≤ (x3.size : Int) then ((cread_Rows.f (x3.extract 0 ((wrap64 ((x3.size : Int) - 1)) : Int).toNat)).bind fun bt389 => (if bt373.2.1 = bt381.2.1 then (if bt373.2.1 = bt389.2.1 then ((dragomanref17_Rows.f k bt373.1 bt381.1).bind fun t397 => (if t397 = true then ((dragomanref17_Rows.f k bt373.1 bt389.1).bind fun t398 => (some t398)) else (some false))) else (some false)) else (some false))) else (none)) else (none))))
def dragomanlaw13_CreadEnds.j2 : Nat → List ByteArray → ByteArray → ByteArray → Int → Bool → Option (Bool)
 | 0, _, _, _, _, _ => none
 | k + 1, x0, x3, x4, x5, x48 => if x48 = true then (some true) else (dragomanlaw13_CreadEnds.l1 k x0 x3 x4 x5 0)
def dragomanlaw13_CreadEnds.l1 : Nat → List ByteArray → ByteArray → ByteArray → Int → Int → Option (Bool)
 | 0, _, _, _, _, _ => none
 | k + 1, x0, x3, x4, x5, x6 => if 0 ≤ x5 then (if x5 < (x0.length : Int) then (if x6 < ((rdOf ByteArray.empty x0 x5).size : Int) then (if 0 ≤ x6 then (if (bt (rdOf ByteArray.empty x0 x5) x6) = 10 then (some true) else (if (bt (rdOf ByteArray.empty x0 x5) x6) = 13 then (some true) else (if (bt (rdOf ByteArray.empty x0 x5) x6) = 34 then (some true) else (dragomanlaw13_CreadEnds.l1 k x0 x3 x4 x5 (wrap64 (x6 + 1)))))) else (none)) else (if x3.size + (rdOf ByteArray.empty x0 x5).size ≤ 9223372036854775807 then (if (x3 ++ (rdOf ByteArray.empty x0 x5)).size + 1 ≤ 9223372036854775807 then (if x4.size + (rdOf ByteArray.empty x0 x5).size ≤ 9223372036854775807 then (if (x4 ++ (rdOf ByteArray.empty x0 x5)).size + 2 ≤ 9223372036854775807 then (dragomanlaw13_CreadEnds.l0 k x0 ((x3 ++ (rdOf ByteArray.empty x0 x5)) ++ (⟨#[10]⟩ : ByteArray)) ((x4 ++ (rdOf ByteArray.empty x0 x5)) ++ (⟨#[13, 10]⟩ : ByteArray)) (wrap64 (x5 + 1))) else (none)) else (none)) else (none)) else (none))) else (none)) else (none)
end
def dragomanlaw13_CreadEnds.f (k : Nat) (l0 : List ByteArray) : Option (Bool) := (dragomanlaw13_awake.f k).bind fun t364 => (if t364 = true then (if (l0.length : Int) < 1 then (dragomanlaw13_CreadEnds.j0 k l0 true) else (dragomanlaw13_CreadEnds.j0 k l0 (decide ((l0.length : Int) > 20)))) else (some false))
set_option maxHeartbeats 8000000 in
set_option maxRecDepth 100000 in
theorem dragomanlaw13_CreadEnds.calls (k : Nat) (A0 : Option Addr) (c0 : Nat) (l0 : List ByteArray) (r : Bool) (w : World) (hr0 : Kd.C Kd.string w A0 l0.length l0) (hc0 : l0.length ≤ c0) (h : dragomanlaw13_CreadEnds.f k l0 = some r) :
  Calls Try.prog 6 #[.slice A0 l0.length c0] w fun e w' => e = .returned (.bool r) ∧ Below w.heap.size w w' := by
 have hu26 := Try.underlying26
 have HR0 := Aside0.mk hr0
 have HC0 := Aside0.mk hc0
 clear hr0 hc0
 have HB := Aside0.mk (Below.refl w.heap.size w)
 have H : ((dragomanlaw13_awake.f k).bind fun t364 => (if t364 = true then (if (l0.length : Int) < 1 then (dragomanlaw13_CreadEnds.j0 k l0 true) else (dragomanlaw13_CreadEnds.j0 k l0 (decide ((l0.length : Int) > 20)))) else (some false))) = some r := h
 clear h
 replace H := Option.bind_eq_some_iff.mp H
 obtain ⟨t364, A20, H⟩ := H
 replace H : (if t364 = true then (if (l0.length : Int) < 1 then (dragomanlaw13_CreadEnds.j0 k l0 true) else (dragomanlaw13_CreadEnds.j0 k l0 (decide ((l0.length : Int) > 20)))) else (some false)) = some r := H
 have A2 := Aside0.mk A20
 clear A20
 by_cases c3 : t364 = true
 ·subst c3
  have H1 : (if (l0.length : Int) < 1 then (dragomanlaw13_CreadEnds.j0 k l0 true) else (dragomanlaw13_CreadEnds.j0 k l0 (decide ((l0.length : Int) > 20)))) = some r := by rw [if_pos rfl] at H; exact H
  clear H
  have H := H1
  clear H1
  have HC4 := Aside0.mk H
  clear H
  go_enter Try.func6, Try.ntmps6
  go_upto_region 3 with (first | ((with_reducible refine gate_callee (f := 8) rfl ?_); refine goesL_ (some 13) rfl rfl Try.func8 (by kernel_rfl) rfl #[] rfl (by (try simp only [List.map_toArray, List.map_cons, List.map_nil]); first | done | rfl | (simp only [List.length_drop, List.length_take]; rfl)) ?_; (with_reducible refine (dragomanlaw13_awake.calls k  true _ A2.out).mono ?_); rintro e w5 ⟨rfl, hb⟩; refine ⟨_, rfl, ?_⟩; have n0_ := Aside0.mk (below_step (by repeat (first | (with_reducible first | exact HB.out | apply below_alloc | apply pw_below_drewN | apply below_drew1) | exact HB.out)) hb); clear HB; have HB := n0_; clear n0_; (try clear hb); (try clear hb2); (try clear hk); (try clear hi)))
  (try simp only [Act.put, List.setIfInBounds_toArray, List.set_cons_zero, List.set_cons_succ])
  go_cut [22] (fun v22 wc => ∃ (kq : Nat) (x22_3 : Bool), v22 = .bool x22_3 ∧ Aside0 (dragomanlaw13_CreadEnds.j0 kq l0 x22_3 = some r) ∧ Aside0 (kq ≤ k) ∧ Aside0 (Below w.heap.size w wc))
  case first =>
   have H := HC4.out
   clear HC4
   by_cases c6 : (l0.length : Int) < 1
   ·rw [if_pos c6] at H
    have c6b0 : decide ((l0.length : Int) < 1) = true := decide_eq_true c6
    have c6b1 : decide (l0.length < 1) = true := decide_eq_true (by omega)
    clear c6
    (first | rw [c6b0] | (simp only [i64_w, i32_w]; rw [c6b0]) | skip)
    have H' := Aside0.mk H
    clear H
    go_wp2
    go_meet
    case rel => exact ⟨_, (true), (by first | rfl | (simp; done) | (simp [*]; done)), H', ⟨by first | omega | exact Nat.le_refl _⟩, ⟨by repeat (first | (with_reducible first | exact HB.out | apply below_alloc | apply pw_below_drewN | apply below_drew1) | exact HB.out)⟩⟩
   ·rw [if_neg c6] at H
    have c6b0 : decide ((l0.length : Int) < 1) = false := decide_eq_false c6
    have c6b1 : decide (l0.length < 1) = false := decide_eq_false (by omega)
    clear c6
    (first | rw [c6b0] | (simp only [i64_w, i32_w]; rw [c6b0]) | skip)
    have H' := Aside0.mk H
    clear H
    go_wp2
    go_meet
    case rel => exact ⟨_, (decide ((l0.length : Int) > 20)), (by first | rfl | (simp; done) | (simp [*]; done)), H', ⟨by first | omega | exact Nat.le_refl _⟩, ⟨by repeat (first | (with_reducible first | exact HB.out | apply below_alloc | apply pw_below_drewN | apply below_drew1) | exact HB.out)⟩⟩
  case rest =>
   clear HC4
   try clear p2
   try clear c3
   try clear c6
   try clear c6b0
   try clear c6b1
   obtain ⟨kq, x22_3, rfl, HA, HJ3, HB⟩ := hcut
   cases kq with
   | zero => exact absurd HA.out (by simp [dragomanlaw13_CreadEnds.j0])
   | succ kj3 =>
    have H := HA.out
    clear HA
    simp only [dragomanlaw13_CreadEnds.j0] at H
    by_cases c7 : x22_3 = true
    ·subst c7
     have H1 : (some true) = some r := by rw [if_pos rfl] at H; exact H
     clear H
     have H := H1
     clear H1
     obtain rfl := Option.some.inj H
     go_wp2
     go_ret
     exact ⟨by first | rfl | (simp [errW_none, errW_some] <;> rfl) | (simp [*, errW_none, errW_some, bne]; done) | (simp [*, errW_none, errW_some] <;> rfl), by repeat (first | (with_reducible first | exact HB.out | apply below_alloc | apply pw_below_drewN | apply below_drew1) | exact HB.out)⟩
    ·replace c7 := Bool.eq_false_iff.mpr c7
     subst c7
     have H1 : (dragomanlaw13_CreadEnds.l0 kj3 l0 (⟨#[]⟩ : ByteArray) (⟨#[]⟩ : ByteArray) 0) = some r := by rw [if_neg (show ¬ (false = true) by decide)] at H; exact H
     clear H
     have H := H1
     clear H1
     have H' := Aside0.mk H
     clear H
     go_wp2
     go_loopg [3, 4, 5] kj3 (fun kq v3 v4 v5 w' => ∃ (x3_2 : ByteArray) (x4_2 : ByteArray) (x5_2 : Int), v3 = .string x3_2 ∧ v4 = .string x4_2 ∧ v5 = .int .i64 x5_2 ∧ Aside0 (dragomanlaw13_CreadEnds.l0 kq l0 x3_2 x4_2 x5_2 = some r) ∧ Aside0 (kq ≤ kj3) ∧ Aside0 (Below w.heap.size w w'))
     case atStart => exact ⟨((⟨#[]⟩ : ByteArray)), ((⟨#[]⟩ : ByteArray)), (0), (by first | rfl | (simp; done) | (simp [*]; done)), (by first | rfl | (simp; done) | (simp [*]; done)), (by first | rfl | (simp; done) | (simp [*]; done)), H', ⟨Nat.le_refl _⟩, ⟨by repeat (first | (with_reducible first | exact HB.out | apply below_alloc | apply pw_below_drewN | apply below_drew1) | exact HB.out)⟩⟩
     case round =>
      clear H'
      try clear p2
      try clear c3
      try clear c6
      try clear c6b0
      try clear c6b1
      try clear c7
      try clear p2
      obtain ⟨x3_2, x4_2, x5_2, rfl, rfl, rfl, HA, HK2, HB⟩ := hrel
      cases gk with
      | zero => exact absurd HA.out (by simp [dragomanlaw13_CreadEnds.l0])
      | succ k2 =>
       have H := HA.out
       clear HA
       simp only [dragomanlaw13_CreadEnds.l0] at H
       by_cases c8 : x5_2 < (l0.length : Int)
       ·rw [if_pos c8] at H
        have c8b0 : decide (x5_2 < (l0.length : Int)) = true := decide_eq_true c8
        clear c8
        have HC9 := Aside0.mk H
        clear H
        go_upto_region 9 with (fail)
        go_cut [48] (fun v48 wc => ∃ (kq : Nat) (x48_8 : Bool), v48 = .bool x48_8 ∧ Aside0 (dragomanlaw13_CreadEnds.j2 kq l0 x3_2 x4_2 x5_2 x48_8 = some r) ∧ Aside0 (kq ≤ k2) ∧ Aside0 (Below w.heap.size w wc))
        case first =>
         have H := HC9.out
         clear HC9
         by_cases c10 : 0 ≤ x5_2
         ·rw [if_pos c10] at H
          have c10b0 : decide (0 ≤ x5_2) = true := decide_eq_true c10
          clear c10
          (first | rw [c10b0] | (simp only [i64_w, i32_w]; rw [c10b0]) | skip)
          by_cases c11 : ((rdOf ByteArray.empty l0 x5_2).size : Int) > 50
          ·rw [if_pos c11] at H
           have c11b0 : decide (50 < ((rdOf ByteArray.empty l0 x5_2).size : Int)) = true := decide_eq_true c11
           have c11b1 : decide (50 < (rdOf ByteArray.empty l0 x5_2).size) = true := decide_eq_true (by omega)
           clear c11
           have H' := Aside0.mk H
           clear H
           have p365 : 0 ≤ (x5_2 : Int) := of_decide_eq_true (by first | (with_reducible assumption) | assumption)
           have q365 : x5_2 < (l0.length : Int) := of_decide_eq_true (by first | (with_reducible assumption) | assumption)
           obtain ⟨ad365, e365, hx365_0⟩ := Kd.at_string HR0.out x5_2 p365 q365
           cases e365
           replace hx365_0 := (HB.out.cell (World.block_lt_of_cell? w _ hx365_0)).trans hx365_0
           replace p365 := eq_true p365
           replace q365 := eq_true q365
           go_wp2
           go_meet
           case rel => exact ⟨_, (true), (by first | rfl | (simp; done) | (simp [*]; done)), H', ⟨by have := HJ3.out; have := HK2.out; first | omega | exact Nat.le_refl _⟩, ⟨by repeat (first | (with_reducible first | exact HB.out | apply below_alloc | apply pw_below_drewN | apply below_drew1) | exact HB.out)⟩⟩
          ·rw [if_neg c11] at H
           have c11b0 : decide (50 < ((rdOf ByteArray.empty l0 x5_2).size : Int)) = false := decide_eq_false c11
           have c11b1 : decide (50 < (rdOf ByteArray.empty l0 x5_2).size) = false := decide_eq_false (by omega)
           clear c11
           by_cases c12 : (rdOf ByteArray.empty l0 x5_2).toList = ([] : List UInt8)
           ·rw [if_pos c12] at H
            have c12b0 : ((rdOf ByteArray.empty l0 x5_2).toList == ([] : List UInt8)) = true := beq_iff_eq.mpr c12
            have c12b1 : ((rdOf ByteArray.empty l0 x5_2).toList != ([] : List UInt8)) = false := bne_eq_false_iff_eq.mpr c12
            have c12b2 : (rdOf ByteArray.empty l0 x5_2).toList.isEmpty = true := List.isEmpty_iff.mpr c12
            (try simp only [c12b2, Bool.not_true, Bool.not_false])
            clear c12
            have H' := Aside0.mk H
            clear H
            have p365 : 0 ≤ (x5_2 : Int) := of_decide_eq_true (by first | (with_reducible assumption) | assumption)
            have q365 : x5_2 < (l0.length : Int) := of_decide_eq_true (by first | (with_reducible assumption) | assumption)
            obtain ⟨ad365, e365, hx365_0⟩ := Kd.at_string HR0.out x5_2 p365 q365
            cases e365
            replace hx365_0 := (HB.out.cell (World.block_lt_of_cell? w _ hx365_0)).trans hx365_0
            replace p365 := eq_true p365
            replace q365 := eq_true q365
            have p366 : 0 ≤ (x5_2 : Int) := of_decide_eq_true (by first | (with_reducible assumption) | assumption)
            have q366 : x5_2 < (l0.length : Int) := of_decide_eq_true (by first | (with_reducible assumption) | assumption)
            obtain ⟨ad366, e366, hx366_0⟩ := Kd.at_string HR0.out x5_2 p366 q366
            obtain rfl : ad365 = ad366 := (by injection e366)
            replace hx366_0 := (HB.out.cell (World.block_lt_of_cell? w _ hx366_0)).trans hx366_0
            replace p366 := eq_true p366
            replace q366 := eq_true q366
            go_wp2
            go_meet
            case rel => exact ⟨_, ((x5_2 == (wrap64 ((l0.length : Int) - 1)))), (by first | rfl | (simp; done) | (simp [*]; done)), H', ⟨by have := HJ3.out; have := HK2.out; first | omega | exact Nat.le_refl _⟩, ⟨by repeat (first | (with_reducible first | exact HB.out | apply below_alloc | apply pw_below_drewN | apply below_drew1) | exact HB.out)⟩⟩
           ·rw [if_neg c12] at H
            have c12b0 : ((rdOf ByteArray.empty l0 x5_2).toList == ([] : List UInt8)) = false := beq_eq_false_iff_ne.mpr c12
            have c12b1 : ((rdOf ByteArray.empty l0 x5_2).toList != ([] : List UInt8)) = true := bne_iff_ne.mpr c12
            have c12b2 : (rdOf ByteArray.empty l0 x5_2).toList.isEmpty = false := List.isEmpty_eq_false_iff.mpr c12
            (try simp only [c12b2, Bool.not_true, Bool.not_false])
            have H' := Aside0.mk H
            clear H
            have p365 : 0 ≤ (x5_2 : Int) := of_decide_eq_true (by first | (with_reducible assumption) | assumption)
            have q365 : x5_2 < (l0.length : Int) := of_decide_eq_true (by first | (with_reducible assumption) | assumption)
            obtain ⟨ad365, e365, hx365_0⟩ := Kd.at_string HR0.out x5_2 p365 q365
            cases e365
            replace hx365_0 := (HB.out.cell (World.block_lt_of_cell? w _ hx365_0)).trans hx365_0
            replace p365 := eq_true p365
            replace q365 := eq_true q365
            have p366 : 0 ≤ (x5_2 : Int) := of_decide_eq_true (by first | (with_reducible assumption) | assumption)
            have q366 : x5_2 < (l0.length : Int) := of_decide_eq_true (by first | (with_reducible assumption) | assumption)
            obtain ⟨ad366, e366, hx366_0⟩ := Kd.at_string HR0.out x5_2 p366 q366
            obtain rfl : ad365 = ad366 := (by injection e366)
            replace hx366_0 := (HB.out.cell (World.block_lt_of_cell? w _ hx366_0)).trans hx366_0
            replace p366 := eq_true p366
            replace q366 := eq_true q366
            go_wp2
            go_meet
            case rel => exact ⟨_, (false), (by first | rfl | (simp; done) | (simp [*]; done)), H', ⟨by have := HJ3.out; have := HK2.out; first | omega | exact Nat.le_refl _⟩, ⟨by repeat (first | (with_reducible first | exact HB.out | apply below_alloc | apply pw_below_drewN | apply below_drew1) | exact HB.out)⟩⟩
         ·rw [if_neg c10] at H
          exact absurd H (by simp)
        case rest =>
         clear HC9
         try clear c1
         try clear p2
         try clear c3
         try clear p3
         try clear q3
         try clear hx3
         try clear c6
         try clear c6b0
         try clear c6b1
         try clear p6
         try clear c7
         try clear c8
         try clear c8b0
         try clear c10
         try clear c10b0
         try clear c11
         try clear c11b0
         try clear c11b1
         try clear c12
         try clear c12b0
         try clear c12b1
         try clear hx365_0
         try clear hx366_0
         try clear p2
         try clear p365
         try clear p366
         try clear q365
         try clear q366
         obtain ⟨kq, x48_8, rfl, HA, HJ8, HB⟩ := hcut
         cases kq with
         | zero => exact absurd HA.out (by simp [dragomanlaw13_CreadEnds.j2])
         | succ kj8 =>
          have H := HA.out
          clear HA
          simp only [dragomanlaw13_CreadEnds.j2] at H
          by_cases c13 : x48_8 = true
          ·subst c13
           have H1 : (some true) = some r := by rw [if_pos rfl] at H; exact H
           clear H
           have H := H1
           clear H1
           obtain rfl := Option.some.inj H
           go_wp2
           go_ret
           exact ⟨by first | rfl | (simp [errW_none, errW_some] <;> rfl) | (simp [*, errW_none, errW_some, bne]; done) | (simp [*, errW_none, errW_some] <;> rfl), by repeat (first | (with_reducible first | exact HB.out | apply below_alloc | apply pw_below_drewN | apply below_drew1) | exact HB.out)⟩
          ·replace c13 := Bool.eq_false_iff.mpr c13
           subst c13
           have H1 : (dragomanlaw13_CreadEnds.l1 kj8 l0 x3_2 x4_2 x5_2 0) = some r := by rw [if_neg (show ¬ (false = true) by decide)] at H; exact H
           clear H
           have H := H1
           clear H1
           have H' := Aside0.mk H
           clear H
           go_wp2
           go_loopg [6] kj8 (fun kq v6 w' => ∃ (x6_4 : Int), v6 = .int .i64 x6_4 ∧ Aside0 (dragomanlaw13_CreadEnds.l1 kq l0 x3_2 x4_2 x5_2 x6_4 = some r) ∧ Aside0 (kq ≤ kj8) ∧ Aside0 (Below w.heap.size w w'))
           case atStart => exact ⟨(0), (by first | rfl | (simp; done) | (simp [*]; done)), H', ⟨Nat.le_refl _⟩, ⟨by repeat (first | (with_reducible first | exact HB.out | apply below_alloc | apply pw_below_drewN | apply below_drew1) | exact HB.out)⟩⟩
           case round =>
            clear H'
            try clear c1
            try clear p2
            try clear c3
            try clear p3
            try clear q3
            try clear hx3
            try clear c6
            try clear c6b0
            try clear c6b1
            try clear p6
            try clear c7
            try clear c8
            try clear c8b0
            try clear c10
            try clear c10b0
            try clear c11
            try clear c11b0
            try clear c11b1
            try clear c12
            try clear c12b0
            try clear c12b1
            try clear c13
            try clear hx365_0
            try clear hx366_0
            try clear p2
            try clear p3
            try clear p365
            try clear p366
            try clear p6
            try clear q3
            try clear q365
            try clear q366
            obtain ⟨x6_4, rfl, HA, HK4, HB⟩ := hrel
            cases gk with
            | zero => exact absurd HA.out (by simp [dragomanlaw13_CreadEnds.l1])
            | succ k4 =>
             have H := HA.out
             clear HA
             simp only [dragomanlaw13_CreadEnds.l1] at H
             by_cases c14 : 0 ≤ x5_2
             ·rw [if_pos c14] at H
              have c14b0 : decide (0 ≤ x5_2) = true := decide_eq_true c14
              clear c14
              by_cases c15 : x5_2 < (l0.length : Int)
              ·rw [if_pos c15] at H
               have c15b0 : decide (x5_2 < (l0.length : Int)) = true := decide_eq_true c15
               clear c15
               by_cases c16 : x6_4 < ((rdOf ByteArray.empty l0 x5_2).size : Int)
               ·rw [if_pos c16] at H
                have c16b0 : decide (x6_4 < ((rdOf ByteArray.empty l0 x5_2).size : Int)) = true := decide_eq_true c16
                clear c16
                by_cases c17 : 0 ≤ x6_4
                ·rw [if_pos c17] at H
                 have c17b0 : decide (0 ≤ x6_4) = true := decide_eq_true c17
                 clear c17
                 by_cases c19 : (bt (rdOf ByteArray.empty l0 x5_2) x6_4) = 10
                 ·rw [if_pos c19] at H
                  have c19b0 : ((bt (rdOf ByteArray.empty l0 x5_2) x6_4) == 10) = true := beq_iff_eq.mpr c19
                  have c19b1 : ((bt (rdOf ByteArray.empty l0 x5_2) x6_4) != 10) = false := bne_eq_false_iff_eq.mpr c19
                  clear c19
                  obtain rfl := Option.some.inj H
                  have p367 : 0 ≤ (x5_2 : Int) := of_decide_eq_true (by first | (with_reducible assumption) | assumption)
                  have q367 : x5_2 < (l0.length : Int) := of_decide_eq_true (by first | (with_reducible assumption) | assumption)
                  obtain ⟨ad367, e367, hx367_0⟩ := Kd.at_string HR0.out x5_2 p367 q367
                  cases e367
                  replace hx367_0 := (HB.out.cell (World.block_lt_of_cell? w _ hx367_0)).trans hx367_0
                  replace p367 := eq_true p367
                  replace q367 := eq_true q367
                  have p368 : 0 ≤ (x5_2 : Int) := of_decide_eq_true (by first | (with_reducible assumption) | assumption)
                  have q368 : x5_2 < (l0.length : Int) := of_decide_eq_true (by first | (with_reducible assumption) | assumption)
                  obtain ⟨ad368, e368, hx368_0⟩ := Kd.at_string HR0.out x5_2 p368 q368
                  obtain rfl : ad367 = ad368 := (by injection e368)
                  replace hx368_0 := (HB.out.cell (World.block_lt_of_cell? w _ hx368_0)).trans hx368_0
                  replace p368 := eq_true p368
                  replace q368 := eq_true q368
                  have p18 : 0 ≤ (x6_4 : Int) := of_decide_eq_true (by first | (with_reducible assumption) | assumption)
                  have q18 : x6_4 < ((rdOf ByteArray.empty l0 x5_2).size : Int) := of_decide_eq_true (by first | (with_reducible assumption) | assumption)
                  have hx18 := bt_at (rdOf ByteArray.empty l0 x5_2) x6_4
                  replace p18 := eq_true p18
                  replace q18 := eq_true q18
                  go_wp2
                  go_ret
                  exact ⟨by first | rfl | (simp [errW_none, errW_some] <;> rfl) | (simp [*, errW_none, errW_some, bne]; done) | (simp [*, errW_none, errW_some] <;> rfl), by repeat (first | (with_reducible first | exact HB.out | apply below_alloc | apply pw_below_drewN | apply below_drew1) | exact HB.out)⟩
                 ·rw [if_neg c19] at H
                  have c19b0 : ((bt (rdOf ByteArray.empty l0 x5_2) x6_4) == 10) = false := beq_eq_false_iff_ne.mpr c19
                  have c19b1 : ((bt (rdOf ByteArray.empty l0 x5_2) x6_4) != 10) = true := bne_iff_ne.mpr c19
                  by_cases c21 : (bt (rdOf ByteArray.empty l0 x5_2) x6_4) = 13
                  ·rw [if_pos c21] at H
                   have c21b0 : ((bt (rdOf ByteArray.empty l0 x5_2) x6_4) == 13) = true := beq_iff_eq.mpr c21
                   have c21b1 : ((bt (rdOf ByteArray.empty l0 x5_2) x6_4) != 13) = false := bne_eq_false_iff_eq.mpr c21
                   clear c21
                   obtain rfl := Option.some.inj H
                   have p367 : 0 ≤ (x5_2 : Int) := of_decide_eq_true (by first | (with_reducible assumption) | assumption)
                   have q367 : x5_2 < (l0.length : Int) := of_decide_eq_true (by first | (with_reducible assumption) | assumption)
                   obtain ⟨ad367, e367, hx367_0⟩ := Kd.at_string HR0.out x5_2 p367 q367
                   cases e367
                   replace hx367_0 := (HB.out.cell (World.block_lt_of_cell? w _ hx367_0)).trans hx367_0
                   replace p367 := eq_true p367
                   replace q367 := eq_true q367
                   have p368 : 0 ≤ (x5_2 : Int) := of_decide_eq_true (by first | (with_reducible assumption) | assumption)
                   have q368 : x5_2 < (l0.length : Int) := of_decide_eq_true (by first | (with_reducible assumption) | assumption)
                   obtain ⟨ad368, e368, hx368_0⟩ := Kd.at_string HR0.out x5_2 p368 q368
                   obtain rfl : ad367 = ad368 := (by injection e368)
                   replace hx368_0 := (HB.out.cell (World.block_lt_of_cell? w _ hx368_0)).trans hx368_0
                   replace p368 := eq_true p368
                   replace q368 := eq_true q368
                   have p18 : 0 ≤ (x6_4 : Int) := of_decide_eq_true (by first | (with_reducible assumption) | assumption)
                   have q18 : x6_4 < ((rdOf ByteArray.empty l0 x5_2).size : Int) := of_decide_eq_true (by first | (with_reducible assumption) | assumption)
                   have hx18 := bt_at (rdOf ByteArray.empty l0 x5_2) x6_4
                   replace p18 := eq_true p18
                   replace q18 := eq_true q18
                   have p369 : 0 ≤ (x5_2 : Int) := of_decide_eq_true (by first | (with_reducible assumption) | assumption)
                   have q369 : x5_2 < (l0.length : Int) := of_decide_eq_true (by first | (with_reducible assumption) | assumption)
                   obtain ⟨ad369, e369, hx369_0⟩ := Kd.at_string HR0.out x5_2 p369 q369
                   obtain rfl : ad367 = ad369 := (by injection e369)
                   replace hx369_0 := (HB.out.cell (World.block_lt_of_cell? w _ hx369_0)).trans hx369_0
                   replace p369 := eq_true p369
                   replace q369 := eq_true q369
                   have p20 : 0 ≤ (x6_4 : Int) := of_decide_eq_true (by first | (with_reducible assumption) | assumption)
                   have q20 : x6_4 < ((rdOf ByteArray.empty l0 x5_2).size : Int) := of_decide_eq_true (by first | (with_reducible assumption) | assumption)
                   have hx20 := bt_at (rdOf ByteArray.empty l0 x5_2) x6_4
                   replace p20 := eq_true p20
                   replace q20 := eq_true q20
                   go_wp2
                   go_ret
                   exact ⟨by first | rfl | (simp [errW_none, errW_some] <;> rfl) | (simp [*, errW_none, errW_some, bne]; done) | (simp [*, errW_none, errW_some] <;> rfl), by repeat (first | (with_reducible first | exact HB.out | apply below_alloc | apply pw_below_drewN | apply below_drew1) | exact HB.out)⟩
                  ·rw [if_neg c21] at H
                   have c21b0 : ((bt (rdOf ByteArray.empty l0 x5_2) x6_4) == 13) = false := beq_eq_false_iff_ne.mpr c21
                   have c21b1 : ((bt (rdOf ByteArray.empty l0 x5_2) x6_4) != 13) = true := bne_iff_ne.mpr c21
                   by_cases c23 : (bt (rdOf ByteArray.empty l0 x5_2) x6_4) = 34
                   ·rw [if_pos c23] at H
                    have c23b0 : ((bt (rdOf ByteArray.empty l0 x5_2) x6_4) == 34) = true := beq_iff_eq.mpr c23
                    have c23b1 : ((bt (rdOf ByteArray.empty l0 x5_2) x6_4) != 34) = false := bne_eq_false_iff_eq.mpr c23
                    clear c23
                    obtain rfl := Option.some.inj H
                    have p367 : 0 ≤ (x5_2 : Int) := of_decide_eq_true (by first | (with_reducible assumption) | assumption)
                    have q367 : x5_2 < (l0.length : Int) := of_decide_eq_true (by first | (with_reducible assumption) | assumption)
                    obtain ⟨ad367, e367, hx367_0⟩ := Kd.at_string HR0.out x5_2 p367 q367
                    cases e367
                    replace hx367_0 := (HB.out.cell (World.block_lt_of_cell? w _ hx367_0)).trans hx367_0
                    replace p367 := eq_true p367
                    replace q367 := eq_true q367
                    have p368 : 0 ≤ (x5_2 : Int) := of_decide_eq_true (by first | (with_reducible assumption) | assumption)
                    have q368 : x5_2 < (l0.length : Int) := of_decide_eq_true (by first | (with_reducible assumption) | assumption)
                    obtain ⟨ad368, e368, hx368_0⟩ := Kd.at_string HR0.out x5_2 p368 q368
                    obtain rfl : ad367 = ad368 := (by injection e368)
                    replace hx368_0 := (HB.out.cell (World.block_lt_of_cell? w _ hx368_0)).trans hx368_0
                    replace p368 := eq_true p368
                    replace q368 := eq_true q368
                    have p18 : 0 ≤ (x6_4 : Int) := of_decide_eq_true (by first | (with_reducible assumption) | assumption)
                    have q18 : x6_4 < ((rdOf ByteArray.empty l0 x5_2).size : Int) := of_decide_eq_true (by first | (with_reducible assumption) | assumption)
                    have hx18 := bt_at (rdOf ByteArray.empty l0 x5_2) x6_4
                    replace p18 := eq_true p18
                    replace q18 := eq_true q18
                    have p369 : 0 ≤ (x5_2 : Int) := of_decide_eq_true (by first | (with_reducible assumption) | assumption)
                    have q369 : x5_2 < (l0.length : Int) := of_decide_eq_true (by first | (with_reducible assumption) | assumption)
                    obtain ⟨ad369, e369, hx369_0⟩ := Kd.at_string HR0.out x5_2 p369 q369
                    obtain rfl : ad367 = ad369 := (by injection e369)
                    replace hx369_0 := (HB.out.cell (World.block_lt_of_cell? w _ hx369_0)).trans hx369_0
                    replace p369 := eq_true p369
                    replace q369 := eq_true q369
                    have p20 : 0 ≤ (x6_4 : Int) := of_decide_eq_true (by first | (with_reducible assumption) | assumption)
                    have q20 : x6_4 < ((rdOf ByteArray.empty l0 x5_2).size : Int) := of_decide_eq_true (by first | (with_reducible assumption) | assumption)
                    have hx20 := bt_at (rdOf ByteArray.empty l0 x5_2) x6_4
                    replace p20 := eq_true p20
                    replace q20 := eq_true q20
                    have p370 : 0 ≤ (x5_2 : Int) := of_decide_eq_true (by first | (with_reducible assumption) | assumption)
                    have q370 : x5_2 < (l0.length : Int) := of_decide_eq_true (by first | (with_reducible assumption) | assumption)
                    obtain ⟨ad370, e370, hx370_0⟩ := Kd.at_string HR0.out x5_2 p370 q370
                    obtain rfl : ad367 = ad370 := (by injection e370)
                    replace hx370_0 := (HB.out.cell (World.block_lt_of_cell? w _ hx370_0)).trans hx370_0
                    replace p370 := eq_true p370
                    replace q370 := eq_true q370
                    have p22 : 0 ≤ (x6_4 : Int) := of_decide_eq_true (by first | (with_reducible assumption) | assumption)
                    have q22 : x6_4 < ((rdOf ByteArray.empty l0 x5_2).size : Int) := of_decide_eq_true (by first | (with_reducible assumption) | assumption)
                    have hx22 := bt_at (rdOf ByteArray.empty l0 x5_2) x6_4
                    replace p22 := eq_true p22
                    replace q22 := eq_true q22
                    go_wp2
                    go_ret
                    exact ⟨by first | rfl | (simp [errW_none, errW_some] <;> rfl) | (simp [*, errW_none, errW_some, bne]; done) | (simp [*, errW_none, errW_some] <;> rfl), by repeat (first | (with_reducible first | exact HB.out | apply below_alloc | apply pw_below_drewN | apply below_drew1) | exact HB.out)⟩
                   ·rw [if_neg c23] at H
                    have c23b0 : ((bt (rdOf ByteArray.empty l0 x5_2) x6_4) == 34) = false := beq_eq_false_iff_ne.mpr c23
                    have c23b1 : ((bt (rdOf ByteArray.empty l0 x5_2) x6_4) != 34) = true := bne_iff_ne.mpr c23
                    have H' := Aside0.mk H
                    clear H
                    have p367 : 0 ≤ (x5_2 : Int) := of_decide_eq_true (by first | (with_reducible assumption) | assumption)
                    have q367 : x5_2 < (l0.length : Int) := of_decide_eq_true (by first | (with_reducible assumption) | assumption)
                    obtain ⟨ad367, e367, hx367_0⟩ := Kd.at_string HR0.out x5_2 p367 q367
                    cases e367
                    replace hx367_0 := (HB.out.cell (World.block_lt_of_cell? w _ hx367_0)).trans hx367_0
                    replace p367 := eq_true p367
                    replace q367 := eq_true q367
                    have p368 : 0 ≤ (x5_2 : Int) := of_decide_eq_true (by first | (with_reducible assumption) | assumption)
                    have q368 : x5_2 < (l0.length : Int) := of_decide_eq_true (by first | (with_reducible assumption) | assumption)
                    obtain ⟨ad368, e368, hx368_0⟩ := Kd.at_string HR0.out x5_2 p368 q368
                    obtain rfl : ad367 = ad368 := (by injection e368)
                    replace hx368_0 := (HB.out.cell (World.block_lt_of_cell? w _ hx368_0)).trans hx368_0
                    replace p368 := eq_true p368
                    replace q368 := eq_true q368
                    have p18 : 0 ≤ (x6_4 : Int) := of_decide_eq_true (by first | (with_reducible assumption) | assumption)
                    have q18 : x6_4 < ((rdOf ByteArray.empty l0 x5_2).size : Int) := of_decide_eq_true (by first | (with_reducible assumption) | assumption)
                    have hx18 := bt_at (rdOf ByteArray.empty l0 x5_2) x6_4
                    replace p18 := eq_true p18
                    replace q18 := eq_true q18
                    have p369 : 0 ≤ (x5_2 : Int) := of_decide_eq_true (by first | (with_reducible assumption) | assumption)
                    have q369 : x5_2 < (l0.length : Int) := of_decide_eq_true (by first | (with_reducible assumption) | assumption)
                    obtain ⟨ad369, e369, hx369_0⟩ := Kd.at_string HR0.out x5_2 p369 q369
                    obtain rfl : ad367 = ad369 := (by injection e369)
                    replace hx369_0 := (HB.out.cell (World.block_lt_of_cell? w _ hx369_0)).trans hx369_0
                    replace p369 := eq_true p369
                    replace q369 := eq_true q369
                    have p20 : 0 ≤ (x6_4 : Int) := of_decide_eq_true (by first | (with_reducible assumption) | assumption)
                    have q20 : x6_4 < ((rdOf ByteArray.empty l0 x5_2).size : Int) := of_decide_eq_true (by first | (with_reducible assumption) | assumption)
                    have hx20 := bt_at (rdOf ByteArray.empty l0 x5_2) x6_4
                    replace p20 := eq_true p20
                    replace q20 := eq_true q20
                    have p370 : 0 ≤ (x5_2 : Int) := of_decide_eq_true (by first | (with_reducible assumption) | assumption)
                    have q370 : x5_2 < (l0.length : Int) := of_decide_eq_true (by first | (with_reducible assumption) | assumption)
                    obtain ⟨ad370, e370, hx370_0⟩ := Kd.at_string HR0.out x5_2 p370 q370
                    obtain rfl : ad367 = ad370 := (by injection e370)
                    replace hx370_0 := (HB.out.cell (World.block_lt_of_cell? w _ hx370_0)).trans hx370_0
                    replace p370 := eq_true p370
                    replace q370 := eq_true q370
                    have p22 : 0 ≤ (x6_4 : Int) := of_decide_eq_true (by first | (with_reducible assumption) | assumption)
                    have q22 : x6_4 < ((rdOf ByteArray.empty l0 x5_2).size : Int) := of_decide_eq_true (by first | (with_reducible assumption) | assumption)
                    have hx22 := bt_at (rdOf ByteArray.empty l0 x5_2) x6_4
                    replace p22 := eq_true p22
                    replace q22 := eq_true q22
                    go_wp2
                    go_roundg k4
                    case measure => have := HJ3.out; have := HK2.out; have := HJ8.out; have := HK4.out; omega
                    case rel => exact ⟨(wrap64 (x6_4 + 1)), (by first | rfl | (simp; done) | (simp [*]; done)), H', ⟨by have := HJ3.out; have := HK2.out; have := HJ8.out; have := HK4.out; omega⟩, ⟨by repeat (first | (with_reducible first | exact HB.out | apply below_alloc | apply pw_below_drewN | apply below_drew1) | exact HB.out)⟩⟩
                ·rw [if_neg c17] at H
                 exact absurd H (by simp)
               ·rw [if_neg c16] at H
                have c16b0 : decide (x6_4 < ((rdOf ByteArray.empty l0 x5_2).size : Int)) = false := decide_eq_false c16
                clear c16
                by_cases c24 : x3_2.size + (rdOf ByteArray.empty l0 x5_2).size ≤ 9223372036854775807
                ·rw [if_pos c24] at H
                 have c24b0 := eq_true c24
                 have c24b1 : decide (x3_2.size + (rdOf ByteArray.empty l0 x5_2).size ≤ 9223372036854775807) = true := decide_eq_true c24
                 try have c24b2 : (9223372036854775807 < x3_2.size + (rdOf ByteArray.empty l0 x5_2).size) = False := eq_false (Nat.not_lt.2 c24)
                 by_cases c25 : (x3_2 ++ (rdOf ByteArray.empty l0 x5_2)).size + 1 ≤ 9223372036854775807
                 ·rw [if_pos c25] at H
                  have c25b0 := eq_true c25
                  have c25b1 : decide ((x3_2 ++ (rdOf ByteArray.empty l0 x5_2)).size + 1 ≤ 9223372036854775807) = true := decide_eq_true c25
                  try have c25b2 : (9223372036854775807 < (x3_2 ++ (rdOf ByteArray.empty l0 x5_2)).size + 1) = False := eq_false (Nat.not_lt.2 c25)
                  try (have c25b4 := c25b2; simp only [ByteArray.size_append] at c25b4)
                  by_cases c26 : x4_2.size + (rdOf ByteArray.empty l0 x5_2).size ≤ 9223372036854775807
                  ·rw [if_pos c26] at H
                   have c26b0 := eq_true c26
                   have c26b1 : decide (x4_2.size + (rdOf ByteArray.empty l0 x5_2).size ≤ 9223372036854775807) = true := decide_eq_true c26
                   try have c26b2 : (9223372036854775807 < x4_2.size + (rdOf ByteArray.empty l0 x5_2).size) = False := eq_false (Nat.not_lt.2 c26)
                   by_cases c27 : (x4_2 ++ (rdOf ByteArray.empty l0 x5_2)).size + 2 ≤ 9223372036854775807
                   ·rw [if_pos c27] at H
                    have c27b0 := eq_true c27
                    have c27b1 : decide ((x4_2 ++ (rdOf ByteArray.empty l0 x5_2)).size + 2 ≤ 9223372036854775807) = true := decide_eq_true c27
                    try have c27b2 : (9223372036854775807 < (x4_2 ++ (rdOf ByteArray.empty l0 x5_2)).size + 2) = False := eq_false (Nat.not_lt.2 c27)
                    try (have c27b4 := c27b2; simp only [ByteArray.size_append] at c27b4)
                    have H' := Aside0.mk H
                    clear H
                    have p367 : 0 ≤ (x5_2 : Int) := of_decide_eq_true (by first | (with_reducible assumption) | assumption)
                    have q367 : x5_2 < (l0.length : Int) := of_decide_eq_true (by first | (with_reducible assumption) | assumption)
                    obtain ⟨ad367, e367, hx367_0⟩ := Kd.at_string HR0.out x5_2 p367 q367
                    cases e367
                    replace hx367_0 := (HB.out.cell (World.block_lt_of_cell? w _ hx367_0)).trans hx367_0
                    replace p367 := eq_true p367
                    replace q367 := eq_true q367
                    have p371 : 0 ≤ (x5_2 : Int) := of_decide_eq_true (by first | (with_reducible assumption) | assumption)
                    have q371 : x5_2 < (l0.length : Int) := of_decide_eq_true (by first | (with_reducible assumption) | assumption)
                    obtain ⟨ad371, e371, hx371_0⟩ := Kd.at_string HR0.out x5_2 p371 q371
                    obtain rfl : ad367 = ad371 := (by injection e371)
                    replace hx371_0 := (HB.out.cell (World.block_lt_of_cell? w _ hx371_0)).trans hx371_0
                    replace p371 := eq_true p371
                    replace q371 := eq_true q371
                    have p372 : 0 ≤ (x5_2 : Int) := of_decide_eq_true (by first | (with_reducible assumption) | assumption)
                    have q372 : x5_2 < (l0.length : Int) := of_decide_eq_true (by first | (with_reducible assumption) | assumption)
                    obtain ⟨ad372, e372, hx372_0⟩ := Kd.at_string HR0.out x5_2 p372 q372
                    obtain rfl : ad367 = ad372 := (by injection e372)
                    replace hx372_0 := (HB.out.cell (World.block_lt_of_cell? w _ hx372_0)).trans hx372_0
                    replace p372 := eq_true p372
                    replace q372 := eq_true q372
                    go_wp2
                    go_roundg k4
                    case measure => have := HJ3.out; have := HK2.out; have := HJ8.out; have := HK4.out; omega
                    case rel => exact ⟨((x3_2 ++ (rdOf ByteArray.empty l0 x5_2)) ++ (⟨#[10]⟩ : ByteArray)), ((x4_2 ++ (rdOf ByteArray.empty l0 x5_2)) ++ (⟨#[13, 10]⟩ : ByteArray)), (wrap64 (x5_2 + 1)), (by first | rfl | (simp; done) | (simp [*]; done)), (by first | rfl | (simp; done) | (simp [*]; done)), (by first | rfl | (simp; done) | (simp [*]; done)), H', ⟨by have := HJ3.out; have := HK2.out; have := HJ8.out; have := HK4.out; omega⟩, ⟨by repeat (first | (with_reducible first | exact HB.out | apply below_alloc | apply pw_below_drewN | apply below_drew1) | exact HB.out)⟩⟩
                   ·rw [if_neg c27] at H
                    exact absurd H (by simp)
                  ·rw [if_neg c26] at H
                   exact absurd H (by simp)
                 ·rw [if_neg c25] at H
                  exact absurd H (by simp)
                ·rw [if_neg c24] at H
                 exact absurd H (by simp)
              ·rw [if_neg c15] at H
               exact absurd H (by simp)
             ·rw [if_neg c14] at H
              exact absurd H (by simp)
       ·rw [if_neg c8] at H
        have c8b0 : decide (x5_2 < (l0.length : Int)) = false := decide_eq_false c8
        clear c8
        replace H := Option.bind_eq_some_iff.mp H
        obtain ⟨⟨t373, t376, t377, t378, t379⟩, A280, H⟩ := H
        replace H : ((cread_Rows.f x4_2).bind fun bt381 => (if 0 ≤ (wrap64 ((x3_2.size : Int) - 1)) then (if (wrap64 ((x3_2.size : Int) - 1)) ≤ (x3_2.size : Int) then ((cread_Rows.f (x3_2.extract 0 ((wrap64 ((x3_2.size : Int) - 1)) : Int).toNat)).bind fun bt389 => (if t376 = bt381.2.1 then (if t376 = bt389.2.1 then ((dragomanref17_Rows.f k2 t373 bt381.1).bind fun t397 => (if t397 = true then ((dragomanref17_Rows.f k2 t373 bt389.1).bind fun t398 => (some t398)) else (some false))) else (some false)) else (some false))) else (none)) else (none))) = some r := H
        have A28 := Aside0.mk A280
        clear A280
        replace H := Option.bind_eq_some_iff.mp H
        obtain ⟨⟨t381, t384, t385, t386, t387⟩, A290, H⟩ := H
        replace H : (if 0 ≤ (wrap64 ((x3_2.size : Int) - 1)) then (if (wrap64 ((x3_2.size : Int) - 1)) ≤ (x3_2.size : Int) then ((cread_Rows.f (x3_2.extract 0 ((wrap64 ((x3_2.size : Int) - 1)) : Int).toNat)).bind fun bt389 => (if t376 = t384 then (if t376 = bt389.2.1 then ((dragomanref17_Rows.f k2 t373 t381).bind fun t397 => (if t397 = true then ((dragomanref17_Rows.f k2 t373 bt389.1).bind fun t398 => (some t398)) else (some false))) else (some false)) else (some false))) else (none)) else (none)) = some r := H
        have A29 := Aside0.mk A290
        clear A290
        obtain ⟨ji30, hji30⟩ : ∃ j_ : Int, (wrap64 ((x3_2.size : Int) - 1)) = j_ := ⟨_, rfl⟩
        replace H : (if 0 ≤ (ji30) then (if (ji30) ≤ (x3_2.size : Int) then ((cread_Rows.f (x3_2.extract 0 ((ji30) : Int).toNat)).bind fun bt389 => (if t376 = t384 then (if t376 = bt389.2.1 then ((dragomanref17_Rows.f k2 t373 t381).bind fun t397 => (if t397 = true then ((dragomanref17_Rows.f k2 t373 bt389.1).bind fun t398 => (some t398)) else (some false))) else (some false)) else (some false))) else (none)) else (none)) = some r := by first | (rw [hji30] at H; exact H) | (simp only [hji30] at H ⊢; exact H)
        (try rw [hji30] at A28)
        (try rw [hji30] at A29)
        have hji30w : (IntKind.i64.wrap ((x3_2.size : Int) - 1)) = ji30 := (i64_w _).trans hji30
        by_cases c31 : 0 ≤ (ji30)
        ·rw [if_pos c31] at H
         have c31b0 := eq_true c31
         have c31b1 : decide (0 ≤ (ji30)) = true := decide_eq_true c31
         clear c31
         by_cases c32 : (ji30) ≤ (x3_2.size : Int)
         ·rw [if_pos c32] at H
          have c32b0 := eq_true c32
          have c32b1 : decide ((ji30) ≤ (x3_2.size : Int)) = true := decide_eq_true c32
          clear c32
          replace H := Option.bind_eq_some_iff.mp H
          obtain ⟨⟨t389, t392, t393, t394, t395⟩, A330, H⟩ := H
          replace H : (if t376 = t384 then (if t376 = t392 then ((dragomanref17_Rows.f k2 t373 t381).bind fun t397 => (if t397 = true then ((dragomanref17_Rows.f k2 t373 t389).bind fun t398 => (some t398)) else (some false))) else (some false)) else (some false)) = some r := H
          have A33 := Aside0.mk A330
          clear A330
          by_cases c34 : t376 = t384
          ·rw [if_pos c34] at H
           have c34b0 : (t376 == t384) = true := beq_iff_eq.mpr c34
           have c34b1 : (t376 != t384) = false := bne_eq_false_iff_eq.mpr c34
           clear c34
           by_cases c35 : t376 = t392
           ·rw [if_pos c35] at H
            have c35b0 : (t376 == t392) = true := beq_iff_eq.mpr c35
            have c35b1 : (t376 != t392) = false := bne_eq_false_iff_eq.mpr c35
            clear c35
            replace H := Option.bind_eq_some_iff.mp H
            obtain ⟨t397, A360, H⟩ := H
            replace H : (if t397 = true then ((dragomanref17_Rows.f k2 t373 t389).bind fun t398 => (some t398)) else (some false)) = some r := H
            have A36 := Aside0.mk A360
            clear A360
            by_cases c37 : t397 = true
            ·subst c37
             have H1 : ((dragomanref17_Rows.f k2 t373 t389).bind fun t398 => (some t398)) = some r := by rw [if_pos rfl] at H; exact H
             clear H
             have H := H1
             clear H1
             replace H := Option.bind_eq_some_iff.mp H
             obtain ⟨t398, A380, H⟩ := H
             replace H : (some t398) = some r := H
             have A38 := Aside0.mk A380
             clear A380
             obtain rfl := Option.some.inj H
             go_wp2_with (first | ((with_reducible refine gate_callee (f := 9) rfl ?_); refine goesL_ (some 99) rfl rfl Try.func9 (by kernel_rfl) rfl #[.string x3_2] rfl (by (try simp only [List.map_toArray, List.map_cons, List.map_nil]); first | done | rfl | (simp only [List.length_drop, List.length_take]; rfl)) ?_; (with_reducible refine (cread_Rows.calls x3_2 t373 t376 t377 t378 t379 _ A28.out).mono ?_); rintro e w39 ⟨v374, rfl, ho0, hb⟩; refine ⟨_, rfl, ?_⟩; have n0_ := Aside0.mk (Kd.S_lower ho0 (below_size (by repeat (first | (with_reducible first | exact HB.out | apply below_alloc | apply pw_below_drewN | apply below_drew1) | exact HB.out)))); have n1_ := Aside0.mk (below_step (by repeat (first | (with_reducible first | exact HB.out | apply below_alloc | apply pw_below_drewN | apply below_drew1) | exact HB.out)) hb); clear HB; have HO375 := n0_; have HB := n1_; clear n0_ n1_; (try clear hb); (try clear hb2); (try clear hk); (try clear hi); (try clear ho0)) | ((with_reducible refine gate_dst (N := 8) rfl ?_); (try (refine gate_guard (by rfl) ?_; dsimp only)); refine box_event ?hg (N := 8) ?hd (cs := #[.int .i64 0, .int .i64 0, .int .i64 0, .int .i64 0]) (t := 26) ?hr ?_; (case hd => rfl); (case hg => rfl); (case hr => first | (go_simp; done) | (go_simp; rfl)); intro gb380 hg w40 hbox hb; have n0_ := Aside0.mk (Kd.S_below (by (with_reducible repeat (first | apply Kd.S_alloc | apply Kd.S_drewN | apply Kd.S_drew)); exact HO375.out) hb); have n1_ := Aside0.mk (below_step (by repeat (first | (with_reducible first | exact HB.out | apply below_alloc | apply pw_below_drewN | apply below_drew1) | exact HB.out)) hb); have n2_ := Aside0.mk (hbox); have n3_ := Aside0.mk ((by rw [hg]; exact (below_size (by repeat (first | (with_reducible first | exact HB.out | apply below_alloc | apply pw_below_drewN | apply below_drew1) | exact HB.out))) : w.heap.size ≤ gb380)); have n4_ := Aside0.mk ((by rw [hg]; exact (below_size (by repeat (first | (with_reducible first | exact HB.out | apply below_alloc | apply pw_below_drewN | apply below_drew1) | exact HB.out))) : w.heap.size ≤ gb380)); clear HO375; clear HB; have HO375 := n0_; have HB := n1_; have BK380 := n2_; have GW380 := n3_; have GE380 := n4_; clear n0_ n1_ n2_ n3_ n4_; clear hb hbox hg; have hcz41_0 : w40.cell? ⟨gb380, 0, none⟩ = some (.int .i64 0) := (blk_cell BK380.out 0).trans rfl; have hcz41_1 : w40.cell? ⟨gb380, 1, none⟩ = some (.int .i64 0) := (blk_cell BK380.out 1).trans rfl; have hcz41_2 : w40.cell? ⟨gb380, 2, none⟩ = some (.int .i64 0) := (blk_cell BK380.out 2).trans rfl; have hcz41_3 : w40.cell? ⟨gb380, 3, none⟩ = some (.int .i64 0) := (blk_cell BK380.out 3).trans rfl; have hfz41_0 := blk_frozen BK380.out 0; have hfz41_1 := blk_frozen BK380.out 1; have hfz41_2 := blk_frozen BK380.out 2; have hfz41_3 := blk_frozen BK380.out 3) | ((with_reducible refine gate_callee (f := 9) rfl ?_); refine goesL_ (some 104) rfl rfl Try.func9 (by kernel_rfl) rfl #[.string x4_2] rfl (by (try simp only [List.map_toArray, List.map_cons, List.map_nil]); first | done | rfl | (simp only [List.length_drop, List.length_take]; rfl)) ?_; (with_reducible refine (cread_Rows.calls x4_2 t381 t384 t385 t386 t387 _ A29.out).mono ?_); rintro e w42 ⟨v382, rfl, ho0, hb⟩; refine ⟨_, rfl, ?_⟩; have n0_ := Aside0.mk (Kd.S_elder' (by (with_reducible repeat (first | apply Kd.S_alloc | apply Kd.S_drewN | apply Kd.S_drew)); exact (Kd.S_mono (Kd.S_far (p := ⟨gb380, 3, none⟩) (Kd.S_far (p := ⟨gb380, 2, none⟩) (Kd.S_far (p := ⟨gb380, 1, none⟩) (Kd.S_far (p := ⟨gb380, 0, none⟩) (Kd.S_types HO375.out BK380.out (by decide)) (fun _ hk => hk.2) (.int .i64 t376)) (fun _ hk => hk.2) (.int .i64 t377)) (fun _ hk => hk.2) (.int .i64 t378)) (fun _ hk => hk.2) (.int .i64 t379)) (fun _ h_ => h_.1))) (Kd.S_base ho0) hb); have n1_ := Aside0.mk (Kd.S_lower (Kd.S_new' ho0 (Kd.S_lt (by (with_reducible repeat (first | apply Kd.S_alloc | apply Kd.S_drewN | apply Kd.S_drew)); exact (Kd.S_mono (Kd.S_far (p := ⟨gb380, 3, none⟩) (Kd.S_far (p := ⟨gb380, 2, none⟩) (Kd.S_far (p := ⟨gb380, 1, none⟩) (Kd.S_far (p := ⟨gb380, 0, none⟩) (Kd.S_types HO375.out BK380.out (by decide)) (fun _ hk => hk.2) (.int .i64 t376)) (fun _ hk => hk.2) (.int .i64 t377)) (fun _ hk => hk.2) (.int .i64 t378)) (fun _ hk => hk.2) (.int .i64 t379)) (fun _ h_ => h_.1))))) (below_size (by repeat (first | (with_reducible first | exact HB.out | apply below_alloc | apply pw_below_drewN | apply below_drew1 | refine below_set ?_ GE380.out) | exact HB.out)))); have n2_ := Aside0.mk (blk_below (g := gb380) (o := .cells #[.int .i64 t376, .int .i64 t377, .int .i64 t378, .int .i64 t379] 26 (0, 0)) (by (with_reducible repeat (first | refine blk_drewN ?_ _ | refine blk_drew ?_ | refine blk_alloc ?_ _)); refine blk_put (cs := #[.int .i64 t376, .int .i64 t377, .int .i64 t378, .int .i64 0]) ?_ 3 _ rfl; (with_reducible repeat (first | refine blk_drewN ?_ _ | refine blk_drew ?_ | refine blk_alloc ?_ _)); refine blk_put (cs := #[.int .i64 t376, .int .i64 t377, .int .i64 0, .int .i64 0]) ?_ 2 _ rfl; (with_reducible repeat (first | refine blk_drewN ?_ _ | refine blk_drew ?_ | refine blk_alloc ?_ _)); refine blk_put (cs := #[.int .i64 t376, .int .i64 0, .int .i64 0, .int .i64 0]) ?_ 1 _ rfl; (with_reducible repeat (first | refine blk_drewN ?_ _ | refine blk_drew ?_ | refine blk_alloc ?_ _)); refine blk_put (cs := #[.int .i64 0, .int .i64 0, .int .i64 0, .int .i64 0]) ?_ 0 _ rfl; (with_reducible repeat (first | refine blk_drewN ?_ _ | refine blk_drew ?_ | refine blk_alloc ?_ _)); exact BK380.out) hb); have n3_ := Aside0.mk (below_step (by repeat (first | (with_reducible first | exact HB.out | apply below_alloc | apply pw_below_drewN | apply below_drew1 | refine below_set ?_ GE380.out) | exact HB.out)) hb); clear HO375; clear BK380; clear HB; have HO375 := n0_; have HO383 := n1_; have BK380 := n2_; have HB := n3_; clear n0_ n1_ n2_ n3_; (try clear hb); (try clear hb2); (try clear hk); (try clear hi); (try clear ho0)) | ((with_reducible refine gate_dst (N := 10) rfl ?_); (try (refine gate_guard (by rfl) ?_; dsimp only)); refine box_event ?hg (N := 10) ?hd (cs := #[.int .i64 0, .int .i64 0, .int .i64 0, .int .i64 0]) (t := 26) ?hr ?_; (case hd => rfl); (case hg => rfl); (case hr => first | (go_simp; done) | (go_simp; rfl)); intro gb388 hg w43 hbox hb; have n0_ := Aside0.mk (Kd.S_below (by (with_reducible repeat (first | apply Kd.S_alloc | apply Kd.S_drewN | apply Kd.S_drew)); exact HO375.out) hb); have n1_ := Aside0.mk (Kd.S_below (by (with_reducible repeat (first | apply Kd.S_alloc | apply Kd.S_drewN | apply Kd.S_drew)); exact HO383.out) hb); have n2_ := Aside0.mk (blk_below (g := gb380) (o := .cells #[.int .i64 t376, .int .i64 t377, .int .i64 t378, .int .i64 t379] 26 (0, 0)) (by (with_reducible repeat (first | refine blk_drewN ?_ _ | refine blk_drew ?_ | refine blk_alloc ?_ _)); exact BK380.out) hb); have n3_ := Aside0.mk (below_step (by repeat (first | (with_reducible first | exact HB.out | apply below_alloc | apply pw_below_drewN | apply below_drew1 | refine below_set ?_ GE380.out) | exact HB.out)) hb); have n4_ := Aside0.mk (hbox); have n5_ := Aside0.mk ((by rw [hg]; exact (below_size (by repeat (first | (with_reducible first | exact HB.out | apply below_alloc | apply pw_below_drewN | apply below_drew1 | refine below_set ?_ GE380.out) | exact HB.out))) : w.heap.size ≤ gb388)); have n6_ := Aside0.mk ((by rw [hg]; exact (below_size (by repeat (first | (with_reducible first | exact HB.out | apply below_alloc | apply pw_below_drewN | apply below_drew1 | refine below_set ?_ GE380.out) | exact HB.out))) : w.heap.size ≤ gb388)); have n7_ := Aside0.mk ((by rw [hg]; exact Nat.ne_of_lt (blk_lt (g := gb380) (o := .cells #[.int .i64 t376, .int .i64 t377, .int .i64 t378, .int .i64 t379] 26 (0, 0)) (by (with_reducible repeat (first | refine blk_drewN ?_ _ | refine blk_drew ?_ | refine blk_alloc ?_ _)); exact BK380.out)) : gb380 ≠ gb388)); have n8_ := Aside0.mk ((by rw [hg]; exact Nat.ne_of_gt (blk_lt (g := gb380) (o := .cells #[.int .i64 t376, .int .i64 t377, .int .i64 t378, .int .i64 t379] 26 (0, 0)) (by (with_reducible repeat (first | refine blk_drewN ?_ _ | refine blk_drew ?_ | refine blk_alloc ?_ _)); exact BK380.out)) : gb388 ≠ gb380)); clear HO375; clear HO383; clear BK380; clear HB; have HO375 := n0_; have HO383 := n1_; have BK380 := n2_; have HB := n3_; have BK388 := n4_; have GW388 := n5_; have GE388 := n6_; have NB380_388 := n7_; have NB388_380 := n8_; clear n0_ n1_ n2_ n3_ n4_ n5_ n6_ n7_ n8_; clear hb hbox hg; have hnb44 := NB388_380.out; have hnc44 := NB380_388.out; have hcz45_0 : w43.cell? ⟨gb388, 0, none⟩ = some (.int .i64 0) := (blk_cell BK388.out 0).trans rfl; have hcz45_1 : w43.cell? ⟨gb388, 1, none⟩ = some (.int .i64 0) := (blk_cell BK388.out 1).trans rfl; have hcz45_2 : w43.cell? ⟨gb388, 2, none⟩ = some (.int .i64 0) := (blk_cell BK388.out 2).trans rfl; have hcz45_3 : w43.cell? ⟨gb388, 3, none⟩ = some (.int .i64 0) := (blk_cell BK388.out 3).trans rfl; have hfz45_0 := blk_frozen BK388.out 0; have hfz45_1 := blk_frozen BK388.out 1; have hfz45_2 := blk_frozen BK388.out 2; have hfz45_3 := blk_frozen BK388.out 3) | ((with_reducible refine gate_callee (f := 9) rfl ?_); refine goesL_ (some 113) rfl rfl Try.func9 (by kernel_rfl) rfl #[.string (x3_2.extract 0 ((ji30) : Int).toNat)] rfl (by (try simp only [List.map_toArray, List.map_cons, List.map_nil]); first | done | (simp only [hji30]; rfl) | rfl | (simp only [List.length_drop, List.length_take]; rfl)) ?_; (with_reducible refine (cread_Rows.calls (x3_2.extract 0 ((ji30) : Int).toNat) t389 t392 t393 t394 t395 _ A33.out).mono ?_); rintro e w46 ⟨v390, rfl, ho0, hb⟩; refine ⟨_, rfl, ?_⟩; have n0_ := Aside0.mk (Kd.S_elder' (by (with_reducible repeat (first | apply Kd.S_alloc | apply Kd.S_drewN | apply Kd.S_drew)); exact (Kd.S_mono (Kd.S_far (p := ⟨gb388, 3, none⟩) (Kd.S_far (p := ⟨gb388, 2, none⟩) (Kd.S_far (p := ⟨gb388, 1, none⟩) (Kd.S_far (p := ⟨gb388, 0, none⟩) (Kd.S_types HO375.out BK388.out (by decide)) (fun _ hk => hk.2) (.int .i64 t384)) (fun _ hk => hk.2) (.int .i64 t385)) (fun _ hk => hk.2) (.int .i64 t386)) (fun _ hk => hk.2) (.int .i64 t387)) (fun _ h_ => h_.1))) (Kd.S_base ho0) hb); have n1_ := Aside0.mk (Kd.S_elder' (by (with_reducible repeat (first | apply Kd.S_alloc | apply Kd.S_drewN | apply Kd.S_drew)); exact (Kd.S_mono (Kd.S_far (p := ⟨gb388, 3, none⟩) (Kd.S_far (p := ⟨gb388, 2, none⟩) (Kd.S_far (p := ⟨gb388, 1, none⟩) (Kd.S_far (p := ⟨gb388, 0, none⟩) (Kd.S_types HO383.out BK388.out (by decide)) (fun _ hk => hk.2) (.int .i64 t384)) (fun _ hk => hk.2) (.int .i64 t385)) (fun _ hk => hk.2) (.int .i64 t386)) (fun _ hk => hk.2) (.int .i64 t387)) (fun _ h_ => h_.1))) (Kd.S_base ho0) hb); have n2_ := Aside0.mk (Kd.S_lower (Kd.S_new' (Kd.S_new' ho0 (Kd.S_lt (by (with_reducible repeat (first | apply Kd.S_alloc | apply Kd.S_drewN | apply Kd.S_drew)); exact (Kd.S_mono (Kd.S_far (p := ⟨gb388, 3, none⟩) (Kd.S_far (p := ⟨gb388, 2, none⟩) (Kd.S_far (p := ⟨gb388, 1, none⟩) (Kd.S_far (p := ⟨gb388, 0, none⟩) (Kd.S_types HO375.out BK388.out (by decide)) (fun _ hk => hk.2) (.int .i64 t384)) (fun _ hk => hk.2) (.int .i64 t385)) (fun _ hk => hk.2) (.int .i64 t386)) (fun _ hk => hk.2) (.int .i64 t387)) (fun _ h_ => h_.1))))) (Kd.S_lt (by (with_reducible repeat (first | apply Kd.S_alloc | apply Kd.S_drewN | apply Kd.S_drew)); exact (Kd.S_mono (Kd.S_far (p := ⟨gb388, 3, none⟩) (Kd.S_far (p := ⟨gb388, 2, none⟩) (Kd.S_far (p := ⟨gb388, 1, none⟩) (Kd.S_far (p := ⟨gb388, 0, none⟩) (Kd.S_types HO383.out BK388.out (by decide)) (fun _ hk => hk.2) (.int .i64 t384)) (fun _ hk => hk.2) (.int .i64 t385)) (fun _ hk => hk.2) (.int .i64 t386)) (fun _ hk => hk.2) (.int .i64 t387)) (fun _ h_ => h_.1))))) (below_size (by repeat (first | (with_reducible first | exact HB.out | apply below_alloc | apply pw_below_drewN | apply below_drew1 | refine below_set ?_ GE380.out | refine below_set ?_ GE388.out) | exact HB.out)))); have n3_ := Aside0.mk (blk_below (g := gb380) (o := .cells #[.int .i64 t376, .int .i64 t377, .int .i64 t378, .int .i64 t379] 26 (0, 0)) (by (with_reducible repeat (first | refine blk_drewN ?_ _ | refine blk_drew ?_ | refine blk_alloc ?_ _)); refine blk_far ?_ NB380_388.out _; (with_reducible repeat (first | refine blk_drewN ?_ _ | refine blk_drew ?_ | refine blk_alloc ?_ _)); refine blk_far ?_ NB380_388.out _; (with_reducible repeat (first | refine blk_drewN ?_ _ | refine blk_drew ?_ | refine blk_alloc ?_ _)); refine blk_far ?_ NB380_388.out _; (with_reducible repeat (first | refine blk_drewN ?_ _ | refine blk_drew ?_ | refine blk_alloc ?_ _)); refine blk_far ?_ NB380_388.out _; (with_reducible repeat (first | refine blk_drewN ?_ _ | refine blk_drew ?_ | refine blk_alloc ?_ _)); exact BK380.out) hb); have n4_ := Aside0.mk (blk_below (g := gb388) (o := .cells #[.int .i64 t384, .int .i64 t385, .int .i64 t386, .int .i64 t387] 26 (0, 0)) (by (with_reducible repeat (first | refine blk_drewN ?_ _ | refine blk_drew ?_ | refine blk_alloc ?_ _)); refine blk_put (cs := #[.int .i64 t384, .int .i64 t385, .int .i64 t386, .int .i64 0]) ?_ 3 _ rfl; (with_reducible repeat (first | refine blk_drewN ?_ _ | refine blk_drew ?_ | refine blk_alloc ?_ _)); refine blk_put (cs := #[.int .i64 t384, .int .i64 t385, .int .i64 0, .int .i64 0]) ?_ 2 _ rfl; (with_reducible repeat (first | refine blk_drewN ?_ _ | refine blk_drew ?_ | refine blk_alloc ?_ _)); refine blk_put (cs := #[.int .i64 t384, .int .i64 0, .int .i64 0, .int .i64 0]) ?_ 1 _ rfl; (with_reducible repeat (first | refine blk_drewN ?_ _ | refine blk_drew ?_ | refine blk_alloc ?_ _)); refine blk_put (cs := #[.int .i64 0, .int .i64 0, .int .i64 0, .int .i64 0]) ?_ 0 _ rfl; (with_reducible repeat (first | refine blk_drewN ?_ _ | refine blk_drew ?_ | refine blk_alloc ?_ _)); exact BK388.out) hb); have n5_ := Aside0.mk (below_step (by repeat (first | (with_reducible first | exact HB.out | apply below_alloc | apply pw_below_drewN | apply below_drew1 | refine below_set ?_ GE380.out | refine below_set ?_ GE388.out) | exact HB.out)) hb); clear HO375; clear HO383; clear BK380; clear BK388; clear HB; have HO375 := n0_; have HO383 := n1_; have HO391 := n2_; have BK380 := n3_; have BK388 := n4_; have HB := n5_; clear n0_ n1_ n2_ n3_ n4_ n5_; (try clear hb); (try clear hb2); (try clear hk); (try clear hi); (try clear ho0)) | ((with_reducible refine gate_dst (N := 12) rfl ?_); (try (refine gate_guard (by rfl) ?_; dsimp only)); refine box_event ?hg (N := 12) ?hd (cs := #[.int .i64 0, .int .i64 0, .int .i64 0, .int .i64 0]) (t := 26) ?hr ?_; (case hd => rfl); (case hg => rfl); (case hr => first | (go_simp; done) | (go_simp; rfl)); intro gb396 hg w47 hbox hb; have n0_ := Aside0.mk (Kd.S_below (by (with_reducible repeat (first | apply Kd.S_alloc | apply Kd.S_drewN | apply Kd.S_drew)); exact HO375.out) hb); have n1_ := Aside0.mk (Kd.S_below (by (with_reducible repeat (first | apply Kd.S_alloc | apply Kd.S_drewN | apply Kd.S_drew)); exact HO383.out) hb); have n2_ := Aside0.mk (Kd.S_below (by (with_reducible repeat (first | apply Kd.S_alloc | apply Kd.S_drewN | apply Kd.S_drew)); exact HO391.out) hb); have n3_ := Aside0.mk (blk_below (g := gb380) (o := .cells #[.int .i64 t376, .int .i64 t377, .int .i64 t378, .int .i64 t379] 26 (0, 0)) (by (with_reducible repeat (first | refine blk_drewN ?_ _ | refine blk_drew ?_ | refine blk_alloc ?_ _)); exact BK380.out) hb); have n4_ := Aside0.mk (blk_below (g := gb388) (o := .cells #[.int .i64 t384, .int .i64 t385, .int .i64 t386, .int .i64 t387] 26 (0, 0)) (by (with_reducible repeat (first | refine blk_drewN ?_ _ | refine blk_drew ?_ | refine blk_alloc ?_ _)); exact BK388.out) hb); have n5_ := Aside0.mk (below_step (by repeat (first | (with_reducible first | exact HB.out | apply below_alloc | apply pw_below_drewN | apply below_drew1 | refine below_set ?_ GE380.out | refine below_set ?_ GE388.out) | exact HB.out)) hb); have n6_ := Aside0.mk (hbox); have n7_ := Aside0.mk ((by rw [hg]; exact (below_size (by repeat (first | (with_reducible first | exact HB.out | apply below_alloc | apply pw_below_drewN | apply below_drew1 | refine below_set ?_ GE380.out | refine below_set ?_ GE388.out) | exact HB.out))) : w.heap.size ≤ gb396)); have n8_ := Aside0.mk ((by rw [hg]; exact (below_size (by repeat (first | (with_reducible first | exact HB.out | apply below_alloc | apply pw_below_drewN | apply below_drew1 | refine below_set ?_ GE380.out | refine below_set ?_ GE388.out) | exact HB.out))) : w.heap.size ≤ gb396)); have n9_ := Aside0.mk ((by rw [hg]; exact Nat.ne_of_lt (blk_lt (g := gb380) (o := .cells #[.int .i64 t376, .int .i64 t377, .int .i64 t378, .int .i64 t379] 26 (0, 0)) (by (with_reducible repeat (first | refine blk_drewN ?_ _ | refine blk_drew ?_ | refine blk_alloc ?_ _)); exact BK380.out)) : gb380 ≠ gb396)); have n10_ := Aside0.mk ((by rw [hg]; exact Nat.ne_of_gt (blk_lt (g := gb380) (o := .cells #[.int .i64 t376, .int .i64 t377, .int .i64 t378, .int .i64 t379] 26 (0, 0)) (by (with_reducible repeat (first | refine blk_drewN ?_ _ | refine blk_drew ?_ | refine blk_alloc ?_ _)); exact BK380.out)) : gb396 ≠ gb380)); have n11_ := Aside0.mk ((by rw [hg]; exact Nat.ne_of_lt (blk_lt (g := gb388) (o := .cells #[.int .i64 t384, .int .i64 t385, .int .i64 t386, .int .i64 t387] 26 (0, 0)) (by (with_reducible repeat (first | refine blk_drewN ?_ _ | refine blk_drew ?_ | refine blk_alloc ?_ _)); exact BK388.out)) : gb388 ≠ gb396)); have n12_ := Aside0.mk ((by rw [hg]; exact Nat.ne_of_gt (blk_lt (g := gb388) (o := .cells #[.int .i64 t384, .int .i64 t385, .int .i64 t386, .int .i64 t387] 26 (0, 0)) (by (with_reducible repeat (first | refine blk_drewN ?_ _ | refine blk_drew ?_ | refine blk_alloc ?_ _)); exact BK388.out)) : gb396 ≠ gb388)); clear HO375; clear HO383; clear HO391; clear BK380; clear BK388; clear HB; have HO375 := n0_; have HO383 := n1_; have HO391 := n2_; have BK380 := n3_; have BK388 := n4_; have HB := n5_; have BK396 := n6_; have GW396 := n7_; have GE396 := n8_; have NB380_396 := n9_; have NB396_380 := n10_; have NB388_396 := n11_; have NB396_388 := n12_; clear n0_ n1_ n2_ n3_ n4_ n5_ n6_ n7_ n8_ n9_ n10_ n11_ n12_; clear hb hbox hg; have hnb48 := NB396_380.out; have hnc48 := NB380_396.out; have hnb49 := NB396_388.out; have hnc49 := NB388_396.out; have hcz50_0 : w47.cell? ⟨gb396, 0, none⟩ = some (.int .i64 0) := (blk_cell BK396.out 0).trans rfl; have hcz50_1 : w47.cell? ⟨gb396, 1, none⟩ = some (.int .i64 0) := (blk_cell BK396.out 1).trans rfl; have hcz50_2 : w47.cell? ⟨gb396, 2, none⟩ = some (.int .i64 0) := (blk_cell BK396.out 2).trans rfl; have hcz50_3 : w47.cell? ⟨gb396, 3, none⟩ = some (.int .i64 0) := (blk_cell BK396.out 3).trans rfl; have hfz50_0 := blk_frozen BK396.out 0; have hfz50_1 := blk_frozen BK396.out 1; have hfz50_2 := blk_frozen BK396.out 2; have hfz50_3 := blk_frozen BK396.out 3; have hcz51_0 : w47.cell? ⟨gb380, 0, none⟩ = some (.int .i64 t376) := (blk_cell BK380.out 0).trans rfl; have hcz51_1 : w47.cell? ⟨gb380, 1, none⟩ = some (.int .i64 t377) := (blk_cell BK380.out 1).trans rfl; have hcz51_2 : w47.cell? ⟨gb380, 2, none⟩ = some (.int .i64 t378) := (blk_cell BK380.out 2).trans rfl; have hcz51_3 : w47.cell? ⟨gb380, 3, none⟩ = some (.int .i64 t379) := (blk_cell BK380.out 3).trans rfl; have hfz51_0 := blk_frozen BK380.out 0; have hfz51_1 := blk_frozen BK380.out 1; have hfz51_2 := blk_frozen BK380.out 2; have hfz51_3 := blk_frozen BK380.out 3; have hcz52_0 : w47.cell? ⟨gb388, 0, none⟩ = some (.int .i64 t384) := (blk_cell BK388.out 0).trans rfl; have hcz52_1 : w47.cell? ⟨gb388, 1, none⟩ = some (.int .i64 t385) := (blk_cell BK388.out 1).trans rfl; have hcz52_2 : w47.cell? ⟨gb388, 2, none⟩ = some (.int .i64 t386) := (blk_cell BK388.out 2).trans rfl; have hcz52_3 : w47.cell? ⟨gb388, 3, none⟩ = some (.int .i64 t387) := (blk_cell BK388.out 3).trans rfl; have hfz52_0 := blk_frozen BK388.out 0; have hfz52_1 := blk_frozen BK388.out 1; have hfz52_2 := blk_frozen BK388.out 2; have hfz52_3 := blk_frozen BK388.out 3; obtain ⟨Ao53, co53, eo53⟩ := Kd.S_slice HO375.out; subst eo53; obtain ⟨Ao54, co54, eo54⟩ := Kd.S_slice HO383.out; subst eo54) | (go_at_call 13; (with_reducible refine (dragomanref17_Rows.calls k2 _ _ t373 _ _ t381 true _ ?side1 ?side2 ?side3 ?side4 A36.out).mono ?_); (case side1 => refine (Kd.S_reads' (e := 29) (base := w.heap.size) (ok := fun k_ => ((True ∧ some k_ ≠ (.slice Ao54 t381.length co54 : Value).ownBlock) ∧ some k_ ≠ (v390 : Value).ownBlock)) (n := t373.length) (c := co53) ?_).2.2; exact (by (with_reducible repeat (first | apply Kd.S_alloc | apply Kd.S_drewN | apply Kd.S_drew)); exact (Kd.S_mono (Kd.S_far (p := ⟨gb396, 3, none⟩) (Kd.S_far (p := ⟨gb396, 2, none⟩) (Kd.S_far (p := ⟨gb396, 1, none⟩) (Kd.S_far (p := ⟨gb396, 0, none⟩) (Kd.S_types HO375.out BK396.out (by decide)) (fun _ hk => hk.2) (.int .i64 t392)) (fun _ hk => hk.2) (.int .i64 t393)) (fun _ hk => hk.2) (.int .i64 t394)) (fun _ hk => hk.2) (.int .i64 t395)) (fun _ h_ => h_.1)))); (case side2 => exact (Kd.S_reads' HO375.out).2.1); (case side3 => refine (Kd.S_reads' (e := 29) (base := w.heap.size) (ok := fun k_ => ((True ∧ some k_ ≠ (.slice Ao53 t373.length co53 : Value).ownBlock) ∧ some k_ ≠ (v390 : Value).ownBlock)) (n := t381.length) (c := co54) ?_).2.2; exact (by (with_reducible repeat (first | apply Kd.S_alloc | apply Kd.S_drewN | apply Kd.S_drew)); exact (Kd.S_mono (Kd.S_far (p := ⟨gb396, 3, none⟩) (Kd.S_far (p := ⟨gb396, 2, none⟩) (Kd.S_far (p := ⟨gb396, 1, none⟩) (Kd.S_far (p := ⟨gb396, 0, none⟩) (Kd.S_types HO383.out BK396.out (by decide)) (fun _ hk => hk.2) (.int .i64 t392)) (fun _ hk => hk.2) (.int .i64 t393)) (fun _ hk => hk.2) (.int .i64 t394)) (fun _ hk => hk.2) (.int .i64 t395)) (fun _ h_ => h_.1)))); (case side4 => exact (Kd.S_reads' HO383.out).2.1); rintro e w' ⟨rfl, ⟨nd, rfl⟩⟩; obtain ⟨Ao55, co55, eo55⟩ := Kd.S_slice HO391.out; subst eo55) | (go_at_call 13; (with_reducible refine (dragomanref17_Rows.calls k2 _ _ t373 _ _ t389 t398 _ ?side1 ?side2 ?side3 ?side4 A38.out).mono ?_); (case side1 => refine (Kd.S_reads' (e := 29) (base := w.heap.size) (ok := fun k_ => ((True ∧ some k_ ≠ (.slice Ao54 t381.length co54 : Value).ownBlock) ∧ some k_ ≠ (.slice Ao55 t389.length co55 : Value).ownBlock)) (n := t373.length) (c := co53) ?_).2.2; exact (by (with_reducible repeat (first | apply Kd.S_alloc | apply Kd.S_drewN | apply Kd.S_drew)); exact (Kd.S_mono (Kd.S_far (p := ⟨gb396, 3, none⟩) (Kd.S_far (p := ⟨gb396, 2, none⟩) (Kd.S_far (p := ⟨gb396, 1, none⟩) (Kd.S_far (p := ⟨gb396, 0, none⟩) (Kd.S_types HO375.out BK396.out (by decide)) (fun _ hk => hk.2) (.int .i64 t392)) (fun _ hk => hk.2) (.int .i64 t393)) (fun _ hk => hk.2) (.int .i64 t394)) (fun _ hk => hk.2) (.int .i64 t395)) (fun _ h_ => h_.1)))); (case side2 => exact (Kd.S_reads' HO375.out).2.1); (case side3 => refine (Kd.S_reads' (e := 29) (base := w.heap.size) (ok := fun k_ => ((True ∧ some k_ ≠ (.slice Ao53 t373.length co53 : Value).ownBlock) ∧ some k_ ≠ (.slice Ao54 t381.length co54 : Value).ownBlock)) (n := t389.length) (c := co55) ?_).2.2; exact (by (with_reducible repeat (first | apply Kd.S_alloc | apply Kd.S_drewN | apply Kd.S_drew)); exact (Kd.S_mono (Kd.S_far (p := ⟨gb396, 3, none⟩) (Kd.S_far (p := ⟨gb396, 2, none⟩) (Kd.S_far (p := ⟨gb396, 1, none⟩) (Kd.S_far (p := ⟨gb396, 0, none⟩) (Kd.S_types HO391.out BK396.out (by decide)) (fun _ hk => hk.2) (.int .i64 t392)) (fun _ hk => hk.2) (.int .i64 t393)) (fun _ hk => hk.2) (.int .i64 t394)) (fun _ hk => hk.2) (.int .i64 t395)) (fun _ h_ => h_.1)))); (case side4 => exact (Kd.S_reads' HO391.out).2.1); rintro e w' ⟨rfl, ⟨nd, rfl⟩⟩))
             go_ret
             exact ⟨by first | rfl | (simp [errW_none, errW_some] <;> rfl) | (simp [*, errW_none, errW_some, bne]; done) | (simp only [← hji30]; first | rfl | (simp [errW_none, errW_some] <;> rfl)) | (simp [*, errW_none, errW_some] <;> rfl), by repeat (first | (with_reducible first | exact HB.out | apply below_alloc | apply pw_below_drewN | apply below_drew1 | refine below_set ?_ GE380.out | refine below_set ?_ GE388.out | refine below_set ?_ GE396.out) | exact HB.out)⟩
            ·replace c37 := Bool.eq_false_iff.mpr c37
             subst c37
             have H1 : (some false) = some r := by rw [if_neg (show ¬ (false = true) by decide)] at H; exact H
             clear H
             have H := H1
             clear H1
             obtain rfl := Option.some.inj H
             go_wp2_with (first | ((with_reducible refine gate_callee (f := 9) rfl ?_); refine goesL_ (some 99) rfl rfl Try.func9 (by kernel_rfl) rfl #[.string x3_2] rfl (by (try simp only [List.map_toArray, List.map_cons, List.map_nil]); first | done | rfl | (simp only [List.length_drop, List.length_take]; rfl)) ?_; (with_reducible refine (cread_Rows.calls x3_2 t373 t376 t377 t378 t379 _ A28.out).mono ?_); rintro e w56 ⟨v374, rfl, ho0, hb⟩; refine ⟨_, rfl, ?_⟩; have n0_ := Aside0.mk (Kd.S_lower ho0 (below_size (by repeat (first | (with_reducible first | exact HB.out | apply below_alloc | apply pw_below_drewN | apply below_drew1) | exact HB.out)))); have n1_ := Aside0.mk (below_step (by repeat (first | (with_reducible first | exact HB.out | apply below_alloc | apply pw_below_drewN | apply below_drew1) | exact HB.out)) hb); clear HB; have HO375 := n0_; have HB := n1_; clear n0_ n1_; (try clear hb); (try clear hb2); (try clear hk); (try clear hi); (try clear ho0)) | ((with_reducible refine gate_dst (N := 8) rfl ?_); (try (refine gate_guard (by rfl) ?_; dsimp only)); refine box_event ?hg (N := 8) ?hd (cs := #[.int .i64 0, .int .i64 0, .int .i64 0, .int .i64 0]) (t := 26) ?hr ?_; (case hd => rfl); (case hg => rfl); (case hr => first | (go_simp; done) | (go_simp; rfl)); intro gb380 hg w57 hbox hb; have n0_ := Aside0.mk (Kd.S_below (by (with_reducible repeat (first | apply Kd.S_alloc | apply Kd.S_drewN | apply Kd.S_drew)); exact HO375.out) hb); have n1_ := Aside0.mk (below_step (by repeat (first | (with_reducible first | exact HB.out | apply below_alloc | apply pw_below_drewN | apply below_drew1) | exact HB.out)) hb); have n2_ := Aside0.mk (hbox); have n3_ := Aside0.mk ((by rw [hg]; exact (below_size (by repeat (first | (with_reducible first | exact HB.out | apply below_alloc | apply pw_below_drewN | apply below_drew1) | exact HB.out))) : w.heap.size ≤ gb380)); have n4_ := Aside0.mk ((by rw [hg]; exact (below_size (by repeat (first | (with_reducible first | exact HB.out | apply below_alloc | apply pw_below_drewN | apply below_drew1) | exact HB.out))) : w.heap.size ≤ gb380)); clear HO375; clear HB; have HO375 := n0_; have HB := n1_; have BK380 := n2_; have GW380 := n3_; have GE380 := n4_; clear n0_ n1_ n2_ n3_ n4_; clear hb hbox hg; have hcz58_0 : w57.cell? ⟨gb380, 0, none⟩ = some (.int .i64 0) := (blk_cell BK380.out 0).trans rfl; have hcz58_1 : w57.cell? ⟨gb380, 1, none⟩ = some (.int .i64 0) := (blk_cell BK380.out 1).trans rfl; have hcz58_2 : w57.cell? ⟨gb380, 2, none⟩ = some (.int .i64 0) := (blk_cell BK380.out 2).trans rfl; have hcz58_3 : w57.cell? ⟨gb380, 3, none⟩ = some (.int .i64 0) := (blk_cell BK380.out 3).trans rfl; have hfz58_0 := blk_frozen BK380.out 0; have hfz58_1 := blk_frozen BK380.out 1; have hfz58_2 := blk_frozen BK380.out 2; have hfz58_3 := blk_frozen BK380.out 3) | ((with_reducible refine gate_callee (f := 9) rfl ?_); refine goesL_ (some 104) rfl rfl Try.func9 (by kernel_rfl) rfl #[.string x4_2] rfl (by (try simp only [List.map_toArray, List.map_cons, List.map_nil]); first | done | rfl | (simp only [List.length_drop, List.length_take]; rfl)) ?_; (with_reducible refine (cread_Rows.calls x4_2 t381 t384 t385 t386 t387 _ A29.out).mono ?_); rintro e w59 ⟨v382, rfl, ho0, hb⟩; refine ⟨_, rfl, ?_⟩; have n0_ := Aside0.mk (Kd.S_elder' (by (with_reducible repeat (first | apply Kd.S_alloc | apply Kd.S_drewN | apply Kd.S_drew)); exact (Kd.S_mono (Kd.S_far (p := ⟨gb380, 3, none⟩) (Kd.S_far (p := ⟨gb380, 2, none⟩) (Kd.S_far (p := ⟨gb380, 1, none⟩) (Kd.S_far (p := ⟨gb380, 0, none⟩) (Kd.S_types HO375.out BK380.out (by decide)) (fun _ hk => hk.2) (.int .i64 t376)) (fun _ hk => hk.2) (.int .i64 t377)) (fun _ hk => hk.2) (.int .i64 t378)) (fun _ hk => hk.2) (.int .i64 t379)) (fun _ h_ => h_.1))) (Kd.S_base ho0) hb); have n1_ := Aside0.mk (Kd.S_lower (Kd.S_new' ho0 (Kd.S_lt (by (with_reducible repeat (first | apply Kd.S_alloc | apply Kd.S_drewN | apply Kd.S_drew)); exact (Kd.S_mono (Kd.S_far (p := ⟨gb380, 3, none⟩) (Kd.S_far (p := ⟨gb380, 2, none⟩) (Kd.S_far (p := ⟨gb380, 1, none⟩) (Kd.S_far (p := ⟨gb380, 0, none⟩) (Kd.S_types HO375.out BK380.out (by decide)) (fun _ hk => hk.2) (.int .i64 t376)) (fun _ hk => hk.2) (.int .i64 t377)) (fun _ hk => hk.2) (.int .i64 t378)) (fun _ hk => hk.2) (.int .i64 t379)) (fun _ h_ => h_.1))))) (below_size (by repeat (first | (with_reducible first | exact HB.out | apply below_alloc | apply pw_below_drewN | apply below_drew1 | refine below_set ?_ GE380.out) | exact HB.out)))); have n2_ := Aside0.mk (blk_below (g := gb380) (o := .cells #[.int .i64 t376, .int .i64 t377, .int .i64 t378, .int .i64 t379] 26 (0, 0)) (by (with_reducible repeat (first | refine blk_drewN ?_ _ | refine blk_drew ?_ | refine blk_alloc ?_ _)); refine blk_put (cs := #[.int .i64 t376, .int .i64 t377, .int .i64 t378, .int .i64 0]) ?_ 3 _ rfl; (with_reducible repeat (first | refine blk_drewN ?_ _ | refine blk_drew ?_ | refine blk_alloc ?_ _)); refine blk_put (cs := #[.int .i64 t376, .int .i64 t377, .int .i64 0, .int .i64 0]) ?_ 2 _ rfl; (with_reducible repeat (first | refine blk_drewN ?_ _ | refine blk_drew ?_ | refine blk_alloc ?_ _)); refine blk_put (cs := #[.int .i64 t376, .int .i64 0, .int .i64 0, .int .i64 0]) ?_ 1 _ rfl; (with_reducible repeat (first | refine blk_drewN ?_ _ | refine blk_drew ?_ | refine blk_alloc ?_ _)); refine blk_put (cs := #[.int .i64 0, .int .i64 0, .int .i64 0, .int .i64 0]) ?_ 0 _ rfl; (with_reducible repeat (first | refine blk_drewN ?_ _ | refine blk_drew ?_ | refine blk_alloc ?_ _)); exact BK380.out) hb); have n3_ := Aside0.mk (below_step (by repeat (first | (with_reducible first | exact HB.out | apply below_alloc | apply pw_below_drewN | apply below_drew1 | refine below_set ?_ GE380.out) | exact HB.out)) hb); clear HO375; clear BK380; clear HB; have HO375 := n0_; have HO383 := n1_; have BK380 := n2_; have HB := n3_; clear n0_ n1_ n2_ n3_; (try clear hb); (try clear hb2); (try clear hk); (try clear hi); (try clear ho0)) | ((with_reducible refine gate_dst (N := 10) rfl ?_); (try (refine gate_guard (by rfl) ?_; dsimp only)); refine box_event ?hg (N := 10) ?hd (cs := #[.int .i64 0, .int .i64 0, .int .i64 0, .int .i64 0]) (t := 26) ?hr ?_; (case hd => rfl); (case hg => rfl); (case hr => first | (go_simp; done) | (go_simp; rfl)); intro gb388 hg w60 hbox hb; have n0_ := Aside0.mk (Kd.S_below (by (with_reducible repeat (first | apply Kd.S_alloc | apply Kd.S_drewN | apply Kd.S_drew)); exact HO375.out) hb); have n1_ := Aside0.mk (Kd.S_below (by (with_reducible repeat (first | apply Kd.S_alloc | apply Kd.S_drewN | apply Kd.S_drew)); exact HO383.out) hb); have n2_ := Aside0.mk (blk_below (g := gb380) (o := .cells #[.int .i64 t376, .int .i64 t377, .int .i64 t378, .int .i64 t379] 26 (0, 0)) (by (with_reducible repeat (first | refine blk_drewN ?_ _ | refine blk_drew ?_ | refine blk_alloc ?_ _)); exact BK380.out) hb); have n3_ := Aside0.mk (below_step (by repeat (first | (with_reducible first | exact HB.out | apply below_alloc | apply pw_below_drewN | apply below_drew1 | refine below_set ?_ GE380.out) | exact HB.out)) hb); have n4_ := Aside0.mk (hbox); have n5_ := Aside0.mk ((by rw [hg]; exact (below_size (by repeat (first | (with_reducible first | exact HB.out | apply below_alloc | apply pw_below_drewN | apply below_drew1 | refine below_set ?_ GE380.out) | exact HB.out))) : w.heap.size ≤ gb388)); have n6_ := Aside0.mk ((by rw [hg]; exact (below_size (by repeat (first | (with_reducible first | exact HB.out | apply below_alloc | apply pw_below_drewN | apply below_drew1 | refine below_set ?_ GE380.out) | exact HB.out))) : w.heap.size ≤ gb388)); have n7_ := Aside0.mk ((by rw [hg]; exact Nat.ne_of_lt (blk_lt (g := gb380) (o := .cells #[.int .i64 t376, .int .i64 t377, .int .i64 t378, .int .i64 t379] 26 (0, 0)) (by (with_reducible repeat (first | refine blk_drewN ?_ _ | refine blk_drew ?_ | refine blk_alloc ?_ _)); exact BK380.out)) : gb380 ≠ gb388)); have n8_ := Aside0.mk ((by rw [hg]; exact Nat.ne_of_gt (blk_lt (g := gb380) (o := .cells #[.int .i64 t376, .int .i64 t377, .int .i64 t378, .int .i64 t379] 26 (0, 0)) (by (with_reducible repeat (first | refine blk_drewN ?_ _ | refine blk_drew ?_ | refine blk_alloc ?_ _)); exact BK380.out)) : gb388 ≠ gb380)); clear HO375; clear HO383; clear BK380; clear HB; have HO375 := n0_; have HO383 := n1_; have BK380 := n2_; have HB := n3_; have BK388 := n4_; have GW388 := n5_; have GE388 := n6_; have NB380_388 := n7_; have NB388_380 := n8_; clear n0_ n1_ n2_ n3_ n4_ n5_ n6_ n7_ n8_; clear hb hbox hg; have hnb61 := NB388_380.out; have hnc61 := NB380_388.out; have hcz62_0 : w60.cell? ⟨gb388, 0, none⟩ = some (.int .i64 0) := (blk_cell BK388.out 0).trans rfl; have hcz62_1 : w60.cell? ⟨gb388, 1, none⟩ = some (.int .i64 0) := (blk_cell BK388.out 1).trans rfl; have hcz62_2 : w60.cell? ⟨gb388, 2, none⟩ = some (.int .i64 0) := (blk_cell BK388.out 2).trans rfl; have hcz62_3 : w60.cell? ⟨gb388, 3, none⟩ = some (.int .i64 0) := (blk_cell BK388.out 3).trans rfl; have hfz62_0 := blk_frozen BK388.out 0; have hfz62_1 := blk_frozen BK388.out 1; have hfz62_2 := blk_frozen BK388.out 2; have hfz62_3 := blk_frozen BK388.out 3) | ((with_reducible refine gate_callee (f := 9) rfl ?_); refine goesL_ (some 113) rfl rfl Try.func9 (by kernel_rfl) rfl #[.string (x3_2.extract 0 ((ji30) : Int).toNat)] rfl (by (try simp only [List.map_toArray, List.map_cons, List.map_nil]); first | done | (simp only [hji30]; rfl) | rfl | (simp only [List.length_drop, List.length_take]; rfl)) ?_; (with_reducible refine (cread_Rows.calls (x3_2.extract 0 ((ji30) : Int).toNat) t389 t392 t393 t394 t395 _ A33.out).mono ?_); rintro e w63 ⟨v390, rfl, ho0, hb⟩; refine ⟨_, rfl, ?_⟩; have n0_ := Aside0.mk (Kd.S_elder' (by (with_reducible repeat (first | apply Kd.S_alloc | apply Kd.S_drewN | apply Kd.S_drew)); exact (Kd.S_mono (Kd.S_far (p := ⟨gb388, 3, none⟩) (Kd.S_far (p := ⟨gb388, 2, none⟩) (Kd.S_far (p := ⟨gb388, 1, none⟩) (Kd.S_far (p := ⟨gb388, 0, none⟩) (Kd.S_types HO375.out BK388.out (by decide)) (fun _ hk => hk.2) (.int .i64 t384)) (fun _ hk => hk.2) (.int .i64 t385)) (fun _ hk => hk.2) (.int .i64 t386)) (fun _ hk => hk.2) (.int .i64 t387)) (fun _ h_ => h_.1))) (Kd.S_base ho0) hb); have n1_ := Aside0.mk (Kd.S_elder' (by (with_reducible repeat (first | apply Kd.S_alloc | apply Kd.S_drewN | apply Kd.S_drew)); exact (Kd.S_mono (Kd.S_far (p := ⟨gb388, 3, none⟩) (Kd.S_far (p := ⟨gb388, 2, none⟩) (Kd.S_far (p := ⟨gb388, 1, none⟩) (Kd.S_far (p := ⟨gb388, 0, none⟩) (Kd.S_types HO383.out BK388.out (by decide)) (fun _ hk => hk.2) (.int .i64 t384)) (fun _ hk => hk.2) (.int .i64 t385)) (fun _ hk => hk.2) (.int .i64 t386)) (fun _ hk => hk.2) (.int .i64 t387)) (fun _ h_ => h_.1))) (Kd.S_base ho0) hb); have n2_ := Aside0.mk (Kd.S_lower (Kd.S_new' (Kd.S_new' ho0 (Kd.S_lt (by (with_reducible repeat (first | apply Kd.S_alloc | apply Kd.S_drewN | apply Kd.S_drew)); exact (Kd.S_mono (Kd.S_far (p := ⟨gb388, 3, none⟩) (Kd.S_far (p := ⟨gb388, 2, none⟩) (Kd.S_far (p := ⟨gb388, 1, none⟩) (Kd.S_far (p := ⟨gb388, 0, none⟩) (Kd.S_types HO375.out BK388.out (by decide)) (fun _ hk => hk.2) (.int .i64 t384)) (fun _ hk => hk.2) (.int .i64 t385)) (fun _ hk => hk.2) (.int .i64 t386)) (fun _ hk => hk.2) (.int .i64 t387)) (fun _ h_ => h_.1))))) (Kd.S_lt (by (with_reducible repeat (first | apply Kd.S_alloc | apply Kd.S_drewN | apply Kd.S_drew)); exact (Kd.S_mono (Kd.S_far (p := ⟨gb388, 3, none⟩) (Kd.S_far (p := ⟨gb388, 2, none⟩) (Kd.S_far (p := ⟨gb388, 1, none⟩) (Kd.S_far (p := ⟨gb388, 0, none⟩) (Kd.S_types HO383.out BK388.out (by decide)) (fun _ hk => hk.2) (.int .i64 t384)) (fun _ hk => hk.2) (.int .i64 t385)) (fun _ hk => hk.2) (.int .i64 t386)) (fun _ hk => hk.2) (.int .i64 t387)) (fun _ h_ => h_.1))))) (below_size (by repeat (first | (with_reducible first | exact HB.out | apply below_alloc | apply pw_below_drewN | apply below_drew1 | refine below_set ?_ GE380.out | refine below_set ?_ GE388.out) | exact HB.out)))); have n3_ := Aside0.mk (blk_below (g := gb380) (o := .cells #[.int .i64 t376, .int .i64 t377, .int .i64 t378, .int .i64 t379] 26 (0, 0)) (by (with_reducible repeat (first | refine blk_drewN ?_ _ | refine blk_drew ?_ | refine blk_alloc ?_ _)); refine blk_far ?_ NB380_388.out _; (with_reducible repeat (first | refine blk_drewN ?_ _ | refine blk_drew ?_ | refine blk_alloc ?_ _)); refine blk_far ?_ NB380_388.out _; (with_reducible repeat (first | refine blk_drewN ?_ _ | refine blk_drew ?_ | refine blk_alloc ?_ _)); refine blk_far ?_ NB380_388.out _; (with_reducible repeat (first | refine blk_drewN ?_ _ | refine blk_drew ?_ | refine blk_alloc ?_ _)); refine blk_far ?_ NB380_388.out _; (with_reducible repeat (first | refine blk_drewN ?_ _ | refine blk_drew ?_ | refine blk_alloc ?_ _)); exact BK380.out) hb); have n4_ := Aside0.mk (blk_below (g := gb388) (o := .cells #[.int .i64 t384, .int .i64 t385, .int .i64 t386, .int .i64 t387] 26 (0, 0)) (by (with_reducible repeat (first | refine blk_drewN ?_ _ | refine blk_drew ?_ | refine blk_alloc ?_ _)); refine blk_put (cs := #[.int .i64 t384, .int .i64 t385, .int .i64 t386, .int .i64 0]) ?_ 3 _ rfl; (with_reducible repeat (first | refine blk_drewN ?_ _ | refine blk_drew ?_ | refine blk_alloc ?_ _)); refine blk_put (cs := #[.int .i64 t384, .int .i64 t385, .int .i64 0, .int .i64 0]) ?_ 2 _ rfl; (with_reducible repeat (first | refine blk_drewN ?_ _ | refine blk_drew ?_ | refine blk_alloc ?_ _)); refine blk_put (cs := #[.int .i64 t384, .int .i64 0, .int .i64 0, .int .i64 0]) ?_ 1 _ rfl; (with_reducible repeat (first | refine blk_drewN ?_ _ | refine blk_drew ?_ | refine blk_alloc ?_ _)); refine blk_put (cs := #[.int .i64 0, .int .i64 0, .int .i64 0, .int .i64 0]) ?_ 0 _ rfl; (with_reducible repeat (first | refine blk_drewN ?_ _ | refine blk_drew ?_ | refine blk_alloc ?_ _)); exact BK388.out) hb); have n5_ := Aside0.mk (below_step (by repeat (first | (with_reducible first | exact HB.out | apply below_alloc | apply pw_below_drewN | apply below_drew1 | refine below_set ?_ GE380.out | refine below_set ?_ GE388.out) | exact HB.out)) hb); clear HO375; clear HO383; clear BK380; clear BK388; clear HB; have HO375 := n0_; have HO383 := n1_; have HO391 := n2_; have BK380 := n3_; have BK388 := n4_; have HB := n5_; clear n0_ n1_ n2_ n3_ n4_ n5_; (try clear hb); (try clear hb2); (try clear hk); (try clear hi); (try clear ho0)) | ((with_reducible refine gate_dst (N := 12) rfl ?_); (try (refine gate_guard (by rfl) ?_; dsimp only)); refine box_event ?hg (N := 12) ?hd (cs := #[.int .i64 0, .int .i64 0, .int .i64 0, .int .i64 0]) (t := 26) ?hr ?_; (case hd => rfl); (case hg => rfl); (case hr => first | (go_simp; done) | (go_simp; rfl)); intro gb396 hg w64 hbox hb; have n0_ := Aside0.mk (Kd.S_below (by (with_reducible repeat (first | apply Kd.S_alloc | apply Kd.S_drewN | apply Kd.S_drew)); exact HO375.out) hb); have n1_ := Aside0.mk (Kd.S_below (by (with_reducible repeat (first | apply Kd.S_alloc | apply Kd.S_drewN | apply Kd.S_drew)); exact HO383.out) hb); have n2_ := Aside0.mk (Kd.S_below (by (with_reducible repeat (first | apply Kd.S_alloc | apply Kd.S_drewN | apply Kd.S_drew)); exact HO391.out) hb); have n3_ := Aside0.mk (blk_below (g := gb380) (o := .cells #[.int .i64 t376, .int .i64 t377, .int .i64 t378, .int .i64 t379] 26 (0, 0)) (by (with_reducible repeat (first | refine blk_drewN ?_ _ | refine blk_drew ?_ | refine blk_alloc ?_ _)); exact BK380.out) hb); have n4_ := Aside0.mk (blk_below (g := gb388) (o := .cells #[.int .i64 t384, .int .i64 t385, .int .i64 t386, .int .i64 t387] 26 (0, 0)) (by (with_reducible repeat (first | refine blk_drewN ?_ _ | refine blk_drew ?_ | refine blk_alloc ?_ _)); exact BK388.out) hb); have n5_ := Aside0.mk (below_step (by repeat (first | (with_reducible first | exact HB.out | apply below_alloc | apply pw_below_drewN | apply below_drew1 | refine below_set ?_ GE380.out | refine below_set ?_ GE388.out) | exact HB.out)) hb); have n6_ := Aside0.mk (hbox); have n7_ := Aside0.mk ((by rw [hg]; exact (below_size (by repeat (first | (with_reducible first | exact HB.out | apply below_alloc | apply pw_below_drewN | apply below_drew1 | refine below_set ?_ GE380.out | refine below_set ?_ GE388.out) | exact HB.out))) : w.heap.size ≤ gb396)); have n8_ := Aside0.mk ((by rw [hg]; exact (below_size (by repeat (first | (with_reducible first | exact HB.out | apply below_alloc | apply pw_below_drewN | apply below_drew1 | refine below_set ?_ GE380.out | refine below_set ?_ GE388.out) | exact HB.out))) : w.heap.size ≤ gb396)); have n9_ := Aside0.mk ((by rw [hg]; exact Nat.ne_of_lt (blk_lt (g := gb380) (o := .cells #[.int .i64 t376, .int .i64 t377, .int .i64 t378, .int .i64 t379] 26 (0, 0)) (by (with_reducible repeat (first | refine blk_drewN ?_ _ | refine blk_drew ?_ | refine blk_alloc ?_ _)); exact BK380.out)) : gb380 ≠ gb396)); have n10_ := Aside0.mk ((by rw [hg]; exact Nat.ne_of_gt (blk_lt (g := gb380) (o := .cells #[.int .i64 t376, .int .i64 t377, .int .i64 t378, .int .i64 t379] 26 (0, 0)) (by (with_reducible repeat (first | refine blk_drewN ?_ _ | refine blk_drew ?_ | refine blk_alloc ?_ _)); exact BK380.out)) : gb396 ≠ gb380)); have n11_ := Aside0.mk ((by rw [hg]; exact Nat.ne_of_lt (blk_lt (g := gb388) (o := .cells #[.int .i64 t384, .int .i64 t385, .int .i64 t386, .int .i64 t387] 26 (0, 0)) (by (with_reducible repeat (first | refine blk_drewN ?_ _ | refine blk_drew ?_ | refine blk_alloc ?_ _)); exact BK388.out)) : gb388 ≠ gb396)); have n12_ := Aside0.mk ((by rw [hg]; exact Nat.ne_of_gt (blk_lt (g := gb388) (o := .cells #[.int .i64 t384, .int .i64 t385, .int .i64 t386, .int .i64 t387] 26 (0, 0)) (by (with_reducible repeat (first | refine blk_drewN ?_ _ | refine blk_drew ?_ | refine blk_alloc ?_ _)); exact BK388.out)) : gb396 ≠ gb388)); clear HO375; clear HO383; clear HO391; clear BK380; clear BK388; clear HB; have HO375 := n0_; have HO383 := n1_; have HO391 := n2_; have BK380 := n3_; have BK388 := n4_; have HB := n5_; have BK396 := n6_; have GW396 := n7_; have GE396 := n8_; have NB380_396 := n9_; have NB396_380 := n10_; have NB388_396 := n11_; have NB396_388 := n12_; clear n0_ n1_ n2_ n3_ n4_ n5_ n6_ n7_ n8_ n9_ n10_ n11_ n12_; clear hb hbox hg; have hnb65 := NB396_380.out; have hnc65 := NB380_396.out; have hnb66 := NB396_388.out; have hnc66 := NB388_396.out; have hcz67_0 : w64.cell? ⟨gb396, 0, none⟩ = some (.int .i64 0) := (blk_cell BK396.out 0).trans rfl; have hcz67_1 : w64.cell? ⟨gb396, 1, none⟩ = some (.int .i64 0) := (blk_cell BK396.out 1).trans rfl; have hcz67_2 : w64.cell? ⟨gb396, 2, none⟩ = some (.int .i64 0) := (blk_cell BK396.out 2).trans rfl; have hcz67_3 : w64.cell? ⟨gb396, 3, none⟩ = some (.int .i64 0) := (blk_cell BK396.out 3).trans rfl; have hfz67_0 := blk_frozen BK396.out 0; have hfz67_1 := blk_frozen BK396.out 1; have hfz67_2 := blk_frozen BK396.out 2; have hfz67_3 := blk_frozen BK396.out 3; have hcz68_0 : w64.cell? ⟨gb380, 0, none⟩ = some (.int .i64 t376) := (blk_cell BK380.out 0).trans rfl; have hcz68_1 : w64.cell? ⟨gb380, 1, none⟩ = some (.int .i64 t377) := (blk_cell BK380.out 1).trans rfl; have hcz68_2 : w64.cell? ⟨gb380, 2, none⟩ = some (.int .i64 t378) := (blk_cell BK380.out 2).trans rfl; have hcz68_3 : w64.cell? ⟨gb380, 3, none⟩ = some (.int .i64 t379) := (blk_cell BK380.out 3).trans rfl; have hfz68_0 := blk_frozen BK380.out 0; have hfz68_1 := blk_frozen BK380.out 1; have hfz68_2 := blk_frozen BK380.out 2; have hfz68_3 := blk_frozen BK380.out 3; have hcz69_0 : w64.cell? ⟨gb388, 0, none⟩ = some (.int .i64 t384) := (blk_cell BK388.out 0).trans rfl; have hcz69_1 : w64.cell? ⟨gb388, 1, none⟩ = some (.int .i64 t385) := (blk_cell BK388.out 1).trans rfl; have hcz69_2 : w64.cell? ⟨gb388, 2, none⟩ = some (.int .i64 t386) := (blk_cell BK388.out 2).trans rfl; have hcz69_3 : w64.cell? ⟨gb388, 3, none⟩ = some (.int .i64 t387) := (blk_cell BK388.out 3).trans rfl; have hfz69_0 := blk_frozen BK388.out 0; have hfz69_1 := blk_frozen BK388.out 1; have hfz69_2 := blk_frozen BK388.out 2; have hfz69_3 := blk_frozen BK388.out 3; obtain ⟨Ao70, co70, eo70⟩ := Kd.S_slice HO375.out; subst eo70; obtain ⟨Ao71, co71, eo71⟩ := Kd.S_slice HO383.out; subst eo71) | (go_at_call 13; (with_reducible refine (dragomanref17_Rows.calls k2 _ _ t373 _ _ t381 false _ ?side1 ?side2 ?side3 ?side4 A36.out).mono ?_); (case side1 => refine (Kd.S_reads' (e := 29) (base := w.heap.size) (ok := fun k_ => ((True ∧ some k_ ≠ (.slice Ao71 t381.length co71 : Value).ownBlock) ∧ some k_ ≠ (v390 : Value).ownBlock)) (n := t373.length) (c := co70) ?_).2.2; exact (by (with_reducible repeat (first | apply Kd.S_alloc | apply Kd.S_drewN | apply Kd.S_drew)); exact (Kd.S_mono (Kd.S_far (p := ⟨gb396, 3, none⟩) (Kd.S_far (p := ⟨gb396, 2, none⟩) (Kd.S_far (p := ⟨gb396, 1, none⟩) (Kd.S_far (p := ⟨gb396, 0, none⟩) (Kd.S_types HO375.out BK396.out (by decide)) (fun _ hk => hk.2) (.int .i64 t392)) (fun _ hk => hk.2) (.int .i64 t393)) (fun _ hk => hk.2) (.int .i64 t394)) (fun _ hk => hk.2) (.int .i64 t395)) (fun _ h_ => h_.1)))); (case side2 => exact (Kd.S_reads' HO375.out).2.1); (case side3 => refine (Kd.S_reads' (e := 29) (base := w.heap.size) (ok := fun k_ => ((True ∧ some k_ ≠ (.slice Ao70 t373.length co70 : Value).ownBlock) ∧ some k_ ≠ (v390 : Value).ownBlock)) (n := t381.length) (c := co71) ?_).2.2; exact (by (with_reducible repeat (first | apply Kd.S_alloc | apply Kd.S_drewN | apply Kd.S_drew)); exact (Kd.S_mono (Kd.S_far (p := ⟨gb396, 3, none⟩) (Kd.S_far (p := ⟨gb396, 2, none⟩) (Kd.S_far (p := ⟨gb396, 1, none⟩) (Kd.S_far (p := ⟨gb396, 0, none⟩) (Kd.S_types HO383.out BK396.out (by decide)) (fun _ hk => hk.2) (.int .i64 t392)) (fun _ hk => hk.2) (.int .i64 t393)) (fun _ hk => hk.2) (.int .i64 t394)) (fun _ hk => hk.2) (.int .i64 t395)) (fun _ h_ => h_.1)))); (case side4 => exact (Kd.S_reads' HO383.out).2.1); rintro e w' ⟨rfl, ⟨nd, rfl⟩⟩))
             go_ret
             exact ⟨by first | rfl | (simp [errW_none, errW_some] <;> rfl) | (simp [*, errW_none, errW_some, bne]; done) | (simp only [← hji30]; first | rfl | (simp [errW_none, errW_some] <;> rfl)) | (simp [*, errW_none, errW_some] <;> rfl), by repeat (first | (with_reducible first | exact HB.out | apply below_alloc | apply pw_below_drewN | apply below_drew1 | refine below_set ?_ GE380.out | refine below_set ?_ GE388.out | refine below_set ?_ GE396.out) | exact HB.out)⟩
           ·rw [if_neg c35] at H
            have c35b0 : (t376 == t392) = false := beq_eq_false_iff_ne.mpr c35
            have c35b1 : (t376 != t392) = true := bne_iff_ne.mpr c35
            obtain rfl := Option.some.inj H
            go_wp2_with (first | ((with_reducible refine gate_callee (f := 9) rfl ?_); refine goesL_ (some 99) rfl rfl Try.func9 (by kernel_rfl) rfl #[.string x3_2] rfl (by (try simp only [List.map_toArray, List.map_cons, List.map_nil]); first | done | rfl | (simp only [List.length_drop, List.length_take]; rfl)) ?_; (with_reducible refine (cread_Rows.calls x3_2 t373 t376 t377 t378 t379 _ A28.out).mono ?_); rintro e w72 ⟨v374, rfl, ho0, hb⟩; refine ⟨_, rfl, ?_⟩; have n0_ := Aside0.mk (Kd.S_lower ho0 (below_size (by repeat (first | (with_reducible first | exact HB.out | apply below_alloc | apply pw_below_drewN | apply below_drew1) | exact HB.out)))); have n1_ := Aside0.mk (below_step (by repeat (first | (with_reducible first | exact HB.out | apply below_alloc | apply pw_below_drewN | apply below_drew1) | exact HB.out)) hb); clear HB; have HO375 := n0_; have HB := n1_; clear n0_ n1_; (try clear hb); (try clear hb2); (try clear hk); (try clear hi); (try clear ho0)) | ((with_reducible refine gate_dst (N := 8) rfl ?_); (try (refine gate_guard (by rfl) ?_; dsimp only)); refine box_event ?hg (N := 8) ?hd (cs := #[.int .i64 0, .int .i64 0, .int .i64 0, .int .i64 0]) (t := 26) ?hr ?_; (case hd => rfl); (case hg => rfl); (case hr => first | (go_simp; done) | (go_simp; rfl)); intro gb380 hg w73 hbox hb; have n0_ := Aside0.mk (Kd.S_below (by (with_reducible repeat (first | apply Kd.S_alloc | apply Kd.S_drewN | apply Kd.S_drew)); exact HO375.out) hb); have n1_ := Aside0.mk (below_step (by repeat (first | (with_reducible first | exact HB.out | apply below_alloc | apply pw_below_drewN | apply below_drew1) | exact HB.out)) hb); have n2_ := Aside0.mk (hbox); have n3_ := Aside0.mk ((by rw [hg]; exact (below_size (by repeat (first | (with_reducible first | exact HB.out | apply below_alloc | apply pw_below_drewN | apply below_drew1) | exact HB.out))) : w.heap.size ≤ gb380)); have n4_ := Aside0.mk ((by rw [hg]; exact (below_size (by repeat (first | (with_reducible first | exact HB.out | apply below_alloc | apply pw_below_drewN | apply below_drew1) | exact HB.out))) : w.heap.size ≤ gb380)); clear HO375; clear HB; have HO375 := n0_; have HB := n1_; have BK380 := n2_; have GW380 := n3_; have GE380 := n4_; clear n0_ n1_ n2_ n3_ n4_; clear hb hbox hg; have hcz74_0 : w73.cell? ⟨gb380, 0, none⟩ = some (.int .i64 0) := (blk_cell BK380.out 0).trans rfl; have hcz74_1 : w73.cell? ⟨gb380, 1, none⟩ = some (.int .i64 0) := (blk_cell BK380.out 1).trans rfl; have hcz74_2 : w73.cell? ⟨gb380, 2, none⟩ = some (.int .i64 0) := (blk_cell BK380.out 2).trans rfl; have hcz74_3 : w73.cell? ⟨gb380, 3, none⟩ = some (.int .i64 0) := (blk_cell BK380.out 3).trans rfl; have hfz74_0 := blk_frozen BK380.out 0; have hfz74_1 := blk_frozen BK380.out 1; have hfz74_2 := blk_frozen BK380.out 2; have hfz74_3 := blk_frozen BK380.out 3) | ((with_reducible refine gate_callee (f := 9) rfl ?_); refine goesL_ (some 104) rfl rfl Try.func9 (by kernel_rfl) rfl #[.string x4_2] rfl (by (try simp only [List.map_toArray, List.map_cons, List.map_nil]); first | done | rfl | (simp only [List.length_drop, List.length_take]; rfl)) ?_; (with_reducible refine (cread_Rows.calls x4_2 t381 t384 t385 t386 t387 _ A29.out).mono ?_); rintro e w75 ⟨v382, rfl, ho0, hb⟩; refine ⟨_, rfl, ?_⟩; have n0_ := Aside0.mk (Kd.S_elder' (by (with_reducible repeat (first | apply Kd.S_alloc | apply Kd.S_drewN | apply Kd.S_drew)); exact (Kd.S_mono (Kd.S_far (p := ⟨gb380, 3, none⟩) (Kd.S_far (p := ⟨gb380, 2, none⟩) (Kd.S_far (p := ⟨gb380, 1, none⟩) (Kd.S_far (p := ⟨gb380, 0, none⟩) (Kd.S_types HO375.out BK380.out (by decide)) (fun _ hk => hk.2) (.int .i64 t376)) (fun _ hk => hk.2) (.int .i64 t377)) (fun _ hk => hk.2) (.int .i64 t378)) (fun _ hk => hk.2) (.int .i64 t379)) (fun _ h_ => h_.1))) (Kd.S_base ho0) hb); have n1_ := Aside0.mk (Kd.S_lower (Kd.S_new' ho0 (Kd.S_lt (by (with_reducible repeat (first | apply Kd.S_alloc | apply Kd.S_drewN | apply Kd.S_drew)); exact (Kd.S_mono (Kd.S_far (p := ⟨gb380, 3, none⟩) (Kd.S_far (p := ⟨gb380, 2, none⟩) (Kd.S_far (p := ⟨gb380, 1, none⟩) (Kd.S_far (p := ⟨gb380, 0, none⟩) (Kd.S_types HO375.out BK380.out (by decide)) (fun _ hk => hk.2) (.int .i64 t376)) (fun _ hk => hk.2) (.int .i64 t377)) (fun _ hk => hk.2) (.int .i64 t378)) (fun _ hk => hk.2) (.int .i64 t379)) (fun _ h_ => h_.1))))) (below_size (by repeat (first | (with_reducible first | exact HB.out | apply below_alloc | apply pw_below_drewN | apply below_drew1 | refine below_set ?_ GE380.out) | exact HB.out)))); have n2_ := Aside0.mk (blk_below (g := gb380) (o := .cells #[.int .i64 t376, .int .i64 t377, .int .i64 t378, .int .i64 t379] 26 (0, 0)) (by (with_reducible repeat (first | refine blk_drewN ?_ _ | refine blk_drew ?_ | refine blk_alloc ?_ _)); refine blk_put (cs := #[.int .i64 t376, .int .i64 t377, .int .i64 t378, .int .i64 0]) ?_ 3 _ rfl; (with_reducible repeat (first | refine blk_drewN ?_ _ | refine blk_drew ?_ | refine blk_alloc ?_ _)); refine blk_put (cs := #[.int .i64 t376, .int .i64 t377, .int .i64 0, .int .i64 0]) ?_ 2 _ rfl; (with_reducible repeat (first | refine blk_drewN ?_ _ | refine blk_drew ?_ | refine blk_alloc ?_ _)); refine blk_put (cs := #[.int .i64 t376, .int .i64 0, .int .i64 0, .int .i64 0]) ?_ 1 _ rfl; (with_reducible repeat (first | refine blk_drewN ?_ _ | refine blk_drew ?_ | refine blk_alloc ?_ _)); refine blk_put (cs := #[.int .i64 0, .int .i64 0, .int .i64 0, .int .i64 0]) ?_ 0 _ rfl; (with_reducible repeat (first | refine blk_drewN ?_ _ | refine blk_drew ?_ | refine blk_alloc ?_ _)); exact BK380.out) hb); have n3_ := Aside0.mk (below_step (by repeat (first | (with_reducible first | exact HB.out | apply below_alloc | apply pw_below_drewN | apply below_drew1 | refine below_set ?_ GE380.out) | exact HB.out)) hb); clear HO375; clear BK380; clear HB; have HO375 := n0_; have HO383 := n1_; have BK380 := n2_; have HB := n3_; clear n0_ n1_ n2_ n3_; (try clear hb); (try clear hb2); (try clear hk); (try clear hi); (try clear ho0)) | ((with_reducible refine gate_dst (N := 10) rfl ?_); (try (refine gate_guard (by rfl) ?_; dsimp only)); refine box_event ?hg (N := 10) ?hd (cs := #[.int .i64 0, .int .i64 0, .int .i64 0, .int .i64 0]) (t := 26) ?hr ?_; (case hd => rfl); (case hg => rfl); (case hr => first | (go_simp; done) | (go_simp; rfl)); intro gb388 hg w76 hbox hb; have n0_ := Aside0.mk (Kd.S_below (by (with_reducible repeat (first | apply Kd.S_alloc | apply Kd.S_drewN | apply Kd.S_drew)); exact HO375.out) hb); have n1_ := Aside0.mk (Kd.S_below (by (with_reducible repeat (first | apply Kd.S_alloc | apply Kd.S_drewN | apply Kd.S_drew)); exact HO383.out) hb); have n2_ := Aside0.mk (blk_below (g := gb380) (o := .cells #[.int .i64 t376, .int .i64 t377, .int .i64 t378, .int .i64 t379] 26 (0, 0)) (by (with_reducible repeat (first | refine blk_drewN ?_ _ | refine blk_drew ?_ | refine blk_alloc ?_ _)); exact BK380.out) hb); have n3_ := Aside0.mk (below_step (by repeat (first | (with_reducible first | exact HB.out | apply below_alloc | apply pw_below_drewN | apply below_drew1 | refine below_set ?_ GE380.out) | exact HB.out)) hb); have n4_ := Aside0.mk (hbox); have n5_ := Aside0.mk ((by rw [hg]; exact (below_size (by repeat (first | (with_reducible first | exact HB.out | apply below_alloc | apply pw_below_drewN | apply below_drew1 | refine below_set ?_ GE380.out) | exact HB.out))) : w.heap.size ≤ gb388)); have n6_ := Aside0.mk ((by rw [hg]; exact (below_size (by repeat (first | (with_reducible first | exact HB.out | apply below_alloc | apply pw_below_drewN | apply below_drew1 | refine below_set ?_ GE380.out) | exact HB.out))) : w.heap.size ≤ gb388)); have n7_ := Aside0.mk ((by rw [hg]; exact Nat.ne_of_lt (blk_lt (g := gb380) (o := .cells #[.int .i64 t376, .int .i64 t377, .int .i64 t378, .int .i64 t379] 26 (0, 0)) (by (with_reducible repeat (first | refine blk_drewN ?_ _ | refine blk_drew ?_ | refine blk_alloc ?_ _)); exact BK380.out)) : gb380 ≠ gb388)); have n8_ := Aside0.mk ((by rw [hg]; exact Nat.ne_of_gt (blk_lt (g := gb380) (o := .cells #[.int .i64 t376, .int .i64 t377, .int .i64 t378, .int .i64 t379] 26 (0, 0)) (by (with_reducible repeat (first | refine blk_drewN ?_ _ | refine blk_drew ?_ | refine blk_alloc ?_ _)); exact BK380.out)) : gb388 ≠ gb380)); clear HO375; clear HO383; clear BK380; clear HB; have HO375 := n0_; have HO383 := n1_; have BK380 := n2_; have HB := n3_; have BK388 := n4_; have GW388 := n5_; have GE388 := n6_; have NB380_388 := n7_; have NB388_380 := n8_; clear n0_ n1_ n2_ n3_ n4_ n5_ n6_ n7_ n8_; clear hb hbox hg; have hnb77 := NB388_380.out; have hnc77 := NB380_388.out; have hcz78_0 : w76.cell? ⟨gb388, 0, none⟩ = some (.int .i64 0) := (blk_cell BK388.out 0).trans rfl; have hcz78_1 : w76.cell? ⟨gb388, 1, none⟩ = some (.int .i64 0) := (blk_cell BK388.out 1).trans rfl; have hcz78_2 : w76.cell? ⟨gb388, 2, none⟩ = some (.int .i64 0) := (blk_cell BK388.out 2).trans rfl; have hcz78_3 : w76.cell? ⟨gb388, 3, none⟩ = some (.int .i64 0) := (blk_cell BK388.out 3).trans rfl; have hfz78_0 := blk_frozen BK388.out 0; have hfz78_1 := blk_frozen BK388.out 1; have hfz78_2 := blk_frozen BK388.out 2; have hfz78_3 := blk_frozen BK388.out 3) | ((with_reducible refine gate_callee (f := 9) rfl ?_); refine goesL_ (some 113) rfl rfl Try.func9 (by kernel_rfl) rfl #[.string (x3_2.extract 0 ((ji30) : Int).toNat)] rfl (by (try simp only [List.map_toArray, List.map_cons, List.map_nil]); first | done | (simp only [hji30]; rfl) | rfl | (simp only [List.length_drop, List.length_take]; rfl)) ?_; (with_reducible refine (cread_Rows.calls (x3_2.extract 0 ((ji30) : Int).toNat) t389 t392 t393 t394 t395 _ A33.out).mono ?_); rintro e w79 ⟨v390, rfl, ho0, hb⟩; refine ⟨_, rfl, ?_⟩; have n0_ := Aside0.mk (Kd.S_elder' (by (with_reducible repeat (first | apply Kd.S_alloc | apply Kd.S_drewN | apply Kd.S_drew)); exact (Kd.S_mono (Kd.S_far (p := ⟨gb388, 3, none⟩) (Kd.S_far (p := ⟨gb388, 2, none⟩) (Kd.S_far (p := ⟨gb388, 1, none⟩) (Kd.S_far (p := ⟨gb388, 0, none⟩) (Kd.S_types HO375.out BK388.out (by decide)) (fun _ hk => hk.2) (.int .i64 t384)) (fun _ hk => hk.2) (.int .i64 t385)) (fun _ hk => hk.2) (.int .i64 t386)) (fun _ hk => hk.2) (.int .i64 t387)) (fun _ h_ => h_.1))) (Kd.S_base ho0) hb); have n1_ := Aside0.mk (Kd.S_elder' (by (with_reducible repeat (first | apply Kd.S_alloc | apply Kd.S_drewN | apply Kd.S_drew)); exact (Kd.S_mono (Kd.S_far (p := ⟨gb388, 3, none⟩) (Kd.S_far (p := ⟨gb388, 2, none⟩) (Kd.S_far (p := ⟨gb388, 1, none⟩) (Kd.S_far (p := ⟨gb388, 0, none⟩) (Kd.S_types HO383.out BK388.out (by decide)) (fun _ hk => hk.2) (.int .i64 t384)) (fun _ hk => hk.2) (.int .i64 t385)) (fun _ hk => hk.2) (.int .i64 t386)) (fun _ hk => hk.2) (.int .i64 t387)) (fun _ h_ => h_.1))) (Kd.S_base ho0) hb); have n2_ := Aside0.mk (Kd.S_lower (Kd.S_new' (Kd.S_new' ho0 (Kd.S_lt (by (with_reducible repeat (first | apply Kd.S_alloc | apply Kd.S_drewN | apply Kd.S_drew)); exact (Kd.S_mono (Kd.S_far (p := ⟨gb388, 3, none⟩) (Kd.S_far (p := ⟨gb388, 2, none⟩) (Kd.S_far (p := ⟨gb388, 1, none⟩) (Kd.S_far (p := ⟨gb388, 0, none⟩) (Kd.S_types HO375.out BK388.out (by decide)) (fun _ hk => hk.2) (.int .i64 t384)) (fun _ hk => hk.2) (.int .i64 t385)) (fun _ hk => hk.2) (.int .i64 t386)) (fun _ hk => hk.2) (.int .i64 t387)) (fun _ h_ => h_.1))))) (Kd.S_lt (by (with_reducible repeat (first | apply Kd.S_alloc | apply Kd.S_drewN | apply Kd.S_drew)); exact (Kd.S_mono (Kd.S_far (p := ⟨gb388, 3, none⟩) (Kd.S_far (p := ⟨gb388, 2, none⟩) (Kd.S_far (p := ⟨gb388, 1, none⟩) (Kd.S_far (p := ⟨gb388, 0, none⟩) (Kd.S_types HO383.out BK388.out (by decide)) (fun _ hk => hk.2) (.int .i64 t384)) (fun _ hk => hk.2) (.int .i64 t385)) (fun _ hk => hk.2) (.int .i64 t386)) (fun _ hk => hk.2) (.int .i64 t387)) (fun _ h_ => h_.1))))) (below_size (by repeat (first | (with_reducible first | exact HB.out | apply below_alloc | apply pw_below_drewN | apply below_drew1 | refine below_set ?_ GE380.out | refine below_set ?_ GE388.out) | exact HB.out)))); have n3_ := Aside0.mk (blk_below (g := gb380) (o := .cells #[.int .i64 t376, .int .i64 t377, .int .i64 t378, .int .i64 t379] 26 (0, 0)) (by (with_reducible repeat (first | refine blk_drewN ?_ _ | refine blk_drew ?_ | refine blk_alloc ?_ _)); refine blk_far ?_ NB380_388.out _; (with_reducible repeat (first | refine blk_drewN ?_ _ | refine blk_drew ?_ | refine blk_alloc ?_ _)); refine blk_far ?_ NB380_388.out _; (with_reducible repeat (first | refine blk_drewN ?_ _ | refine blk_drew ?_ | refine blk_alloc ?_ _)); refine blk_far ?_ NB380_388.out _; (with_reducible repeat (first | refine blk_drewN ?_ _ | refine blk_drew ?_ | refine blk_alloc ?_ _)); refine blk_far ?_ NB380_388.out _; (with_reducible repeat (first | refine blk_drewN ?_ _ | refine blk_drew ?_ | refine blk_alloc ?_ _)); exact BK380.out) hb); have n4_ := Aside0.mk (blk_below (g := gb388) (o := .cells #[.int .i64 t384, .int .i64 t385, .int .i64 t386, .int .i64 t387] 26 (0, 0)) (by (with_reducible repeat (first | refine blk_drewN ?_ _ | refine blk_drew ?_ | refine blk_alloc ?_ _)); refine blk_put (cs := #[.int .i64 t384, .int .i64 t385, .int .i64 t386, .int .i64 0]) ?_ 3 _ rfl; (with_reducible repeat (first | refine blk_drewN ?_ _ | refine blk_drew ?_ | refine blk_alloc ?_ _)); refine blk_put (cs := #[.int .i64 t384, .int .i64 t385, .int .i64 0, .int .i64 0]) ?_ 2 _ rfl; (with_reducible repeat (first | refine blk_drewN ?_ _ | refine blk_drew ?_ | refine blk_alloc ?_ _)); refine blk_put (cs := #[.int .i64 t384, .int .i64 0, .int .i64 0, .int .i64 0]) ?_ 1 _ rfl; (with_reducible repeat (first | refine blk_drewN ?_ _ | refine blk_drew ?_ | refine blk_alloc ?_ _)); refine blk_put (cs := #[.int .i64 0, .int .i64 0, .int .i64 0, .int .i64 0]) ?_ 0 _ rfl; (with_reducible repeat (first | refine blk_drewN ?_ _ | refine blk_drew ?_ | refine blk_alloc ?_ _)); exact BK388.out) hb); have n5_ := Aside0.mk (below_step (by repeat (first | (with_reducible first | exact HB.out | apply below_alloc | apply pw_below_drewN | apply below_drew1 | refine below_set ?_ GE380.out | refine below_set ?_ GE388.out) | exact HB.out)) hb); clear HO375; clear HO383; clear BK380; clear BK388; clear HB; have HO375 := n0_; have HO383 := n1_; have HO391 := n2_; have BK380 := n3_; have BK388 := n4_; have HB := n5_; clear n0_ n1_ n2_ n3_ n4_ n5_; (try clear hb); (try clear hb2); (try clear hk); (try clear hi); (try clear ho0)) | ((with_reducible refine gate_dst (N := 12) rfl ?_); (try (refine gate_guard (by rfl) ?_; dsimp only)); refine box_event ?hg (N := 12) ?hd (cs := #[.int .i64 0, .int .i64 0, .int .i64 0, .int .i64 0]) (t := 26) ?hr ?_; (case hd => rfl); (case hg => rfl); (case hr => first | (go_simp; done) | (go_simp; rfl)); intro gb396 hg w80 hbox hb; have n0_ := Aside0.mk (Kd.S_below (by (with_reducible repeat (first | apply Kd.S_alloc | apply Kd.S_drewN | apply Kd.S_drew)); exact HO375.out) hb); have n1_ := Aside0.mk (Kd.S_below (by (with_reducible repeat (first | apply Kd.S_alloc | apply Kd.S_drewN | apply Kd.S_drew)); exact HO383.out) hb); have n2_ := Aside0.mk (Kd.S_below (by (with_reducible repeat (first | apply Kd.S_alloc | apply Kd.S_drewN | apply Kd.S_drew)); exact HO391.out) hb); have n3_ := Aside0.mk (blk_below (g := gb380) (o := .cells #[.int .i64 t376, .int .i64 t377, .int .i64 t378, .int .i64 t379] 26 (0, 0)) (by (with_reducible repeat (first | refine blk_drewN ?_ _ | refine blk_drew ?_ | refine blk_alloc ?_ _)); exact BK380.out) hb); have n4_ := Aside0.mk (blk_below (g := gb388) (o := .cells #[.int .i64 t384, .int .i64 t385, .int .i64 t386, .int .i64 t387] 26 (0, 0)) (by (with_reducible repeat (first | refine blk_drewN ?_ _ | refine blk_drew ?_ | refine blk_alloc ?_ _)); exact BK388.out) hb); have n5_ := Aside0.mk (below_step (by repeat (first | (with_reducible first | exact HB.out | apply below_alloc | apply pw_below_drewN | apply below_drew1 | refine below_set ?_ GE380.out | refine below_set ?_ GE388.out) | exact HB.out)) hb); have n6_ := Aside0.mk (hbox); have n7_ := Aside0.mk ((by rw [hg]; exact (below_size (by repeat (first | (with_reducible first | exact HB.out | apply below_alloc | apply pw_below_drewN | apply below_drew1 | refine below_set ?_ GE380.out | refine below_set ?_ GE388.out) | exact HB.out))) : w.heap.size ≤ gb396)); have n8_ := Aside0.mk ((by rw [hg]; exact (below_size (by repeat (first | (with_reducible first | exact HB.out | apply below_alloc | apply pw_below_drewN | apply below_drew1 | refine below_set ?_ GE380.out | refine below_set ?_ GE388.out) | exact HB.out))) : w.heap.size ≤ gb396)); have n9_ := Aside0.mk ((by rw [hg]; exact Nat.ne_of_lt (blk_lt (g := gb380) (o := .cells #[.int .i64 t376, .int .i64 t377, .int .i64 t378, .int .i64 t379] 26 (0, 0)) (by (with_reducible repeat (first | refine blk_drewN ?_ _ | refine blk_drew ?_ | refine blk_alloc ?_ _)); exact BK380.out)) : gb380 ≠ gb396)); have n10_ := Aside0.mk ((by rw [hg]; exact Nat.ne_of_gt (blk_lt (g := gb380) (o := .cells #[.int .i64 t376, .int .i64 t377, .int .i64 t378, .int .i64 t379] 26 (0, 0)) (by (with_reducible repeat (first | refine blk_drewN ?_ _ | refine blk_drew ?_ | refine blk_alloc ?_ _)); exact BK380.out)) : gb396 ≠ gb380)); have n11_ := Aside0.mk ((by rw [hg]; exact Nat.ne_of_lt (blk_lt (g := gb388) (o := .cells #[.int .i64 t384, .int .i64 t385, .int .i64 t386, .int .i64 t387] 26 (0, 0)) (by (with_reducible repeat (first | refine blk_drewN ?_ _ | refine blk_drew ?_ | refine blk_alloc ?_ _)); exact BK388.out)) : gb388 ≠ gb396)); have n12_ := Aside0.mk ((by rw [hg]; exact Nat.ne_of_gt (blk_lt (g := gb388) (o := .cells #[.int .i64 t384, .int .i64 t385, .int .i64 t386, .int .i64 t387] 26 (0, 0)) (by (with_reducible repeat (first | refine blk_drewN ?_ _ | refine blk_drew ?_ | refine blk_alloc ?_ _)); exact BK388.out)) : gb396 ≠ gb388)); clear HO375; clear HO383; clear HO391; clear BK380; clear BK388; clear HB; have HO375 := n0_; have HO383 := n1_; have HO391 := n2_; have BK380 := n3_; have BK388 := n4_; have HB := n5_; have BK396 := n6_; have GW396 := n7_; have GE396 := n8_; have NB380_396 := n9_; have NB396_380 := n10_; have NB388_396 := n11_; have NB396_388 := n12_; clear n0_ n1_ n2_ n3_ n4_ n5_ n6_ n7_ n8_ n9_ n10_ n11_ n12_; clear hb hbox hg; have hnb81 := NB396_380.out; have hnc81 := NB380_396.out; have hnb82 := NB396_388.out; have hnc82 := NB388_396.out; have hcz83_0 : w80.cell? ⟨gb396, 0, none⟩ = some (.int .i64 0) := (blk_cell BK396.out 0).trans rfl; have hcz83_1 : w80.cell? ⟨gb396, 1, none⟩ = some (.int .i64 0) := (blk_cell BK396.out 1).trans rfl; have hcz83_2 : w80.cell? ⟨gb396, 2, none⟩ = some (.int .i64 0) := (blk_cell BK396.out 2).trans rfl; have hcz83_3 : w80.cell? ⟨gb396, 3, none⟩ = some (.int .i64 0) := (blk_cell BK396.out 3).trans rfl; have hfz83_0 := blk_frozen BK396.out 0; have hfz83_1 := blk_frozen BK396.out 1; have hfz83_2 := blk_frozen BK396.out 2; have hfz83_3 := blk_frozen BK396.out 3; have hcz84_0 : w80.cell? ⟨gb380, 0, none⟩ = some (.int .i64 t376) := (blk_cell BK380.out 0).trans rfl; have hcz84_1 : w80.cell? ⟨gb380, 1, none⟩ = some (.int .i64 t377) := (blk_cell BK380.out 1).trans rfl; have hcz84_2 : w80.cell? ⟨gb380, 2, none⟩ = some (.int .i64 t378) := (blk_cell BK380.out 2).trans rfl; have hcz84_3 : w80.cell? ⟨gb380, 3, none⟩ = some (.int .i64 t379) := (blk_cell BK380.out 3).trans rfl; have hfz84_0 := blk_frozen BK380.out 0; have hfz84_1 := blk_frozen BK380.out 1; have hfz84_2 := blk_frozen BK380.out 2; have hfz84_3 := blk_frozen BK380.out 3; have hcz85_0 : w80.cell? ⟨gb388, 0, none⟩ = some (.int .i64 t384) := (blk_cell BK388.out 0).trans rfl; have hcz85_1 : w80.cell? ⟨gb388, 1, none⟩ = some (.int .i64 t385) := (blk_cell BK388.out 1).trans rfl; have hcz85_2 : w80.cell? ⟨gb388, 2, none⟩ = some (.int .i64 t386) := (blk_cell BK388.out 2).trans rfl; have hcz85_3 : w80.cell? ⟨gb388, 3, none⟩ = some (.int .i64 t387) := (blk_cell BK388.out 3).trans rfl; have hfz85_0 := blk_frozen BK388.out 0; have hfz85_1 := blk_frozen BK388.out 1; have hfz85_2 := blk_frozen BK388.out 2; have hfz85_3 := blk_frozen BK388.out 3))
            go_ret
            exact ⟨by first | rfl | (simp [errW_none, errW_some] <;> rfl) | (simp [*, errW_none, errW_some, bne]; done) | (simp only [← hji30]; first | rfl | (simp [errW_none, errW_some] <;> rfl)) | (simp [*, errW_none, errW_some] <;> rfl), by repeat (first | (with_reducible first | exact HB.out | apply below_alloc | apply pw_below_drewN | apply below_drew1 | refine below_set ?_ GE380.out | refine below_set ?_ GE388.out | refine below_set ?_ GE396.out) | exact HB.out)⟩
          ·rw [if_neg c34] at H
           have c34b0 : (t376 == t384) = false := beq_eq_false_iff_ne.mpr c34
           have c34b1 : (t376 != t384) = true := bne_iff_ne.mpr c34
           obtain rfl := Option.some.inj H
           go_wp2_with (first | ((with_reducible refine gate_callee (f := 9) rfl ?_); refine goesL_ (some 99) rfl rfl Try.func9 (by kernel_rfl) rfl #[.string x3_2] rfl (by (try simp only [List.map_toArray, List.map_cons, List.map_nil]); first | done | rfl | (simp only [List.length_drop, List.length_take]; rfl)) ?_; (with_reducible refine (cread_Rows.calls x3_2 t373 t376 t377 t378 t379 _ A28.out).mono ?_); rintro e w86 ⟨v374, rfl, ho0, hb⟩; refine ⟨_, rfl, ?_⟩; have n0_ := Aside0.mk (Kd.S_lower ho0 (below_size (by repeat (first | (with_reducible first | exact HB.out | apply below_alloc | apply pw_below_drewN | apply below_drew1) | exact HB.out)))); have n1_ := Aside0.mk (below_step (by repeat (first | (with_reducible first | exact HB.out | apply below_alloc | apply pw_below_drewN | apply below_drew1) | exact HB.out)) hb); clear HB; have HO375 := n0_; have HB := n1_; clear n0_ n1_; (try clear hb); (try clear hb2); (try clear hk); (try clear hi); (try clear ho0)) | ((with_reducible refine gate_dst (N := 8) rfl ?_); (try (refine gate_guard (by rfl) ?_; dsimp only)); refine box_event ?hg (N := 8) ?hd (cs := #[.int .i64 0, .int .i64 0, .int .i64 0, .int .i64 0]) (t := 26) ?hr ?_; (case hd => rfl); (case hg => rfl); (case hr => first | (go_simp; done) | (go_simp; rfl)); intro gb380 hg w87 hbox hb; have n0_ := Aside0.mk (Kd.S_below (by (with_reducible repeat (first | apply Kd.S_alloc | apply Kd.S_drewN | apply Kd.S_drew)); exact HO375.out) hb); have n1_ := Aside0.mk (below_step (by repeat (first | (with_reducible first | exact HB.out | apply below_alloc | apply pw_below_drewN | apply below_drew1) | exact HB.out)) hb); have n2_ := Aside0.mk (hbox); have n3_ := Aside0.mk ((by rw [hg]; exact (below_size (by repeat (first | (with_reducible first | exact HB.out | apply below_alloc | apply pw_below_drewN | apply below_drew1) | exact HB.out))) : w.heap.size ≤ gb380)); have n4_ := Aside0.mk ((by rw [hg]; exact (below_size (by repeat (first | (with_reducible first | exact HB.out | apply below_alloc | apply pw_below_drewN | apply below_drew1) | exact HB.out))) : w.heap.size ≤ gb380)); clear HO375; clear HB; have HO375 := n0_; have HB := n1_; have BK380 := n2_; have GW380 := n3_; have GE380 := n4_; clear n0_ n1_ n2_ n3_ n4_; clear hb hbox hg; have hcz88_0 : w87.cell? ⟨gb380, 0, none⟩ = some (.int .i64 0) := (blk_cell BK380.out 0).trans rfl; have hcz88_1 : w87.cell? ⟨gb380, 1, none⟩ = some (.int .i64 0) := (blk_cell BK380.out 1).trans rfl; have hcz88_2 : w87.cell? ⟨gb380, 2, none⟩ = some (.int .i64 0) := (blk_cell BK380.out 2).trans rfl; have hcz88_3 : w87.cell? ⟨gb380, 3, none⟩ = some (.int .i64 0) := (blk_cell BK380.out 3).trans rfl; have hfz88_0 := blk_frozen BK380.out 0; have hfz88_1 := blk_frozen BK380.out 1; have hfz88_2 := blk_frozen BK380.out 2; have hfz88_3 := blk_frozen BK380.out 3) | ((with_reducible refine gate_callee (f := 9) rfl ?_); refine goesL_ (some 104) rfl rfl Try.func9 (by kernel_rfl) rfl #[.string x4_2] rfl (by (try simp only [List.map_toArray, List.map_cons, List.map_nil]); first | done | rfl | (simp only [List.length_drop, List.length_take]; rfl)) ?_; (with_reducible refine (cread_Rows.calls x4_2 t381 t384 t385 t386 t387 _ A29.out).mono ?_); rintro e w89 ⟨v382, rfl, ho0, hb⟩; refine ⟨_, rfl, ?_⟩; have n0_ := Aside0.mk (Kd.S_elder' (by (with_reducible repeat (first | apply Kd.S_alloc | apply Kd.S_drewN | apply Kd.S_drew)); exact (Kd.S_mono (Kd.S_far (p := ⟨gb380, 3, none⟩) (Kd.S_far (p := ⟨gb380, 2, none⟩) (Kd.S_far (p := ⟨gb380, 1, none⟩) (Kd.S_far (p := ⟨gb380, 0, none⟩) (Kd.S_types HO375.out BK380.out (by decide)) (fun _ hk => hk.2) (.int .i64 t376)) (fun _ hk => hk.2) (.int .i64 t377)) (fun _ hk => hk.2) (.int .i64 t378)) (fun _ hk => hk.2) (.int .i64 t379)) (fun _ h_ => h_.1))) (Kd.S_base ho0) hb); have n1_ := Aside0.mk (Kd.S_lower (Kd.S_new' ho0 (Kd.S_lt (by (with_reducible repeat (first | apply Kd.S_alloc | apply Kd.S_drewN | apply Kd.S_drew)); exact (Kd.S_mono (Kd.S_far (p := ⟨gb380, 3, none⟩) (Kd.S_far (p := ⟨gb380, 2, none⟩) (Kd.S_far (p := ⟨gb380, 1, none⟩) (Kd.S_far (p := ⟨gb380, 0, none⟩) (Kd.S_types HO375.out BK380.out (by decide)) (fun _ hk => hk.2) (.int .i64 t376)) (fun _ hk => hk.2) (.int .i64 t377)) (fun _ hk => hk.2) (.int .i64 t378)) (fun _ hk => hk.2) (.int .i64 t379)) (fun _ h_ => h_.1))))) (below_size (by repeat (first | (with_reducible first | exact HB.out | apply below_alloc | apply pw_below_drewN | apply below_drew1 | refine below_set ?_ GE380.out) | exact HB.out)))); have n2_ := Aside0.mk (blk_below (g := gb380) (o := .cells #[.int .i64 t376, .int .i64 t377, .int .i64 t378, .int .i64 t379] 26 (0, 0)) (by (with_reducible repeat (first | refine blk_drewN ?_ _ | refine blk_drew ?_ | refine blk_alloc ?_ _)); refine blk_put (cs := #[.int .i64 t376, .int .i64 t377, .int .i64 t378, .int .i64 0]) ?_ 3 _ rfl; (with_reducible repeat (first | refine blk_drewN ?_ _ | refine blk_drew ?_ | refine blk_alloc ?_ _)); refine blk_put (cs := #[.int .i64 t376, .int .i64 t377, .int .i64 0, .int .i64 0]) ?_ 2 _ rfl; (with_reducible repeat (first | refine blk_drewN ?_ _ | refine blk_drew ?_ | refine blk_alloc ?_ _)); refine blk_put (cs := #[.int .i64 t376, .int .i64 0, .int .i64 0, .int .i64 0]) ?_ 1 _ rfl; (with_reducible repeat (first | refine blk_drewN ?_ _ | refine blk_drew ?_ | refine blk_alloc ?_ _)); refine blk_put (cs := #[.int .i64 0, .int .i64 0, .int .i64 0, .int .i64 0]) ?_ 0 _ rfl; (with_reducible repeat (first | refine blk_drewN ?_ _ | refine blk_drew ?_ | refine blk_alloc ?_ _)); exact BK380.out) hb); have n3_ := Aside0.mk (below_step (by repeat (first | (with_reducible first | exact HB.out | apply below_alloc | apply pw_below_drewN | apply below_drew1 | refine below_set ?_ GE380.out) | exact HB.out)) hb); clear HO375; clear BK380; clear HB; have HO375 := n0_; have HO383 := n1_; have BK380 := n2_; have HB := n3_; clear n0_ n1_ n2_ n3_; (try clear hb); (try clear hb2); (try clear hk); (try clear hi); (try clear ho0)) | ((with_reducible refine gate_dst (N := 10) rfl ?_); (try (refine gate_guard (by rfl) ?_; dsimp only)); refine box_event ?hg (N := 10) ?hd (cs := #[.int .i64 0, .int .i64 0, .int .i64 0, .int .i64 0]) (t := 26) ?hr ?_; (case hd => rfl); (case hg => rfl); (case hr => first | (go_simp; done) | (go_simp; rfl)); intro gb388 hg w90 hbox hb; have n0_ := Aside0.mk (Kd.S_below (by (with_reducible repeat (first | apply Kd.S_alloc | apply Kd.S_drewN | apply Kd.S_drew)); exact HO375.out) hb); have n1_ := Aside0.mk (Kd.S_below (by (with_reducible repeat (first | apply Kd.S_alloc | apply Kd.S_drewN | apply Kd.S_drew)); exact HO383.out) hb); have n2_ := Aside0.mk (blk_below (g := gb380) (o := .cells #[.int .i64 t376, .int .i64 t377, .int .i64 t378, .int .i64 t379] 26 (0, 0)) (by (with_reducible repeat (first | refine blk_drewN ?_ _ | refine blk_drew ?_ | refine blk_alloc ?_ _)); exact BK380.out) hb); have n3_ := Aside0.mk (below_step (by repeat (first | (with_reducible first | exact HB.out | apply below_alloc | apply pw_below_drewN | apply below_drew1 | refine below_set ?_ GE380.out) | exact HB.out)) hb); have n4_ := Aside0.mk (hbox); have n5_ := Aside0.mk ((by rw [hg]; exact (below_size (by repeat (first | (with_reducible first | exact HB.out | apply below_alloc | apply pw_below_drewN | apply below_drew1 | refine below_set ?_ GE380.out) | exact HB.out))) : w.heap.size ≤ gb388)); have n6_ := Aside0.mk ((by rw [hg]; exact (below_size (by repeat (first | (with_reducible first | exact HB.out | apply below_alloc | apply pw_below_drewN | apply below_drew1 | refine below_set ?_ GE380.out) | exact HB.out))) : w.heap.size ≤ gb388)); have n7_ := Aside0.mk ((by rw [hg]; exact Nat.ne_of_lt (blk_lt (g := gb380) (o := .cells #[.int .i64 t376, .int .i64 t377, .int .i64 t378, .int .i64 t379] 26 (0, 0)) (by (with_reducible repeat (first | refine blk_drewN ?_ _ | refine blk_drew ?_ | refine blk_alloc ?_ _)); exact BK380.out)) : gb380 ≠ gb388)); have n8_ := Aside0.mk ((by rw [hg]; exact Nat.ne_of_gt (blk_lt (g := gb380) (o := .cells #[.int .i64 t376, .int .i64 t377, .int .i64 t378, .int .i64 t379] 26 (0, 0)) (by (with_reducible repeat (first | refine blk_drewN ?_ _ | refine blk_drew ?_ | refine blk_alloc ?_ _)); exact BK380.out)) : gb388 ≠ gb380)); clear HO375; clear HO383; clear BK380; clear HB; have HO375 := n0_; have HO383 := n1_; have BK380 := n2_; have HB := n3_; have BK388 := n4_; have GW388 := n5_; have GE388 := n6_; have NB380_388 := n7_; have NB388_380 := n8_; clear n0_ n1_ n2_ n3_ n4_ n5_ n6_ n7_ n8_; clear hb hbox hg; have hnb91 := NB388_380.out; have hnc91 := NB380_388.out; have hcz92_0 : w90.cell? ⟨gb388, 0, none⟩ = some (.int .i64 0) := (blk_cell BK388.out 0).trans rfl; have hcz92_1 : w90.cell? ⟨gb388, 1, none⟩ = some (.int .i64 0) := (blk_cell BK388.out 1).trans rfl; have hcz92_2 : w90.cell? ⟨gb388, 2, none⟩ = some (.int .i64 0) := (blk_cell BK388.out 2).trans rfl; have hcz92_3 : w90.cell? ⟨gb388, 3, none⟩ = some (.int .i64 0) := (blk_cell BK388.out 3).trans rfl; have hfz92_0 := blk_frozen BK388.out 0; have hfz92_1 := blk_frozen BK388.out 1; have hfz92_2 := blk_frozen BK388.out 2; have hfz92_3 := blk_frozen BK388.out 3) | ((with_reducible refine gate_callee (f := 9) rfl ?_); refine goesL_ (some 113) rfl rfl Try.func9 (by kernel_rfl) rfl #[.string (x3_2.extract 0 ((ji30) : Int).toNat)] rfl (by (try simp only [List.map_toArray, List.map_cons, List.map_nil]); first | done | (simp only [hji30]; rfl) | rfl | (simp only [List.length_drop, List.length_take]; rfl)) ?_; (with_reducible refine (cread_Rows.calls (x3_2.extract 0 ((ji30) : Int).toNat) t389 t392 t393 t394 t395 _ A33.out).mono ?_); rintro e w93 ⟨v390, rfl, ho0, hb⟩; refine ⟨_, rfl, ?_⟩; have n0_ := Aside0.mk (Kd.S_elder' (by (with_reducible repeat (first | apply Kd.S_alloc | apply Kd.S_drewN | apply Kd.S_drew)); exact (Kd.S_mono (Kd.S_far (p := ⟨gb388, 3, none⟩) (Kd.S_far (p := ⟨gb388, 2, none⟩) (Kd.S_far (p := ⟨gb388, 1, none⟩) (Kd.S_far (p := ⟨gb388, 0, none⟩) (Kd.S_types HO375.out BK388.out (by decide)) (fun _ hk => hk.2) (.int .i64 t384)) (fun _ hk => hk.2) (.int .i64 t385)) (fun _ hk => hk.2) (.int .i64 t386)) (fun _ hk => hk.2) (.int .i64 t387)) (fun _ h_ => h_.1))) (Kd.S_base ho0) hb); have n1_ := Aside0.mk (Kd.S_elder' (by (with_reducible repeat (first | apply Kd.S_alloc | apply Kd.S_drewN | apply Kd.S_drew)); exact (Kd.S_mono (Kd.S_far (p := ⟨gb388, 3, none⟩) (Kd.S_far (p := ⟨gb388, 2, none⟩) (Kd.S_far (p := ⟨gb388, 1, none⟩) (Kd.S_far (p := ⟨gb388, 0, none⟩) (Kd.S_types HO383.out BK388.out (by decide)) (fun _ hk => hk.2) (.int .i64 t384)) (fun _ hk => hk.2) (.int .i64 t385)) (fun _ hk => hk.2) (.int .i64 t386)) (fun _ hk => hk.2) (.int .i64 t387)) (fun _ h_ => h_.1))) (Kd.S_base ho0) hb); have n2_ := Aside0.mk (Kd.S_lower (Kd.S_new' (Kd.S_new' ho0 (Kd.S_lt (by (with_reducible repeat (first | apply Kd.S_alloc | apply Kd.S_drewN | apply Kd.S_drew)); exact (Kd.S_mono (Kd.S_far (p := ⟨gb388, 3, none⟩) (Kd.S_far (p := ⟨gb388, 2, none⟩) (Kd.S_far (p := ⟨gb388, 1, none⟩) (Kd.S_far (p := ⟨gb388, 0, none⟩) (Kd.S_types HO375.out BK388.out (by decide)) (fun _ hk => hk.2) (.int .i64 t384)) (fun _ hk => hk.2) (.int .i64 t385)) (fun _ hk => hk.2) (.int .i64 t386)) (fun _ hk => hk.2) (.int .i64 t387)) (fun _ h_ => h_.1))))) (Kd.S_lt (by (with_reducible repeat (first | apply Kd.S_alloc | apply Kd.S_drewN | apply Kd.S_drew)); exact (Kd.S_mono (Kd.S_far (p := ⟨gb388, 3, none⟩) (Kd.S_far (p := ⟨gb388, 2, none⟩) (Kd.S_far (p := ⟨gb388, 1, none⟩) (Kd.S_far (p := ⟨gb388, 0, none⟩) (Kd.S_types HO383.out BK388.out (by decide)) (fun _ hk => hk.2) (.int .i64 t384)) (fun _ hk => hk.2) (.int .i64 t385)) (fun _ hk => hk.2) (.int .i64 t386)) (fun _ hk => hk.2) (.int .i64 t387)) (fun _ h_ => h_.1))))) (below_size (by repeat (first | (with_reducible first | exact HB.out | apply below_alloc | apply pw_below_drewN | apply below_drew1 | refine below_set ?_ GE380.out | refine below_set ?_ GE388.out) | exact HB.out)))); have n3_ := Aside0.mk (blk_below (g := gb380) (o := .cells #[.int .i64 t376, .int .i64 t377, .int .i64 t378, .int .i64 t379] 26 (0, 0)) (by (with_reducible repeat (first | refine blk_drewN ?_ _ | refine blk_drew ?_ | refine blk_alloc ?_ _)); refine blk_far ?_ NB380_388.out _; (with_reducible repeat (first | refine blk_drewN ?_ _ | refine blk_drew ?_ | refine blk_alloc ?_ _)); refine blk_far ?_ NB380_388.out _; (with_reducible repeat (first | refine blk_drewN ?_ _ | refine blk_drew ?_ | refine blk_alloc ?_ _)); refine blk_far ?_ NB380_388.out _; (with_reducible repeat (first | refine blk_drewN ?_ _ | refine blk_drew ?_ | refine blk_alloc ?_ _)); refine blk_far ?_ NB380_388.out _; (with_reducible repeat (first | refine blk_drewN ?_ _ | refine blk_drew ?_ | refine blk_alloc ?_ _)); exact BK380.out) hb); have n4_ := Aside0.mk (blk_below (g := gb388) (o := .cells #[.int .i64 t384, .int .i64 t385, .int .i64 t386, .int .i64 t387] 26 (0, 0)) (by (with_reducible repeat (first | refine blk_drewN ?_ _ | refine blk_drew ?_ | refine blk_alloc ?_ _)); refine blk_put (cs := #[.int .i64 t384, .int .i64 t385, .int .i64 t386, .int .i64 0]) ?_ 3 _ rfl; (with_reducible repeat (first | refine blk_drewN ?_ _ | refine blk_drew ?_ | refine blk_alloc ?_ _)); refine blk_put (cs := #[.int .i64 t384, .int .i64 t385, .int .i64 0, .int .i64 0]) ?_ 2 _ rfl; (with_reducible repeat (first | refine blk_drewN ?_ _ | refine blk_drew ?_ | refine blk_alloc ?_ _)); refine blk_put (cs := #[.int .i64 t384, .int .i64 0, .int .i64 0, .int .i64 0]) ?_ 1 _ rfl; (with_reducible repeat (first | refine blk_drewN ?_ _ | refine blk_drew ?_ | refine blk_alloc ?_ _)); refine blk_put (cs := #[.int .i64 0, .int .i64 0, .int .i64 0, .int .i64 0]) ?_ 0 _ rfl; (with_reducible repeat (first | refine blk_drewN ?_ _ | refine blk_drew ?_ | refine blk_alloc ?_ _)); exact BK388.out) hb); have n5_ := Aside0.mk (below_step (by repeat (first | (with_reducible first | exact HB.out | apply below_alloc | apply pw_below_drewN | apply below_drew1 | refine below_set ?_ GE380.out | refine below_set ?_ GE388.out) | exact HB.out)) hb); clear HO375; clear HO383; clear BK380; clear BK388; clear HB; have HO375 := n0_; have HO383 := n1_; have HO391 := n2_; have BK380 := n3_; have BK388 := n4_; have HB := n5_; clear n0_ n1_ n2_ n3_ n4_ n5_; (try clear hb); (try clear hb2); (try clear hk); (try clear hi); (try clear ho0)) | ((with_reducible refine gate_dst (N := 12) rfl ?_); (try (refine gate_guard (by rfl) ?_; dsimp only)); refine box_event ?hg (N := 12) ?hd (cs := #[.int .i64 0, .int .i64 0, .int .i64 0, .int .i64 0]) (t := 26) ?hr ?_; (case hd => rfl); (case hg => rfl); (case hr => first | (go_simp; done) | (go_simp; rfl)); intro gb396 hg w94 hbox hb; have n0_ := Aside0.mk (Kd.S_below (by (with_reducible repeat (first | apply Kd.S_alloc | apply Kd.S_drewN | apply Kd.S_drew)); exact HO375.out) hb); have n1_ := Aside0.mk (Kd.S_below (by (with_reducible repeat (first | apply Kd.S_alloc | apply Kd.S_drewN | apply Kd.S_drew)); exact HO383.out) hb); have n2_ := Aside0.mk (Kd.S_below (by (with_reducible repeat (first | apply Kd.S_alloc | apply Kd.S_drewN | apply Kd.S_drew)); exact HO391.out) hb); have n3_ := Aside0.mk (blk_below (g := gb380) (o := .cells #[.int .i64 t376, .int .i64 t377, .int .i64 t378, .int .i64 t379] 26 (0, 0)) (by (with_reducible repeat (first | refine blk_drewN ?_ _ | refine blk_drew ?_ | refine blk_alloc ?_ _)); exact BK380.out) hb); have n4_ := Aside0.mk (blk_below (g := gb388) (o := .cells #[.int .i64 t384, .int .i64 t385, .int .i64 t386, .int .i64 t387] 26 (0, 0)) (by (with_reducible repeat (first | refine blk_drewN ?_ _ | refine blk_drew ?_ | refine blk_alloc ?_ _)); exact BK388.out) hb); have n5_ := Aside0.mk (below_step (by repeat (first | (with_reducible first | exact HB.out | apply below_alloc | apply pw_below_drewN | apply below_drew1 | refine below_set ?_ GE380.out | refine below_set ?_ GE388.out) | exact HB.out)) hb); have n6_ := Aside0.mk (hbox); have n7_ := Aside0.mk ((by rw [hg]; exact (below_size (by repeat (first | (with_reducible first | exact HB.out | apply below_alloc | apply pw_below_drewN | apply below_drew1 | refine below_set ?_ GE380.out | refine below_set ?_ GE388.out) | exact HB.out))) : w.heap.size ≤ gb396)); have n8_ := Aside0.mk ((by rw [hg]; exact (below_size (by repeat (first | (with_reducible first | exact HB.out | apply below_alloc | apply pw_below_drewN | apply below_drew1 | refine below_set ?_ GE380.out | refine below_set ?_ GE388.out) | exact HB.out))) : w.heap.size ≤ gb396)); have n9_ := Aside0.mk ((by rw [hg]; exact Nat.ne_of_lt (blk_lt (g := gb380) (o := .cells #[.int .i64 t376, .int .i64 t377, .int .i64 t378, .int .i64 t379] 26 (0, 0)) (by (with_reducible repeat (first | refine blk_drewN ?_ _ | refine blk_drew ?_ | refine blk_alloc ?_ _)); exact BK380.out)) : gb380 ≠ gb396)); have n10_ := Aside0.mk ((by rw [hg]; exact Nat.ne_of_gt (blk_lt (g := gb380) (o := .cells #[.int .i64 t376, .int .i64 t377, .int .i64 t378, .int .i64 t379] 26 (0, 0)) (by (with_reducible repeat (first | refine blk_drewN ?_ _ | refine blk_drew ?_ | refine blk_alloc ?_ _)); exact BK380.out)) : gb396 ≠ gb380)); have n11_ := Aside0.mk ((by rw [hg]; exact Nat.ne_of_lt (blk_lt (g := gb388) (o := .cells #[.int .i64 t384, .int .i64 t385, .int .i64 t386, .int .i64 t387] 26 (0, 0)) (by (with_reducible repeat (first | refine blk_drewN ?_ _ | refine blk_drew ?_ | refine blk_alloc ?_ _)); exact BK388.out)) : gb388 ≠ gb396)); have n12_ := Aside0.mk ((by rw [hg]; exact Nat.ne_of_gt (blk_lt (g := gb388) (o := .cells #[.int .i64 t384, .int .i64 t385, .int .i64 t386, .int .i64 t387] 26 (0, 0)) (by (with_reducible repeat (first | refine blk_drewN ?_ _ | refine blk_drew ?_ | refine blk_alloc ?_ _)); exact BK388.out)) : gb396 ≠ gb388)); clear HO375; clear HO383; clear HO391; clear BK380; clear BK388; clear HB; have HO375 := n0_; have HO383 := n1_; have HO391 := n2_; have BK380 := n3_; have BK388 := n4_; have HB := n5_; have BK396 := n6_; have GW396 := n7_; have GE396 := n8_; have NB380_396 := n9_; have NB396_380 := n10_; have NB388_396 := n11_; have NB396_388 := n12_; clear n0_ n1_ n2_ n3_ n4_ n5_ n6_ n7_ n8_ n9_ n10_ n11_ n12_; clear hb hbox hg; have hnb95 := NB396_380.out; have hnc95 := NB380_396.out; have hnb96 := NB396_388.out; have hnc96 := NB388_396.out; have hcz97_0 : w94.cell? ⟨gb396, 0, none⟩ = some (.int .i64 0) := (blk_cell BK396.out 0).trans rfl; have hcz97_1 : w94.cell? ⟨gb396, 1, none⟩ = some (.int .i64 0) := (blk_cell BK396.out 1).trans rfl; have hcz97_2 : w94.cell? ⟨gb396, 2, none⟩ = some (.int .i64 0) := (blk_cell BK396.out 2).trans rfl; have hcz97_3 : w94.cell? ⟨gb396, 3, none⟩ = some (.int .i64 0) := (blk_cell BK396.out 3).trans rfl; have hfz97_0 := blk_frozen BK396.out 0; have hfz97_1 := blk_frozen BK396.out 1; have hfz97_2 := blk_frozen BK396.out 2; have hfz97_3 := blk_frozen BK396.out 3; have hcz98_0 : w94.cell? ⟨gb380, 0, none⟩ = some (.int .i64 t376) := (blk_cell BK380.out 0).trans rfl; have hcz98_1 : w94.cell? ⟨gb380, 1, none⟩ = some (.int .i64 t377) := (blk_cell BK380.out 1).trans rfl; have hcz98_2 : w94.cell? ⟨gb380, 2, none⟩ = some (.int .i64 t378) := (blk_cell BK380.out 2).trans rfl; have hcz98_3 : w94.cell? ⟨gb380, 3, none⟩ = some (.int .i64 t379) := (blk_cell BK380.out 3).trans rfl; have hfz98_0 := blk_frozen BK380.out 0; have hfz98_1 := blk_frozen BK380.out 1; have hfz98_2 := blk_frozen BK380.out 2; have hfz98_3 := blk_frozen BK380.out 3; have hcz99_0 : w94.cell? ⟨gb388, 0, none⟩ = some (.int .i64 t384) := (blk_cell BK388.out 0).trans rfl; have hcz99_1 : w94.cell? ⟨gb388, 1, none⟩ = some (.int .i64 t385) := (blk_cell BK388.out 1).trans rfl; have hcz99_2 : w94.cell? ⟨gb388, 2, none⟩ = some (.int .i64 t386) := (blk_cell BK388.out 2).trans rfl; have hcz99_3 : w94.cell? ⟨gb388, 3, none⟩ = some (.int .i64 t387) := (blk_cell BK388.out 3).trans rfl; have hfz99_0 := blk_frozen BK388.out 0; have hfz99_1 := blk_frozen BK388.out 1; have hfz99_2 := blk_frozen BK388.out 2; have hfz99_3 := blk_frozen BK388.out 3))
           go_ret
           exact ⟨by first | rfl | (simp [errW_none, errW_some] <;> rfl) | (simp [*, errW_none, errW_some, bne]; done) | (simp only [← hji30]; first | rfl | (simp [errW_none, errW_some] <;> rfl)) | (simp [*, errW_none, errW_some] <;> rfl), by repeat (first | (with_reducible first | exact HB.out | apply below_alloc | apply pw_below_drewN | apply below_drew1 | refine below_set ?_ GE380.out | refine below_set ?_ GE388.out | refine below_set ?_ GE396.out) | exact HB.out)⟩
         ·rw [if_neg c32] at H
          exact absurd H (by simp)
        ·rw [if_neg c31] at H
         exact absurd H (by simp)
 ·replace c3 := Bool.eq_false_iff.mpr c3
  subst c3
  have H1 : (some false) = some r := by rw [if_neg (show ¬ (false = true) by decide)] at H; exact H
  clear H
  have H := H1
  clear H1
  obtain rfl := Option.some.inj H
  go_enter Try.func6, Try.ntmps6
  go_wp2_with (first | ((with_reducible refine gate_callee (f := 8) rfl ?_); refine goesL_ (some 13) rfl rfl Try.func8 (by kernel_rfl) rfl #[] rfl (by (try simp only [List.map_toArray, List.map_cons, List.map_nil]); first | done | rfl | (simp only [List.length_drop, List.length_take]; rfl)) ?_; (with_reducible refine (dragomanlaw13_awake.calls k  false _ A2.out).mono ?_); rintro e w100 ⟨rfl, hb⟩; refine ⟨_, rfl, ?_⟩; have n0_ := Aside0.mk (below_step (by repeat (first | (with_reducible first | exact HB.out | apply below_alloc | apply pw_below_drewN | apply below_drew1) | exact HB.out)) hb); clear HB; have HB := n0_; clear n0_; (try clear hb); (try clear hb2); (try clear hk); (try clear hi)))
  go_ret
  exact ⟨by first | rfl | (simp [errW_none, errW_some] <;> rfl) | (simp [*, errW_none, errW_some, bne]; done) | (simp [*, errW_none, errW_some] <;> rfl), by repeat (first | (with_reducible first | exact HB.out | apply below_alloc | apply pw_below_drewN | apply below_drew1) | exact HB.out)⟩
end Go.Proofs.Ytjmmdphkgioooaa.P
end
section
namespace Go.Proofs.Ytjmmdphkgioooaa.La
open Go.RowKit Go.Proofs.Ytjmmdphkgioooaa.P Go.Proofs.YtjmmdphkgioooaaW.PrintWords Go.Proofs.YtjmmdphkgioooaaW.PrintLast Go.Proofs.YtjmmdphkgioooaaW.PrintMore
theorem drop_bt {t : ByteArray} {i : Nat} (h : i < t.size) : (bytesOf t).drop i = bt t (i : Int) :: (bytesOf t).drop (i + 1) := by
 have hl : i < (bytesOf t).length := by rw [size_of]; exact h
 rw [List.drop_eq_getElem_cons hl, bt_get]
 simp [List.getD_eq_getElem?_getD, hl]
theorem texts_ev (a : List ByteArray) (ha : a.length ≤ 9000000000000) : ∀ (n i : Nat), i ≤ a.length → a.length - i = n → Ev (fun k => dragomanref17_Texts.l0 k a a (i : Int)) true
 | 0, i, hi, hn => Ev.step (fun k => by rw [dragomanref17_Texts.l0, if_neg (show ¬ (i : Int) < (a.length : Int) by omega)]) (Ev.now _)
 | n + 1, i, hi, hn => by
  refine Ev.step (fun k => by rw [dragomanref17_Texts.l0, if_pos (show (i : Int) < (a.length : Int) by omega), if_pos (show (0 : Int) ≤ (i : Int) by omega), if_pos (show (i : Int) < (a.length : Int) by omega), if_pos rfl, wrap_id (show -9223372036854775808 ≤ (i : Int) + 1 by omega) (show (i : Int) + 1 < 9223372036854775808 by omega)]) ?_
  exact texts_ev a ha n (i + 1) (by omega) (by omega)
theorem same_l0 (a : List (List ByteArray)) (ha : a.length ≤ 9000000000000) (hb : ∀ r ∈ a, r.length ≤ 9000000000000) : ∀ (n i : Nat), i ≤ a.length → a.length - i = n → Ev (fun k => dragomanref17_Rows.l0 k a a (i : Int)) true
 | 0, i, hi, hn => Ev.step (fun k => by rw [dragomanref17_Rows.l0, if_neg (show ¬ (i : Int) < (a.length : Int) by omega)]) (Ev.now _)
 | n + 1, i, hi, hn => by
  have hlt : i < a.length := by omega
  have hm : rd_L4 a (i : Int) ∈ a := by
   show a.getD (i : Int).toNat [] ∈ a
   rw [List.getD_eq_getElem?_getD, Int.toNat_natCast, List.getElem?_eq_getElem hlt]
   exact List.getElem_mem _
  refine Ev.step (fun k => by rw [dragomanref17_Rows.l0, if_pos (show (i : Int) < (a.length : Int) by omega), if_pos (show (0 : Int) ≤ (i : Int) by omega), if_pos (show (i : Int) < (a.length : Int) by omega)]) ?_
  refine Ev.bind (Ev.congr (fun k => by rw [dragomanref17_Texts.f, if_pos rfl]; rfl) (texts_ev _ (hb _ hm) _ 0 (Nat.zero_le _) rfl)) ?_
  refine Ev.congr (fun k => by rw [if_pos rfl, wrap_id (show -9223372036854775808 ≤ (i : Int) + 1 by omega) (show (i : Int) + 1 < 9223372036854775808 by omega)]) ?_
  exact same_l0 a ha hb n (i + 1) (by omega) (by omega)
theorem same_ev (a : List (List ByteArray)) (ha : a.length ≤ 9000000000000) (hb : ∀ r ∈ a, r.length ≤ 9000000000000) : Ev (fun k => dragomanref17_Rows.f k a a) true :=
 Ev.congr (fun k => by rw [dragomanref17_Rows.f, if_pos rfl]; rfl) (same_l0 a ha hb _ 0 (Nat.zero_le _) rfl)
end Go.Proofs.Ytjmmdphkgioooaa.La
end
section
namespace Go.Proofs.Ytjmmdphkgioooaa.La
open Go.RowKit Go.Proofs.Ytjmmdphkgioooaa.P Go.Proofs.YtjmmdphkgioooaaW.PrintWords Go.Proofs.YtjmmdphkgioooaaW.PrintLast Go.Proofs.YtjmmdphkgioooaaW.PrintMore
theorem readValid_ev (s : ByteArray) (hs : s.size ≤ 8796093022208) : Ev (fun k => cread_Valid.f k s) ((readR s).2.1 == 0) := by
 refine Ev.congr (fun k => by rw [cread_Valid.f]) (Ev.bind (fields_ev s hs) ?_)
 exact Ev.now _
theorem rows_f (s : ByteArray) (hs : s.size ≤ 8796093022208) : cread_Rows.f s = some (readR s) := by
 unfold cread_Rows.f
 rw [if_pos hs]
theorem awakeA : readR (⟨#[97, 44, 34, 98, 34, 34, 99, 34]⟩ : ByteArray) = ([[⟨#[97]⟩, ⟨#[98, 34, 99]⟩]], 0, 0, 0, 0) := by decide +kernel
theorem awakeB : readR (⟨#[97, 44, 98, 10, 99]⟩ : ByteArray) = ([], 7, 4, 2, 1) := by decide +kernel
theorem awakeC : readR (⟨#[97, 13, 10, 98]⟩ : ByteArray) = ([[⟨#[97]⟩], [⟨#[98]⟩]], 0, 0, 0, 0) := by decide +kernel
theorem awake13_ev : Ev (fun k => dragomanlaw13_awake.f k) true := by
 have h3 := readValid_ev (⟨#[97, 13, 10, 98]⟩ : ByteArray) (by decide)
 rw [awakeC] at h3
 refine Ev.congr (fun k => by rw [dragomanlaw13_awake.f, cread_Rows.f, cread_Rows.f, if_pos (by decide), if_pos (by decide), awakeA, awakeB, Option.bind_some, Option.bind_some, if_pos (by decide +kernel), if_pos (by decide +kernel), if_pos (by decide +kernel), if_pos (by decide +kernel), if_pos (by decide +kernel), if_pos (by decide +kernel), if_pos (by decide +kernel)]) ?_
 exact Ev.bind h3 (Ev.now _)
end Go.Proofs.Ytjmmdphkgioooaa.La
end
section
namespace Go.Proofs.Ytjmmdphkgioooaa.La
open Go.RowKit Go.Proofs.Ytjmmdphkgioooaa.P Go.Proofs.YtjmmdphkgioooaaW.PrintWords Go.Proofs.YtjmmdphkgioooaaW.PrintLast Go.Proofs.YtjmmdphkgioooaaW.PrintMore
theorem enc_low {r : Int} (h : r < 128) : enc r = [r] := by unfold enc; rw [if_pos h]
theorem enc_high {r : Int} (h : 128 ≤ r) (hg : good r) : ∀ b ∈ enc r, 128 ≤ b := by
 have hg' := good_iff.1 hg
 unfold enc
 rw [if_neg (by omega)]
 intro b hb
 split at hb
 ·simp at hb; omega
 ·split at hb
  ·simp at hb; omega
  ·simp at hb; omega
/-- A text of letters, cut ahead of a byte below 128 (or at its end): both parts are letters. -/
theorem bad_cut (L : List Int) (hL : Bytes L) (h : bad L = none) : ∀ a b : List Int, L = a ++ b → (∀ c t, b = c :: t → c < 128) → bad a = none ∧ bad b = none := by
 refine text_induction (P := fun L => ∀ a b : List Int, L = a ++ b → (∀ c t, b = c :: t → c < 128) → bad a = none ∧ bad b = none) ?_ ?_ L hL h
 ·intro a b hab _
  obtain ⟨rfl, rfl⟩ := List.append_eq_nil_iff.1 hab.symm
  exact ⟨bad_nil, bad_nil⟩
 ·intro r m hr hm _ ih a b hab hb
  cases a with
  | nil =>
   rw [List.nil_append] at hab
   refine ⟨bad_nil, ?_⟩
   rw [← hab, bad_enc hr, hm]
   rfl
  | cons x a' =>
   by_cases hlen : (enc r).length ≤ (x :: a').length
   ·have e1 : (x :: a').take (enc r).length = enc r := by
     have := congrArg (List.take (enc r).length) hab
     rw [List.take_left, List.take_append_of_le_length hlen] at this
     exact this.symm
    have e2 : m = (x :: a').drop (enc r).length ++ b := by
     have := congrArg (List.drop (enc r).length) hab
     rw [List.drop_left, List.drop_append_of_le_length hlen] at this
     exact this
    obtain ⟨h1, h2⟩ := ih _ _ e2 hb
    refine ⟨?_, h2⟩
    rw [← List.take_append_drop (enc r).length (x :: a'), e1, bad_enc hr, h1]
    rfl
   ·exfalso
    have hl := (enc_len r).2
    have hge : 128 ≤ r := by
     rcases Int.lt_or_le r 128 with h | h
     ·rw [enc_low h] at hlen; simp at hlen
     ·exact h
    have hi : (x :: a').length < (enc r).length := by omega
    have hne : b ≠ [] := by
     intro e
     subst e
     have := congrArg List.length hab
     rw [List.append_nil, List.length_append] at this
     omega
    obtain ⟨c, t, rfl⟩ : ∃ c t, b = c :: t := by cases b with
     | nil => exact absurd rfl hne
     | cons c t => exact ⟨c, t, rfl⟩
    have hc := hb c t rfl
    have e3 : (enc r ++ m)[(x :: a').length]? = some c := by
     rw [hab, List.getElem?_append_right (Nat.le_refl _), Nat.sub_self]
     rfl
    rw [List.getElem?_append_left hi] at e3
    have := enc_high hge hr c (List.mem_of_getElem? e3)
    omega
theorem bad_one {b : Int} (h0 : 0 ≤ b) (h1 : b < 128) (m : List Int) : bad (b :: m) = (bad m).map (· + 1) := by
 have e : enc b = [b] := by unfold enc; rw [if_pos h1]
 have h := bad_enc (r := b) ⟨h0, by omega, .inl (by omega)⟩ m
 rw [e] at h
 exact h
theorem bad_one_none {b : Int} (h0 : 0 ≤ b) (h1 : b < 128) (m : List Int) : bad (b :: m) = none ↔ bad m = none := by
 rw [bad_one h0 h1]
 cases bad m <;> simp
theorem bad_app {a b : List Int} (ha : Bytes a) (h1 : bad a = none) (h2 : bad b = none) : bad (a ++ b) = none := by
 rw [bad_join ha h1, h2]; rfl
/-- Behind a byte below 128. -/
theorem bad_mid {a b : List Int} {c : Int} (h0 : 0 ≤ c) (h1 : c < 128) (hB : Bytes (a ++ c :: b)) : bad (a ++ c :: b) = none ↔ bad a = none ∧ bad b = none := by
 constructor
 ·intro h
  obtain ⟨h2, h3⟩ := bad_cut _ hB h a (c :: b) rfl (fun x t hx => by rw [← (List.cons.inj hx).1]; exact h1)
  exact ⟨h2, (bad_one_none h0 h1 b).1 h3⟩
 ·rintro ⟨h2, h3⟩
  exact bad_app hB.left h2 ((bad_one_none h0 h1 b).2 h3)
/-- A text of lines, read. -/
theorem read_lines (ls : List Line) (hL : Lines ls) (hv : bad (textOf ls) = none) (hz : (textOf ls).length ≤ 65536) (hn : ls.length ≤ 513) (s : ByteArray) (hs : bytesOf s = textOf ls) :
  match rowsOf [] (ls.map Prod.fst) with
  | none => (readR s).1 = [] ∧ (readR s).2.1 = 7
  | some r => readR s = (r, 0, 0, 0, 0) := by
 have h := whole_lines ls hL 513 [] 0 hn
 rw [← hs] at h hv hz
 rw [size_of] at hz
 unfold readR fieldsR
 rw [if_neg (by omega), hv]
 simp only [List.map_nil] at h
 cases hr : rowsOf [] (ls.map Prod.fst) with
 | none =>
  rw [hr] at h
  obtain ⟨j, hj⟩ := h
  rw [hj]
  exact ⟨rfl, rfl⟩
 | some r =>
  rw [hr] at h
  obtain ⟨rows', hj, rfl⟩ := h
  rw [hj]
  rfl
theorem read_bad {s : ByteArray} {p : Nat} (hz : s.size ≤ 65536) (hv : bad (bytesOf s) = some p) : (readR s).1 = [] ∧ (readR s).2.1 = 3 := by
 unfold readR fieldsR
 rw [if_neg (by omega), hv]
 exact ⟨rfl, rfl⟩
end Go.Proofs.Ytjmmdphkgioooaa.La
end
section
namespace Go.Proofs.Ytjmmdphkgioooaa.Pure
open Go.RowKit Go.Proofs.Ytjmmdphkgioooaa.P Go.Proofs.Ytjmmdphkgioooaa.La Go.Proofs.YtjmmdphkgioooaaW.PrintWords Go.Proofs.YtjmmdphkgioooaaW.PrintLast Go.Proofs.YtjmmdphkgioooaaW.PrintMore
/-- A line's fields. -/
def splitC : List Int → List (List Int)
 | [] => [[]]
 | b :: t => if b = 44 then [] :: splitC t else ((b :: (splitC t).headD []) :: (splitC t).tail)
theorem splitC_cons (t : List Int) : ∃ f r, splitC t = f :: r := by
 cases t with
 | nil => exact ⟨[], [], rfl⟩
 | cons b t =>
  rw [splitC]
  by_cases h : b = 44
  ·exact ⟨_, _, if_pos h⟩
  ·exact ⟨_, _, if_neg h⟩
theorem joinC_cons (b : Int) (f : List Int) (r : List (List Int)) : joinC ((b :: f) :: r) = b :: joinC (f :: r) := by cases r <;> rfl
theorem splitC_join (t : List Int) : joinC (splitC t) = t := by
 induction t with
 | nil => rfl
 | cons b t ih =>
  obtain ⟨f, r, hf⟩ := splitC_cons t
  rw [splitC]
  by_cases h : b = 44
  ·rw [if_pos h, hf, joinC, ← hf, ih, h]; rfl
  ·rw [if_neg h, hf, List.headD_cons, List.tail_cons, joinC_cons, ← hf, ih]
theorem splitC_len (t : List Int) : (splitC t).length ≤ t.length + 1 := by
 induction t with
 | nil => simp [splitC]
 | cons b t ih =>
  obtain ⟨f, r, hf⟩ := splitC_cons t
  rw [splitC]
  by_cases h : b = 44
  ·rw [if_pos h, List.length_cons, List.length_cons]; omega
  ·rw [if_neg h, hf, List.tail_cons, List.length_cons, List.length_cons]
   rw [hf, List.length_cons] at ih
   omega
def plainB (b : Int) : Prop := b ≠ 10 ∧ b ≠ 13 ∧ b ≠ 34
theorem splitC_mem (t : List Int) (ht : ∀ b ∈ t, plainB b) : ∀ f ∈ splitC t, (∀ b ∈ f, odd4 b = false) ∧ f.length ≤ t.length := by
 induction t with
 | nil =>
  intro f hf
  rw [List.mem_singleton.1 hf]
  exact ⟨(fun b hb => by cases hb), Nat.le_refl _⟩
 | cons b t ih =>
  have ih := ih (fun x hx => ht x (List.mem_cons_of_mem _ hx))
  obtain ⟨g, r, hg⟩ := splitC_cons t
  intro f hf
  rw [splitC] at hf
  by_cases h : b = 44
  ·rw [if_pos h] at hf
   rcases List.mem_cons.1 hf with rfl | hf
   ·exact ⟨(fun b hb => by cases hb), Nat.zero_le _⟩
   ·exact ⟨(ih f hf).1, by rw [List.length_cons]; exact Nat.le_succ_of_le (ih f hf).2⟩
  ·rw [if_neg h, hg, List.headD_cons, List.tail_cons] at hf
   rw [hg] at ih
   rcases List.mem_cons.1 hf with rfl | hf
   ·have hh := ih g List.mem_cons_self
    refine ⟨fun x hx => ?_, by rw [List.length_cons, List.length_cons]; omega⟩
    rcases List.mem_cons.1 hx with rfl | hx
    ·have := ht x List.mem_cons_self
     unfold plainB at this
     simp [odd4, h, this]
    ·exact hh.1 x hx
   ·have hh := ih f (List.mem_cons_of_mem _ hf)
    exact ⟨hh.1, by rw [List.length_cons]; omega⟩
/-- A line of plain fields. -/
def lineOf (e t : List Int) : Line := ((splitC t).map (fun f => (f, f)), e)
theorem lineOf_text (e t : List Int) : (lineOf e t).text = t ++ e := by
 unfold Line.text lineOf
 rw [List.map_map, show (Prod.fst ∘ fun f : List Int => (f, f)) = id from rfl, List.map_id, splitC_join]
def okL (t : List Int) : Prop := (∀ b ∈ t, plainB b) ∧ t.length ≤ 50
theorem lineOf_fit (e : List Int) {t : List Int} (ht : okL t) : (lineOf e t).1 ≠ [] ∧ (∀ p ∈ (lineOf e t).1, Wr p) ∧ (lineOf e t).1.length ≤ 64 := by
 refine ⟨?_, ?_, ?_⟩
 ·intro h
  obtain ⟨f, r, hf⟩ := splitC_cons t
  unfold lineOf at h
  rw [hf] at h
  cases h
 ·intro p hp
  obtain ⟨f, hf, rfl⟩ := List.mem_map.1 hp
  have h := splitC_mem t ht.1 f hf
  have := ht.2
  exact wr_plain h.1 (by omega)
 ·have h := splitC_len t
  have := ht.2
  unfold lineOf
  rw [List.length_map]
  omega
theorem lineOf_good {e t : List Int} (he : e = [10] ∨ e = [13, 10]) (ht : okL t) : (lineOf e t).good := by
 have h := lineOf_fit e ht
 exact ⟨h.1, h.2.1, he, h.2.2⟩
def els (e : List Int) (ts : List (List Int)) : List Line := ts.map (lineOf e)
def zls : List (List Int) → List Line
 | [] => []
 | [t] => [lineOf [] t]
 | t :: u :: r => lineOf [10] t :: zls (u :: r)
theorem els_lines {e : List Int} (he : e = [10] ∨ e = [13, 10]) : ∀ ts : List (List Int), (∀ t ∈ ts, okL t) → Lines (els e ts)
 | [], _ => trivial
 | [t], h => .inl (lineOf_good he (h t List.mem_cons_self))
 | t :: u :: r, h => ⟨lineOf_good he (h t List.mem_cons_self), els_lines he (u :: r) (fun x hx => h x (List.mem_cons_of_mem _ hx))⟩
theorem zls_lines : ∀ ts : List (List Int), (∀ t ∈ ts, okL t) → ts.getLast? ≠ some [] → Lines (zls ts)
 | [], _, _ => trivial
 | [t], h, hl => by
  have hf := lineOf_fit [] (h t List.mem_cons_self)
  refine .inr ⟨hf.1, hf.2.1, rfl, hf.2.2, ?_⟩
  rw [lineOf_text, List.append_nil]
  rintro rfl
  exact hl rfl
 | t :: u :: r, h, hl => by
  have h2 := zls_lines (u :: r) (fun x hx => h x (List.mem_cons_of_mem _ hx)) (by rw [List.getLast?_cons_cons] at hl; exact hl)
  have h1 := lineOf_good (.inl rfl) (h t List.mem_cons_self)
  rw [zls]
  cases hz : zls (u :: r) with
  | nil => exact .inl h1
  | cons a l => rw [hz] at h2; exact ⟨h1, h2⟩
theorem els_fst (e : List Int) (ts : List (List Int)) : (els e ts).map Prod.fst = ts.map (fun t => (splitC t).map (fun f => (f, f))) := by
 rw [els, List.map_map]; rfl
theorem zls_fst : ∀ ts : List (List Int), (zls ts).map Prod.fst = ts.map (fun t => (splitC t).map (fun f => (f, f)))
 | [] => rfl
 | [t] => rfl
 | t :: u :: r => by rw [zls, List.map_cons, zls_fst (u :: r), List.map_cons (l := u :: r)]; rfl
theorem els_cons (e t : List Int) (ts : List (List Int)) : textOf (els e (t :: ts)) = t ++ (e ++ textOf (els e ts)) := by
 rw [els, List.map_cons, textOf, List.flatMap_cons, lineOf_text, List.append_assoc]; rfl
theorem zls_text : ∀ ts : List (List Int), ts ≠ [] → textOf (zls ts) ++ [10] = textOf (els [10] ts)
 | [], h => absurd rfl h
 | [t], _ => by rw [els_cons]; simp [zls, els, textOf, lineOf_text]
 | t :: u :: r, _ => by
  rw [els_cons, ← zls_text (u :: r) (by simp), zls, textOf, List.flatMap_cons, lineOf_text]
  simp [textOf]
theorem els_bytes {e : List Int} (he : e = [10] ∨ e = [13, 10]) : ∀ ts : List (List Int), (∀ t ∈ ts, Bytes t) → Bytes (textOf (els e ts))
 | [], _ => fun b hb => by cases hb
 | t :: r, h => by
  rw [els_cons]
  refine (h t List.mem_cons_self).append (Bytes.append ?_ (els_bytes he r (fun x hx => h x (List.mem_cons_of_mem _ hx))))
  rcases he with rfl | rfl
  ·intro b hb; simp at hb; omega
  ·intro b hb; simp at hb; omega
theorem els_bad {e : List Int} (he : e = [10] ∨ e = [13, 10]) : ∀ ts : List (List Int), (∀ t ∈ ts, Bytes t) → (bad (textOf (els e ts)) = none ↔ ∀ t ∈ ts, bad t = none)
 | [], _ => ⟨(fun _ t ht => by cases ht), fun _ => bad_nil⟩
 | t :: r, h => by
  have hB := els_bytes he (t :: r) h
  have ih := els_bad he r (fun x hx => h x (List.mem_cons_of_mem _ hx))
  have e : bad (textOf (els e (t :: r))) = none ↔ bad t = none ∧ bad (textOf (els e r)) = none := by
   rw [els_cons] at hB ⊢
   rcases he with rfl | rfl
   ·exact bad_mid (by omega) (by omega) hB
   ·exact (bad_mid (by omega) (by omega) hB).trans (and_congr_right fun _ => bad_one_none (by omega) (by omega) _)
  rw [e, ih]
  simp
theorem zls_bad (ts : List (List Int)) (hn : ts ≠ []) (h : ∀ t ∈ ts, Bytes t) : bad (textOf (zls ts)) = none ↔ ∀ t ∈ ts, bad t = none := by
 rw [← els_bad (.inl rfl) ts h, ← zls_text ts hn]
 have hB := els_bytes (.inl rfl) ts h
 rw [← zls_text ts hn] at hB
 rw [bad_mid (by omega) (by omega) hB]
 exact ⟨fun h => ⟨h, bad_nil⟩, fun h => h.1⟩
theorem els_len {e : List Int} (he : e = [10] ∨ e = [13, 10]) : ∀ ts : List (List Int), (∀ t ∈ ts, okL t) → (textOf (els e ts)).length ≤ ts.length * 52
 | [], _ => Nat.le_refl _
 | t :: r, h => by
  have ih := els_len he r (fun x hx => h x (List.mem_cons_of_mem _ hx))
  have ht := (h t List.mem_cons_self).2
  have hel : e.length ≤ 2 := by rcases he with rfl | rfl <;> simp
  rw [els_cons, List.length_append, List.length_append, List.length_cons, Nat.succ_mul]
  omega
theorem rowsOf_some : ∀ (l : List (List (List Int × List Int))) (rows r : List (List ByteArray)), rowsOf rows l = some r → r = rows ++ l.map (·.map (fun p => strOfNums p.2))
 | [], rows, r, h => by
  rw [rowsOf] at h
  rw [← Option.some.inj h]; simp
 | a :: l, rows, r, h => by
  rw [rowsOf] at h
  split at h
  ·cases h
  ·rw [rowsOf_some l _ r h]; simp
/-- The same rows, the same fault. -/
theorem ends_same (ts : List (List Int)) (hn : ts ≠ []) (h20 : ts.length ≤ 20) (hok : ∀ t ∈ ts, okL t) (hB : ∀ t ∈ ts, Bytes t) (hl : ts.getLast? ≠ some [])
  (x y z : ByteArray) (hx : bytesOf x = textOf (els [10] ts)) (hy : bytesOf y = textOf (els [13, 10] ts)) (hz : bytesOf z = textOf (zls ts)) :
  (readR x).2.1 = (readR y).2.1 ∧ (readR x).2.1 = (readR z).2.1 ∧ (readR y).1 = (readR x).1 ∧ (readR z).1 = (readR x).1 ∧ (readR x).1.length ≤ 20 ∧ ∀ r ∈ (readR x).1, r.length ≤ 64 := by
 have lx := els_len (.inl rfl) ts hok
 have ly := els_len (.inr rfl) ts hok
 have lz := congrArg List.length (zls_text ts hn)
 rw [List.length_append] at lz
 have bx := els_bad (.inl rfl) ts hB
 have b_y := els_bad (.inr rfl) ts hB
 have bz := zls_bad ts hn hB
 by_cases hv : ∀ t ∈ ts, bad t = none
 ·have rx := read_lines _ (els_lines (.inl rfl) ts hok) (bx.2 hv) (by omega) (by rw [els, List.length_map]; omega) x hx
  have ry := read_lines _ (els_lines (.inr rfl) ts hok) (b_y.2 hv) (by omega) (by rw [els, List.length_map]; omega) y hy
  have rz := read_lines _ (zls_lines ts hok hl) (bz.2 hv) (by omega) (by
   have := congrArg List.length (zls_fst ts)
   rw [List.length_map, List.length_map] at this
   omega) z hz
  rw [els_fst] at rx ry
  rw [zls_fst] at rz
  cases hr : rowsOf [] (ts.map (fun t => (splitC t).map (fun f => (f, f)))) with
  | none =>
   rw [hr] at rx ry rz
   rw [rx.1, rx.2, ry.1, ry.2, rz.1, rz.2]
   exact ⟨rfl, rfl, rfl, rfl, Nat.zero_le _, fun r hr => by cases hr⟩
  | some r =>
   rw [hr] at rx ry rz
   simp only at rx ry rz
   rw [rx, ry, rz]
   refine ⟨rfl, rfl, rfl, rfl, ?_, ?_⟩
   ·rw [rowsOf_some _ _ _ hr]; simpa using h20
   ·intro q hq
    rw [rowsOf_some _ _ _ hr, List.nil_append, List.map_map] at hq
    obtain ⟨t, ht, rfl⟩ := List.mem_map.1 hq
    have h := (lineOf_fit [] (hok t ht)).2.2
    simpa [lineOf] using h
 ·have h1 : ∀ {s : ByteArray} {l : List Int}, bytesOf s = l → l.length ≤ 65536 → (bad l = none ↔ ∀ t ∈ ts, bad t = none) → (readR s).1 = [] ∧ (readR s).2.1 = 3 := by
   intro s l hs hl hb
   cases hq : bad l with
   | none => exact absurd (hb.1 hq) hv
   | some p => exact read_bad (by rw [← size_of, hs]; exact hl) (by rw [hs]; exact hq)
  have rx := h1 hx (by omega) bx
  have ry := h1 hy (by omega) b_y
  have rz := h1 hz (by omega) bz
  rw [rx.1, rx.2, ry.1, ry.2, rz.1, rz.2]
  exact ⟨rfl, rfl, rfl, rfl, Nat.zero_le _, fun r hr => by cases hr⟩
theorem rd_get (l : List ByteArray) {j : Nat} (h : j < l.length) : rdOf ByteArray.empty l (j : Int) = l[j] := by
 unfold rdOf
 rw [Int.toNat_natCast, List.getD_eq_getElem?_getD, List.getElem?_eq_getElem h]
 rfl
theorem map_take_succ (l : List ByteArray) {j : Nat} (h : j < l.length) : (l.map bytesOf).take (j + 1) = (l.map bytesOf).take j ++ [bytesOf l[j]] := by
 rw [List.take_add_one, List.getElem?_map, List.getElem?_eq_getElem h]
 rfl
theorem els_snoc (e : List Int) : ∀ (ts : List (List Int)) (t : List Int), textOf (els e (ts ++ [t])) = textOf (els e ts) ++ t ++ e
 | [], t => by rw [List.nil_append, els_cons]; simp [els, textOf]
 | a :: r, t => by rw [List.cons_append, els_cons, els_cons, els_snoc e r t]; simp
/-- The end. -/
theorem ends_last (l : List ByteArray) (h1 : 1 ≤ l.length) (h20 : l.length ≤ 20) (x y : ByteArray) (hx : bytesOf x = textOf (els [10] (l.map bytesOf))) (hy : bytesOf y = textOf (els [13, 10] (l.map bytesOf)))
  (hok : ∀ t ∈ l.map bytesOf, okL t) (hl : (l.map bytesOf).getLast? ≠ some []) : Ev (fun k => dragomanlaw13_CreadEnds.l0 k l x y (l.length : Int)) true := by
 have hB : ∀ t ∈ l.map bytesOf, Bytes t := by
  intro t ht
  obtain ⟨s, _, rfl⟩ := List.mem_map.1 ht
  exact bytes_of s
 have hn : l.map bytesOf ≠ [] := by
  intro h
  have := congrArg List.length h
  rw [List.length_map, List.length_nil] at this
  omega
 have lx := els_len (.inl rfl) _ hok
 have ly := els_len (.inr rfl) _ hok
 rw [← hx, size_of, List.length_map] at lx
 rw [← hy, size_of, List.length_map] at ly
 have hzt := zls_text _ hn
 rw [← hx] at hzt
 have lz := congrArg List.length hzt
 rw [List.length_append, size_of] at lz
 have lz : (textOf (zls (l.map bytesOf))).length + 1 = x.size := lz
 have e1 : (((x.size : Int) - 1)).toNat = (textOf (zls (l.map bytesOf))).length := by omega
 have hz : bytesOf (x.extract 0 ((x.size : Int) - 1).toNat) = textOf (zls (l.map bytesOf)) := by
  rw [e1, bytesOf_extract, List.drop_zero, ← hzt, List.take_left]
 have zs : (x.extract 0 ((x.size : Int) - 1).toNat).size ≤ 65536 := by rw [← size_of, hz]; omega
 obtain ⟨s1, s2, s3, s4, s5, s6⟩ := ends_same _ hn (by rw [List.length_map]; exact h20) hok hB hl x y _ hx hy hz
 refine Ev.step (fun k => by rw [dragomanlaw13_CreadEnds.l0, if_neg (show ¬ (l.length : Int) < (l.length : Int) by omega), rows_f x (by omega), rows_f y (by omega), Option.bind_some, Option.bind_some, wrap_id (show -9223372036854775808 ≤ (x.size : Int) - 1 by omega) (show (x.size : Int) - 1 < 9223372036854775808 by omega), if_pos (show 0 ≤ (x.size : Int) - 1 by omega), if_pos (show (x.size : Int) - 1 ≤ (x.size : Int) by omega), rows_f _ (by omega), Option.bind_some, if_pos s1, if_pos s2, s3, s4]) ?_
 have hs := same_ev (readR x).1 (by omega) (fun r hr => by have := s6 r hr; omega)
 refine Ev.bind hs ?_
 refine Ev.congr (fun k => if_pos rfl) ?_
 exact Ev.bind hs (Ev.now _)
theorem ej2 (l : List ByteArray) (x y : ByteArray) (j : Int) : Ev (fun k => dragomanlaw13_CreadEnds.j2 k l x y j true) true :=
 Ev.step (fun k => by rw [dragomanlaw13_CreadEnds.j2, if_pos rfl]) (Ev.now _)
mutual
theorem el1 (l : List ByteArray) (h1 : 1 ≤ l.length) (h20 : l.length ≤ 20) (d j : Nat) (x y : ByteArray) (hj : j < l.length) (hd : l.length - j = d + 1) (hx : bytesOf x = textOf (els [10] ((l.map bytesOf).take j))) (hy : bytesOf y = textOf (els [13, 10] ((l.map bytesOf).take j)))
  (hok : ∀ t ∈ (l.map bytesOf).take j, okL t) (h50 : l[j].size ≤ 50) (hne : j + 1 = l.length → bytesOf l[j] ≠ []) :
  ∀ (n i : Nat), i ≤ l[j].size → l[j].size - i = n → (∀ b ∈ (bytesOf l[j]).take i, plainB b) → Ev (fun k => dragomanlaw13_CreadEnds.l1 k l x y (j : Int) (i : Int)) true
 | 0, i, hi, hn, hp => by
  obtain rfl : i = l[j].size := by omega
  have lx := els_len (.inl rfl) _ hok
  have ly := els_len (.inr rfl) _ hok
  rw [← hx, size_of, List.length_take] at lx
  rw [← hy, size_of, List.length_take] at ly
  have lx' : x.size ≤ 1100 := by omega
  have ly' : y.size ≤ 1100 := by omega
  rw [List.take_of_length_le (by rw [size_of]; exact Nat.le_refl _)] at hp
  refine Ev.step (fun k => by rw [dragomanlaw13_CreadEnds.l1, if_pos (show (0 : Int) ≤ (j : Int) by omega), if_pos (show (j : Int) < (l.length : Int) by omega), rd_get l hj, if_neg (show ¬ (l[j].size : Int) < (l[j].size : Int) by omega), if_pos (by omega), if_pos (by rw [size_append']; omega), if_pos (by omega), if_pos (by rw [size_append']; omega), wrap_id (show -9223372036854775808 ≤ (j : Int) + 1 by omega) (show (j : Int) + 1 < 9223372036854775808 by omega)]) ?_
  refine el0 l h1 h20 d (j + 1) _ _ (by omega) (by omega) ?_ ?_ ?_ ?_
  ·rw [bytesOf_append, bytesOf_append, map_take_succ l hj, els_snoc, hx]; rfl
  ·rw [bytesOf_append, bytesOf_append, map_take_succ l hj, els_snoc, hy]; rfl
  ·intro t ht
   rw [map_take_succ l hj] at ht
   rcases List.mem_append.1 ht with ht | ht
   ·exact hok t ht
   ·rw [List.mem_singleton.1 ht]
    exact ⟨hp, by rw [size_of]; exact h50⟩
  ·intro hlast hg
   rw [List.getLast?_eq_getElem?, List.length_map, List.getElem?_map, ← hlast, Nat.add_sub_cancel, List.getElem?_eq_getElem hj] at hg
   exact hne hlast (Option.some.inj hg)
 | n + 1, i, hi, hn, hp => by
  have hlt : i < l[j].size := by omega
  have htk : (bytesOf l[j]).take (i + 1) = (bytesOf l[j]).take i ++ [bt l[j] (i : Int)] := by rw [List.take_add, drop_bt hlt]; rfl
  refine Ev.step (fun k => by rw [dragomanlaw13_CreadEnds.l1, if_pos (show (0 : Int) ≤ (j : Int) by omega), if_pos (show (j : Int) < (l.length : Int) by omega), rd_get l hj, if_pos (show (i : Int) < (l[j].size : Int) by omega), if_pos (show (0 : Int) ≤ (i : Int) by omega), wrap_id (show -9223372036854775808 ≤ (i : Int) + 1 by omega) (show (i : Int) + 1 < 9223372036854775808 by omega)]) ?_
  by_cases c1 : bt l[j] (i : Int) = 10
  ·exact Ev.congr (fun k => if_pos c1) (Ev.now _)
  by_cases c2 : bt l[j] (i : Int) = 13
  ·exact Ev.congr (fun k => by rw [if_neg c1, if_pos c2]) (Ev.now _)
  by_cases c3 : bt l[j] (i : Int) = 34
  ·exact Ev.congr (fun k => by rw [if_neg c1, if_neg c2, if_pos c3]) (Ev.now _)
  refine Ev.congr (fun k => by rw [if_neg c1, if_neg c2, if_neg c3]) ?_
  refine el1 l h1 h20 d j x y hj hd hx hy hok h50 hne n (i + 1) (by omega) (by omega) ?_
  intro b hb
  rw [htk] at hb
  rcases List.mem_append.1 hb with hb | hb
  ·exact hp b hb
  ·rw [List.mem_singleton.1 hb]; exact ⟨c1, c2, c3⟩
theorem el0 (l : List ByteArray) (h1 : 1 ≤ l.length) (h20 : l.length ≤ 20) : ∀ (d j : Nat) (x y : ByteArray), j ≤ l.length → l.length - j = d → bytesOf x = textOf (els [10] ((l.map bytesOf).take j)) → bytesOf y = textOf (els [13, 10] ((l.map bytesOf).take j)) →
  (∀ t ∈ (l.map bytesOf).take j, okL t) → (j = l.length → (l.map bytesOf).getLast? ≠ some []) → Ev (fun k => dragomanlaw13_CreadEnds.l0 k l x y (j : Int)) true
 | 0, j, x, y, hj, hd, hx, hy, hok, hl => by
  obtain rfl : j = l.length := by omega
  rw [List.take_of_length_le (by rw [List.length_map]; exact Nat.le_refl _)] at hx hy hok
  exact ends_last l h1 h20 x y hx hy hok (hl rfl)
 | d + 1, j, x, y, hj, hd, hx, hy, hok, hl => by
  have hlt : j < l.length := by omega
  refine Ev.step (fun k => by rw [dragomanlaw13_CreadEnds.l0, if_pos (show (j : Int) < (l.length : Int) by omega), if_pos (show (0 : Int) ≤ (j : Int) by omega), rd_get l hlt, wrap_id (show -9223372036854775808 ≤ (l.length : Int) - 1 by omega) (show (l.length : Int) - 1 < 9223372036854775808 by omega)]) ?_
  by_cases c1 : (l[j].size : Int) > 50
  ·exact Ev.congr (fun k => if_pos c1) (ej2 _ _ _ _)
  refine Ev.congr (fun k => if_neg c1) ?_
  have hgo : (j + 1 = l.length → bytesOf l[j] ≠ []) → Ev (fun k => dragomanlaw13_CreadEnds.j2 k l x y (j : Int) false) true := fun hne =>
   Ev.step (fun k => by rw [dragomanlaw13_CreadEnds.j2, if_neg Bool.false_ne_true]; rfl) (el1 l h1 h20 d j x y hlt hd hx hy hok (by omega) hne l[j].size 0 (Nat.zero_le _) rfl (fun b hb => by cases hb))
  by_cases c2 : l[j].toList = ([] : List UInt8)
  ·refine Ev.congr (fun k => if_pos c2) ?_
   by_cases c3 : (j : Int) = (l.length : Int) - 1
   ·rw [beq_iff_eq.2 c3]
    exact ej2 _ _ _ _
   ·rw [beq_eq_false_iff_ne.2 c3]
    exact hgo (fun h => absurd h (by omega))
  ·refine Ev.congr (fun k => if_neg c2) (hgo (fun _ h => c2 ((toList_nil_iff _).2 h)))
end
theorem CreadEnds (l : List ByteArray) : ∃ k, dragomanlaw13_CreadEnds.f k l = some true := by
 apply Ev.rounds
 refine Ev.congr (fun k => by rw [dragomanlaw13_CreadEnds.f]) (Ev.bind awake13_ev ?_)
 refine Ev.congr (fun k => if_pos rfl) ?_
 have hj : Ev (fun k => dragomanlaw13_CreadEnds.j0 k l true) true := Ev.step (fun k => by rw [dragomanlaw13_CreadEnds.j0, if_pos rfl]) (Ev.now _)
 by_cases h0 : (l.length : Int) < 1
 ·exact Ev.congr (fun k => if_pos h0) hj
 refine Ev.congr (fun k => if_neg h0) ?_
 by_cases h1 : (l.length : Int) > 20
 ·rw [decide_eq_true h1]
  exact hj
 ·rw [decide_eq_false h1]
  refine Ev.step (fun k => by rw [dragomanlaw13_CreadEnds.j0, if_neg Bool.false_ne_true]) ?_
  exact el0 l (by omega) (by omega) l.length 0 ⟨#[]⟩ ⟨#[]⟩ (Nat.zero_le _) rfl rfl rfl (fun t ht => by cases ht) (fun h => absurd h (by omega))
end Go.Proofs.Ytjmmdphkgioooaa.Pure
end
