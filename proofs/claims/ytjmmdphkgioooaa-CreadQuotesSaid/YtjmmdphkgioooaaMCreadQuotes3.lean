/- The parts of this claim's proof, in one text: what each Go function answers and that its call comes to it; plain facts of lists of numbers. Conditions as each theorem names them. -/
import Derived.ArgAppend
import Derived.Below
import Derived.BigCall
import Derived.BigQuiet
import Derived.Deep.AppendLies
import Derived.Deep.CutBlock
import Derived.Deep.DeepCutAuto
import Derived.Deep.Draws
import Derived.Deep.LoopGhost
import Derived.Deep.OwnRows
import Derived.Deep.QuietTactic
import Derived.Deep.RegionHeld3
import Derived.Deep.RegionWith
import Derived.Defers
import Derived.KernelRfl
import Derived.Laws.BitsLemmas
import Derived.Laws.BytesArg
import Derived.Laws.IdiomCopy
import Derived.Laws.MakeOwn
import Derived.Laws.OwnMore
import Derived.Laws.RangeAny
import Derived.Laws.Rows
import Derived.Laws.Runes
import Derived.Laws.Slices
import Derived.Lib.AppendStr
import Derived.Lib.Bytealg
import Derived.Lib.Bytes
import Derived.Lib.ConvBytes
import Derived.Lib.Hide
import Derived.Maps.AppendAt
import Derived.OrdersHeld
import Derived.Outline
import Derived.OwnWalk
import Derived.Recover
import Derived.RowKit
import Derived.RowKit3
import Derived.Shelf.LaysM
import Derived.Shelf.Small.Strs
import Derived.Shelf.Small.Utf8
import Derived.Shelf.Strings.AsciiSet
import Derived.Shelf.Strings.Builder1
import Derived.Shelf.Strings.BuilderF
import Derived.Shelf.Strings.BuilderK
import Derived.Shelf.Strings.Count
import Derived.Shelf.Strings.IndexAny
import Derived.Shelf.Strings.IndexAnyAll
import Derived.Shelf.Strings.Prefix
import Derived.Shelf.Strings.Runes
import Derived.Shelf.Strings.Search1
import Derived.Shelf.Strings.Search2
import Derived.Shelf.Strings.Search3
import Derived.Shelf.Strings.Shaped
import Derived.Shelf.Strings.Split
import Derived.Tactics
import Derived.Tactics2
import Derived.WalkKit
import Derived.WalkSmall
import Derived.WideLaws
import Derived.Test.YtjmmdphkgioooaaProg
import Derived.Test.YtjmmdphkgioooaaWApart
import Derived.Test.YtjmmdphkgioooaaWArr
import Derived.Test.YtjmmdphkgioooaaWAt
import Derived.Test.YtjmmdphkgioooaaWEqStruct
import Derived.Test.YtjmmdphkgioooaaWFoot
import Derived.Test.YtjmmdphkgioooaaWFootNe
import Derived.Test.YtjmmdphkgioooaaWFour
import Derived.Test.YtjmmdphkgioooaaWGuard
import Derived.Test.YtjmmdphkgioooaaWInv
import Derived.Test.YtjmmdphkgioooaaWInvWords
import Derived.Test.YtjmmdphkgioooaaWKept
import Derived.Test.YtjmmdphkgioooaaWLast
import Derived.Test.YtjmmdphkgioooaaWMake0
import Derived.Test.YtjmmdphkgioooaaWMore
import Derived.Test.YtjmmdphkgioooaaWN
import Derived.Test.YtjmmdphkgioooaaWNEv
import Derived.Test.YtjmmdphkgioooaaWQPut
import Derived.Test.YtjmmdphkgioooaaWRepsOne
import Derived.Test.YtjmmdphkgioooaaWShare
import Derived.Test.YtjmmdphkgioooaaWTab
import Derived.Test.YtjmmdphkgioooaaWWords
import Derived.Test.YtjmmdphkgioooaaWZeros
import Derived.Test.YtjmmdphkgioooaaMCreadQuotes1
import Derived.Test.YtjmmdphkgioooaaMCreadQuotes2
section
namespace Go.Proofs.Ytjmmdphkgioooaa.P
open Go.RowKit Go.Proofs.YtjmmdphkgioooaaW.PrintWords Go.Proofs.YtjmmdphkgioooaaW.PrintLast Go.Proofs.YtjmmdphkgioooaaW.PrintMore
attribute [local go_sem] max2_int min2_int max_two min_two max_three min_three max_four min_four   -- for this text's walks alone
attribute [-simp] ByteArray.size_extract
set_option linter.unusedVariables false
set_option linter.unusedSimpArgs false
/-! ### dragomanlaw13_CreadQuotes: function 7 -/
mutual
def dragomanlaw13_CreadQuotes.j0 : Nat → ByteArray → Int → Int → Bool → Option (Bool)
 | 0, _, _, _, _ => none
 | k + 1, x0, x1, x2, x34 => if x34 = true then (some true) else (dragomanlaw13_CreadQuotes.l0 k x0 x1 x2 (⟨#[]⟩ : ByteArray) 0)
def dragomanlaw13_CreadQuotes.l0 : Nat → ByteArray → Int → Int → ByteArray → Int → Option (Bool)
 | 0, _, _, _, _, _ => none
 | k + 1, x0, x1, x2, x7, x8 => if x8 < (x0.size : Int) then (if 0 ≤ x8 then (if x8 ≤ (wrap64 (x8 + 1)) then (if (wrap64 (x8 + 1)) ≤ (x0.size : Int) then (if x7.size + (x0.extract (x8 : Int).toNat ((wrap64 (x8 + 1)) : Int).toNat).size ≤ 9223372036854775807 then (if (bt x0 x8) = 34 then (if (x7 ++ (x0.extract (x8 : Int).toNat ((wrap64 (x8 + 1)) : Int).toNat)).size + 1 ≤ 9223372036854775807 then (dragomanlaw13_CreadQuotes.l0 k x0 x1 x2 ((x7 ++ (x0.extract (x8 : Int).toNat ((wrap64 (x8 + 1)) : Int).toNat)) ++ (⟨#[34]⟩ : ByteArray)) (wrap64 (x8 + 1))) else (none)) else (dragomanlaw13_CreadQuotes.l0 k x0 x1 x2 (x7 ++ (x0.extract (x8 : Int).toNat ((wrap64 (x8 + 1)) : Int).toNat)) (wrap64 (x8 + 1)))) else (none)) else (none)) else (none)) else (none)) else (if 1 + x7.size ≤ 9223372036854775807 then (if ((⟨#[34]⟩ : ByteArray) ++ x7).size + 1 ≤ 9223372036854775807 then (dragomanlaw13_CreadQuotes.l1 k x0 x1 x2 (((⟨#[34]⟩ : ByteArray) ++ x7) ++ (⟨#[34]⟩ : ByteArray)) 0) else (none)) else (none))
def dragomanlaw13_CreadQuotes.l1 : Nat → ByteArray → Int → Int → ByteArray → Int → Option (Bool)
 | 0, _, _, _, _, _ => none
 | k + 1, x0, x1, x2, x9, x10 => if x10 < x1 then (if 2 + x9.size ≤ 9223372036854775807 then (dragomanlaw13_CreadQuotes.l1 k x0 x1 x2 ((⟨#[120, 44]⟩ : ByteArray) ++ x9) (wrap64 (x10 + 1))) else (none)) else (dragomanlaw13_CreadQuotes.l2 k x0 x1 x2 x9 0)
def dragomanlaw13_CreadQuotes.l2 : Nat → ByteArray → Int → Int → ByteArray → Int → Option (Bool)
 | 0, _, _, _, _, _ => none
 | k + 1, x0, x1, x2, x9, x11 => if x11 < x2 then (if x9.size + 2 ≤ 9223372036854775807 then (dragomanlaw13_CreadQuotes.l2 k x0 x1 x2 (x9 ++ (⟨#[44, 121]⟩ : ByteArray)) (wrap64 (x11 + 1))) else (none)) else ((cread_Rows.f x9).bind fun bt401 => ((dragomanlaw13_letters.f k x0).bind fun t409 => (if t409 = true then (if bt401.2.1 = 0 then (if (bt401.1.length : Int) = 1 then (if 0 < (bt401.1.length : Int) then (if ((rd_L4 bt401.1 0).length : Int) = (wrap64 ((wrap64 (x1 + x2)) + 1)) then (if 0 ≤ x1 then (if x1 < ((rd_L4 bt401.1 0).length : Int) then (some ((rdOf ByteArray.empty (rd_L4 bt401.1 0) x1).toList == x0.toList)) else (none)) else (none)) else (some false)) else (none)) else (some false)) else (some false)) else (if bt401.2.1 = 0 then (some false) else (some ((bt401.1.length : Int) == 0))))))
end
def dragomanlaw13_CreadQuotes.f (k : Nat) (a0 : ByteArray) (a1 : Int) (a2 : Int) : Option (Bool) := (dragomanlaw13_awake.f k).bind fun t400 => (if t400 = true then (if (a0.size : Int) > 300 then (dragomanlaw13_CreadQuotes.j0 k a0 a1 a2 true) else (if a1 < 0 then (dragomanlaw13_CreadQuotes.j0 k a0 a1 a2 true) else (if a1 > 5 then (dragomanlaw13_CreadQuotes.j0 k a0 a1 a2 true) else (if a2 < 0 then (dragomanlaw13_CreadQuotes.j0 k a0 a1 a2 true) else (dragomanlaw13_CreadQuotes.j0 k a0 a1 a2 (decide (a2 > 5))))))) else (some false))
set_option maxHeartbeats 8000000 in
set_option maxRecDepth 100000 in
theorem dragomanlaw13_CreadQuotes.calls (k : Nat) (a0 : ByteArray) (a1 : Int) (a2 : Int) (r : Bool) (w : World) (h : dragomanlaw13_CreadQuotes.f k a0 a1 a2 = some r) :
  Calls Try.prog 7 #[.string a0, .int .i64 a1, .int .i64 a2] w fun e w' => e = .returned (.bool r) ∧ Below w.heap.size w w' := by
 have hu26 := Try.underlying26
 have HB := Aside0.mk (Below.refl w.heap.size w)
 have H : ((dragomanlaw13_awake.f k).bind fun t400 => (if t400 = true then (if (a0.size : Int) > 300 then (dragomanlaw13_CreadQuotes.j0 k a0 a1 a2 true) else (if a1 < 0 then (dragomanlaw13_CreadQuotes.j0 k a0 a1 a2 true) else (if a1 > 5 then (dragomanlaw13_CreadQuotes.j0 k a0 a1 a2 true) else (if a2 < 0 then (dragomanlaw13_CreadQuotes.j0 k a0 a1 a2 true) else (dragomanlaw13_CreadQuotes.j0 k a0 a1 a2 (decide (a2 > 5))))))) else (some false))) = some r := h
 clear h
 replace H := Option.bind_eq_some_iff.mp H
 obtain ⟨t400, A40, H⟩ := H
 replace H : (if t400 = true then (if (a0.size : Int) > 300 then (dragomanlaw13_CreadQuotes.j0 k a0 a1 a2 true) else (if a1 < 0 then (dragomanlaw13_CreadQuotes.j0 k a0 a1 a2 true) else (if a1 > 5 then (dragomanlaw13_CreadQuotes.j0 k a0 a1 a2 true) else (if a2 < 0 then (dragomanlaw13_CreadQuotes.j0 k a0 a1 a2 true) else (dragomanlaw13_CreadQuotes.j0 k a0 a1 a2 (decide (a2 > 5))))))) else (some false)) = some r := H
 have A4 := Aside0.mk A40
 clear A40
 by_cases c5 : t400 = true
 ·subst c5
  have H1 : (if (a0.size : Int) > 300 then (dragomanlaw13_CreadQuotes.j0 k a0 a1 a2 true) else (if a1 < 0 then (dragomanlaw13_CreadQuotes.j0 k a0 a1 a2 true) else (if a1 > 5 then (dragomanlaw13_CreadQuotes.j0 k a0 a1 a2 true) else (if a2 < 0 then (dragomanlaw13_CreadQuotes.j0 k a0 a1 a2 true) else (dragomanlaw13_CreadQuotes.j0 k a0 a1 a2 (decide (a2 > 5))))))) = some r := by rw [if_pos rfl] at H; exact H
  clear H
  have H := H1
  clear H1
  have HC6 := Aside0.mk H
  clear H
  go_enter Try.func7, Try.ntmps7
  go_upto_region 3 with (first | ((with_reducible refine gate_callee (f := 8) rfl ?_); refine goesL_ (some 14) rfl rfl Try.func8 (by kernel_rfl) rfl #[] rfl (by (try simp only [List.map_toArray, List.map_cons, List.map_nil]); first | done | rfl | (simp only [List.length_drop, List.length_take]; rfl)) ?_; (with_reducible refine (dragomanlaw13_awake.calls k  true _ A4.out).mono ?_); rintro e w7 ⟨rfl, hb⟩; refine ⟨_, rfl, ?_⟩; have n0_ := Aside0.mk (below_step (by repeat (first | (with_reducible first | exact HB.out | apply below_alloc | apply pw_below_drewN | apply below_drew1) | exact HB.out)) hb); clear HB; have HB := n0_; clear n0_; (try clear hb); (try clear hb2); (try clear hk); (try clear hi)))
  (try simp only [Act.put, List.setIfInBounds_toArray, List.set_cons_zero, List.set_cons_succ])
  go_cut [34] (fun v34 wc => ∃ (kq : Nat) (x34_5 : Bool), v34 = .bool x34_5 ∧ Aside0 (dragomanlaw13_CreadQuotes.j0 kq a0 a1 a2 x34_5 = some r) ∧ Aside0 (kq ≤ k) ∧ Aside0 (Below w.heap.size w wc))
  case first =>
   have H := HC6.out
   clear HC6
   by_cases c8 : (a0.size : Int) > 300
   ·rw [if_pos c8] at H
    have c8b0 : decide (300 < (a0.size : Int)) = true := decide_eq_true c8
    have c8b1 : decide (300 < a0.size) = true := decide_eq_true (by omega)
    clear c8
    (first | rw [c8b0] | (simp only [i64_w, i32_w]; rw [c8b0]) | skip)
    have H' := Aside0.mk H
    clear H
    go_wp2
    go_meet
    case rel => exact ⟨_, (true), (by first | rfl | (simp; done) | (simp [*]; done)), H', ⟨by first | omega | exact Nat.le_refl _⟩, ⟨by repeat (first | (with_reducible first | exact HB.out | apply below_alloc | apply pw_below_drewN | apply below_drew1) | exact HB.out)⟩⟩
   ·rw [if_neg c8] at H
    have c8b0 : decide (300 < (a0.size : Int)) = false := decide_eq_false c8
    have c8b1 : decide (300 < a0.size) = false := decide_eq_false (by omega)
    clear c8
    (first | rw [c8b0] | (simp only [i64_w, i32_w]; rw [c8b0]) | skip)
    by_cases c9 : a1 < 0
    ·rw [if_pos c9] at H
     have c9b0 : decide (a1 < 0) = true := decide_eq_true c9
     clear c9
     have H' := Aside0.mk H
     clear H
     go_wp2
     go_meet
     case rel => exact ⟨_, (true), (by first | rfl | (simp; done) | (simp [*]; done)), H', ⟨by first | omega | exact Nat.le_refl _⟩, ⟨by repeat (first | (with_reducible first | exact HB.out | apply below_alloc | apply pw_below_drewN | apply below_drew1) | exact HB.out)⟩⟩
    ·rw [if_neg c9] at H
     have c9b0 : decide (a1 < 0) = false := decide_eq_false c9
     clear c9
     by_cases c10 : a1 > 5
     ·rw [if_pos c10] at H
      have c10b0 : decide (5 < a1) = true := decide_eq_true c10
      clear c10
      have H' := Aside0.mk H
      clear H
      go_wp2
      go_meet
      case rel => exact ⟨_, (true), (by first | rfl | (simp; done) | (simp [*]; done)), H', ⟨by first | omega | exact Nat.le_refl _⟩, ⟨by repeat (first | (with_reducible first | exact HB.out | apply below_alloc | apply pw_below_drewN | apply below_drew1) | exact HB.out)⟩⟩
     ·rw [if_neg c10] at H
      have c10b0 : decide (5 < a1) = false := decide_eq_false c10
      clear c10
      by_cases c11 : a2 < 0
      ·rw [if_pos c11] at H
       have c11b0 : decide (a2 < 0) = true := decide_eq_true c11
       clear c11
       have H' := Aside0.mk H
       clear H
       go_wp2
       go_meet
       case rel => exact ⟨_, (true), (by first | rfl | (simp; done) | (simp [*]; done)), H', ⟨by first | omega | exact Nat.le_refl _⟩, ⟨by repeat (first | (with_reducible first | exact HB.out | apply below_alloc | apply pw_below_drewN | apply below_drew1) | exact HB.out)⟩⟩
      ·rw [if_neg c11] at H
       have c11b0 : decide (a2 < 0) = false := decide_eq_false c11
       clear c11
       have H' := Aside0.mk H
       clear H
       go_wp2
       go_meet
       case rel => exact ⟨_, (decide (a2 > 5)), (by first | rfl | (simp; done) | (simp [*]; done)), H', ⟨by first | omega | exact Nat.le_refl _⟩, ⟨by repeat (first | (with_reducible first | exact HB.out | apply below_alloc | apply pw_below_drewN | apply below_drew1) | exact HB.out)⟩⟩
  case rest =>
   clear HC6
   try clear c1
   try clear p2
   try clear c5
   try clear c7
   try clear c8
   try clear c8b0
   try clear c8b1
   try clear c9
   try clear c9b0
   try clear c10
   try clear c10b0
   try clear c11
   try clear c11b0
   obtain ⟨kq, x34_5, rfl, HA, HJ5, HB⟩ := hcut
   cases kq with
   | zero => exact absurd HA.out (by simp [dragomanlaw13_CreadQuotes.j0])
   | succ kj5 =>
    have H := HA.out
    clear HA
    simp only [dragomanlaw13_CreadQuotes.j0] at H
    by_cases c12 : x34_5 = true
    ·subst c12
     have H1 : (some true) = some r := by rw [if_pos rfl] at H; exact H
     clear H
     have H := H1
     clear H1
     obtain rfl := Option.some.inj H
     go_wp2
     go_ret
     exact ⟨by first | rfl | (simp [errW_none, errW_some] <;> rfl) | (simp [*, errW_none, errW_some, bne]; done) | (simp [*, errW_none, errW_some] <;> rfl), by repeat (first | (with_reducible first | exact HB.out | apply below_alloc | apply pw_below_drewN | apply below_drew1) | exact HB.out)⟩
    ·replace c12 := Bool.eq_false_iff.mpr c12
     subst c12
     have H1 : (dragomanlaw13_CreadQuotes.l0 kj5 a0 a1 a2 (⟨#[]⟩ : ByteArray) 0) = some r := by rw [if_neg (show ¬ (false = true) by decide)] at H; exact H
     clear H
     have H := H1
     clear H1
     have H' := Aside0.mk H
     clear H
     go_wp2
     go_loopg [7, 8] kj5 (fun kq v7 v8 w' => ∃ (x7_2 : ByteArray) (x8_2 : Int), v7 = .string x7_2 ∧ v8 = .int .i64 x8_2 ∧ Aside0 (dragomanlaw13_CreadQuotes.l0 kq a0 a1 a2 x7_2 x8_2 = some r) ∧ Aside0 (kq ≤ kj5) ∧ Aside0 (Below w.heap.size w w'))
     case atStart => exact ⟨((⟨#[]⟩ : ByteArray)), (0), (by first | rfl | (simp; done) | (simp [*]; done)), (by first | rfl | (simp; done) | (simp [*]; done)), H', ⟨Nat.le_refl _⟩, ⟨by repeat (first | (with_reducible first | exact HB.out | apply below_alloc | apply pw_below_drewN | apply below_drew1) | exact HB.out)⟩⟩
     case round =>
      clear H'
      try clear c1
      try clear p2
      try clear c5
      try clear c7
      try clear c8
      try clear c8b0
      try clear c8b1
      try clear c9
      try clear c9b0
      try clear c10
      try clear c10b0
      try clear c11
      try clear c11b0
      try clear c12
      try clear p2
      obtain ⟨x7_2, x8_2, rfl, rfl, HA, HK2, HB⟩ := hrel
      cases gk with
      | zero => exact absurd HA.out (by simp [dragomanlaw13_CreadQuotes.l0])
      | succ k2 =>
       have H := HA.out
       clear HA
       simp only [dragomanlaw13_CreadQuotes.l0] at H
       by_cases c13 : x8_2 < (a0.size : Int)
       ·rw [if_pos c13] at H
        have c13b0 : decide (x8_2 < (a0.size : Int)) = true := decide_eq_true c13
        clear c13
        by_cases c14 : 0 ≤ x8_2
        ·rw [if_pos c14] at H
         have c14b0 := eq_true c14
         have c14b1 : decide (0 ≤ x8_2) = true := decide_eq_true c14
         clear c14
         by_cases c15 : x8_2 ≤ (wrap64 (x8_2 + 1))
         ·rw [if_pos c15] at H
          have c15b0 := eq_true c15
          have c15b1 : decide (x8_2 ≤ (wrap64 (x8_2 + 1))) = true := decide_eq_true c15
          by_cases c16 : (wrap64 (x8_2 + 1)) ≤ (a0.size : Int)
          ·rw [if_pos c16] at H
           have c16b0 := eq_true c16
           have c16b1 : decide ((wrap64 (x8_2 + 1)) ≤ (a0.size : Int)) = true := decide_eq_true c16
           by_cases c17 : x7_2.size + (a0.extract (x8_2 : Int).toNat ((wrap64 (x8_2 + 1)) : Int).toNat).size ≤ 9223372036854775807
           ·rw [if_pos c17] at H
            have c17b0 := eq_true c17
            have c17b1 : decide (x7_2.size + (a0.extract (x8_2 : Int).toNat ((wrap64 (x8_2 + 1)) : Int).toNat).size ≤ 9223372036854775807) = true := decide_eq_true c17
            try have c17b2 : (9223372036854775807 < x7_2.size + (a0.extract (x8_2 : Int).toNat ((wrap64 (x8_2 + 1)) : Int).toNat).size) = False := eq_false (Nat.not_lt.2 c17)
            by_cases c19 : (bt a0 x8_2) = 34
            ·rw [if_pos c19] at H
             have c19b0 : ((bt a0 x8_2) == 34) = true := beq_iff_eq.mpr c19
             have c19b1 : ((bt a0 x8_2) != 34) = false := bne_eq_false_iff_eq.mpr c19
             clear c19
             by_cases c20 : (x7_2 ++ (a0.extract (x8_2 : Int).toNat ((wrap64 (x8_2 + 1)) : Int).toNat)).size + 1 ≤ 9223372036854775807
             ·rw [if_pos c20] at H
              have c20b0 := eq_true c20
              have c20b1 : decide ((x7_2 ++ (a0.extract (x8_2 : Int).toNat ((wrap64 (x8_2 + 1)) : Int).toNat)).size + 1 ≤ 9223372036854775807) = true := decide_eq_true c20
              try have c20b2 : (9223372036854775807 < (x7_2 ++ (a0.extract (x8_2 : Int).toNat ((wrap64 (x8_2 + 1)) : Int).toNat)).size + 1) = False := eq_false (Nat.not_lt.2 c20)
              try (have c20b4 := c20b2; simp only [ByteArray.size_append] at c20b4)
              have H' := Aside0.mk H
              clear H
              have p18 : 0 ≤ (x8_2 : Int) := of_decide_eq_true (by first | (with_reducible assumption) | assumption)
              have q18 : x8_2 < (a0.size : Int) := of_decide_eq_true (by first | (with_reducible assumption) | assumption)
              have hx18 := bt_at a0 x8_2
              replace p18 := eq_true p18
              replace q18 := eq_true q18
              go_wp2
              go_roundg k2
              case measure => have := HJ5.out; have := HK2.out; omega
              case rel => exact ⟨((x7_2 ++ (a0.extract (x8_2 : Int).toNat ((wrap64 (x8_2 + 1)) : Int).toNat)) ++ (⟨#[34]⟩ : ByteArray)), (wrap64 (x8_2 + 1)), (by first | rfl | (simp; done) | (simp [*]; done)), (by first | rfl | (simp; done) | (simp [*]; done)), H', ⟨by have := HJ5.out; have := HK2.out; omega⟩, ⟨by repeat (first | (with_reducible first | exact HB.out | apply below_alloc | apply pw_below_drewN | apply below_drew1) | exact HB.out)⟩⟩
             ·rw [if_neg c20] at H
              exact absurd H (by simp)
            ·rw [if_neg c19] at H
             have c19b0 : ((bt a0 x8_2) == 34) = false := beq_eq_false_iff_ne.mpr c19
             have c19b1 : ((bt a0 x8_2) != 34) = true := bne_iff_ne.mpr c19
             have H' := Aside0.mk H
             clear H
             have p18 : 0 ≤ (x8_2 : Int) := of_decide_eq_true (by first | (with_reducible assumption) | assumption)
             have q18 : x8_2 < (a0.size : Int) := of_decide_eq_true (by first | (with_reducible assumption) | assumption)
             have hx18 := bt_at a0 x8_2
             replace p18 := eq_true p18
             replace q18 := eq_true q18
             go_wp2
             go_roundg k2
             case measure => have := HJ5.out; have := HK2.out; omega
             case rel => exact ⟨(x7_2 ++ (a0.extract (x8_2 : Int).toNat ((wrap64 (x8_2 + 1)) : Int).toNat)), (wrap64 (x8_2 + 1)), (by first | rfl | (simp; done) | (simp [*]; done)), (by first | rfl | (simp; done) | (simp [*]; done)), H', ⟨by have := HJ5.out; have := HK2.out; omega⟩, ⟨by repeat (first | (with_reducible first | exact HB.out | apply below_alloc | apply pw_below_drewN | apply below_drew1) | exact HB.out)⟩⟩
           ·rw [if_neg c17] at H
            exact absurd H (by simp)
          ·rw [if_neg c16] at H
           exact absurd H (by simp)
         ·rw [if_neg c15] at H
          exact absurd H (by simp)
        ·rw [if_neg c14] at H
         exact absurd H (by simp)
       ·rw [if_neg c13] at H
        have c13b0 : decide (x8_2 < (a0.size : Int)) = false := decide_eq_false c13
        clear c13
        by_cases c21 : 1 + x7_2.size ≤ 9223372036854775807
        ·rw [if_pos c21] at H
         have c21b0 := eq_true c21
         have c21b1 : decide (1 + x7_2.size ≤ 9223372036854775807) = true := decide_eq_true c21
         try have c21b2 : (9223372036854775807 < 1 + x7_2.size) = False := eq_false (Nat.not_lt.2 c21)
         by_cases c22 : ((⟨#[34]⟩ : ByteArray) ++ x7_2).size + 1 ≤ 9223372036854775807
         ·rw [if_pos c22] at H
          have c22b0 := eq_true c22
          have c22b1 : decide (((⟨#[34]⟩ : ByteArray) ++ x7_2).size + 1 ≤ 9223372036854775807) = true := decide_eq_true c22
          try have c22b2 : (9223372036854775807 < ((⟨#[34]⟩ : ByteArray) ++ x7_2).size + 1) = False := eq_false (Nat.not_lt.2 c22)
          try (have c22b4 := c22b2; simp only [ByteArray.size_append, show (⟨#[34]⟩ : ByteArray).size = 1 from rfl] at c22b4)
          have H' := Aside0.mk H
          clear H
          go_wp2
          go_loopg [9, 10] k2 (fun kq v9 v10 w' => ∃ (x9_3 : ByteArray) (x10_3 : Int), v9 = .string x9_3 ∧ v10 = .int .i64 x10_3 ∧ Aside0 (dragomanlaw13_CreadQuotes.l1 kq a0 a1 a2 x9_3 x10_3 = some r) ∧ Aside0 (kq ≤ k2) ∧ Aside0 (Below w.heap.size w w'))
          case atStart => exact ⟨(((⟨#[34]⟩ : ByteArray) ++ x7_2) ++ (⟨#[34]⟩ : ByteArray)), (0), (by first | rfl | (simp; done) | (simp [*]; done)), (by first | rfl | (simp; done) | (simp [*]; done)), H', ⟨Nat.le_refl _⟩, ⟨by repeat (first | (with_reducible first | exact HB.out | apply below_alloc | apply pw_below_drewN | apply below_drew1) | exact HB.out)⟩⟩
          case round =>
           clear H'
           try clear c1
           try clear p1
           try clear q1
           try clear hx1
           try clear c2
           try clear p2
           try clear c5
           try clear p6
           try clear c7
           try clear c8
           try clear c8b0
           try clear c8b1
           try clear c9
           try clear c9b0
           try clear c10
           try clear c10b0
           try clear c11
           try clear c11b0
           try clear c12
           try clear c13
           try clear c13b0
           try clear c14
           try clear c14b0
           try clear c14b1
           try clear c15
           try clear c15b0
           try clear c15b1
           try clear c16
           try clear c16b0
           try clear c16b1
           try clear c17
           try clear c17b0
           try clear c17b1
           try clear c17b2
           try clear p18
           try clear q18
           try clear hx18
           try clear c19
           try clear c19b0
           try clear c19b1
           try clear c20
           try clear c20b0
           try clear c20b1
           try clear c20b2
           try clear c21
           try clear c21b0
           try clear c21b1
           try clear c21b2
           try clear c22
           try clear c22b0
           try clear c22b1
           try clear c22b2
           try clear p18
           try clear p2
           try clear q18
           obtain ⟨x9_3, x10_3, rfl, rfl, HA, HK3, HB⟩ := hrel
           cases gk with
           | zero => exact absurd HA.out (by simp [dragomanlaw13_CreadQuotes.l1])
           | succ k3 =>
            have H := HA.out
            clear HA
            simp only [dragomanlaw13_CreadQuotes.l1] at H
            by_cases c23 : x10_3 < a1
            ·rw [if_pos c23] at H
             have c23b0 : decide (x10_3 < a1) = true := decide_eq_true c23
             clear c23
             by_cases c24 : 2 + x9_3.size ≤ 9223372036854775807
             ·rw [if_pos c24] at H
              have c24b0 := eq_true c24
              have c24b1 : decide (2 + x9_3.size ≤ 9223372036854775807) = true := decide_eq_true c24
              try have c24b2 : (9223372036854775807 < 2 + x9_3.size) = False := eq_false (Nat.not_lt.2 c24)
              have H' := Aside0.mk H
              clear H
              go_wp2
              go_roundg k3
              case measure => have := HJ5.out; have := HK2.out; have := HK3.out; omega
              case rel => exact ⟨((⟨#[120, 44]⟩ : ByteArray) ++ x9_3), (wrap64 (x10_3 + 1)), (by first | rfl | (simp; done) | (simp [*]; done)), (by first | rfl | (simp; done) | (simp [*]; done)), H', ⟨by have := HJ5.out; have := HK2.out; have := HK3.out; omega⟩, ⟨by repeat (first | (with_reducible first | exact HB.out | apply below_alloc | apply pw_below_drewN | apply below_drew1) | exact HB.out)⟩⟩
             ·rw [if_neg c24] at H
              exact absurd H (by simp)
            ·rw [if_neg c23] at H
             have c23b0 : decide (x10_3 < a1) = false := decide_eq_false c23
             clear c23
             have H' := Aside0.mk H
             clear H
             go_wp2
             go_loopg [9, 11] k3 (fun kq v9 v11 w' => ∃ (x9_4 : ByteArray) (x11_4 : Int), v9 = .string x9_4 ∧ v11 = .int .i64 x11_4 ∧ Aside0 (dragomanlaw13_CreadQuotes.l2 kq a0 a1 a2 x9_4 x11_4 = some r) ∧ Aside0 (kq ≤ k3) ∧ Aside0 (Below w.heap.size w w'))
             case atStart => exact ⟨(x9_3), (0), (by first | rfl | (simp; done) | (simp [*]; done)), (by first | rfl | (simp; done) | (simp [*]; done)), H', ⟨Nat.le_refl _⟩, ⟨by repeat (first | (with_reducible first | exact HB.out | apply below_alloc | apply pw_below_drewN | apply below_drew1) | exact HB.out)⟩⟩
             case round =>
              clear H'
              try clear c1
              try clear p1
              try clear q1
              try clear hx1
              try clear c2
              try clear p2
              try clear c5
              try clear p6
              try clear c7
              try clear c8
              try clear c8b0
              try clear c8b1
              try clear c9
              try clear c9b0
              try clear c10
              try clear c10b0
              try clear c11
              try clear c11b0
              try clear c12
              try clear c13
              try clear c13b0
              try clear c14
              try clear c14b0
              try clear c14b1
              try clear c15
              try clear c15b0
              try clear c15b1
              try clear c16
              try clear c16b0
              try clear c16b1
              try clear c17
              try clear c17b0
              try clear c17b1
              try clear c17b2
              try clear p18
              try clear q18
              try clear hx18
              try clear c19
              try clear c19b0
              try clear c19b1
              try clear c20
              try clear c20b0
              try clear c20b1
              try clear c20b2
              try clear c21
              try clear c21b0
              try clear c21b1
              try clear c21b2
              try clear c22
              try clear c22b0
              try clear c22b1
              try clear c22b2
              try clear c23
              try clear c23b0
              try clear c24
              try clear c24b0
              try clear c24b1
              try clear c24b2
              try clear p1
              try clear p18
              try clear p2
              try clear p6
              try clear q1
              try clear q18
              obtain ⟨x9_4, x11_4, rfl, rfl, HA, HK4, HB⟩ := hrel
              cases gk with
              | zero => exact absurd HA.out (by simp [dragomanlaw13_CreadQuotes.l2])
              | succ k4 =>
               have H := HA.out
               clear HA
               simp only [dragomanlaw13_CreadQuotes.l2] at H
               by_cases c25 : x11_4 < a2
               ·rw [if_pos c25] at H
                have c25b0 : decide (x11_4 < a2) = true := decide_eq_true c25
                clear c25
                by_cases c26 : x9_4.size + 2 ≤ 9223372036854775807
                ·rw [if_pos c26] at H
                 have c26b0 := eq_true c26
                 have c26b1 : decide (x9_4.size + 2 ≤ 9223372036854775807) = true := decide_eq_true c26
                 try have c26b2 : (9223372036854775807 < x9_4.size + 2) = False := eq_false (Nat.not_lt.2 c26)
                 have H' := Aside0.mk H
                 clear H
                 go_wp2
                 go_roundg k4
                 case measure => have := HJ5.out; have := HK2.out; have := HK3.out; have := HK4.out; omega
                 case rel => exact ⟨(x9_4 ++ (⟨#[44, 121]⟩ : ByteArray)), (wrap64 (x11_4 + 1)), (by first | rfl | (simp; done) | (simp [*]; done)), (by first | rfl | (simp; done) | (simp [*]; done)), H', ⟨by have := HJ5.out; have := HK2.out; have := HK3.out; have := HK4.out; omega⟩, ⟨by repeat (first | (with_reducible first | exact HB.out | apply below_alloc | apply pw_below_drewN | apply below_drew1) | exact HB.out)⟩⟩
                ·rw [if_neg c26] at H
                 exact absurd H (by simp)
               ·rw [if_neg c25] at H
                have c25b0 : decide (x11_4 < a2) = false := decide_eq_false c25
                clear c25
                replace H := Option.bind_eq_some_iff.mp H
                obtain ⟨⟨t401, t404, t405, t406, t407⟩, A270, H⟩ := H
                replace H : ((dragomanlaw13_letters.f k4 a0).bind fun t409 => (if t409 = true then (if t404 = 0 then (if (t401.length : Int) = 1 then (if 0 < (t401.length : Int) then (if ((rd_L4 t401 0).length : Int) = (wrap64 ((wrap64 (a1 + a2)) + 1)) then (if 0 ≤ a1 then (if a1 < ((rd_L4 t401 0).length : Int) then (some ((rdOf ByteArray.empty (rd_L4 t401 0) a1).toList == a0.toList)) else (none)) else (none)) else (some false)) else (none)) else (some false)) else (some false)) else (if t404 = 0 then (some false) else (some ((t401.length : Int) == 0))))) = some r := H
                have A27 := Aside0.mk A270
                clear A270
                replace H := Option.bind_eq_some_iff.mp H
                obtain ⟨t409, A280, H⟩ := H
                replace H : (if t409 = true then (if t404 = 0 then (if (t401.length : Int) = 1 then (if 0 < (t401.length : Int) then (if ((rd_L4 t401 0).length : Int) = (wrap64 ((wrap64 (a1 + a2)) + 1)) then (if 0 ≤ a1 then (if a1 < ((rd_L4 t401 0).length : Int) then (some ((rdOf ByteArray.empty (rd_L4 t401 0) a1).toList == a0.toList)) else (none)) else (none)) else (some false)) else (none)) else (some false)) else (some false)) else (if t404 = 0 then (some false) else (some ((t401.length : Int) == 0)))) = some r := H
                have A28 := Aside0.mk A280
                clear A280
                by_cases c29 : t409 = true
                ·subst c29
                 have H1 : (if t404 = 0 then (if (t401.length : Int) = 1 then (if 0 < (t401.length : Int) then (if ((rd_L4 t401 0).length : Int) = (wrap64 ((wrap64 (a1 + a2)) + 1)) then (if 0 ≤ a1 then (if a1 < ((rd_L4 t401 0).length : Int) then (some ((rdOf ByteArray.empty (rd_L4 t401 0) a1).toList == a0.toList)) else (none)) else (none)) else (some false)) else (none)) else (some false)) else (some false)) = some r := by rw [if_pos rfl] at H; exact H
                 clear H
                 have H := H1
                 clear H1
                 by_cases c30 : t404 = 0
                 ·rw [if_pos c30] at H
                  have c30b0 : (t404 == 0) = true := beq_iff_eq.mpr c30
                  have c30b1 : (t404 != 0) = false := bne_eq_false_iff_eq.mpr c30
                  clear c30
                  by_cases c31 : (t401.length : Int) = 1
                  ·rw [if_pos c31] at H
                   have c31b0 : ((t401.length : Int) == 1) = true := beq_iff_eq.mpr c31
                   have c31b1 : ((t401.length : Int) != 1) = false := bne_eq_false_iff_eq.mpr c31
                   clear c31
                   by_cases c32 : 0 < (t401.length : Int)
                   ·rw [if_pos c32] at H
                    have c32b0 : decide (0 < (t401.length : Int)) = true := decide_eq_true c32
                    have c32b1 : decide (0 < t401.length) = true := decide_eq_true (by omega)
                    clear c32
                    by_cases c33 : ((rd_L4 t401 0).length : Int) = (wrap64 ((wrap64 (a1 + a2)) + 1))
                    ·rw [if_pos c33] at H
                     have c33b0 : (((rd_L4 t401 0).length : Int) == (wrap64 ((wrap64 (a1 + a2)) + 1))) = true := beq_iff_eq.mpr c33
                     have c33b1 : (((rd_L4 t401 0).length : Int) != (wrap64 ((wrap64 (a1 + a2)) + 1))) = false := bne_eq_false_iff_eq.mpr c33
                     clear c33
                     by_cases c34 : 0 ≤ a1
                     ·rw [if_pos c34] at H
                      have c34b0 : decide (0 ≤ a1) = true := decide_eq_true c34
                      clear c34
                      by_cases c35 : a1 < ((rd_L4 t401 0).length : Int)
                      ·rw [if_pos c35] at H
                       have c35b0 : decide (a1 < ((rd_L4 t401 0).length : Int)) = true := decide_eq_true c35
                       clear c35
                       obtain rfl := Option.some.inj H
                       go_wp2_with (first | ((with_reducible refine gate_callee (f := 9) rfl ?_); refine goesL_ (some 73) rfl rfl Try.func9 (by kernel_rfl) rfl #[.string x9_4] rfl (by (try simp only [List.map_toArray, List.map_cons, List.map_nil]); first | done | rfl | (simp only [List.length_drop, List.length_take]; rfl)) ?_; (with_reducible refine (cread_Rows.calls x9_4 t401 t404 t405 t406 t407 _ A27.out).mono ?_); rintro e w36 ⟨v402, rfl, ho0, hb⟩; refine ⟨_, rfl, ?_⟩; have n0_ := Aside0.mk (Kd.S_lower ho0 (below_size (by repeat (first | (with_reducible first | exact HB.out | apply below_alloc | apply pw_below_drewN | apply below_drew1) | exact HB.out)))); have n1_ := Aside0.mk (below_step (by repeat (first | (with_reducible first | exact HB.out | apply below_alloc | apply pw_below_drewN | apply below_drew1) | exact HB.out)) hb); clear HB; have HO403 := n0_; have HB := n1_; clear n0_ n1_; (try clear hb); (try clear hb2); (try clear hk); (try clear hi); (try clear ho0)) | ((with_reducible refine gate_dst (N := 13) rfl ?_); (try (refine gate_guard (by rfl) ?_; dsimp only)); refine box_event ?hg (N := 13) ?hd (cs := #[.int .i64 0, .int .i64 0, .int .i64 0, .int .i64 0]) (t := 26) ?hr ?_; (case hd => rfl); (case hg => rfl); (case hr => first | (go_simp; done) | (go_simp; rfl)); intro gb408 hg w37 hbox hb; have n0_ := Aside0.mk (Kd.S_below (by (with_reducible repeat (first | apply Kd.S_alloc | apply Kd.S_drewN | apply Kd.S_drew)); exact HO403.out) hb); have n1_ := Aside0.mk (below_step (by repeat (first | (with_reducible first | exact HB.out | apply below_alloc | apply pw_below_drewN | apply below_drew1) | exact HB.out)) hb); have n2_ := Aside0.mk (hbox); have n3_ := Aside0.mk ((by rw [hg]; exact (below_size (by repeat (first | (with_reducible first | exact HB.out | apply below_alloc | apply pw_below_drewN | apply below_drew1) | exact HB.out))) : w.heap.size ≤ gb408)); have n4_ := Aside0.mk ((by rw [hg]; exact (below_size (by repeat (first | (with_reducible first | exact HB.out | apply below_alloc | apply pw_below_drewN | apply below_drew1) | exact HB.out))) : w.heap.size ≤ gb408)); clear HO403; clear HB; have HO403 := n0_; have HB := n1_; have BK408 := n2_; have GW408 := n3_; have GE408 := n4_; clear n0_ n1_ n2_ n3_ n4_; clear hb hbox hg; have hcz38_0 : w37.cell? ⟨gb408, 0, none⟩ = some (.int .i64 0) := (blk_cell BK408.out 0).trans rfl; have hcz38_1 : w37.cell? ⟨gb408, 1, none⟩ = some (.int .i64 0) := (blk_cell BK408.out 1).trans rfl; have hcz38_2 : w37.cell? ⟨gb408, 2, none⟩ = some (.int .i64 0) := (blk_cell BK408.out 2).trans rfl; have hcz38_3 : w37.cell? ⟨gb408, 3, none⟩ = some (.int .i64 0) := (blk_cell BK408.out 3).trans rfl; have hfz38_0 := blk_frozen BK408.out 0; have hfz38_1 := blk_frozen BK408.out 1; have hfz38_2 := blk_frozen BK408.out 2; have hfz38_3 := blk_frozen BK408.out 3) | ((with_reducible refine gate_callee (f := 14) rfl ?_); refine goesL_ (some 77) rfl rfl Try.func14 (by kernel_rfl) rfl #[.string a0] rfl (by (try simp only [List.map_toArray, List.map_cons, List.map_nil]); first | done | rfl | (simp only [List.length_drop, List.length_take]; rfl)) ?_; (with_reducible refine (dragomanlaw13_letters.calls k4 a0 true _ A28.out).mono ?_); rintro e w39 ⟨rfl, hb⟩; refine ⟨_, rfl, ?_⟩; have n0_ := Aside0.mk (Kd.S_below (by (with_reducible repeat (first | apply Kd.S_alloc | apply Kd.S_drewN | apply Kd.S_drew)); exact (Kd.S_mono (Kd.S_far (p := ⟨gb408, 3, none⟩) (Kd.S_far (p := ⟨gb408, 2, none⟩) (Kd.S_far (p := ⟨gb408, 1, none⟩) (Kd.S_far (p := ⟨gb408, 0, none⟩) (Kd.S_types HO403.out BK408.out (by decide)) (fun _ hk => hk.2) (.int .i64 t404)) (fun _ hk => hk.2) (.int .i64 t405)) (fun _ hk => hk.2) (.int .i64 t406)) (fun _ hk => hk.2) (.int .i64 t407)) (fun _ h_ => h_.1))) hb); have n1_ := Aside0.mk (blk_below (g := gb408) (o := .cells #[.int .i64 t404, .int .i64 t405, .int .i64 t406, .int .i64 t407] 26 (0, 0)) (by (with_reducible repeat (first | refine blk_drewN ?_ _ | refine blk_drew ?_ | refine blk_alloc ?_ _)); refine blk_put (cs := #[.int .i64 t404, .int .i64 t405, .int .i64 t406, .int .i64 0]) ?_ 3 _ rfl; (with_reducible repeat (first | refine blk_drewN ?_ _ | refine blk_drew ?_ | refine blk_alloc ?_ _)); refine blk_put (cs := #[.int .i64 t404, .int .i64 t405, .int .i64 0, .int .i64 0]) ?_ 2 _ rfl; (with_reducible repeat (first | refine blk_drewN ?_ _ | refine blk_drew ?_ | refine blk_alloc ?_ _)); refine blk_put (cs := #[.int .i64 t404, .int .i64 0, .int .i64 0, .int .i64 0]) ?_ 1 _ rfl; (with_reducible repeat (first | refine blk_drewN ?_ _ | refine blk_drew ?_ | refine blk_alloc ?_ _)); refine blk_put (cs := #[.int .i64 0, .int .i64 0, .int .i64 0, .int .i64 0]) ?_ 0 _ rfl; (with_reducible repeat (first | refine blk_drewN ?_ _ | refine blk_drew ?_ | refine blk_alloc ?_ _)); exact BK408.out) hb); have n2_ := Aside0.mk (below_step (by repeat (first | (with_reducible first | exact HB.out | apply below_alloc | apply pw_below_drewN | apply below_drew1 | refine below_set ?_ GE408.out) | exact HB.out)) hb); clear HO403; clear BK408; clear HB; have HO403 := n0_; have BK408 := n1_; have HB := n2_; clear n0_ n1_ n2_; (try clear hb); (try clear hb2); (try clear hk); (try clear hi); have hcz40_0 : w39.cell? ⟨gb408, 0, none⟩ = some (.int .i64 t404) := (blk_cell BK408.out 0).trans rfl; have hcz40_1 : w39.cell? ⟨gb408, 1, none⟩ = some (.int .i64 t405) := (blk_cell BK408.out 1).trans rfl; have hcz40_2 : w39.cell? ⟨gb408, 2, none⟩ = some (.int .i64 t406) := (blk_cell BK408.out 2).trans rfl; have hcz40_3 : w39.cell? ⟨gb408, 3, none⟩ = some (.int .i64 t407) := (blk_cell BK408.out 3).trans rfl; have hfz40_0 := blk_frozen BK408.out 0; have hfz40_1 := blk_frozen BK408.out 1; have hfz40_2 := blk_frozen BK408.out 2; have hfz40_3 := blk_frozen BK408.out 3; obtain ⟨Ao41, co41, eo41⟩ := Kd.S_slice HO403.out; subst eo41; have p410 : 0 ≤ (0 : Int) := (by omega); have q410 : 0 < (t401.length : Int) := of_decide_eq_true (by first | (with_reducible assumption) | assumption); obtain ⟨ad410, A410_0, c410_0, e410, hx410_0, hl410_0, hi410_0⟩ := at_L4 (Kd.S_reads' HO403.out).2.2 0 p410 q410; cases e410; obtain ⟨ce410, hce410, hMe410, hcc410⟩ := Kd.S_get HO403.out [] 0 p410 (by first | exact q410 | exact of_decide_eq_true (by first | (with_reducible assumption) | assumption) | (have e_ := (Kd.S_reads' HO403.out).1; omega)); obtain ⟨ve410_0, rfl, ge410_0⟩ := hMe410; have hv410_0 := hcc410 0 _ rfl; rw [Nat.add_zero, show ((Kd.slice 9 Kd.string)).sz = 1 from rfl, Nat.mul_one] at hv410_0; replace hv410_0 := Option.some.inj (hv410_0.symm.trans hx410_0); rw [hv410_0] at ge410_0; have HL410_0 := Aside0.mk (show Kd.R Kd.string 9 _ _ _ _ (rd_L4 t401 0) from ge410_0); clear hv410_0 ge410_0; clear hcc410 hce410; have qi410 : (0 < t401.length) = True := eq_true (by omega); (try rw [show ((0 : Int)).toNat = 0 from rfl] at hx410_0); (try rw [Addr.add_zero'] at hx410_0); have HR410_0 := Aside0.mk hi410_0; have HC410_0 := Aside0.mk hl410_0; clear hi410_0 hl410_0; replace p410 := eq_true p410; replace q410 := eq_true q410; have p411 : 0 ≤ (0 : Int) := (by omega); have q411 : 0 < (t401.length : Int) := of_decide_eq_true (by first | (with_reducible assumption) | assumption); obtain ⟨ad411, A411_0, c411_0, e411, hx411_0, hl411_0, hi411_0⟩ := at_L4 (Kd.S_reads' HO403.out).2.2 0 p411 q411; obtain rfl : ad410 = ad411 := (by injection e411); obtain ⟨ce411, hce411, hMe411, hcc411⟩ := Kd.S_get HO403.out [] 0 p411 (by first | exact q411 | exact of_decide_eq_true (by first | (with_reducible assumption) | assumption) | (have e_ := (Kd.S_reads' HO403.out).1; omega)); obtain ⟨ve411_0, rfl, ge411_0⟩ := hMe411; have hv411_0 := hcc411 0 _ rfl; rw [Nat.add_zero, show ((Kd.slice 9 Kd.string)).sz = 1 from rfl, Nat.mul_one] at hv411_0; replace hv411_0 := Option.some.inj (hv411_0.symm.trans hx411_0); rw [hv411_0] at ge411_0; have HL411_0 := Aside0.mk (show Kd.R Kd.string 9 _ _ _ _ (rd_L4 t401 0) from ge411_0); clear hv411_0 ge411_0; clear hcc411 hce411; have qi411 : (0 < t401.length) = True := eq_true (by omega); (try rw [show ((0 : Int)).toNat = 0 from rfl] at hx411_0); (try rw [Addr.add_zero'] at hx411_0); have HR411_0 := Aside0.mk hi411_0; have HC411_0 := Aside0.mk hl411_0; clear hi411_0 hl411_0; replace p411 := eq_true p411; replace q411 := eq_true q411; have ea_ := Option.some.inj (hx410_0.symm.trans hx411_0); injection ea_ with ea_ en_ ec_; subst ea_; subst ec_; clear en_; have p412 : 0 ≤ (a1 : Int) := of_decide_eq_true (by first | (with_reducible assumption) | assumption); have q412 : a1 < ((rd_L4 t401 0).length : Int) := of_decide_eq_true (by first | (with_reducible assumption) | assumption); obtain ⟨ad412, e412, hx412_0⟩ := Kd.at_string (by repeat (first | (with_reducible exact HR411_0.out) | (with_reducible refine Kd.C_alloc ?_ _) | (with_reducible refine Kd.C_drewN ?_ _) | (with_reducible refine Kd.C_drew ?_) | exact HR411_0.out)) a1 p412 q412; cases e412; replace p412 := eq_true p412; replace q412 := eq_true q412))
                       go_ret
                       exact ⟨by first | rfl | (simp [errW_none, errW_some] <;> rfl) | (simp [*, errW_none, errW_some, bne]; done) | (simp [*, errW_none, errW_some] <;> rfl), by repeat (first | (with_reducible first | exact HB.out | apply below_alloc | apply pw_below_drewN | apply below_drew1 | refine below_set ?_ GE408.out) | exact HB.out)⟩
                      ·rw [if_neg c35] at H
                       exact absurd H (by simp)
                     ·rw [if_neg c34] at H
                      exact absurd H (by simp)
                    ·rw [if_neg c33] at H
                     have c33b0 : (((rd_L4 t401 0).length : Int) == (wrap64 ((wrap64 (a1 + a2)) + 1))) = false := beq_eq_false_iff_ne.mpr c33
                     have c33b1 : (((rd_L4 t401 0).length : Int) != (wrap64 ((wrap64 (a1 + a2)) + 1))) = true := bne_iff_ne.mpr c33
                     obtain rfl := Option.some.inj H
                     go_wp2_with (first | ((with_reducible refine gate_callee (f := 9) rfl ?_); refine goesL_ (some 73) rfl rfl Try.func9 (by kernel_rfl) rfl #[.string x9_4] rfl (by (try simp only [List.map_toArray, List.map_cons, List.map_nil]); first | done | rfl | (simp only [List.length_drop, List.length_take]; rfl)) ?_; (with_reducible refine (cread_Rows.calls x9_4 t401 t404 t405 t406 t407 _ A27.out).mono ?_); rintro e w42 ⟨v402, rfl, ho0, hb⟩; refine ⟨_, rfl, ?_⟩; have n0_ := Aside0.mk (Kd.S_lower ho0 (below_size (by repeat (first | (with_reducible first | exact HB.out | apply below_alloc | apply pw_below_drewN | apply below_drew1) | exact HB.out)))); have n1_ := Aside0.mk (below_step (by repeat (first | (with_reducible first | exact HB.out | apply below_alloc | apply pw_below_drewN | apply below_drew1) | exact HB.out)) hb); clear HB; have HO403 := n0_; have HB := n1_; clear n0_ n1_; (try clear hb); (try clear hb2); (try clear hk); (try clear hi); (try clear ho0)) | ((with_reducible refine gate_dst (N := 13) rfl ?_); (try (refine gate_guard (by rfl) ?_; dsimp only)); refine box_event ?hg (N := 13) ?hd (cs := #[.int .i64 0, .int .i64 0, .int .i64 0, .int .i64 0]) (t := 26) ?hr ?_; (case hd => rfl); (case hg => rfl); (case hr => first | (go_simp; done) | (go_simp; rfl)); intro gb408 hg w43 hbox hb; have n0_ := Aside0.mk (Kd.S_below (by (with_reducible repeat (first | apply Kd.S_alloc | apply Kd.S_drewN | apply Kd.S_drew)); exact HO403.out) hb); have n1_ := Aside0.mk (below_step (by repeat (first | (with_reducible first | exact HB.out | apply below_alloc | apply pw_below_drewN | apply below_drew1) | exact HB.out)) hb); have n2_ := Aside0.mk (hbox); have n3_ := Aside0.mk ((by rw [hg]; exact (below_size (by repeat (first | (with_reducible first | exact HB.out | apply below_alloc | apply pw_below_drewN | apply below_drew1) | exact HB.out))) : w.heap.size ≤ gb408)); have n4_ := Aside0.mk ((by rw [hg]; exact (below_size (by repeat (first | (with_reducible first | exact HB.out | apply below_alloc | apply pw_below_drewN | apply below_drew1) | exact HB.out))) : w.heap.size ≤ gb408)); clear HO403; clear HB; have HO403 := n0_; have HB := n1_; have BK408 := n2_; have GW408 := n3_; have GE408 := n4_; clear n0_ n1_ n2_ n3_ n4_; clear hb hbox hg; have hcz44_0 : w43.cell? ⟨gb408, 0, none⟩ = some (.int .i64 0) := (blk_cell BK408.out 0).trans rfl; have hcz44_1 : w43.cell? ⟨gb408, 1, none⟩ = some (.int .i64 0) := (blk_cell BK408.out 1).trans rfl; have hcz44_2 : w43.cell? ⟨gb408, 2, none⟩ = some (.int .i64 0) := (blk_cell BK408.out 2).trans rfl; have hcz44_3 : w43.cell? ⟨gb408, 3, none⟩ = some (.int .i64 0) := (blk_cell BK408.out 3).trans rfl; have hfz44_0 := blk_frozen BK408.out 0; have hfz44_1 := blk_frozen BK408.out 1; have hfz44_2 := blk_frozen BK408.out 2; have hfz44_3 := blk_frozen BK408.out 3) | ((with_reducible refine gate_callee (f := 14) rfl ?_); refine goesL_ (some 77) rfl rfl Try.func14 (by kernel_rfl) rfl #[.string a0] rfl (by (try simp only [List.map_toArray, List.map_cons, List.map_nil]); first | done | rfl | (simp only [List.length_drop, List.length_take]; rfl)) ?_; (with_reducible refine (dragomanlaw13_letters.calls k4 a0 true _ A28.out).mono ?_); rintro e w45 ⟨rfl, hb⟩; refine ⟨_, rfl, ?_⟩; have n0_ := Aside0.mk (Kd.S_below (by (with_reducible repeat (first | apply Kd.S_alloc | apply Kd.S_drewN | apply Kd.S_drew)); exact (Kd.S_mono (Kd.S_far (p := ⟨gb408, 3, none⟩) (Kd.S_far (p := ⟨gb408, 2, none⟩) (Kd.S_far (p := ⟨gb408, 1, none⟩) (Kd.S_far (p := ⟨gb408, 0, none⟩) (Kd.S_types HO403.out BK408.out (by decide)) (fun _ hk => hk.2) (.int .i64 t404)) (fun _ hk => hk.2) (.int .i64 t405)) (fun _ hk => hk.2) (.int .i64 t406)) (fun _ hk => hk.2) (.int .i64 t407)) (fun _ h_ => h_.1))) hb); have n1_ := Aside0.mk (blk_below (g := gb408) (o := .cells #[.int .i64 t404, .int .i64 t405, .int .i64 t406, .int .i64 t407] 26 (0, 0)) (by (with_reducible repeat (first | refine blk_drewN ?_ _ | refine blk_drew ?_ | refine blk_alloc ?_ _)); refine blk_put (cs := #[.int .i64 t404, .int .i64 t405, .int .i64 t406, .int .i64 0]) ?_ 3 _ rfl; (with_reducible repeat (first | refine blk_drewN ?_ _ | refine blk_drew ?_ | refine blk_alloc ?_ _)); refine blk_put (cs := #[.int .i64 t404, .int .i64 t405, .int .i64 0, .int .i64 0]) ?_ 2 _ rfl; (with_reducible repeat (first | refine blk_drewN ?_ _ | refine blk_drew ?_ | refine blk_alloc ?_ _)); refine blk_put (cs := #[.int .i64 t404, .int .i64 0, .int .i64 0, .int .i64 0]) ?_ 1 _ rfl; (with_reducible repeat (first | refine blk_drewN ?_ _ | refine blk_drew ?_ | refine blk_alloc ?_ _)); refine blk_put (cs := #[.int .i64 0, .int .i64 0, .int .i64 0, .int .i64 0]) ?_ 0 _ rfl; (with_reducible repeat (first | refine blk_drewN ?_ _ | refine blk_drew ?_ | refine blk_alloc ?_ _)); exact BK408.out) hb); have n2_ := Aside0.mk (below_step (by repeat (first | (with_reducible first | exact HB.out | apply below_alloc | apply pw_below_drewN | apply below_drew1 | refine below_set ?_ GE408.out) | exact HB.out)) hb); clear HO403; clear BK408; clear HB; have HO403 := n0_; have BK408 := n1_; have HB := n2_; clear n0_ n1_ n2_; (try clear hb); (try clear hb2); (try clear hk); (try clear hi); have hcz46_0 : w45.cell? ⟨gb408, 0, none⟩ = some (.int .i64 t404) := (blk_cell BK408.out 0).trans rfl; have hcz46_1 : w45.cell? ⟨gb408, 1, none⟩ = some (.int .i64 t405) := (blk_cell BK408.out 1).trans rfl; have hcz46_2 : w45.cell? ⟨gb408, 2, none⟩ = some (.int .i64 t406) := (blk_cell BK408.out 2).trans rfl; have hcz46_3 : w45.cell? ⟨gb408, 3, none⟩ = some (.int .i64 t407) := (blk_cell BK408.out 3).trans rfl; have hfz46_0 := blk_frozen BK408.out 0; have hfz46_1 := blk_frozen BK408.out 1; have hfz46_2 := blk_frozen BK408.out 2; have hfz46_3 := blk_frozen BK408.out 3; obtain ⟨Ao47, co47, eo47⟩ := Kd.S_slice HO403.out; subst eo47; have p410 : 0 ≤ (0 : Int) := (by omega); have q410 : 0 < (t401.length : Int) := of_decide_eq_true (by first | (with_reducible assumption) | assumption); obtain ⟨ad410, A410_0, c410_0, e410, hx410_0, hl410_0, hi410_0⟩ := at_L4 (Kd.S_reads' HO403.out).2.2 0 p410 q410; cases e410; obtain ⟨ce410, hce410, hMe410, hcc410⟩ := Kd.S_get HO403.out [] 0 p410 (by first | exact q410 | exact of_decide_eq_true (by first | (with_reducible assumption) | assumption) | (have e_ := (Kd.S_reads' HO403.out).1; omega)); obtain ⟨ve410_0, rfl, ge410_0⟩ := hMe410; have hv410_0 := hcc410 0 _ rfl; rw [Nat.add_zero, show ((Kd.slice 9 Kd.string)).sz = 1 from rfl, Nat.mul_one] at hv410_0; replace hv410_0 := Option.some.inj (hv410_0.symm.trans hx410_0); rw [hv410_0] at ge410_0; have HL410_0 := Aside0.mk (show Kd.R Kd.string 9 _ _ _ _ (rd_L4 t401 0) from ge410_0); clear hv410_0 ge410_0; clear hcc410 hce410; have qi410 : (0 < t401.length) = True := eq_true (by omega); (try rw [show ((0 : Int)).toNat = 0 from rfl] at hx410_0); (try rw [Addr.add_zero'] at hx410_0); have HR410_0 := Aside0.mk hi410_0; have HC410_0 := Aside0.mk hl410_0; clear hi410_0 hl410_0; replace p410 := eq_true p410; replace q410 := eq_true q410))
                     go_ret
                     exact ⟨by first | rfl | (simp [errW_none, errW_some] <;> rfl) | (simp [*, errW_none, errW_some, bne]; done) | (simp [*, errW_none, errW_some] <;> rfl), by repeat (first | (with_reducible first | exact HB.out | apply below_alloc | apply pw_below_drewN | apply below_drew1 | refine below_set ?_ GE408.out) | exact HB.out)⟩
                   ·rw [if_neg c32] at H
                    exact absurd H (by simp)
                  ·rw [if_neg c31] at H
                   have c31b0 : ((t401.length : Int) == 1) = false := beq_eq_false_iff_ne.mpr c31
                   have c31b1 : ((t401.length : Int) != 1) = true := bne_iff_ne.mpr c31
                   obtain rfl := Option.some.inj H
                   go_wp2_with (first | ((with_reducible refine gate_callee (f := 9) rfl ?_); refine goesL_ (some 73) rfl rfl Try.func9 (by kernel_rfl) rfl #[.string x9_4] rfl (by (try simp only [List.map_toArray, List.map_cons, List.map_nil]); first | done | rfl | (simp only [List.length_drop, List.length_take]; rfl)) ?_; (with_reducible refine (cread_Rows.calls x9_4 t401 t404 t405 t406 t407 _ A27.out).mono ?_); rintro e w48 ⟨v402, rfl, ho0, hb⟩; refine ⟨_, rfl, ?_⟩; have n0_ := Aside0.mk (Kd.S_lower ho0 (below_size (by repeat (first | (with_reducible first | exact HB.out | apply below_alloc | apply pw_below_drewN | apply below_drew1) | exact HB.out)))); have n1_ := Aside0.mk (below_step (by repeat (first | (with_reducible first | exact HB.out | apply below_alloc | apply pw_below_drewN | apply below_drew1) | exact HB.out)) hb); clear HB; have HO403 := n0_; have HB := n1_; clear n0_ n1_; (try clear hb); (try clear hb2); (try clear hk); (try clear hi); (try clear ho0)) | ((with_reducible refine gate_dst (N := 13) rfl ?_); (try (refine gate_guard (by rfl) ?_; dsimp only)); refine box_event ?hg (N := 13) ?hd (cs := #[.int .i64 0, .int .i64 0, .int .i64 0, .int .i64 0]) (t := 26) ?hr ?_; (case hd => rfl); (case hg => rfl); (case hr => first | (go_simp; done) | (go_simp; rfl)); intro gb408 hg w49 hbox hb; have n0_ := Aside0.mk (Kd.S_below (by (with_reducible repeat (first | apply Kd.S_alloc | apply Kd.S_drewN | apply Kd.S_drew)); exact HO403.out) hb); have n1_ := Aside0.mk (below_step (by repeat (first | (with_reducible first | exact HB.out | apply below_alloc | apply pw_below_drewN | apply below_drew1) | exact HB.out)) hb); have n2_ := Aside0.mk (hbox); have n3_ := Aside0.mk ((by rw [hg]; exact (below_size (by repeat (first | (with_reducible first | exact HB.out | apply below_alloc | apply pw_below_drewN | apply below_drew1) | exact HB.out))) : w.heap.size ≤ gb408)); have n4_ := Aside0.mk ((by rw [hg]; exact (below_size (by repeat (first | (with_reducible first | exact HB.out | apply below_alloc | apply pw_below_drewN | apply below_drew1) | exact HB.out))) : w.heap.size ≤ gb408)); clear HO403; clear HB; have HO403 := n0_; have HB := n1_; have BK408 := n2_; have GW408 := n3_; have GE408 := n4_; clear n0_ n1_ n2_ n3_ n4_; clear hb hbox hg; have hcz50_0 : w49.cell? ⟨gb408, 0, none⟩ = some (.int .i64 0) := (blk_cell BK408.out 0).trans rfl; have hcz50_1 : w49.cell? ⟨gb408, 1, none⟩ = some (.int .i64 0) := (blk_cell BK408.out 1).trans rfl; have hcz50_2 : w49.cell? ⟨gb408, 2, none⟩ = some (.int .i64 0) := (blk_cell BK408.out 2).trans rfl; have hcz50_3 : w49.cell? ⟨gb408, 3, none⟩ = some (.int .i64 0) := (blk_cell BK408.out 3).trans rfl; have hfz50_0 := blk_frozen BK408.out 0; have hfz50_1 := blk_frozen BK408.out 1; have hfz50_2 := blk_frozen BK408.out 2; have hfz50_3 := blk_frozen BK408.out 3) | ((with_reducible refine gate_callee (f := 14) rfl ?_); refine goesL_ (some 77) rfl rfl Try.func14 (by kernel_rfl) rfl #[.string a0] rfl (by (try simp only [List.map_toArray, List.map_cons, List.map_nil]); first | done | rfl | (simp only [List.length_drop, List.length_take]; rfl)) ?_; (with_reducible refine (dragomanlaw13_letters.calls k4 a0 true _ A28.out).mono ?_); rintro e w51 ⟨rfl, hb⟩; refine ⟨_, rfl, ?_⟩; have n0_ := Aside0.mk (Kd.S_below (by (with_reducible repeat (first | apply Kd.S_alloc | apply Kd.S_drewN | apply Kd.S_drew)); exact (Kd.S_mono (Kd.S_far (p := ⟨gb408, 3, none⟩) (Kd.S_far (p := ⟨gb408, 2, none⟩) (Kd.S_far (p := ⟨gb408, 1, none⟩) (Kd.S_far (p := ⟨gb408, 0, none⟩) (Kd.S_types HO403.out BK408.out (by decide)) (fun _ hk => hk.2) (.int .i64 t404)) (fun _ hk => hk.2) (.int .i64 t405)) (fun _ hk => hk.2) (.int .i64 t406)) (fun _ hk => hk.2) (.int .i64 t407)) (fun _ h_ => h_.1))) hb); have n1_ := Aside0.mk (blk_below (g := gb408) (o := .cells #[.int .i64 t404, .int .i64 t405, .int .i64 t406, .int .i64 t407] 26 (0, 0)) (by (with_reducible repeat (first | refine blk_drewN ?_ _ | refine blk_drew ?_ | refine blk_alloc ?_ _)); refine blk_put (cs := #[.int .i64 t404, .int .i64 t405, .int .i64 t406, .int .i64 0]) ?_ 3 _ rfl; (with_reducible repeat (first | refine blk_drewN ?_ _ | refine blk_drew ?_ | refine blk_alloc ?_ _)); refine blk_put (cs := #[.int .i64 t404, .int .i64 t405, .int .i64 0, .int .i64 0]) ?_ 2 _ rfl; (with_reducible repeat (first | refine blk_drewN ?_ _ | refine blk_drew ?_ | refine blk_alloc ?_ _)); refine blk_put (cs := #[.int .i64 t404, .int .i64 0, .int .i64 0, .int .i64 0]) ?_ 1 _ rfl; (with_reducible repeat (first | refine blk_drewN ?_ _ | refine blk_drew ?_ | refine blk_alloc ?_ _)); refine blk_put (cs := #[.int .i64 0, .int .i64 0, .int .i64 0, .int .i64 0]) ?_ 0 _ rfl; (with_reducible repeat (first | refine blk_drewN ?_ _ | refine blk_drew ?_ | refine blk_alloc ?_ _)); exact BK408.out) hb); have n2_ := Aside0.mk (below_step (by repeat (first | (with_reducible first | exact HB.out | apply below_alloc | apply pw_below_drewN | apply below_drew1 | refine below_set ?_ GE408.out) | exact HB.out)) hb); clear HO403; clear BK408; clear HB; have HO403 := n0_; have BK408 := n1_; have HB := n2_; clear n0_ n1_ n2_; (try clear hb); (try clear hb2); (try clear hk); (try clear hi); have hcz52_0 : w51.cell? ⟨gb408, 0, none⟩ = some (.int .i64 t404) := (blk_cell BK408.out 0).trans rfl; have hcz52_1 : w51.cell? ⟨gb408, 1, none⟩ = some (.int .i64 t405) := (blk_cell BK408.out 1).trans rfl; have hcz52_2 : w51.cell? ⟨gb408, 2, none⟩ = some (.int .i64 t406) := (blk_cell BK408.out 2).trans rfl; have hcz52_3 : w51.cell? ⟨gb408, 3, none⟩ = some (.int .i64 t407) := (blk_cell BK408.out 3).trans rfl; have hfz52_0 := blk_frozen BK408.out 0; have hfz52_1 := blk_frozen BK408.out 1; have hfz52_2 := blk_frozen BK408.out 2; have hfz52_3 := blk_frozen BK408.out 3; obtain ⟨Ao53, co53, eo53⟩ := Kd.S_slice HO403.out; subst eo53))
                   go_ret
                   exact ⟨by first | rfl | (simp [errW_none, errW_some] <;> rfl) | (simp [*, errW_none, errW_some, bne]; done) | (simp [*, errW_none, errW_some] <;> rfl), by repeat (first | (with_reducible first | exact HB.out | apply below_alloc | apply pw_below_drewN | apply below_drew1 | refine below_set ?_ GE408.out) | exact HB.out)⟩
                 ·rw [if_neg c30] at H
                  have c30b0 : (t404 == 0) = false := beq_eq_false_iff_ne.mpr c30
                  have c30b1 : (t404 != 0) = true := bne_iff_ne.mpr c30
                  obtain rfl := Option.some.inj H
                  go_wp2_with (first | ((with_reducible refine gate_callee (f := 9) rfl ?_); refine goesL_ (some 73) rfl rfl Try.func9 (by kernel_rfl) rfl #[.string x9_4] rfl (by (try simp only [List.map_toArray, List.map_cons, List.map_nil]); first | done | rfl | (simp only [List.length_drop, List.length_take]; rfl)) ?_; (with_reducible refine (cread_Rows.calls x9_4 t401 t404 t405 t406 t407 _ A27.out).mono ?_); rintro e w54 ⟨v402, rfl, ho0, hb⟩; refine ⟨_, rfl, ?_⟩; have n0_ := Aside0.mk (Kd.S_lower ho0 (below_size (by repeat (first | (with_reducible first | exact HB.out | apply below_alloc | apply pw_below_drewN | apply below_drew1) | exact HB.out)))); have n1_ := Aside0.mk (below_step (by repeat (first | (with_reducible first | exact HB.out | apply below_alloc | apply pw_below_drewN | apply below_drew1) | exact HB.out)) hb); clear HB; have HO403 := n0_; have HB := n1_; clear n0_ n1_; (try clear hb); (try clear hb2); (try clear hk); (try clear hi); (try clear ho0)) | ((with_reducible refine gate_dst (N := 13) rfl ?_); (try (refine gate_guard (by rfl) ?_; dsimp only)); refine box_event ?hg (N := 13) ?hd (cs := #[.int .i64 0, .int .i64 0, .int .i64 0, .int .i64 0]) (t := 26) ?hr ?_; (case hd => rfl); (case hg => rfl); (case hr => first | (go_simp; done) | (go_simp; rfl)); intro gb408 hg w55 hbox hb; have n0_ := Aside0.mk (Kd.S_below (by (with_reducible repeat (first | apply Kd.S_alloc | apply Kd.S_drewN | apply Kd.S_drew)); exact HO403.out) hb); have n1_ := Aside0.mk (below_step (by repeat (first | (with_reducible first | exact HB.out | apply below_alloc | apply pw_below_drewN | apply below_drew1) | exact HB.out)) hb); have n2_ := Aside0.mk (hbox); have n3_ := Aside0.mk ((by rw [hg]; exact (below_size (by repeat (first | (with_reducible first | exact HB.out | apply below_alloc | apply pw_below_drewN | apply below_drew1) | exact HB.out))) : w.heap.size ≤ gb408)); have n4_ := Aside0.mk ((by rw [hg]; exact (below_size (by repeat (first | (with_reducible first | exact HB.out | apply below_alloc | apply pw_below_drewN | apply below_drew1) | exact HB.out))) : w.heap.size ≤ gb408)); clear HO403; clear HB; have HO403 := n0_; have HB := n1_; have BK408 := n2_; have GW408 := n3_; have GE408 := n4_; clear n0_ n1_ n2_ n3_ n4_; clear hb hbox hg; have hcz56_0 : w55.cell? ⟨gb408, 0, none⟩ = some (.int .i64 0) := (blk_cell BK408.out 0).trans rfl; have hcz56_1 : w55.cell? ⟨gb408, 1, none⟩ = some (.int .i64 0) := (blk_cell BK408.out 1).trans rfl; have hcz56_2 : w55.cell? ⟨gb408, 2, none⟩ = some (.int .i64 0) := (blk_cell BK408.out 2).trans rfl; have hcz56_3 : w55.cell? ⟨gb408, 3, none⟩ = some (.int .i64 0) := (blk_cell BK408.out 3).trans rfl; have hfz56_0 := blk_frozen BK408.out 0; have hfz56_1 := blk_frozen BK408.out 1; have hfz56_2 := blk_frozen BK408.out 2; have hfz56_3 := blk_frozen BK408.out 3) | ((with_reducible refine gate_callee (f := 14) rfl ?_); refine goesL_ (some 77) rfl rfl Try.func14 (by kernel_rfl) rfl #[.string a0] rfl (by (try simp only [List.map_toArray, List.map_cons, List.map_nil]); first | done | rfl | (simp only [List.length_drop, List.length_take]; rfl)) ?_; (with_reducible refine (dragomanlaw13_letters.calls k4 a0 true _ A28.out).mono ?_); rintro e w57 ⟨rfl, hb⟩; refine ⟨_, rfl, ?_⟩; have n0_ := Aside0.mk (Kd.S_below (by (with_reducible repeat (first | apply Kd.S_alloc | apply Kd.S_drewN | apply Kd.S_drew)); exact (Kd.S_mono (Kd.S_far (p := ⟨gb408, 3, none⟩) (Kd.S_far (p := ⟨gb408, 2, none⟩) (Kd.S_far (p := ⟨gb408, 1, none⟩) (Kd.S_far (p := ⟨gb408, 0, none⟩) (Kd.S_types HO403.out BK408.out (by decide)) (fun _ hk => hk.2) (.int .i64 t404)) (fun _ hk => hk.2) (.int .i64 t405)) (fun _ hk => hk.2) (.int .i64 t406)) (fun _ hk => hk.2) (.int .i64 t407)) (fun _ h_ => h_.1))) hb); have n1_ := Aside0.mk (blk_below (g := gb408) (o := .cells #[.int .i64 t404, .int .i64 t405, .int .i64 t406, .int .i64 t407] 26 (0, 0)) (by (with_reducible repeat (first | refine blk_drewN ?_ _ | refine blk_drew ?_ | refine blk_alloc ?_ _)); refine blk_put (cs := #[.int .i64 t404, .int .i64 t405, .int .i64 t406, .int .i64 0]) ?_ 3 _ rfl; (with_reducible repeat (first | refine blk_drewN ?_ _ | refine blk_drew ?_ | refine blk_alloc ?_ _)); refine blk_put (cs := #[.int .i64 t404, .int .i64 t405, .int .i64 0, .int .i64 0]) ?_ 2 _ rfl; (with_reducible repeat (first | refine blk_drewN ?_ _ | refine blk_drew ?_ | refine blk_alloc ?_ _)); refine blk_put (cs := #[.int .i64 t404, .int .i64 0, .int .i64 0, .int .i64 0]) ?_ 1 _ rfl; (with_reducible repeat (first | refine blk_drewN ?_ _ | refine blk_drew ?_ | refine blk_alloc ?_ _)); refine blk_put (cs := #[.int .i64 0, .int .i64 0, .int .i64 0, .int .i64 0]) ?_ 0 _ rfl; (with_reducible repeat (first | refine blk_drewN ?_ _ | refine blk_drew ?_ | refine blk_alloc ?_ _)); exact BK408.out) hb); have n2_ := Aside0.mk (below_step (by repeat (first | (with_reducible first | exact HB.out | apply below_alloc | apply pw_below_drewN | apply below_drew1 | refine below_set ?_ GE408.out) | exact HB.out)) hb); clear HO403; clear BK408; clear HB; have HO403 := n0_; have BK408 := n1_; have HB := n2_; clear n0_ n1_ n2_; (try clear hb); (try clear hb2); (try clear hk); (try clear hi); have hcz58_0 : w57.cell? ⟨gb408, 0, none⟩ = some (.int .i64 t404) := (blk_cell BK408.out 0).trans rfl; have hcz58_1 : w57.cell? ⟨gb408, 1, none⟩ = some (.int .i64 t405) := (blk_cell BK408.out 1).trans rfl; have hcz58_2 : w57.cell? ⟨gb408, 2, none⟩ = some (.int .i64 t406) := (blk_cell BK408.out 2).trans rfl; have hcz58_3 : w57.cell? ⟨gb408, 3, none⟩ = some (.int .i64 t407) := (blk_cell BK408.out 3).trans rfl; have hfz58_0 := blk_frozen BK408.out 0; have hfz58_1 := blk_frozen BK408.out 1; have hfz58_2 := blk_frozen BK408.out 2; have hfz58_3 := blk_frozen BK408.out 3))
                  go_ret
                  exact ⟨by first | rfl | (simp [errW_none, errW_some] <;> rfl) | (simp [*, errW_none, errW_some, bne]; done) | (simp [*, errW_none, errW_some] <;> rfl), by repeat (first | (with_reducible first | exact HB.out | apply below_alloc | apply pw_below_drewN | apply below_drew1 | refine below_set ?_ GE408.out) | exact HB.out)⟩
                ·replace c29 := Bool.eq_false_iff.mpr c29
                 subst c29
                 have H1 : (if t404 = 0 then (some false) else (some ((t401.length : Int) == 0))) = some r := by rw [if_neg (show ¬ (false = true) by decide)] at H; exact H
                 clear H
                 have H := H1
                 clear H1
                 by_cases c59 : t404 = 0
                 ·rw [if_pos c59] at H
                  have c59b0 : (t404 == 0) = true := beq_iff_eq.mpr c59
                  have c59b1 : (t404 != 0) = false := bne_eq_false_iff_eq.mpr c59
                  clear c59
                  obtain rfl := Option.some.inj H
                  go_wp2_with (first | ((with_reducible refine gate_callee (f := 9) rfl ?_); refine goesL_ (some 73) rfl rfl Try.func9 (by kernel_rfl) rfl #[.string x9_4] rfl (by (try simp only [List.map_toArray, List.map_cons, List.map_nil]); first | done | rfl | (simp only [List.length_drop, List.length_take]; rfl)) ?_; (with_reducible refine (cread_Rows.calls x9_4 t401 t404 t405 t406 t407 _ A27.out).mono ?_); rintro e w60 ⟨v402, rfl, ho0, hb⟩; refine ⟨_, rfl, ?_⟩; have n0_ := Aside0.mk (Kd.S_lower ho0 (below_size (by repeat (first | (with_reducible first | exact HB.out | apply below_alloc | apply pw_below_drewN | apply below_drew1) | exact HB.out)))); have n1_ := Aside0.mk (below_step (by repeat (first | (with_reducible first | exact HB.out | apply below_alloc | apply pw_below_drewN | apply below_drew1) | exact HB.out)) hb); clear HB; have HO403 := n0_; have HB := n1_; clear n0_ n1_; (try clear hb); (try clear hb2); (try clear hk); (try clear hi); (try clear ho0)) | ((with_reducible refine gate_dst (N := 13) rfl ?_); (try (refine gate_guard (by rfl) ?_; dsimp only)); refine box_event ?hg (N := 13) ?hd (cs := #[.int .i64 0, .int .i64 0, .int .i64 0, .int .i64 0]) (t := 26) ?hr ?_; (case hd => rfl); (case hg => rfl); (case hr => first | (go_simp; done) | (go_simp; rfl)); intro gb408 hg w61 hbox hb; have n0_ := Aside0.mk (Kd.S_below (by (with_reducible repeat (first | apply Kd.S_alloc | apply Kd.S_drewN | apply Kd.S_drew)); exact HO403.out) hb); have n1_ := Aside0.mk (below_step (by repeat (first | (with_reducible first | exact HB.out | apply below_alloc | apply pw_below_drewN | apply below_drew1) | exact HB.out)) hb); have n2_ := Aside0.mk (hbox); have n3_ := Aside0.mk ((by rw [hg]; exact (below_size (by repeat (first | (with_reducible first | exact HB.out | apply below_alloc | apply pw_below_drewN | apply below_drew1) | exact HB.out))) : w.heap.size ≤ gb408)); have n4_ := Aside0.mk ((by rw [hg]; exact (below_size (by repeat (first | (with_reducible first | exact HB.out | apply below_alloc | apply pw_below_drewN | apply below_drew1) | exact HB.out))) : w.heap.size ≤ gb408)); clear HO403; clear HB; have HO403 := n0_; have HB := n1_; have BK408 := n2_; have GW408 := n3_; have GE408 := n4_; clear n0_ n1_ n2_ n3_ n4_; clear hb hbox hg; have hcz62_0 : w61.cell? ⟨gb408, 0, none⟩ = some (.int .i64 0) := (blk_cell BK408.out 0).trans rfl; have hcz62_1 : w61.cell? ⟨gb408, 1, none⟩ = some (.int .i64 0) := (blk_cell BK408.out 1).trans rfl; have hcz62_2 : w61.cell? ⟨gb408, 2, none⟩ = some (.int .i64 0) := (blk_cell BK408.out 2).trans rfl; have hcz62_3 : w61.cell? ⟨gb408, 3, none⟩ = some (.int .i64 0) := (blk_cell BK408.out 3).trans rfl; have hfz62_0 := blk_frozen BK408.out 0; have hfz62_1 := blk_frozen BK408.out 1; have hfz62_2 := blk_frozen BK408.out 2; have hfz62_3 := blk_frozen BK408.out 3) | ((with_reducible refine gate_callee (f := 14) rfl ?_); refine goesL_ (some 77) rfl rfl Try.func14 (by kernel_rfl) rfl #[.string a0] rfl (by (try simp only [List.map_toArray, List.map_cons, List.map_nil]); first | done | rfl | (simp only [List.length_drop, List.length_take]; rfl)) ?_; (with_reducible refine (dragomanlaw13_letters.calls k4 a0 false _ A28.out).mono ?_); rintro e w63 ⟨rfl, hb⟩; refine ⟨_, rfl, ?_⟩; have n0_ := Aside0.mk (Kd.S_below (by (with_reducible repeat (first | apply Kd.S_alloc | apply Kd.S_drewN | apply Kd.S_drew)); exact (Kd.S_mono (Kd.S_far (p := ⟨gb408, 3, none⟩) (Kd.S_far (p := ⟨gb408, 2, none⟩) (Kd.S_far (p := ⟨gb408, 1, none⟩) (Kd.S_far (p := ⟨gb408, 0, none⟩) (Kd.S_types HO403.out BK408.out (by decide)) (fun _ hk => hk.2) (.int .i64 t404)) (fun _ hk => hk.2) (.int .i64 t405)) (fun _ hk => hk.2) (.int .i64 t406)) (fun _ hk => hk.2) (.int .i64 t407)) (fun _ h_ => h_.1))) hb); have n1_ := Aside0.mk (blk_below (g := gb408) (o := .cells #[.int .i64 t404, .int .i64 t405, .int .i64 t406, .int .i64 t407] 26 (0, 0)) (by (with_reducible repeat (first | refine blk_drewN ?_ _ | refine blk_drew ?_ | refine blk_alloc ?_ _)); refine blk_put (cs := #[.int .i64 t404, .int .i64 t405, .int .i64 t406, .int .i64 0]) ?_ 3 _ rfl; (with_reducible repeat (first | refine blk_drewN ?_ _ | refine blk_drew ?_ | refine blk_alloc ?_ _)); refine blk_put (cs := #[.int .i64 t404, .int .i64 t405, .int .i64 0, .int .i64 0]) ?_ 2 _ rfl; (with_reducible repeat (first | refine blk_drewN ?_ _ | refine blk_drew ?_ | refine blk_alloc ?_ _)); refine blk_put (cs := #[.int .i64 t404, .int .i64 0, .int .i64 0, .int .i64 0]) ?_ 1 _ rfl; (with_reducible repeat (first | refine blk_drewN ?_ _ | refine blk_drew ?_ | refine blk_alloc ?_ _)); refine blk_put (cs := #[.int .i64 0, .int .i64 0, .int .i64 0, .int .i64 0]) ?_ 0 _ rfl; (with_reducible repeat (first | refine blk_drewN ?_ _ | refine blk_drew ?_ | refine blk_alloc ?_ _)); exact BK408.out) hb); have n2_ := Aside0.mk (below_step (by repeat (first | (with_reducible first | exact HB.out | apply below_alloc | apply pw_below_drewN | apply below_drew1 | refine below_set ?_ GE408.out) | exact HB.out)) hb); clear HO403; clear BK408; clear HB; have HO403 := n0_; have BK408 := n1_; have HB := n2_; clear n0_ n1_ n2_; (try clear hb); (try clear hb2); (try clear hk); (try clear hi); have hcz64_0 : w63.cell? ⟨gb408, 0, none⟩ = some (.int .i64 t404) := (blk_cell BK408.out 0).trans rfl; have hcz64_1 : w63.cell? ⟨gb408, 1, none⟩ = some (.int .i64 t405) := (blk_cell BK408.out 1).trans rfl; have hcz64_2 : w63.cell? ⟨gb408, 2, none⟩ = some (.int .i64 t406) := (blk_cell BK408.out 2).trans rfl; have hcz64_3 : w63.cell? ⟨gb408, 3, none⟩ = some (.int .i64 t407) := (blk_cell BK408.out 3).trans rfl; have hfz64_0 := blk_frozen BK408.out 0; have hfz64_1 := blk_frozen BK408.out 1; have hfz64_2 := blk_frozen BK408.out 2; have hfz64_3 := blk_frozen BK408.out 3))
                  go_ret
                  exact ⟨by first | rfl | (simp [errW_none, errW_some] <;> rfl) | (simp [*, errW_none, errW_some, bne]; done) | (simp [*, errW_none, errW_some] <;> rfl), by repeat (first | (with_reducible first | exact HB.out | apply below_alloc | apply pw_below_drewN | apply below_drew1 | refine below_set ?_ GE408.out) | exact HB.out)⟩
                 ·rw [if_neg c59] at H
                  have c59b0 : (t404 == 0) = false := beq_eq_false_iff_ne.mpr c59
                  have c59b1 : (t404 != 0) = true := bne_iff_ne.mpr c59
                  obtain rfl := Option.some.inj H
                  go_wp2_with (first | ((with_reducible refine gate_callee (f := 9) rfl ?_); refine goesL_ (some 73) rfl rfl Try.func9 (by kernel_rfl) rfl #[.string x9_4] rfl (by (try simp only [List.map_toArray, List.map_cons, List.map_nil]); first | done | rfl | (simp only [List.length_drop, List.length_take]; rfl)) ?_; (with_reducible refine (cread_Rows.calls x9_4 t401 t404 t405 t406 t407 _ A27.out).mono ?_); rintro e w65 ⟨v402, rfl, ho0, hb⟩; refine ⟨_, rfl, ?_⟩; have n0_ := Aside0.mk (Kd.S_lower ho0 (below_size (by repeat (first | (with_reducible first | exact HB.out | apply below_alloc | apply pw_below_drewN | apply below_drew1) | exact HB.out)))); have n1_ := Aside0.mk (below_step (by repeat (first | (with_reducible first | exact HB.out | apply below_alloc | apply pw_below_drewN | apply below_drew1) | exact HB.out)) hb); clear HB; have HO403 := n0_; have HB := n1_; clear n0_ n1_; (try clear hb); (try clear hb2); (try clear hk); (try clear hi); (try clear ho0)) | ((with_reducible refine gate_dst (N := 13) rfl ?_); (try (refine gate_guard (by rfl) ?_; dsimp only)); refine box_event ?hg (N := 13) ?hd (cs := #[.int .i64 0, .int .i64 0, .int .i64 0, .int .i64 0]) (t := 26) ?hr ?_; (case hd => rfl); (case hg => rfl); (case hr => first | (go_simp; done) | (go_simp; rfl)); intro gb408 hg w66 hbox hb; have n0_ := Aside0.mk (Kd.S_below (by (with_reducible repeat (first | apply Kd.S_alloc | apply Kd.S_drewN | apply Kd.S_drew)); exact HO403.out) hb); have n1_ := Aside0.mk (below_step (by repeat (first | (with_reducible first | exact HB.out | apply below_alloc | apply pw_below_drewN | apply below_drew1) | exact HB.out)) hb); have n2_ := Aside0.mk (hbox); have n3_ := Aside0.mk ((by rw [hg]; exact (below_size (by repeat (first | (with_reducible first | exact HB.out | apply below_alloc | apply pw_below_drewN | apply below_drew1) | exact HB.out))) : w.heap.size ≤ gb408)); have n4_ := Aside0.mk ((by rw [hg]; exact (below_size (by repeat (first | (with_reducible first | exact HB.out | apply below_alloc | apply pw_below_drewN | apply below_drew1) | exact HB.out))) : w.heap.size ≤ gb408)); clear HO403; clear HB; have HO403 := n0_; have HB := n1_; have BK408 := n2_; have GW408 := n3_; have GE408 := n4_; clear n0_ n1_ n2_ n3_ n4_; clear hb hbox hg; have hcz67_0 : w66.cell? ⟨gb408, 0, none⟩ = some (.int .i64 0) := (blk_cell BK408.out 0).trans rfl; have hcz67_1 : w66.cell? ⟨gb408, 1, none⟩ = some (.int .i64 0) := (blk_cell BK408.out 1).trans rfl; have hcz67_2 : w66.cell? ⟨gb408, 2, none⟩ = some (.int .i64 0) := (blk_cell BK408.out 2).trans rfl; have hcz67_3 : w66.cell? ⟨gb408, 3, none⟩ = some (.int .i64 0) := (blk_cell BK408.out 3).trans rfl; have hfz67_0 := blk_frozen BK408.out 0; have hfz67_1 := blk_frozen BK408.out 1; have hfz67_2 := blk_frozen BK408.out 2; have hfz67_3 := blk_frozen BK408.out 3) | ((with_reducible refine gate_callee (f := 14) rfl ?_); refine goesL_ (some 77) rfl rfl Try.func14 (by kernel_rfl) rfl #[.string a0] rfl (by (try simp only [List.map_toArray, List.map_cons, List.map_nil]); first | done | rfl | (simp only [List.length_drop, List.length_take]; rfl)) ?_; (with_reducible refine (dragomanlaw13_letters.calls k4 a0 false _ A28.out).mono ?_); rintro e w68 ⟨rfl, hb⟩; refine ⟨_, rfl, ?_⟩; have n0_ := Aside0.mk (Kd.S_below (by (with_reducible repeat (first | apply Kd.S_alloc | apply Kd.S_drewN | apply Kd.S_drew)); exact (Kd.S_mono (Kd.S_far (p := ⟨gb408, 3, none⟩) (Kd.S_far (p := ⟨gb408, 2, none⟩) (Kd.S_far (p := ⟨gb408, 1, none⟩) (Kd.S_far (p := ⟨gb408, 0, none⟩) (Kd.S_types HO403.out BK408.out (by decide)) (fun _ hk => hk.2) (.int .i64 t404)) (fun _ hk => hk.2) (.int .i64 t405)) (fun _ hk => hk.2) (.int .i64 t406)) (fun _ hk => hk.2) (.int .i64 t407)) (fun _ h_ => h_.1))) hb); have n1_ := Aside0.mk (blk_below (g := gb408) (o := .cells #[.int .i64 t404, .int .i64 t405, .int .i64 t406, .int .i64 t407] 26 (0, 0)) (by (with_reducible repeat (first | refine blk_drewN ?_ _ | refine blk_drew ?_ | refine blk_alloc ?_ _)); refine blk_put (cs := #[.int .i64 t404, .int .i64 t405, .int .i64 t406, .int .i64 0]) ?_ 3 _ rfl; (with_reducible repeat (first | refine blk_drewN ?_ _ | refine blk_drew ?_ | refine blk_alloc ?_ _)); refine blk_put (cs := #[.int .i64 t404, .int .i64 t405, .int .i64 0, .int .i64 0]) ?_ 2 _ rfl; (with_reducible repeat (first | refine blk_drewN ?_ _ | refine blk_drew ?_ | refine blk_alloc ?_ _)); refine blk_put (cs := #[.int .i64 t404, .int .i64 0, .int .i64 0, .int .i64 0]) ?_ 1 _ rfl; (with_reducible repeat (first | refine blk_drewN ?_ _ | refine blk_drew ?_ | refine blk_alloc ?_ _)); refine blk_put (cs := #[.int .i64 0, .int .i64 0, .int .i64 0, .int .i64 0]) ?_ 0 _ rfl; (with_reducible repeat (first | refine blk_drewN ?_ _ | refine blk_drew ?_ | refine blk_alloc ?_ _)); exact BK408.out) hb); have n2_ := Aside0.mk (below_step (by repeat (first | (with_reducible first | exact HB.out | apply below_alloc | apply pw_below_drewN | apply below_drew1 | refine below_set ?_ GE408.out) | exact HB.out)) hb); clear HO403; clear BK408; clear HB; have HO403 := n0_; have BK408 := n1_; have HB := n2_; clear n0_ n1_ n2_; (try clear hb); (try clear hb2); (try clear hk); (try clear hi); have hcz69_0 : w68.cell? ⟨gb408, 0, none⟩ = some (.int .i64 t404) := (blk_cell BK408.out 0).trans rfl; have hcz69_1 : w68.cell? ⟨gb408, 1, none⟩ = some (.int .i64 t405) := (blk_cell BK408.out 1).trans rfl; have hcz69_2 : w68.cell? ⟨gb408, 2, none⟩ = some (.int .i64 t406) := (blk_cell BK408.out 2).trans rfl; have hcz69_3 : w68.cell? ⟨gb408, 3, none⟩ = some (.int .i64 t407) := (blk_cell BK408.out 3).trans rfl; have hfz69_0 := blk_frozen BK408.out 0; have hfz69_1 := blk_frozen BK408.out 1; have hfz69_2 := blk_frozen BK408.out 2; have hfz69_3 := blk_frozen BK408.out 3; obtain ⟨Ao70, co70, eo70⟩ := Kd.S_slice HO403.out; subst eo70))
                  go_ret
                  exact ⟨by first | rfl | (simp [errW_none, errW_some] <;> rfl) | (simp [*, errW_none, errW_some, bne]; done) | (simp [*, errW_none, errW_some] <;> rfl), by repeat (first | (with_reducible first | exact HB.out | apply below_alloc | apply pw_below_drewN | apply below_drew1 | refine below_set ?_ GE408.out) | exact HB.out)⟩
         ·rw [if_neg c22] at H
          exact absurd H (by simp)
        ·rw [if_neg c21] at H
         exact absurd H (by simp)
 ·replace c5 := Bool.eq_false_iff.mpr c5
  subst c5
  have H1 : (some false) = some r := by rw [if_neg (show ¬ (false = true) by decide)] at H; exact H
  clear H
  have H := H1
  clear H1
  obtain rfl := Option.some.inj H
  go_enter Try.func7, Try.ntmps7
  go_wp2_with (first | ((with_reducible refine gate_callee (f := 8) rfl ?_); refine goesL_ (some 14) rfl rfl Try.func8 (by kernel_rfl) rfl #[] rfl (by (try simp only [List.map_toArray, List.map_cons, List.map_nil]); first | done | rfl | (simp only [List.length_drop, List.length_take]; rfl)) ?_; (with_reducible refine (dragomanlaw13_awake.calls k  false _ A4.out).mono ?_); rintro e w71 ⟨rfl, hb⟩; refine ⟨_, rfl, ?_⟩; have n0_ := Aside0.mk (below_step (by repeat (first | (with_reducible first | exact HB.out | apply below_alloc | apply pw_below_drewN | apply below_drew1) | exact HB.out)) hb); clear HB; have HB := n0_; clear n0_; (try clear hb); (try clear hb2); (try clear hk); (try clear hi)))
  go_ret
  exact ⟨by first | rfl | (simp [errW_none, errW_some] <;> rfl) | (simp [*, errW_none, errW_some, bne]; done) | (simp [*, errW_none, errW_some] <;> rfl), by repeat (first | (with_reducible first | exact HB.out | apply below_alloc | apply pw_below_drewN | apply below_drew1) | exact HB.out)⟩
/-- THE ONE PURE STATEMENT of dragomanlaw13_CreadQuotes: yours. -/
def dragomanlaw13_CreadQuotes.Pure : Prop := ∀ (a0 : ByteArray) (a1 : Int) (a2 : Int), a0.size ≤ 140737488351232 → (Lit.int .i64 a1).wf = true → (Lit.int .i64 a2).wf = true → ∃ k, dragomanlaw13_CreadQuotes.f k a0 a1 a2 = some true
theorem dragomanlaw13_CreadQuotes.walk (P : dragomanlaw13_CreadQuotes.Pure) (a0 : ByteArray) (a1 : Int) (a2 : Int) (w : World) (w0 : a0.size ≤ 140737488351232) (w1 : (Lit.int .i64 a1).wf = true) (w2 : (Lit.int .i64 a2).wf = true) :
  Calls Try.prog 7 #[.string a0, .int .i64 a1, .int .i64 a2] w fun e w' => e = .returned (.bool true) ∧ Below w.heap.size w w' := by
 obtain ⟨k, h⟩ := P a0 a1 a2 w0 w1 w2
 refine (dragomanlaw13_CreadQuotes.calls k a0 a1 a2 true w h).mono ?_
 rintro e w' ⟨rfl, hd⟩
 exact ⟨rfl, hd⟩
end Go.Proofs.Ytjmmdphkgioooaa.P
end
section
namespace Go.Proofs.Ytjmmdphkgioooaa.La
open Go.RowKit Go.Proofs.Ytjmmdphkgioooaa.P Go.Proofs.YtjmmdphkgioooaaW.PrintWords Go.Proofs.YtjmmdphkgioooaaW.PrintLast Go.Proofs.YtjmmdphkgioooaaW.PrintMore
theorem drop_bt {t : ByteArray} {i : Nat} (h : i < t.size) : (bytesOf t).drop i = bt t (i : Int) :: (bytesOf t).drop (i + 1) := by
 have hl : i < (bytesOf t).length := by rw [size_of]; exact h
 rw [List.drop_eq_getElem_cons hl, bt_get]
 simp [List.getD_eq_getElem?_getD, hl]
end Go.Proofs.Ytjmmdphkgioooaa.La
end
section
namespace Go.Proofs.Ytjmmdphkgioooaa.La
open Go.RowKit Go.Proofs.Ytjmmdphkgioooaa.P Go.Proofs.YtjmmdphkgioooaaW.PrintWords Go.Proofs.YtjmmdphkgioooaaW.PrintLast Go.Proofs.YtjmmdphkgioooaaW.PrintMore
theorem readValid_ev (s : ByteArray) (hs : s.size ≤ 8796093022208) : Ev (fun k => cread_Valid.f k s) ((readR s).2.1 == 0) := by
 refine Ev.congr (fun k => by rw [cread_Valid.f]) (Ev.bind (fields_ev s hs) ?_)
 exact Ev.now _
theorem rows_f (s : ByteArray) (hs : s.size ≤ 8796093022208) : cread_Rows.f s = some (readR s) := by
 unfold cread_Rows.f
 rw [if_pos hs]
theorem awakeA : readR (⟨#[97, 44, 34, 98, 34, 34, 99, 34]⟩ : ByteArray) = ([[⟨#[97]⟩, ⟨#[98, 34, 99]⟩]], 0, 0, 0, 0) := by decide +kernel
theorem awakeB : readR (⟨#[97, 44, 98, 10, 99]⟩ : ByteArray) = ([], 7, 4, 2, 1) := by decide +kernel
theorem awakeC : readR (⟨#[97, 13, 10, 98]⟩ : ByteArray) = ([[⟨#[97]⟩], [⟨#[98]⟩]], 0, 0, 0, 0) := by decide +kernel
theorem awake13_ev : Ev (fun k => dragomanlaw13_awake.f k) true := by
 have h3 := readValid_ev (⟨#[97, 13, 10, 98]⟩ : ByteArray) (by decide)
 rw [awakeC] at h3
 refine Ev.congr (fun k => by rw [dragomanlaw13_awake.f, cread_Rows.f, cread_Rows.f, if_pos (by decide), if_pos (by decide), awakeA, awakeB, Option.bind_some, Option.bind_some, if_pos (by decide +kernel), if_pos (by decide +kernel), if_pos (by decide +kernel), if_pos (by decide +kernel), if_pos (by decide +kernel), if_pos (by decide +kernel), if_pos (by decide +kernel)]) ?_
 exact Ev.bind h3 (Ev.now _)
end Go.Proofs.Ytjmmdphkgioooaa.La
end
section
namespace Go.Proofs.Ytjmmdphkgioooaa.La
open Go.RowKit Go.Proofs.Ytjmmdphkgioooaa.P Go.Proofs.YtjmmdphkgioooaaW.PrintWords Go.Proofs.YtjmmdphkgioooaaW.PrintLast Go.Proofs.YtjmmdphkgioooaaW.PrintMore
theorem enc_low {r : Int} (h : r < 128) : enc r = [r] := by unfold enc; rw [if_pos h]
theorem enc_high {r : Int} (h : 128 ≤ r) (hg : good r) : ∀ b ∈ enc r, 128 ≤ b := by
 have hg' := good_iff.1 hg
 unfold enc
 rw [if_neg (by omega)]
 intro b hb
 split at hb
 ·simp at hb; omega
 ·split at hb
  ·simp at hb; omega
  ·simp at hb; omega
/-- A text of letters, cut ahead of a byte below 128 (or at its end): both parts are letters. -/
theorem bad_cut (L : List Int) (hL : Bytes L) (h : bad L = none) : ∀ a b : List Int, L = a ++ b → (∀ c t, b = c :: t → c < 128) → bad a = none ∧ bad b = none := by
 refine text_induction (P := fun L => ∀ a b : List Int, L = a ++ b → (∀ c t, b = c :: t → c < 128) → bad a = none ∧ bad b = none) ?_ ?_ L hL h
 ·intro a b hab _
  obtain ⟨rfl, rfl⟩ := List.append_eq_nil_iff.1 hab.symm
  exact ⟨bad_nil, bad_nil⟩
 ·intro r m hr hm _ ih a b hab hb
  cases a with
  | nil =>
   rw [List.nil_append] at hab
   refine ⟨bad_nil, ?_⟩
   rw [← hab, bad_enc hr, hm]
   rfl
  | cons x a' =>
   by_cases hlen : (enc r).length ≤ (x :: a').length
   ·have e1 : (x :: a').take (enc r).length = enc r := by
     have := congrArg (List.take (enc r).length) hab
     rw [List.take_left, List.take_append_of_le_length hlen] at this
     exact this.symm
    have e2 : m = (x :: a').drop (enc r).length ++ b := by
     have := congrArg (List.drop (enc r).length) hab
     rw [List.drop_left, List.drop_append_of_le_length hlen] at this
     exact this
    obtain ⟨h1, h2⟩ := ih _ _ e2 hb
    refine ⟨?_, h2⟩
    rw [← List.take_append_drop (enc r).length (x :: a'), e1, bad_enc hr, h1]
    rfl
   ·exfalso
    have hl := (enc_len r).2
    have hge : 128 ≤ r := by
     rcases Int.lt_or_le r 128 with h | h
     ·rw [enc_low h] at hlen; simp at hlen
     ·exact h
    have hi : (x :: a').length < (enc r).length := by omega
    have hne : b ≠ [] := by
     intro e
     subst e
     have := congrArg List.length hab
     rw [List.append_nil, List.length_append] at this
     omega
    obtain ⟨c, t, rfl⟩ : ∃ c t, b = c :: t := by cases b with
     | nil => exact absurd rfl hne
     | cons c t => exact ⟨c, t, rfl⟩
    have hc := hb c t rfl
    have e3 : (enc r ++ m)[(x :: a').length]? = some c := by
     rw [hab, List.getElem?_append_right (Nat.le_refl _), Nat.sub_self]
     rfl
    rw [List.getElem?_append_left hi] at e3
    have := enc_high hge hr c (List.mem_of_getElem? e3)
    omega
theorem bad_one {b : Int} (h0 : 0 ≤ b) (h1 : b < 128) (m : List Int) : bad (b :: m) = (bad m).map (· + 1) := by
 have e : enc b = [b] := by unfold enc; rw [if_pos h1]
 have h := bad_enc (r := b) ⟨h0, by omega, .inl (by omega)⟩ m
 rw [e] at h
 exact h
theorem bad_one_none {b : Int} (h0 : 0 ≤ b) (h1 : b < 128) (m : List Int) : bad (b :: m) = none ↔ bad m = none := by
 rw [bad_one h0 h1]
 cases bad m <;> simp
theorem bad_asc {l : List Int} (h : ∀ b ∈ l, 0 ≤ b ∧ b < 128) : bad l = none := by
 induction l with
 | nil => exact bad_nil
 | cons b l ih =>
  have := h b List.mem_cons_self
  exact (bad_one_none this.1 this.2 l).2 (ih (fun x hx => h x (List.mem_cons_of_mem _ hx)))
theorem bad_app {a b : List Int} (ha : Bytes a) (h1 : bad a = none) (h2 : bad b = none) : bad (a ++ b) = none := by
 rw [bad_join ha h1, h2]; rfl
/-- Behind a byte below 128. -/
theorem bad_mid {a b : List Int} {c : Int} (h0 : 0 ≤ c) (h1 : c < 128) (hB : Bytes (a ++ c :: b)) : bad (a ++ c :: b) = none ↔ bad a = none ∧ bad b = none := by
 constructor
 ·intro h
  obtain ⟨h2, h3⟩ := bad_cut _ hB h a (c :: b) rfl (fun x t hx => by rw [← (List.cons.inj hx).1]; exact h1)
  exact ⟨h2, (bad_one_none h0 h1 b).1 h3⟩
 ·rintro ⟨h2, h3⟩
  exact bad_app hB.left h2 ((bad_one_none h0 h1 b).2 h3)
/-- A text of lines, read. -/
theorem read_lines (ls : List Line) (hL : Lines ls) (hv : bad (textOf ls) = none) (hz : (textOf ls).length ≤ 65536) (hn : ls.length ≤ 513) (s : ByteArray) (hs : bytesOf s = textOf ls) :
  match rowsOf [] (ls.map Prod.fst) with
  | none => (readR s).1 = [] ∧ (readR s).2.1 = 7
  | some r => readR s = (r, 0, 0, 0, 0) := by
 have h := whole_lines ls hL 513 [] 0 hn
 rw [← hs] at h hv hz
 rw [size_of] at hz
 unfold readR fieldsR
 rw [if_neg (by omega), hv]
 simp only [List.map_nil] at h
 cases hr : rowsOf [] (ls.map Prod.fst) with
 | none =>
  rw [hr] at h
  obtain ⟨j, hj⟩ := h
  rw [hj]
  exact ⟨rfl, rfl⟩
 | some r =>
  rw [hr] at h
  obtain ⟨rows', hj, rfl⟩ := h
  rw [hj]
  rfl
theorem read_bad {s : ByteArray} {p : Nat} (hz : s.size ≤ 65536) (hv : bad (bytesOf s) = some p) : (readR s).1 = [] ∧ (readR s).2.1 = 3 := by
 unfold readR fieldsR
 rw [if_neg (by omega), hv]
 exact ⟨rfl, rfl⟩
end Go.Proofs.Ytjmmdphkgioooaa.La
end
section
namespace Go.Proofs.Ytjmmdphkgioooaa.Pure
open Go.RowKit Go.Proofs.Ytjmmdphkgioooaa.P Go.Proofs.Ytjmmdphkgioooaa.La Go.Proofs.YtjmmdphkgioooaaW.PrintWords Go.Proofs.YtjmmdphkgioooaaW.PrintLast Go.Proofs.YtjmmdphkgioooaaW.PrintMore
theorem bad_dbl : ∀ (n : Nat) (s : List Int), s.length ≤ n → Bytes s → (bad (dbl s) = none ↔ bad s = none) := by
 intro n
 induction n with
 | zero =>
  intro s hs _
  obtain rfl := List.length_eq_zero_iff.1 (Nat.le_zero.1 hs)
  exact Iff.rfl
 | succ n ih =>
  intro s hs hB
  rcases Int.lt_or_le (idx s 34) 0 with h | h
  ·rw [dbl_id (idx_none h)]
  ·obtain ⟨m, _, hm, he, hu⟩ := idx_some h
   obtain ⟨u, hu'⟩ : ∃ u, s.take m = u := ⟨_, rfl⟩
   obtain ⟨v, hv'⟩ : ∃ v, s.drop (m + 1) = v := ⟨_, rfl⟩
   rw [hu', hv'] at he
   rw [hu'] at hu
   have hvl : v.length ≤ n := by rw [← hv', List.length_drop]; omega
   have hBv : Bytes v := by rw [← hv']; exact hB.drop _
   have e : dbl s = u ++ 34 :: 34 :: dbl v := by
    rw [he, dbl_append, dbl_id hu, dbl_cons, if_pos rfl]; rfl
   have hBd : Bytes (u ++ 34 :: 34 :: dbl v) := by rw [← e]; exact dbl_bytes hB
   have hBs : Bytes (u ++ 34 :: v) := by rw [← he]; exact hB
   rw [e, he, bad_mid (by omega) (by omega) hBd, bad_mid (by omega) (by omega) hBs, bad_one_none (by omega) (by omega), ih v hvl hBv]
theorem join_b (x : List Int) (b : Nat) : joinC (x :: List.replicate b [121]) = x ++ (List.replicate b [44, 121]).flatten := by
 induction b generalizing x with
 | zero => simp [joinC]
 | succ b ih =>
  rw [List.replicate_succ, joinC, ih, List.replicate_succ, List.flatten_cons]
  rfl
theorem join_ab (a b : Nat) (x : List Int) : joinC (List.replicate a [120] ++ x :: List.replicate b [121]) = (List.replicate a [120, 44]).flatten ++ (x ++ (List.replicate b [44, 121]).flatten) := by
 induction a with
 | zero => exact join_b x b
 | succ a ih =>
  obtain ⟨y, l, hl⟩ : ∃ y l, List.replicate a ([120] : List Int) ++ x :: List.replicate b [121] = y :: l := by
   cases a with
   | zero => exact ⟨_, _, rfl⟩
   | succ a => exact ⟨_, _, rfl⟩
  rw [List.replicate_succ, List.cons_append, hl, joinC, ← hl, ih, List.replicate_succ, List.flatten_cons]
  rfl
def qcells (a b : Nat) (s : List Int) : List (List Int × List Int) := List.replicate a ([120], [120]) ++ (34 :: (dbl s ++ [34]), s) :: List.replicate b ([121], [121])
def qtext (a b : Nat) (s : List Int) : List Int := (List.replicate a [120, 44]).flatten ++ ((34 :: (dbl s ++ [34])) ++ (List.replicate b [44, 121]).flatten)
theorem qcells_join (a b : Nat) (s : List Int) : joinC ((qcells a b s).map Prod.fst) = qtext a b s := by
 unfold qcells qtext
 rw [List.map_append, List.map_cons, List.map_replicate, List.map_replicate, join_ab]
theorem qcells_len (a b : Nat) (s : List Int) : (qcells a b s).length = a + b + 1 := by simp [qcells]; omega
theorem flat_asc {n : Nat} {l : List Int} (h : ∀ b ∈ l, 0 ≤ b ∧ b < 128) : ∀ b ∈ (List.replicate n l).flatten, 0 ≤ b ∧ b < 128 := by
 intro b hb
 obtain ⟨m, hm, hb⟩ := List.mem_flatten.1 hb
 rw [List.eq_of_mem_replicate hm] at hb
 exact h b hb
theorem qtext_bad (a b : Nat) {s : List Int} (hB : Bytes s) : bad (qtext a b s) = none ↔ bad s = none := by
 have h1 : ∀ x ∈ (List.replicate a ([120, 44] : List Int)).flatten, 0 ≤ x ∧ x < 128 := flat_asc (by intro x hx; simp at hx; rcases hx with rfl | rfl <;> omega)
 have h2 : ∀ x ∈ (List.replicate b ([44, 121] : List Int)).flatten, 0 ≤ x ∧ x < 128 := flat_asc (by intro x hx; simp at hx; rcases hx with rfl | rfl <;> omega)
 have e : qtext a b s = (List.replicate a [120, 44]).flatten ++ 34 :: (dbl s ++ 34 :: (List.replicate b [44, 121]).flatten) := by unfold qtext; simp
 have hB1 : Bytes (dbl s ++ 34 :: (List.replicate b [44, 121]).flatten) := fun x hx => by
  rcases List.mem_append.1 hx with hx | hx
  ·exact dbl_bytes hB x hx
  ·rcases List.mem_cons.1 hx with rfl | hx
   ·omega
   ·have := h2 x hx; omega
 have hB2 : Bytes ((List.replicate a [120, 44]).flatten ++ 34 :: (dbl s ++ 34 :: (List.replicate b [44, 121]).flatten)) := fun x hx => by
  rcases List.mem_append.1 hx with hx | hx
  ·have := h1 x hx; omega
  ·rcases List.mem_cons.1 hx with rfl | hx
   ·omega
   ·exact hB1 x hx
 rw [e, bad_mid (by omega) (by omega) hB2, bad_mid (by omega) (by omega) hB1, bad_dbl s.length s (Nat.le_refl _) hB]
 exact ⟨fun h => h.2.1, fun h => ⟨bad_asc h1, h, bad_asc h2⟩⟩
theorem qtext_len (a b : Nat) (s : List Int) : (qtext a b s).length ≤ 2 * a + 2 * b + 2 * s.length + 2 := by
 have := dbl_len s
 unfold qtext
 simp only [List.length_append, List.length_cons, List.length_flatten, List.map_replicate, List.sum_replicate_nat, List.length_nil]
 omega
theorem qread (a b : Nat) (ha : a ≤ 5) (hb : b ≤ 5) (s t : ByteArray) (hs : s.size ≤ 300) (ht : bytesOf t = qtext a b (bytesOf s)) :
  if bad (bytesOf s) = none then readR t = ([(qcells a b (bytesOf s)).map (fun p => strOfNums p.2)], 0, 0, 0, 0) else (readR t).1 = [] ∧ (readR t).2.1 = 3 := by
 have hz : t.size ≤ 65536 := by
  have h := qtext_len a b (bytesOf s)
  rw [← ht, size_of, size_of] at h
  omega
 by_cases hv : bad (bytesOf s) = none
 ·rw [if_pos hv]
  have hw : ∀ p ∈ qcells a b (bytesOf s), Wr p := by
   intro p hp
   rcases List.mem_append.1 hp with hp | hp
   ·rw [List.eq_of_mem_replicate hp]
    exact wr_plain (fun b hb => by rw [List.mem_singleton.1 hb]; rfl) (by simp)
   ·rcases List.mem_cons.1 hp with rfl | hp
    ·exact wr_quoted (by rw [size_of]; omega)
    ·rw [List.eq_of_mem_replicate hp]
     exact wr_plain (fun b hb => by rw [List.mem_singleton.1 hb]; rfl) (by simp)
  have htx : Line.text (qcells a b (bytesOf s), []) = qtext a b (bytesOf s) := by
   unfold Line.text
   rw [qcells_join, List.append_nil]
  have hne : qtext a b (bytesOf s) ≠ [] := by unfold qtext; simp
  have hq0 : qcells a b (bytesOf s) ≠ [] := by unfold qcells; simp
  have hL : Lines [((qcells a b (bytesOf s), []) : Line)] := .inr ⟨hq0, hw, rfl, by rw [qcells_len]; omega, by rw [htx]; exact hne⟩
  have htt : textOf [((qcells a b (bytesOf s), []) : Line)] = qtext a b (bytesOf s) := by
   unfold textOf
   rw [List.flatMap_cons, htx]; simp
  have h := read_lines [((qcells a b (bytesOf s), []) : Line)] hL (by rw [htt]; exact (qtext_bad a b (bytes_of s)).2 hv) (by rw [htt, ← ht, size_of]; exact hz) (by simp) t (by rw [htt]; exact ht)
  exact h
 ·rw [if_neg hv]
  have hb : bad (bytesOf t) ≠ none := by rw [ht]; exact fun h => hv ((qtext_bad a b (bytes_of s)).1 h)
  obtain ⟨p, hp⟩ := Option.ne_none_iff_exists'.1 hb
  exact read_bad hz hp
theorem ql2 (s : ByteArray) (hs : s.size ≤ 300) (a b : Nat) (ha : a ≤ 5) (hb : b ≤ 5) : ∀ (d j : Nat) (x : ByteArray), j ≤ b → b - j = d → bytesOf x = qtext a j (bytesOf s) →
  Ev (fun k => dragomanlaw13_CreadQuotes.l2 k s (a : Int) (b : Int) x (j : Int)) true
 | 0, j, x, hj, hd, hx => by
  obtain rfl : j = b := by omega
  have hz : x.size ≤ 65536 := by
   have h := qtext_len a j (bytesOf s)
   rw [← hx, size_of, size_of] at h
   omega
  have h := qread a j ha hb s x hs hx
  refine Ev.step (fun k => by rw [dragomanlaw13_CreadQuotes.l2, if_neg (show ¬ (j : Int) < (j : Int) by omega), rows_f _ (by omega), Option.bind_some]) ?_
  refine Ev.bind (Ev.congr (fun k => by rw [dragomanlaw13_letters.f]) (Ev.bind (ref_valid_ev s (by omega)) (Ev.now _))) ?_
  by_cases hv : bad (bytesOf s) = none
  ·rw [if_pos hv] at h
   have e1 : decide (rbadR 0 (bad (bytesOf s)) < 0) = true := by rw [hv]; rfl
   have hrow : ((qcells a j (bytesOf s)).map (fun p => strOfNums p.2)).length = a + j + 1 := by rw [List.length_map, qcells_len]
   have hget : rdOf ByteArray.empty ((qcells a j (bytesOf s)).map (fun p => strOfNums p.2)) (a : Int) = s := by
    unfold rdOf qcells
    rw [List.getD_eq_getElem?_getD, Int.toNat_natCast, List.getElem?_map, List.getElem?_append_right (by simp)]
    simp [strOfNums_of]
   have hh : rd_L4 [(qcells a j (bytesOf s)).map (fun p => strOfNums p.2)] 0 = (qcells a j (bytesOf s)).map (fun p => strOfNums p.2) := rfl
   rw [e1, h]
   dsimp only
   refine Ev.congr (fun k => by rw [if_pos rfl, if_pos rfl, if_pos (by rfl), if_pos (show (0 : Int) < (([(qcells a j (bytesOf s)).map (fun p => strOfNums p.2)].length : Nat) : Int) by simp), hh, hrow, wrap_id (show -9223372036854775808 ≤ (a : Int) + (j : Int) by omega) (show (a : Int) + (j : Int) < 9223372036854775808 by omega), wrap_id (show -9223372036854775808 ≤ (a : Int) + (j : Int) + 1 by omega) (show (a : Int) + (j : Int) + 1 < 9223372036854775808 by omega), if_pos (show ((a + j + 1 : Nat) : Int) = (a : Int) + (j : Int) + 1 by omega), if_pos (show (0 : Int) ≤ (a : Int) by omega), if_pos (show (a : Int) < ((a + j + 1 : Nat) : Int) by omega), hget]) ?_
   rw [beq_self_eq_true]
   exact Ev.now _
  ·rw [if_neg hv] at h
   obtain ⟨p, hp⟩ := Option.ne_none_iff_exists'.1 hv
   have e1 : decide (rbadR 0 (bad (bytesOf s)) < 0) = false := by rw [hp]; exact decide_eq_false (by simp [rbadR])
   rw [e1]
   refine Ev.congr (fun k => by rw [if_neg Bool.false_ne_true, if_neg (by rw [h.2]; decide), h.1]) ?_
   exact Ev.now _
 | d + 1, j, x, hj, hd, hx => by
  have hz : x.size ≤ 65536 := by
   have h := qtext_len a j (bytesOf s)
   rw [← hx, size_of, size_of] at h
   omega
  refine Ev.step (fun k => by rw [dragomanlaw13_CreadQuotes.l2, if_pos (show (j : Int) < (b : Int) by omega), if_pos (show x.size + 2 ≤ 9223372036854775807 by omega), wrap_id (show -9223372036854775808 ≤ (j : Int) + 1 by omega) (show (j : Int) + 1 < 9223372036854775808 by omega)]) ?_
  refine ql2 s hs a b ha hb d (j + 1) _ (by omega) (by omega) ?_
  rw [bytesOf_append, hx]
  unfold qtext
  rw [List.replicate_succ', List.flatten_append, List.append_assoc, List.append_assoc]
  rfl
theorem ql1 (s : ByteArray) (hs : s.size ≤ 300) (a b : Nat) (ha : a ≤ 5) (hb : b ≤ 5) : ∀ (d j : Nat) (x : ByteArray), j ≤ a → a - j = d → bytesOf x = qtext j 0 (bytesOf s) →
  Ev (fun k => dragomanlaw13_CreadQuotes.l1 k s (a : Int) (b : Int) x (j : Int)) true
 | 0, j, x, hj, hd, hx => by
  obtain rfl : j = a := by omega
  refine Ev.step (fun k => by rw [dragomanlaw13_CreadQuotes.l1, if_neg (show ¬ (j : Int) < (j : Int) by omega)]) ?_
  exact ql2 s hs j b ha hb b 0 x (Nat.zero_le _) rfl hx
 | d + 1, j, x, hj, hd, hx => by
  have hz : x.size ≤ 65536 := by
   have h := qtext_len j 0 (bytesOf s)
   rw [← hx, size_of, size_of] at h
   omega
  refine Ev.step (fun k => by rw [dragomanlaw13_CreadQuotes.l1, if_pos (show (j : Int) < (a : Int) by omega), if_pos (show 2 + x.size ≤ 9223372036854775807 by omega), wrap_id (show -9223372036854775808 ≤ (j : Int) + 1 by omega) (show (j : Int) + 1 < 9223372036854775808 by omega)]) ?_
  refine ql1 s hs a b ha hb d (j + 1) _ (by omega) (by omega) ?_
  rw [bytesOf_append, hx]
  unfold qtext
  rw [List.replicate_succ, List.flatten_cons, List.append_assoc]
  rfl
theorem ql0 (s : ByteArray) (hs : s.size ≤ 300) (a b : Nat) (ha : a ≤ 5) (hb : b ≤ 5) : ∀ (d j : Nat) (x : ByteArray), j ≤ s.size → s.size - j = d → bytesOf x = dbl ((bytesOf s).take j) →
  Ev (fun k => dragomanlaw13_CreadQuotes.l0 k s (a : Int) (b : Int) x (j : Int)) true
 | 0, j, x, hj, hd, hx => by
  have hz : x.size ≤ 65536 := by
   have h := dbl_len ((bytesOf s).take j)
   rw [← hx, size_of, List.length_take, size_of] at h
   omega
  have hz1 : ((⟨#[34]⟩ : ByteArray) ++ x).size = 1 + x.size := by rw [size_append']; rfl
  refine Ev.step (fun k => by rw [dragomanlaw13_CreadQuotes.l0, if_neg (show ¬ (j : Int) < (s.size : Int) by omega), if_pos (show 1 + x.size ≤ 9223372036854775807 by omega), if_pos (by rw [hz1]; omega)]) ?_
  refine ql1 s hs a b ha hb a 0 _ (Nat.zero_le _) rfl ?_
  rw [bytesOf_append, bytesOf_append, hx, List.take_of_length_le (by rw [size_of]; omega)]
  unfold qtext
  simp [bytesOf_data]
 | d + 1, j, x, hj, hd, hx => by
  have hlt : j < s.size := by omega
  have hz : x.size ≤ 65536 := by
   have h := dbl_len ((bytesOf s).take j)
   rw [← hx, size_of, List.length_take, size_of] at h
   omega
  have hex : bytesOf (s.extract (j : Int).toNat ((j : Int) + 1).toNat) = [bt s (j : Int)] := by
   rw [bytesOf_extract, show ((j : Int) + 1).toNat = j + 1 by omega, Int.toNat_natCast, List.drop_take, drop_bt hlt, Nat.add_sub_cancel_left]
   rfl
  have hez : (s.extract (j : Int).toNat ((j : Int) + 1).toNat).size = 1 := by rw [← size_of, hex]; rfl
  have hz1 : (x ++ s.extract (j : Int).toNat ((j : Int) + 1).toNat).size = x.size + 1 := by rw [size_append', hez]
  have htk : (bytesOf s).take (j + 1) = (bytesOf s).take j ++ [bt s (j : Int)] := by
   rw [List.take_add, drop_bt hlt]; rfl
  refine Ev.step (fun k => by rw [dragomanlaw13_CreadQuotes.l0, if_pos (show (j : Int) < (s.size : Int) by omega), if_pos (show (0 : Int) ≤ (j : Int) by omega), wrap_id (show -9223372036854775808 ≤ (j : Int) + 1 by omega) (show (j : Int) + 1 < 9223372036854775808 by omega), if_pos (show (j : Int) ≤ (j : Int) + 1 by omega), if_pos (show (j : Int) + 1 ≤ (s.size : Int) by omega), if_pos (by rw [hez]; omega)]) ?_
  by_cases h34 : bt s (j : Int) = 34
  ·refine Ev.congr (fun k => by rw [if_pos h34, if_pos (by rw [hz1]; omega)]) ?_
   refine ql0 s hs a b ha hb d (j + 1) _ (by omega) (by omega) ?_
   rw [bytesOf_append, bytesOf_append, hx, hex, htk, dbl_append, dbl_cons, if_pos h34, h34, List.append_assoc]
   rfl
  ·refine Ev.congr (fun k => by rw [if_neg h34]) ?_
   refine ql0 s hs a b ha hb d (j + 1) _ (by omega) (by omega) ?_
   rw [bytesOf_append, hx, hex, htk, dbl_append, dbl_cons, if_neg h34]
   rfl
theorem CreadQuotes : dragomanlaw13_CreadQuotes.Pure := by
 intro a0 a1 a2
 intros
 apply Ev.rounds
 refine Ev.congr (fun k => by rw [dragomanlaw13_CreadQuotes.f]) (Ev.bind awake13_ev ?_)
 refine Ev.congr (fun k => if_pos rfl) ?_
 have hj : Ev (fun k => dragomanlaw13_CreadQuotes.j0 k a0 a1 a2 true) true := Ev.step (fun k => by rw [dragomanlaw13_CreadQuotes.j0, if_pos rfl]) (Ev.now _)
 by_cases h0 : (a0.size : Int) > 300
 ·exact Ev.congr (fun k => if_pos h0) hj
 by_cases h1 : a1 < 0
 ·exact Ev.congr (fun k => by rw [if_neg h0, if_pos h1]) hj
 by_cases h2 : a1 > 5
 ·exact Ev.congr (fun k => by rw [if_neg h0, if_neg h1, if_pos h2]) hj
 by_cases h3 : a2 < 0
 ·exact Ev.congr (fun k => by rw [if_neg h0, if_neg h1, if_neg h2, if_pos h3]) hj
 refine Ev.congr (fun k => by rw [if_neg h0, if_neg h1, if_neg h2, if_neg h3]) ?_
 by_cases h4 : a2 > 5
 ·rw [decide_eq_true h4]
  exact hj
 ·rw [decide_eq_false h4]
  obtain ⟨n, rfl⟩ : ∃ n : Nat, a1 = (n : Int) := ⟨a1.toNat, by omega⟩
  obtain ⟨m, rfl⟩ : ∃ m : Nat, a2 = (m : Int) := ⟨a2.toNat, by omega⟩
  refine Ev.step (fun k => by rw [dragomanlaw13_CreadQuotes.j0, if_neg Bool.false_ne_true]) ?_
  exact ql0 a0 (by omega) n m (by omega) (by omega) a0.size 0 ⟨#[]⟩ (Nat.zero_le _) rfl rfl
end Go.Proofs.Ytjmmdphkgioooaa.Pure
end
