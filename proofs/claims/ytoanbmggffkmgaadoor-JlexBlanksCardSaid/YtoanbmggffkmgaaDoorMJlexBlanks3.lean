/- The parts of this claim's proof, in one text: what each Go function answers and that its call comes to it; plain facts of lists of numbers. Conditions as each theorem names them. -/
import Derived.ArgAppend
import Derived.Below
import Derived.BigQuiet
import Derived.Deep.AppendLies
import Derived.Deep.CutBlock
import Derived.Deep.DeepCutAuto
import Derived.Deep.Draws
import Derived.Deep.LoopGhost
import Derived.Deep.OwnRows
import Derived.Deep.QuietTactic
import Derived.Deep.RegionHeld3
import Derived.KernelRfl
import Derived.Laws.BitsLemmas
import Derived.Laws.BytesArg
import Derived.Laws.IdiomCopy
import Derived.Laws.MakeOwn
import Derived.Laws.OwnMore
import Derived.Laws.Rows
import Derived.Laws.Slices
import Derived.Lib.AppendStr
import Derived.Lib.Bytealg
import Derived.Lib.Bytes
import Derived.Lib.ConvBytes
import Derived.Lib.Hide
import Derived.Maps.AppendAt
import Derived.OrdersHeld
import Derived.Outline
import Derived.OwnWalk
import Derived.RowKit
import Derived.RowKit3
import Derived.Shelf.Bits.Mul64
import Derived.Shelf.LaysM
import Derived.Shelf.Small.Strs
import Derived.Shelf.Small.Utf8
import Derived.Shelf.Strings.AsciiSet
import Derived.Shelf.Strings.Builder1
import Derived.Shelf.Strings.Builder2
import Derived.Shelf.Strings.BuilderF
import Derived.Shelf.Strings.Count
import Derived.Shelf.Strings.IndexAny
import Derived.Shelf.Strings.IndexAnyAll
import Derived.Shelf.Strings.Prefix
import Derived.Shelf.Strings.Repeat
import Derived.Shelf.Strings.Runes
import Derived.Shelf.Strings.Search1
import Derived.Shelf.Strings.Search2
import Derived.Shelf.Strings.Search3
import Derived.Shelf.Strings.Shaped
import Derived.Shelf.Strings.SlTrimAscii
import Derived.Shelf.Strings.Trim
import Derived.Shelf.Unicode.DecodeSlow
import Derived.Tactics
import Derived.WalkKit
import Derived.WideLaws
import Derived.Test.YtoanbmggffkmgaaDoorProg
import Derived.Test.YtoanbmggffkmgaaDoorWApart
import Derived.Test.YtoanbmggffkmgaaDoorWArr
import Derived.Test.YtoanbmggffkmgaaDoorWAt
import Derived.Test.YtoanbmggffkmgaaDoorWEqStruct
import Derived.Test.YtoanbmggffkmgaaDoorWFoot
import Derived.Test.YtoanbmggffkmgaaDoorWFootNe
import Derived.Test.YtoanbmggffkmgaaDoorWFour
import Derived.Test.YtoanbmggffkmgaaDoorWGuard
import Derived.Test.YtoanbmggffkmgaaDoorWInv
import Derived.Test.YtoanbmggffkmgaaDoorWInvWords
import Derived.Test.YtoanbmggffkmgaaDoorWKept
import Derived.Test.YtoanbmggffkmgaaDoorWLast
import Derived.Test.YtoanbmggffkmgaaDoorWMake0
import Derived.Test.YtoanbmggffkmgaaDoorWMore
import Derived.Test.YtoanbmggffkmgaaDoorWN
import Derived.Test.YtoanbmggffkmgaaDoorWNEv
import Derived.Test.YtoanbmggffkmgaaDoorWQPut
import Derived.Test.YtoanbmggffkmgaaDoorWRepsOne
import Derived.Test.YtoanbmggffkmgaaDoorWShare
import Derived.Test.YtoanbmggffkmgaaDoorWTab
import Derived.Test.YtoanbmggffkmgaaDoorWWords
import Derived.Test.YtoanbmggffkmgaaDoorWZeros
import Derived.Test.YtoanbmggffkmgaaDoorMJlexBlanks1
import Derived.Test.YtoanbmggffkmgaaDoorMJlexBlanks2
section
namespace Go.Proofs.YtoanbmggffkmgaaDoor.P
open Go.RowKit Go.Proofs.YtoanbmggffkmgaaDoorW.PrintWords Go.Proofs.YtoanbmggffkmgaaDoorW.PrintLast Go.Proofs.YtoanbmggffkmgaaDoorW.PrintMore
attribute [local go_sem] max2_int min2_int max_two min_two max_three min_three max_four min_four   -- for this text's walks alone
attribute [-simp] ByteArray.size_extract
set_option linter.unusedVariables false
set_option linter.unusedSimpArgs false
/-! ### jlex_word: function 33 -/
def jlex_word.j0 : Nat → Int → ByteArray → Bool → Option (Int × ByteArray × Int × Int × Int × Int)
  | 0, _, _, _ => none
  | k + 1, x1, x8, x54 => if x54 = true then ((jlex_while.f x8 (⟨#[97, 98, 99, 100, 101, 102, 103, 104, 105, 106, 107, 108, 109, 110, 111, 112, 113, 114, 115, 116, 117, 118, 119, 120, 121, 122]⟩ : ByteArray)).bind fun t211 => (if 0 ≤ t211 then (if t211 ≤ (x8.size : Int) then (if (x8.extract 0 (t211 : Int).toNat).toList = ([116, 114, 117, 101] : List UInt8) then (some (4, x8.extract 0 (t211 : Int).toNat, x1, wrap64 (x1 + ((x8.extract 0 (t211 : Int).toNat).size : Int)), 0, 0)) else (if (x8.extract 0 (t211 : Int).toNat).toList = ([102, 97, 108, 115, 101] : List UInt8) then (some (4, x8.extract 0 (t211 : Int).toNat, x1, wrap64 (x1 + ((x8.extract 0 (t211 : Int).toNat).size : Int)), 0, 0)) else (if (x8.extract 0 (t211 : Int).toNat).toList = ([110, 117, 108, 108] : List UInt8) then (some (4, x8.extract 0 (t211 : Int).toNat, x1, wrap64 (x1 + ((x8.extract 0 (t211 : Int).toNat).size : Int)), 0, 0)) else (some (0, (⟨#[]⟩ : ByteArray), 0, 0, 4, x1))))) else (none)) else (none))) else ((jlex_while.f x8 (⟨#[48, 49, 50, 51, 52, 53, 54, 55, 56, 57, 43, 45, 46, 101, 69]⟩ : ByteArray)).bind fun t212 => (if 0 ≤ t212 then (if t212 ≤ (x8.size : Int) then (if (x8.extract 0 (t212 : Int).toNat).toList = ([] : List UInt8) then (some (0, (⟨#[]⟩ : ByteArray), 0, 0, 4, x1)) else ((jlex_number.f k (x8.extract 0 (t212 : Int).toNat)).bind fun t213 => (if t213 = 0 then (some (3, x8.extract 0 (t212 : Int).toNat, x1, wrap64 (x1 + ((x8.extract 0 (t212 : Int).toNat).size : Int)), 0, 0)) else (some (0, (⟨#[]⟩ : ByteArray), 0, 0, t213, x1))))) else (none)) else (none)))
def jlex_word.f (k : Nat) (a0 : ByteArray) (a1 : Int) : Option (Int × ByteArray × Int × Int × Int × Int) := if 0 ≤ a1 then (if a1 ≤ (a0.size : Int) then (if 0 < ((a0.extract (a1 : Int).toNat a0.size).size : Int) then ((strings_IndexByte.f (⟨#[123, 125, 91, 93, 58, 44]⟩ : ByteArray) (bt (a0.extract (a1 : Int).toNat a0.size) 0)).bind fun t207 => (if t207 ≥ 0 then (if 0 ≤ 1 then (if 1 ≤ ((a0.extract (a1 : Int).toNat a0.size).size : Int) then (some (1, (a0.extract (a1 : Int).toNat a0.size).extract 0 1, a1, wrap64 (a1 + 1), 0, 0)) else (none)) else (none)) else (if (bt (a0.extract (a1 : Int).toNat a0.size) 0) = 34 then ((esc_Unquote.f a0 a1).bind fun bt208 => (if bt208.2.2 ≥ 0 then (some (0, (⟨#[]⟩ : ByteArray), 0, 0, 4, bt208.2.2)) else (if (bt208.1.size : Int) > 4096 then (some (0, (⟨#[]⟩ : ByteArray), 0, 0, 2, a1)) else (some (2, bt208.1, a1, bt208.2.1, 0, 0))))) else (if (bt (a0.extract (a1 : Int).toNat a0.size) 0) ≥ 97 then (jlex_word.j0 k a1 (a0.extract (a1 : Int).toNat a0.size) (decide ((bt (a0.extract (a1 : Int).toNat a0.size) 0) ≤ 122))) else (jlex_word.j0 k a1 (a0.extract (a1 : Int).toNat a0.size) false))))) else (none)) else (none)) else (none)
set_option maxHeartbeats 8000000 in
set_option maxRecDepth 100000 in
theorem jlex_word.calls (k : Nat) (a0 : ByteArray) (a1 : Int) (r1 : Int) (r2 : ByteArray) (r3 : Int) (r4 : Int) (r5 : Int) (r6 : Int) (w : World) (h : jlex_word.f k a0 a1 = some (r1, r2, r3, r4, r5, r6)) :
    Calls Tryd.prog 33 #[.string a0, .int .i64 a1] w fun e w' => e = .returned (.tuple #[.agg #[.int .i64 r1, .string r2, .int .i64 r3], .int .i64 r4, .int .i64 r5, .int .i64 r6]) ∧ Below w.heap.size w w' := by
  have hu30 := Tryd.underlying30
  have HB := Aside0.mk (Below.refl w.heap.size w)
  have H : (if 0 ≤ a1 then (if a1 ≤ (a0.size : Int) then (if 0 < ((a0.extract (a1 : Int).toNat a0.size).size : Int) then ((strings_IndexByte.f (⟨#[123, 125, 91, 93, 58, 44]⟩ : ByteArray) (bt (a0.extract (a1 : Int).toNat a0.size) 0)).bind fun t207 => (if t207 ≥ 0 then (if 0 ≤ 1 then (if 1 ≤ ((a0.extract (a1 : Int).toNat a0.size).size : Int) then (some (1, (a0.extract (a1 : Int).toNat a0.size).extract 0 1, a1, wrap64 (a1 + 1), 0, 0)) else (none)) else (none)) else (if (bt (a0.extract (a1 : Int).toNat a0.size) 0) = 34 then ((esc_Unquote.f a0 a1).bind fun bt208 => (if bt208.2.2 ≥ 0 then (some (0, (⟨#[]⟩ : ByteArray), 0, 0, 4, bt208.2.2)) else (if (bt208.1.size : Int) > 4096 then (some (0, (⟨#[]⟩ : ByteArray), 0, 0, 2, a1)) else (some (2, bt208.1, a1, bt208.2.1, 0, 0))))) else (if (bt (a0.extract (a1 : Int).toNat a0.size) 0) ≥ 97 then (jlex_word.j0 k a1 (a0.extract (a1 : Int).toNat a0.size) (decide ((bt (a0.extract (a1 : Int).toNat a0.size) 0) ≤ 122))) else (jlex_word.j0 k a1 (a0.extract (a1 : Int).toNat a0.size) false))))) else (none)) else (none)) else (none)) = some (r1, r2, r3, r4, r5, r6) := h
  clear h
  by_cases c3 : 0 ≤ a1
  · rw [if_pos c3] at H
    have c3b0 := eq_true c3
    have c3b1 : decide (0 ≤ a1) = true := decide_eq_true c3
    clear c3
    by_cases c4 : a1 ≤ (a0.size : Int)
    · rw [if_pos c4] at H
      have c4b0 := eq_true c4
      have c4b1 : decide (a1 ≤ (a0.size : Int)) = true := decide_eq_true c4
      clear c4
      by_cases c5 : 0 < ((a0.extract (a1 : Int).toNat a0.size).size : Int)
      · rw [if_pos c5] at H
        have c5b0 : decide (0 < ((a0.extract (a1 : Int).toNat a0.size).size : Int)) = true := decide_eq_true c5
        have c5b1 : decide (0 < (a0.extract (a1 : Int).toNat a0.size).size) = true := decide_eq_true (by omega)
        clear c5
        replace H := Option.bind_eq_some_iff.mp H
        obtain ⟨t207, A70, H⟩ := H
        replace H : (if t207 ≥ 0 then (if 0 ≤ 1 then (if 1 ≤ ((a0.extract (a1 : Int).toNat a0.size).size : Int) then (some (1, (a0.extract (a1 : Int).toNat a0.size).extract 0 1, a1, wrap64 (a1 + 1), 0, 0)) else (none)) else (none)) else (if (bt (a0.extract (a1 : Int).toNat a0.size) 0) = 34 then ((esc_Unquote.f a0 a1).bind fun bt208 => (if bt208.2.2 ≥ 0 then (some (0, (⟨#[]⟩ : ByteArray), 0, 0, 4, bt208.2.2)) else (if (bt208.1.size : Int) > 4096 then (some (0, (⟨#[]⟩ : ByteArray), 0, 0, 2, a1)) else (some (2, bt208.1, a1, bt208.2.1, 0, 0))))) else (if (bt (a0.extract (a1 : Int).toNat a0.size) 0) ≥ 97 then (jlex_word.j0 k a1 (a0.extract (a1 : Int).toNat a0.size) (decide ((bt (a0.extract (a1 : Int).toNat a0.size) 0) ≤ 122))) else (jlex_word.j0 k a1 (a0.extract (a1 : Int).toNat a0.size) false)))) = some (r1, r2, r3, r4, r5, r6) := H
        have A7 := Aside0.mk A70
        clear A70
        by_cases c8 : t207 ≥ 0
        · rw [if_pos c8] at H
          have c8b0 : decide (0 ≤ t207) = true := decide_eq_true c8
          clear c8
          by_cases c9 : 0 ≤ 1
          · rw [if_pos c9] at H
            have c9b0 := eq_true c9
            have c9b1 : decide (0 ≤ 1) = true := decide_eq_true c9
            clear c9
            by_cases c10 : 1 ≤ ((a0.extract (a1 : Int).toNat a0.size).size : Int)
            · rw [if_pos c10] at H
              have c10b0 := eq_true c10
              have c10b1 : decide (1 ≤ ((a0.extract (a1 : Int).toNat a0.size).size : Int)) = true := decide_eq_true c10
              clear c10
              simp only [Option.some.injEq, Prod.mk.injEq] at H
              obtain ⟨rfl, rfl, rfl, rfl, rfl, rfl⟩ := H
              go_enter Tryd.func33, Tryd.ntmps33
              go_wp2_with (first | ((with_reducible refine gate_dst (N := 4) rfl ?_); refine box_event ?hg (N := 4) ?hd (cs := #[.int .i64 0, .string (⟨#[]⟩ : ByteArray), .int .i64 0]) (t := 30) ?hr ?_; (case hd => rfl); (case hg => rfl); (case hr => first | (go_simp; done) | (go_simp; rfl)); intro gb206 hg w11 hbox hb; have n0_ := Aside0.mk (below_step (by repeat (first | (with_reducible first | exact HB.out | apply below_alloc | apply pw_below_drewN | apply below_drew1) | exact HB.out)) hb); have n1_ := Aside0.mk (hbox); have n2_ := Aside0.mk ((by rw [hg]; exact (below_size (by repeat (first | (with_reducible first | exact HB.out | apply below_alloc | apply pw_below_drewN | apply below_drew1) | exact HB.out))) : w.heap.size ≤ gb206)); have n3_ := Aside0.mk ((by rw [hg]; exact (below_size (by repeat (first | (with_reducible first | exact HB.out | apply below_alloc | apply pw_below_drewN | apply below_drew1) | exact HB.out))) : w.heap.size ≤ gb206)); clear HB; have HB := n0_; have BK206 := n1_; have GW206 := n2_; have GE206 := n3_; clear n0_ n1_ n2_ n3_; clear hb hbox hg; have p6 : 0 ≤ (0 : Int) := (by omega); have q6 : 0 < (a0.extract (a1 : Int).toNat a0.size).size := (by have : (0 : Int) < ((a0.extract (a1 : Int).toNat a0.size).size : Int) := of_decide_eq_true (by first | (with_reducible assumption) | assumption); omega); have hx6 : ∀ h : 0 < (a0.extract (a1 : Int).toNat a0.size).size, (((a0.extract (a1 : Int).toNat a0.size)[0]'h).toNat : Int) = bt (a0.extract (a1 : Int).toNat a0.size) 0 := bt_at (a0.extract (a1 : Int).toNat a0.size) 0; clear p6; have qi6 : (0 < ((a0.extract (a1 : Int).toNat a0.size).size : Int)) = True := eq_true (of_decide_eq_true (by first | (with_reducible assumption) | assumption)); replace q6 := eq_true q6) | ((with_reducible refine gate_callee (f := 56) rfl ?_); refine goesL_ (some 23) rfl rfl Tryd.func56 (by kernel_rfl) rfl #[.string (⟨#[123, 125, 91, 93, 58, 44]⟩ : ByteArray), .int .u8 (bt (a0.extract (a1 : Int).toNat a0.size) 0)] rfl (by (try simp only [List.map_toArray, List.map_cons, List.map_nil]); first | done | rfl | (simp only [List.length_drop, List.length_take]; rfl)) ?_; (with_reducible refine (strings_IndexByte.calls (⟨#[123, 125, 91, 93, 58, 44]⟩ : ByteArray) (bt (a0.extract (a1 : Int).toNat a0.size) 0) t207 _ A7.out).mono ?_); rintro e w' ⟨rfl, ⟨nd, rfl⟩⟩; refine ⟨_, rfl, ?_⟩; (try (rw [drewN_self w11]; generalize hq_ : World.drewN w11 _ = w11; have n0_ : Aside0 (w11.heap[gb206]? = some (.cells #[.int .i64 0, .string (⟨#[]⟩ : ByteArray), .int .i64 0] 30 (0, 0))) := ⟨by rw [← hq_]; exact (by (with_reducible repeat (first | refine blk_drewN ?_ _ | refine blk_drew ?_ | refine blk_alloc ?_ _)); exact BK206.out)⟩; have n1_ : Aside0 (Below w.heap.size w w11) := ⟨by rw [← hq_]; exact (by repeat (first | (with_reducible first | exact HB.out | apply below_alloc | apply pw_below_drewN | apply below_drew1 | refine below_set ?_ GE206.out) | exact HB.out))⟩; clear BK206 HB hq_; have BK206 := n0_; have HB := n1_; clear n0_ n1_)); have hcz12_0 : w11.cell? ⟨gb206, 0, none⟩ = some (.int .i64 0) := (blk_cell BK206.out 0).trans rfl; have hcz12_1 : w11.cell? ⟨gb206, 1, none⟩ = some (.string (⟨#[]⟩ : ByteArray)) := (blk_cell BK206.out 1).trans rfl; have hcz12_2 : w11.cell? ⟨gb206, 2, none⟩ = some (.int .i64 0) := (blk_cell BK206.out 2).trans rfl; have hfz12_0 := blk_frozen BK206.out 0; have hfz12_1 := blk_frozen BK206.out 1; have hfz12_2 := blk_frozen BK206.out 2))
              refine bodyPost_ret (results_list (rs := [.cell 4 30, .tmp 5, .tmp 6, .tmp 7]) rfl (by simp) (.cell gb206 30 #[.int .i64 1, .string ((a0.extract (a1 : Int).toNat a0.size).extract 0 1), .int .i64 a1] (0, 0) _ rfl (by (with_reducible repeat (first | refine blk_drewN ?_ _ | refine blk_drew ?_ | refine blk_alloc ?_ _)); refine blk_put (cs := #[.int .i64 1, .string ((a0.extract (a1 : Int).toNat a0.size).extract 0 1), .int .i64 0]) ?_ 2 _ rfl; (with_reducible repeat (first | refine blk_drewN ?_ _ | refine blk_drew ?_ | refine blk_alloc ?_ _)); refine blk_put (cs := #[.int .i64 1, .string (⟨#[]⟩ : ByteArray), .int .i64 0]) ?_ 1 _ rfl; (with_reducible repeat (first | refine blk_drewN ?_ _ | refine blk_drew ?_ | refine blk_alloc ?_ _)); refine blk_put (cs := #[.int .i64 0, .string (⟨#[]⟩ : ByteArray), .int .i64 0]) ?_ 0 _ rfl; (with_reducible repeat (first | refine blk_drewN ?_ _ | refine blk_drew ?_ | refine blk_alloc ?_ _)); exact BK206.out) Tryd.underlying30 rfl (by kernel_rfl) (.tmp (.tmp (.tmp .nil))))) rfl ?_
              exact ⟨by first | rfl | (simp [errW_none, errW_some] <;> rfl) | (simp [*, errW_none, errW_some, bne]; done) | (simp [*, errW_none, errW_some] <;> rfl), by repeat (first | (with_reducible first | exact HB.out | apply below_alloc | apply pw_below_drewN | apply below_drew1 | refine below_set ?_ GE206.out) | exact HB.out)⟩
            · rw [if_neg c10] at H
              exact absurd H (by simp)
          · rw [if_neg c9] at H
            exact absurd H (by simp)
        · rw [if_neg c8] at H
          have c8b0 : decide (0 ≤ t207) = false := decide_eq_false c8
          clear c8
          by_cases c13 : (bt (a0.extract (a1 : Int).toNat a0.size) 0) = 34
          · rw [if_pos c13] at H
            have c13b0 : ((bt (a0.extract (a1 : Int).toNat a0.size) 0) == 34) = true := beq_iff_eq.mpr c13
            have c13b1 : ((bt (a0.extract (a1 : Int).toNat a0.size) 0) != 34) = false := bne_eq_false_iff_eq.mpr c13
            clear c13
            replace H := Option.bind_eq_some_iff.mp H
            obtain ⟨⟨t208, t209, t210⟩, A140, H⟩ := H
            replace H : (if t210 ≥ 0 then (some (0, (⟨#[]⟩ : ByteArray), 0, 0, 4, t210)) else (if (t208.size : Int) > 4096 then (some (0, (⟨#[]⟩ : ByteArray), 0, 0, 2, a1)) else (some (2, t208, a1, t209, 0, 0)))) = some (r1, r2, r3, r4, r5, r6) := H
            have A14 := Aside0.mk A140
            clear A140
            by_cases c15 : t210 ≥ 0
            · rw [if_pos c15] at H
              have c15b0 : decide (0 ≤ t210) = true := decide_eq_true c15
              clear c15
              simp only [Option.some.injEq, Prod.mk.injEq] at H
              obtain ⟨rfl, rfl, rfl, rfl, rfl, rfl⟩ := H
              go_enter Tryd.func33, Tryd.ntmps33
              go_wp2_with (first | ((with_reducible refine gate_dst (N := 4) rfl ?_); refine box_event ?hg (N := 4) ?hd (cs := #[.int .i64 0, .string (⟨#[]⟩ : ByteArray), .int .i64 0]) (t := 30) ?hr ?_; (case hd => rfl); (case hg => rfl); (case hr => first | (go_simp; done) | (go_simp; rfl)); intro gb206 hg w16 hbox hb; have n0_ := Aside0.mk (below_step (by repeat (first | (with_reducible first | exact HB.out | apply below_alloc | apply pw_below_drewN | apply below_drew1) | exact HB.out)) hb); have n1_ := Aside0.mk (hbox); have n2_ := Aside0.mk ((by rw [hg]; exact (below_size (by repeat (first | (with_reducible first | exact HB.out | apply below_alloc | apply pw_below_drewN | apply below_drew1) | exact HB.out))) : w.heap.size ≤ gb206)); have n3_ := Aside0.mk ((by rw [hg]; exact (below_size (by repeat (first | (with_reducible first | exact HB.out | apply below_alloc | apply pw_below_drewN | apply below_drew1) | exact HB.out))) : w.heap.size ≤ gb206)); clear HB; have HB := n0_; have BK206 := n1_; have GW206 := n2_; have GE206 := n3_; clear n0_ n1_ n2_ n3_; clear hb hbox hg; have p6 : 0 ≤ (0 : Int) := (by omega); have q6 : 0 < (a0.extract (a1 : Int).toNat a0.size).size := (by have : (0 : Int) < ((a0.extract (a1 : Int).toNat a0.size).size : Int) := of_decide_eq_true (by first | (with_reducible assumption) | assumption); omega); have hx6 : ∀ h : 0 < (a0.extract (a1 : Int).toNat a0.size).size, (((a0.extract (a1 : Int).toNat a0.size)[0]'h).toNat : Int) = bt (a0.extract (a1 : Int).toNat a0.size) 0 := bt_at (a0.extract (a1 : Int).toNat a0.size) 0; clear p6; have qi6 : (0 < ((a0.extract (a1 : Int).toNat a0.size).size : Int)) = True := eq_true (of_decide_eq_true (by first | (with_reducible assumption) | assumption)); replace q6 := eq_true q6) | ((with_reducible refine gate_callee (f := 56) rfl ?_); refine goesL_ (some 23) rfl rfl Tryd.func56 (by kernel_rfl) rfl #[.string (⟨#[123, 125, 91, 93, 58, 44]⟩ : ByteArray), .int .u8 (bt (a0.extract (a1 : Int).toNat a0.size) 0)] rfl (by (try simp only [List.map_toArray, List.map_cons, List.map_nil]); first | done | rfl | (simp only [List.length_drop, List.length_take]; rfl)) ?_; (with_reducible refine (strings_IndexByte.calls (⟨#[123, 125, 91, 93, 58, 44]⟩ : ByteArray) (bt (a0.extract (a1 : Int).toNat a0.size) 0) t207 _ A7.out).mono ?_); rintro e w' ⟨rfl, ⟨nd, rfl⟩⟩; refine ⟨_, rfl, ?_⟩; (try (rw [drewN_self w16]; generalize hq_ : World.drewN w16 _ = w16; have n0_ : Aside0 (w16.heap[gb206]? = some (.cells #[.int .i64 0, .string (⟨#[]⟩ : ByteArray), .int .i64 0] 30 (0, 0))) := ⟨by rw [← hq_]; exact (by (with_reducible repeat (first | refine blk_drewN ?_ _ | refine blk_drew ?_ | refine blk_alloc ?_ _)); exact BK206.out)⟩; have n1_ : Aside0 (Below w.heap.size w w16) := ⟨by rw [← hq_]; exact (by repeat (first | (with_reducible first | exact HB.out | apply below_alloc | apply pw_below_drewN | apply below_drew1 | refine below_set ?_ GE206.out) | exact HB.out))⟩; clear BK206 HB hq_; have BK206 := n0_; have HB := n1_; clear n0_ n1_))) | ((with_reducible refine gate_callee (f := 16) rfl ?_); refine goesL_ (some 37) rfl rfl Tryd.func16 (by kernel_rfl) rfl #[.string a0, .int .i64 a1] rfl (by (try simp only [List.map_toArray, List.map_cons, List.map_nil]); first | done | rfl | (simp only [List.length_drop, List.length_take]; rfl)) ?_; (with_reducible refine (esc_Unquote.calls a0 a1 t208 t209 t210 _ A14.out).mono ?_); rintro e w17 ⟨rfl, hb⟩; refine ⟨_, rfl, ?_⟩; have n0_ := Aside0.mk (blk_below (g := gb206) (o := .cells #[.int .i64 0, .string (⟨#[]⟩ : ByteArray), .int .i64 0] 30 (0, 0)) (by (with_reducible repeat (first | refine blk_drewN ?_ _ | refine blk_drew ?_ | refine blk_alloc ?_ _)); exact BK206.out) hb); have n1_ := Aside0.mk (below_step (by repeat (first | (with_reducible first | exact HB.out | apply below_alloc | apply pw_below_drewN | apply below_drew1 | refine below_set ?_ GE206.out) | exact HB.out)) hb); clear BK206; clear HB; have BK206 := n0_; have HB := n1_; clear n0_ n1_; (try clear hb); (try clear hb2); (try clear hk); (try clear hi); have hcz18_0 : w17.cell? ⟨gb206, 0, none⟩ = some (.int .i64 0) := (blk_cell BK206.out 0).trans rfl; have hcz18_1 : w17.cell? ⟨gb206, 1, none⟩ = some (.string (⟨#[]⟩ : ByteArray)) := (blk_cell BK206.out 1).trans rfl; have hcz18_2 : w17.cell? ⟨gb206, 2, none⟩ = some (.int .i64 0) := (blk_cell BK206.out 2).trans rfl; have hfz18_0 := blk_frozen BK206.out 0; have hfz18_1 := blk_frozen BK206.out 1; have hfz18_2 := blk_frozen BK206.out 2))
              refine bodyPost_ret (results_list (rs := [.cell 4 30, .tmp 5, .tmp 6, .tmp 7]) rfl (by simp) (.cell gb206 30 #[.int .i64 0, .string (⟨#[]⟩ : ByteArray), .int .i64 0] (0, 0) _ rfl (by (with_reducible repeat (first | refine blk_drewN ?_ _ | refine blk_drew ?_ | refine blk_alloc ?_ _)); refine blk_put (cs := #[.int .i64 0, .string (⟨#[]⟩ : ByteArray), .int .i64 0]) ?_ 2 _ rfl; (with_reducible repeat (first | refine blk_drewN ?_ _ | refine blk_drew ?_ | refine blk_alloc ?_ _)); refine blk_put (cs := #[.int .i64 0, .string (⟨#[]⟩ : ByteArray), .int .i64 0]) ?_ 1 _ rfl; (with_reducible repeat (first | refine blk_drewN ?_ _ | refine blk_drew ?_ | refine blk_alloc ?_ _)); refine blk_put (cs := #[.int .i64 0, .string (⟨#[]⟩ : ByteArray), .int .i64 0]) ?_ 0 _ rfl; (with_reducible repeat (first | refine blk_drewN ?_ _ | refine blk_drew ?_ | refine blk_alloc ?_ _)); exact BK206.out) Tryd.underlying30 rfl (by kernel_rfl) (.tmp (.tmp (.tmp .nil))))) rfl ?_
              exact ⟨by first | rfl | (simp [errW_none, errW_some] <;> rfl) | (simp [*, errW_none, errW_some, bne]; done) | (simp [*, errW_none, errW_some] <;> rfl), by repeat (first | (with_reducible first | exact HB.out | apply below_alloc | apply pw_below_drewN | apply below_drew1 | refine below_set ?_ GE206.out) | exact HB.out)⟩
            · rw [if_neg c15] at H
              have c15b0 : decide (0 ≤ t210) = false := decide_eq_false c15
              clear c15
              by_cases c19 : (t208.size : Int) > 4096
              · rw [if_pos c19] at H
                have c19b0 : decide (4096 < (t208.size : Int)) = true := decide_eq_true c19
                have c19b1 : decide (4096 < t208.size) = true := decide_eq_true (by omega)
                clear c19
                simp only [Option.some.injEq, Prod.mk.injEq] at H
                obtain ⟨rfl, rfl, rfl, rfl, rfl, rfl⟩ := H
                go_enter Tryd.func33, Tryd.ntmps33
                go_wp2_with (first | ((with_reducible refine gate_dst (N := 4) rfl ?_); refine box_event ?hg (N := 4) ?hd (cs := #[.int .i64 0, .string (⟨#[]⟩ : ByteArray), .int .i64 0]) (t := 30) ?hr ?_; (case hd => rfl); (case hg => rfl); (case hr => first | (go_simp; done) | (go_simp; rfl)); intro gb206 hg w20 hbox hb; have n0_ := Aside0.mk (below_step (by repeat (first | (with_reducible first | exact HB.out | apply below_alloc | apply pw_below_drewN | apply below_drew1) | exact HB.out)) hb); have n1_ := Aside0.mk (hbox); have n2_ := Aside0.mk ((by rw [hg]; exact (below_size (by repeat (first | (with_reducible first | exact HB.out | apply below_alloc | apply pw_below_drewN | apply below_drew1) | exact HB.out))) : w.heap.size ≤ gb206)); have n3_ := Aside0.mk ((by rw [hg]; exact (below_size (by repeat (first | (with_reducible first | exact HB.out | apply below_alloc | apply pw_below_drewN | apply below_drew1) | exact HB.out))) : w.heap.size ≤ gb206)); clear HB; have HB := n0_; have BK206 := n1_; have GW206 := n2_; have GE206 := n3_; clear n0_ n1_ n2_ n3_; clear hb hbox hg; have p6 : 0 ≤ (0 : Int) := (by omega); have q6 : 0 < (a0.extract (a1 : Int).toNat a0.size).size := (by have : (0 : Int) < ((a0.extract (a1 : Int).toNat a0.size).size : Int) := of_decide_eq_true (by first | (with_reducible assumption) | assumption); omega); have hx6 : ∀ h : 0 < (a0.extract (a1 : Int).toNat a0.size).size, (((a0.extract (a1 : Int).toNat a0.size)[0]'h).toNat : Int) = bt (a0.extract (a1 : Int).toNat a0.size) 0 := bt_at (a0.extract (a1 : Int).toNat a0.size) 0; clear p6; have qi6 : (0 < ((a0.extract (a1 : Int).toNat a0.size).size : Int)) = True := eq_true (of_decide_eq_true (by first | (with_reducible assumption) | assumption)); replace q6 := eq_true q6) | ((with_reducible refine gate_callee (f := 56) rfl ?_); refine goesL_ (some 23) rfl rfl Tryd.func56 (by kernel_rfl) rfl #[.string (⟨#[123, 125, 91, 93, 58, 44]⟩ : ByteArray), .int .u8 (bt (a0.extract (a1 : Int).toNat a0.size) 0)] rfl (by (try simp only [List.map_toArray, List.map_cons, List.map_nil]); first | done | rfl | (simp only [List.length_drop, List.length_take]; rfl)) ?_; (with_reducible refine (strings_IndexByte.calls (⟨#[123, 125, 91, 93, 58, 44]⟩ : ByteArray) (bt (a0.extract (a1 : Int).toNat a0.size) 0) t207 _ A7.out).mono ?_); rintro e w' ⟨rfl, ⟨nd, rfl⟩⟩; refine ⟨_, rfl, ?_⟩; (try (rw [drewN_self w20]; generalize hq_ : World.drewN w20 _ = w20; have n0_ : Aside0 (w20.heap[gb206]? = some (.cells #[.int .i64 0, .string (⟨#[]⟩ : ByteArray), .int .i64 0] 30 (0, 0))) := ⟨by rw [← hq_]; exact (by (with_reducible repeat (first | refine blk_drewN ?_ _ | refine blk_drew ?_ | refine blk_alloc ?_ _)); exact BK206.out)⟩; have n1_ : Aside0 (Below w.heap.size w w20) := ⟨by rw [← hq_]; exact (by repeat (first | (with_reducible first | exact HB.out | apply below_alloc | apply pw_below_drewN | apply below_drew1 | refine below_set ?_ GE206.out) | exact HB.out))⟩; clear BK206 HB hq_; have BK206 := n0_; have HB := n1_; clear n0_ n1_))) | ((with_reducible refine gate_callee (f := 16) rfl ?_); refine goesL_ (some 37) rfl rfl Tryd.func16 (by kernel_rfl) rfl #[.string a0, .int .i64 a1] rfl (by (try simp only [List.map_toArray, List.map_cons, List.map_nil]); first | done | rfl | (simp only [List.length_drop, List.length_take]; rfl)) ?_; (with_reducible refine (esc_Unquote.calls a0 a1 t208 t209 t210 _ A14.out).mono ?_); rintro e w21 ⟨rfl, hb⟩; refine ⟨_, rfl, ?_⟩; have n0_ := Aside0.mk (blk_below (g := gb206) (o := .cells #[.int .i64 0, .string (⟨#[]⟩ : ByteArray), .int .i64 0] 30 (0, 0)) (by (with_reducible repeat (first | refine blk_drewN ?_ _ | refine blk_drew ?_ | refine blk_alloc ?_ _)); exact BK206.out) hb); have n1_ := Aside0.mk (below_step (by repeat (first | (with_reducible first | exact HB.out | apply below_alloc | apply pw_below_drewN | apply below_drew1 | refine below_set ?_ GE206.out) | exact HB.out)) hb); clear BK206; clear HB; have BK206 := n0_; have HB := n1_; clear n0_ n1_; (try clear hb); (try clear hb2); (try clear hk); (try clear hi); have hcz22_0 : w21.cell? ⟨gb206, 0, none⟩ = some (.int .i64 0) := (blk_cell BK206.out 0).trans rfl; have hcz22_1 : w21.cell? ⟨gb206, 1, none⟩ = some (.string (⟨#[]⟩ : ByteArray)) := (blk_cell BK206.out 1).trans rfl; have hcz22_2 : w21.cell? ⟨gb206, 2, none⟩ = some (.int .i64 0) := (blk_cell BK206.out 2).trans rfl; have hfz22_0 := blk_frozen BK206.out 0; have hfz22_1 := blk_frozen BK206.out 1; have hfz22_2 := blk_frozen BK206.out 2))
                refine bodyPost_ret (results_list (rs := [.cell 4 30, .tmp 5, .tmp 6, .tmp 7]) rfl (by simp) (.cell gb206 30 #[.int .i64 0, .string (⟨#[]⟩ : ByteArray), .int .i64 0] (0, 0) _ rfl (by (with_reducible repeat (first | refine blk_drewN ?_ _ | refine blk_drew ?_ | refine blk_alloc ?_ _)); refine blk_put (cs := #[.int .i64 0, .string (⟨#[]⟩ : ByteArray), .int .i64 0]) ?_ 2 _ rfl; (with_reducible repeat (first | refine blk_drewN ?_ _ | refine blk_drew ?_ | refine blk_alloc ?_ _)); refine blk_put (cs := #[.int .i64 0, .string (⟨#[]⟩ : ByteArray), .int .i64 0]) ?_ 1 _ rfl; (with_reducible repeat (first | refine blk_drewN ?_ _ | refine blk_drew ?_ | refine blk_alloc ?_ _)); refine blk_put (cs := #[.int .i64 0, .string (⟨#[]⟩ : ByteArray), .int .i64 0]) ?_ 0 _ rfl; (with_reducible repeat (first | refine blk_drewN ?_ _ | refine blk_drew ?_ | refine blk_alloc ?_ _)); exact BK206.out) Tryd.underlying30 rfl (by kernel_rfl) (.tmp (.tmp (.tmp .nil))))) rfl ?_
                exact ⟨by first | rfl | (simp [errW_none, errW_some] <;> rfl) | (simp [*, errW_none, errW_some, bne]; done) | (simp [*, errW_none, errW_some] <;> rfl), by repeat (first | (with_reducible first | exact HB.out | apply below_alloc | apply pw_below_drewN | apply below_drew1 | refine below_set ?_ GE206.out) | exact HB.out)⟩
              · rw [if_neg c19] at H
                have c19b0 : decide (4096 < (t208.size : Int)) = false := decide_eq_false c19
                have c19b1 : decide (4096 < t208.size) = false := decide_eq_false (by omega)
                clear c19
                simp only [Option.some.injEq, Prod.mk.injEq] at H
                obtain ⟨rfl, rfl, rfl, rfl, rfl, rfl⟩ := H
                go_enter Tryd.func33, Tryd.ntmps33
                go_wp2_with (first | ((with_reducible refine gate_dst (N := 4) rfl ?_); refine box_event ?hg (N := 4) ?hd (cs := #[.int .i64 0, .string (⟨#[]⟩ : ByteArray), .int .i64 0]) (t := 30) ?hr ?_; (case hd => rfl); (case hg => rfl); (case hr => first | (go_simp; done) | (go_simp; rfl)); intro gb206 hg w23 hbox hb; have n0_ := Aside0.mk (below_step (by repeat (first | (with_reducible first | exact HB.out | apply below_alloc | apply pw_below_drewN | apply below_drew1) | exact HB.out)) hb); have n1_ := Aside0.mk (hbox); have n2_ := Aside0.mk ((by rw [hg]; exact (below_size (by repeat (first | (with_reducible first | exact HB.out | apply below_alloc | apply pw_below_drewN | apply below_drew1) | exact HB.out))) : w.heap.size ≤ gb206)); have n3_ := Aside0.mk ((by rw [hg]; exact (below_size (by repeat (first | (with_reducible first | exact HB.out | apply below_alloc | apply pw_below_drewN | apply below_drew1) | exact HB.out))) : w.heap.size ≤ gb206)); clear HB; have HB := n0_; have BK206 := n1_; have GW206 := n2_; have GE206 := n3_; clear n0_ n1_ n2_ n3_; clear hb hbox hg; have p6 : 0 ≤ (0 : Int) := (by omega); have q6 : 0 < (a0.extract (a1 : Int).toNat a0.size).size := (by have : (0 : Int) < ((a0.extract (a1 : Int).toNat a0.size).size : Int) := of_decide_eq_true (by first | (with_reducible assumption) | assumption); omega); have hx6 : ∀ h : 0 < (a0.extract (a1 : Int).toNat a0.size).size, (((a0.extract (a1 : Int).toNat a0.size)[0]'h).toNat : Int) = bt (a0.extract (a1 : Int).toNat a0.size) 0 := bt_at (a0.extract (a1 : Int).toNat a0.size) 0; clear p6; have qi6 : (0 < ((a0.extract (a1 : Int).toNat a0.size).size : Int)) = True := eq_true (of_decide_eq_true (by first | (with_reducible assumption) | assumption)); replace q6 := eq_true q6) | ((with_reducible refine gate_callee (f := 56) rfl ?_); refine goesL_ (some 23) rfl rfl Tryd.func56 (by kernel_rfl) rfl #[.string (⟨#[123, 125, 91, 93, 58, 44]⟩ : ByteArray), .int .u8 (bt (a0.extract (a1 : Int).toNat a0.size) 0)] rfl (by (try simp only [List.map_toArray, List.map_cons, List.map_nil]); first | done | rfl | (simp only [List.length_drop, List.length_take]; rfl)) ?_; (with_reducible refine (strings_IndexByte.calls (⟨#[123, 125, 91, 93, 58, 44]⟩ : ByteArray) (bt (a0.extract (a1 : Int).toNat a0.size) 0) t207 _ A7.out).mono ?_); rintro e w' ⟨rfl, ⟨nd, rfl⟩⟩; refine ⟨_, rfl, ?_⟩; (try (rw [drewN_self w23]; generalize hq_ : World.drewN w23 _ = w23; have n0_ : Aside0 (w23.heap[gb206]? = some (.cells #[.int .i64 0, .string (⟨#[]⟩ : ByteArray), .int .i64 0] 30 (0, 0))) := ⟨by rw [← hq_]; exact (by (with_reducible repeat (first | refine blk_drewN ?_ _ | refine blk_drew ?_ | refine blk_alloc ?_ _)); exact BK206.out)⟩; have n1_ : Aside0 (Below w.heap.size w w23) := ⟨by rw [← hq_]; exact (by repeat (first | (with_reducible first | exact HB.out | apply below_alloc | apply pw_below_drewN | apply below_drew1 | refine below_set ?_ GE206.out) | exact HB.out))⟩; clear BK206 HB hq_; have BK206 := n0_; have HB := n1_; clear n0_ n1_))) | ((with_reducible refine gate_callee (f := 16) rfl ?_); refine goesL_ (some 37) rfl rfl Tryd.func16 (by kernel_rfl) rfl #[.string a0, .int .i64 a1] rfl (by (try simp only [List.map_toArray, List.map_cons, List.map_nil]); first | done | rfl | (simp only [List.length_drop, List.length_take]; rfl)) ?_; (with_reducible refine (esc_Unquote.calls a0 a1 t208 t209 t210 _ A14.out).mono ?_); rintro e w24 ⟨rfl, hb⟩; refine ⟨_, rfl, ?_⟩; have n0_ := Aside0.mk (blk_below (g := gb206) (o := .cells #[.int .i64 0, .string (⟨#[]⟩ : ByteArray), .int .i64 0] 30 (0, 0)) (by (with_reducible repeat (first | refine blk_drewN ?_ _ | refine blk_drew ?_ | refine blk_alloc ?_ _)); exact BK206.out) hb); have n1_ := Aside0.mk (below_step (by repeat (first | (with_reducible first | exact HB.out | apply below_alloc | apply pw_below_drewN | apply below_drew1 | refine below_set ?_ GE206.out) | exact HB.out)) hb); clear BK206; clear HB; have BK206 := n0_; have HB := n1_; clear n0_ n1_; (try clear hb); (try clear hb2); (try clear hk); (try clear hi); have hcz25_0 : w24.cell? ⟨gb206, 0, none⟩ = some (.int .i64 0) := (blk_cell BK206.out 0).trans rfl; have hcz25_1 : w24.cell? ⟨gb206, 1, none⟩ = some (.string (⟨#[]⟩ : ByteArray)) := (blk_cell BK206.out 1).trans rfl; have hcz25_2 : w24.cell? ⟨gb206, 2, none⟩ = some (.int .i64 0) := (blk_cell BK206.out 2).trans rfl; have hfz25_0 := blk_frozen BK206.out 0; have hfz25_1 := blk_frozen BK206.out 1; have hfz25_2 := blk_frozen BK206.out 2))
                refine bodyPost_ret (results_list (rs := [.cell 4 30, .tmp 5, .tmp 6, .tmp 7]) rfl (by simp) (.cell gb206 30 #[.int .i64 2, .string t208, .int .i64 a1] (0, 0) _ rfl (by (with_reducible repeat (first | refine blk_drewN ?_ _ | refine blk_drew ?_ | refine blk_alloc ?_ _)); refine blk_put (cs := #[.int .i64 2, .string t208, .int .i64 0]) ?_ 2 _ rfl; (with_reducible repeat (first | refine blk_drewN ?_ _ | refine blk_drew ?_ | refine blk_alloc ?_ _)); refine blk_put (cs := #[.int .i64 2, .string (⟨#[]⟩ : ByteArray), .int .i64 0]) ?_ 1 _ rfl; (with_reducible repeat (first | refine blk_drewN ?_ _ | refine blk_drew ?_ | refine blk_alloc ?_ _)); refine blk_put (cs := #[.int .i64 0, .string (⟨#[]⟩ : ByteArray), .int .i64 0]) ?_ 0 _ rfl; (with_reducible repeat (first | refine blk_drewN ?_ _ | refine blk_drew ?_ | refine blk_alloc ?_ _)); exact BK206.out) Tryd.underlying30 rfl (by kernel_rfl) (.tmp (.tmp (.tmp .nil))))) rfl ?_
                exact ⟨by first | rfl | (simp [errW_none, errW_some] <;> rfl) | (simp [*, errW_none, errW_some, bne]; done) | (simp [*, errW_none, errW_some] <;> rfl), by repeat (first | (with_reducible first | exact HB.out | apply below_alloc | apply pw_below_drewN | apply below_drew1 | refine below_set ?_ GE206.out) | exact HB.out)⟩
          · rw [if_neg c13] at H
            have c13b0 : ((bt (a0.extract (a1 : Int).toNat a0.size) 0) == 34) = false := beq_eq_false_iff_ne.mpr c13
            have c13b1 : ((bt (a0.extract (a1 : Int).toNat a0.size) 0) != 34) = true := bne_iff_ne.mpr c13
            have HC26 := Aside0.mk H
            clear H
            go_enter Tryd.func33, Tryd.ntmps33
            go_upto_region 12 with (first | ((with_reducible refine gate_dst (N := 4) rfl ?_); refine box_event ?hg (N := 4) ?hd (cs := #[.int .i64 0, .string (⟨#[]⟩ : ByteArray), .int .i64 0]) (t := 30) ?hr ?_; (case hd => rfl); (case hg => rfl); (case hr => first | (go_simp; done) | (go_simp; rfl)); intro gb206 hg w27 hbox hb; have n0_ := Aside0.mk (below_step (by repeat (first | (with_reducible first | exact HB.out | apply below_alloc | apply pw_below_drewN | apply below_drew1) | exact HB.out)) hb); have n1_ := Aside0.mk (hbox); have n2_ := Aside0.mk ((by rw [hg]; exact (below_size (by repeat (first | (with_reducible first | exact HB.out | apply below_alloc | apply pw_below_drewN | apply below_drew1) | exact HB.out))) : w.heap.size ≤ gb206)); have n3_ := Aside0.mk ((by rw [hg]; exact (below_size (by repeat (first | (with_reducible first | exact HB.out | apply below_alloc | apply pw_below_drewN | apply below_drew1) | exact HB.out))) : w.heap.size ≤ gb206)); clear HB; have HB := n0_; have BK206 := n1_; have GW206 := n2_; have GE206 := n3_; clear n0_ n1_ n2_ n3_; clear hb hbox hg; have p6 : 0 ≤ (0 : Int) := (by omega); have q6 : 0 < (a0.extract (a1 : Int).toNat a0.size).size := (by have : (0 : Int) < ((a0.extract (a1 : Int).toNat a0.size).size : Int) := of_decide_eq_true (by first | (with_reducible assumption) | assumption); omega); have hx6 : ∀ h : 0 < (a0.extract (a1 : Int).toNat a0.size).size, (((a0.extract (a1 : Int).toNat a0.size)[0]'h).toNat : Int) = bt (a0.extract (a1 : Int).toNat a0.size) 0 := bt_at (a0.extract (a1 : Int).toNat a0.size) 0; clear p6; have qi6 : (0 < ((a0.extract (a1 : Int).toNat a0.size).size : Int)) = True := eq_true (of_decide_eq_true (by first | (with_reducible assumption) | assumption)); replace q6 := eq_true q6) | ((with_reducible refine gate_callee (f := 56) rfl ?_); refine goesL_ (some 23) rfl rfl Tryd.func56 (by kernel_rfl) rfl #[.string (⟨#[123, 125, 91, 93, 58, 44]⟩ : ByteArray), .int .u8 (bt (a0.extract (a1 : Int).toNat a0.size) 0)] rfl (by (try simp only [List.map_toArray, List.map_cons, List.map_nil]); first | done | rfl | (simp only [List.length_drop, List.length_take]; rfl)) ?_; (with_reducible refine (strings_IndexByte.calls (⟨#[123, 125, 91, 93, 58, 44]⟩ : ByteArray) (bt (a0.extract (a1 : Int).toNat a0.size) 0) t207 _ A7.out).mono ?_); rintro e w' ⟨rfl, ⟨nd, rfl⟩⟩; refine ⟨_, rfl, ?_⟩))
            (try simp only [Act.put, List.setIfInBounds_toArray, List.set_cons_zero, List.set_cons_succ])
            go_cut [54] (fun v54 wc => ∃ (kq : Nat) (x54_25 : Bool), v54 = .bool x54_25 ∧ Aside0 (jlex_word.j0 kq a1 (a0.extract (a1 : Int).toNat a0.size) x54_25 = some (r1, r2, r3, r4, r5, r6)) ∧ Aside0 (kq ≤ k) ∧ Aside0 (wc.heap[gb206]? = some (.cells #[.int .i64 0, .string (⟨#[]⟩ : ByteArray), .int .i64 0] 30 (0, 0))) ∧ Aside0 (Below w.heap.size w wc))
            case first =>
              have H := HC26.out
              clear HC26
              by_cases c28 : (bt (a0.extract (a1 : Int).toNat a0.size) 0) ≥ 97
              · rw [if_pos c28] at H
                have c28b0 : decide (97 ≤ (bt (a0.extract (a1 : Int).toNat a0.size) 0)) = true := decide_eq_true c28
                clear c28
                (first | rw [c28b0] | (simp only [i64_w, i32_w]; rw [c28b0]) | skip)
                have H' := Aside0.mk H
                clear H
                go_wp2
                go_meet
                case rel => exact ⟨_, (decide ((bt (a0.extract (a1 : Int).toNat a0.size) 0) ≤ 122)), (by first | rfl | (simp; done) | (simp [*]; done)), H', ⟨by first | omega | exact Nat.le_refl _⟩, ⟨by (with_reducible repeat (first | refine blk_drewN ?_ _ | refine blk_drew ?_ | refine blk_alloc ?_ _)); exact BK206.out⟩, ⟨by repeat (first | (with_reducible first | exact HB.out | apply below_alloc | apply pw_below_drewN | apply below_drew1 | refine below_set ?_ GE206.out) | exact HB.out)⟩⟩
              · rw [if_neg c28] at H
                have c28b0 : decide (97 ≤ (bt (a0.extract (a1 : Int).toNat a0.size) 0)) = false := decide_eq_false c28
                clear c28
                (first | rw [c28b0] | (simp only [i64_w, i32_w]; rw [c28b0]) | skip)
                have H' := Aside0.mk H
                clear H
                go_wp2
                go_meet
                case rel => exact ⟨_, (false), (by first | rfl | (simp; done) | (simp [*]; done)), H', ⟨by first | omega | exact Nat.le_refl _⟩, ⟨by (with_reducible repeat (first | refine blk_drewN ?_ _ | refine blk_drew ?_ | refine blk_alloc ?_ _)); exact BK206.out⟩, ⟨by repeat (first | (with_reducible first | exact HB.out | apply below_alloc | apply pw_below_drewN | apply below_drew1 | refine below_set ?_ GE206.out) | exact HB.out)⟩⟩
            case rest =>
              clear HC26
              try clear c1
              try clear c2
              try clear p2
              try clear c3
              try clear c3b0
              try clear c3b1
              try clear c4
              try clear c4b0
              try clear c4b1
              try clear c5
              try clear c5b0
              try clear c5b1
              try clear p6
              try clear q6
              try clear hx6
              try clear qi6
              try clear c8
              try clear c8b0
              try clear c9
              try clear c9b0
              try clear c9b1
              try clear c10
              try clear c10b0
              try clear c10b1
              try clear c13
              try clear c13b0
              try clear c13b1
              try clear c15
              try clear c15b0
              try clear c16
              try clear c19
              try clear c19b0
              try clear c19b1
              try clear c28
              try clear c28b0
              try clear hcz12_0
              try clear hcz12_1
              try clear hcz12_2
              try clear hcz18_0
              try clear hcz18_1
              try clear hcz18_2
              try clear hcz22_0
              try clear hcz22_1
              try clear hcz22_2
              try clear hcz25_0
              try clear hcz25_1
              try clear hcz25_2
              try clear hfz12_0
              try clear hfz12_1
              try clear hfz12_2
              try clear hfz18_0
              try clear hfz18_1
              try clear hfz18_2
              try clear hfz22_0
              try clear hfz22_1
              try clear hfz22_2
              try clear hfz25_0
              try clear hfz25_1
              try clear hfz25_2
              try clear p6
              try clear q6
              obtain ⟨kq, x54_25, rfl, HA, HJ25, BK206, HB⟩ := hcut
              cases kq with
              | zero => exact absurd HA.out (by simp [jlex_word.j0])
              | succ kj25 =>
                have H := HA.out
                clear HA
                simp only [jlex_word.j0] at H
                by_cases c29 : x54_25 = true
                · subst c29
                  have H1 : ((jlex_while.f (a0.extract (a1 : Int).toNat a0.size) (⟨#[97, 98, 99, 100, 101, 102, 103, 104, 105, 106, 107, 108, 109, 110, 111, 112, 113, 114, 115, 116, 117, 118, 119, 120, 121, 122]⟩ : ByteArray)).bind fun t211 => (if 0 ≤ t211 then (if t211 ≤ ((a0.extract (a1 : Int).toNat a0.size).size : Int) then (if ((a0.extract (a1 : Int).toNat a0.size).extract 0 (t211 : Int).toNat).toList = ([116, 114, 117, 101] : List UInt8) then (some (4, (a0.extract (a1 : Int).toNat a0.size).extract 0 (t211 : Int).toNat, a1, wrap64 (a1 + (((a0.extract (a1 : Int).toNat a0.size).extract 0 (t211 : Int).toNat).size : Int)), 0, 0)) else (if ((a0.extract (a1 : Int).toNat a0.size).extract 0 (t211 : Int).toNat).toList = ([102, 97, 108, 115, 101] : List UInt8) then (some (4, (a0.extract (a1 : Int).toNat a0.size).extract 0 (t211 : Int).toNat, a1, wrap64 (a1 + (((a0.extract (a1 : Int).toNat a0.size).extract 0 (t211 : Int).toNat).size : Int)), 0, 0)) else (if ((a0.extract (a1 : Int).toNat a0.size).extract 0 (t211 : Int).toNat).toList = ([110, 117, 108, 108] : List UInt8) then (some (4, (a0.extract (a1 : Int).toNat a0.size).extract 0 (t211 : Int).toNat, a1, wrap64 (a1 + (((a0.extract (a1 : Int).toNat a0.size).extract 0 (t211 : Int).toNat).size : Int)), 0, 0)) else (some (0, (⟨#[]⟩ : ByteArray), 0, 0, 4, a1))))) else (none)) else (none))) = some (r1, r2, r3, r4, r5, r6) := by rw [if_pos rfl] at H; exact H
                  clear H
                  have H := H1
                  clear H1
                  replace H := Option.bind_eq_some_iff.mp H
                  obtain ⟨t211, A300, H⟩ := H
                  replace H : (if 0 ≤ t211 then (if t211 ≤ ((a0.extract (a1 : Int).toNat a0.size).size : Int) then (if ((a0.extract (a1 : Int).toNat a0.size).extract 0 (t211 : Int).toNat).toList = ([116, 114, 117, 101] : List UInt8) then (some (4, (a0.extract (a1 : Int).toNat a0.size).extract 0 (t211 : Int).toNat, a1, wrap64 (a1 + (((a0.extract (a1 : Int).toNat a0.size).extract 0 (t211 : Int).toNat).size : Int)), 0, 0)) else (if ((a0.extract (a1 : Int).toNat a0.size).extract 0 (t211 : Int).toNat).toList = ([102, 97, 108, 115, 101] : List UInt8) then (some (4, (a0.extract (a1 : Int).toNat a0.size).extract 0 (t211 : Int).toNat, a1, wrap64 (a1 + (((a0.extract (a1 : Int).toNat a0.size).extract 0 (t211 : Int).toNat).size : Int)), 0, 0)) else (if ((a0.extract (a1 : Int).toNat a0.size).extract 0 (t211 : Int).toNat).toList = ([110, 117, 108, 108] : List UInt8) then (some (4, (a0.extract (a1 : Int).toNat a0.size).extract 0 (t211 : Int).toNat, a1, wrap64 (a1 + (((a0.extract (a1 : Int).toNat a0.size).extract 0 (t211 : Int).toNat).size : Int)), 0, 0)) else (some (0, (⟨#[]⟩ : ByteArray), 0, 0, 4, a1))))) else (none)) else (none)) = some (r1, r2, r3, r4, r5, r6) := H
                  have A30 := Aside0.mk A300
                  clear A300
                  by_cases c31 : 0 ≤ t211
                  · rw [if_pos c31] at H
                    have c31b0 := eq_true c31
                    have c31b1 : decide (0 ≤ t211) = true := decide_eq_true c31
                    clear c31
                    by_cases c32 : t211 ≤ ((a0.extract (a1 : Int).toNat a0.size).size : Int)
                    · rw [if_pos c32] at H
                      have c32b0 := eq_true c32
                      have c32b1 : decide (t211 ≤ ((a0.extract (a1 : Int).toNat a0.size).size : Int)) = true := decide_eq_true c32
                      clear c32
                      by_cases c33 : ((a0.extract (a1 : Int).toNat a0.size).extract 0 (t211 : Int).toNat).toList = ([116, 114, 117, 101] : List UInt8)
                      · rw [if_pos c33] at H
                        have c33b0 : (((a0.extract (a1 : Int).toNat a0.size).extract 0 (t211 : Int).toNat).toList == ([116, 114, 117, 101] : List UInt8)) = true := beq_iff_eq.mpr c33
                        have c33b1 : (((a0.extract (a1 : Int).toNat a0.size).extract 0 (t211 : Int).toNat).toList != ([116, 114, 117, 101] : List UInt8)) = false := bne_eq_false_iff_eq.mpr c33
                        clear c33
                        simp only [Option.some.injEq, Prod.mk.injEq] at H
                        obtain ⟨rfl, rfl, rfl, rfl, rfl, rfl⟩ := H
                        go_wp2_with (first | ((with_reducible refine gate_callee (f := 32) rfl ?_); refine goesL_ (some 63) rfl rfl Tryd.func32 (by kernel_rfl) rfl #[.string (a0.extract (a1 : Int).toNat a0.size), .string (⟨#[97, 98, 99, 100, 101, 102, 103, 104, 105, 106, 107, 108, 109, 110, 111, 112, 113, 114, 115, 116, 117, 118, 119, 120, 121, 122]⟩ : ByteArray)] rfl (by (try simp only [List.map_toArray, List.map_cons, List.map_nil]); first | done | rfl | (simp only [List.length_drop, List.length_take]; rfl)) ?_; (with_reducible refine (jlex_while.calls (a0.extract (a1 : Int).toNat a0.size) (⟨#[97, 98, 99, 100, 101, 102, 103, 104, 105, 106, 107, 108, 109, 110, 111, 112, 113, 114, 115, 116, 117, 118, 119, 120, 121, 122]⟩ : ByteArray) t211 _ A30.out).mono ?_); rintro e w34 ⟨rfl, hb⟩; refine ⟨_, rfl, ?_⟩; have n0_ := Aside0.mk (blk_below (g := gb206) (o := .cells #[.int .i64 0, .string (⟨#[]⟩ : ByteArray), .int .i64 0] 30 (0, 0)) (by (with_reducible repeat (first | refine blk_drewN ?_ _ | refine blk_drew ?_ | refine blk_alloc ?_ _)); exact BK206.out) hb); have n1_ := Aside0.mk (below_step (by repeat (first | (with_reducible first | exact HB.out | apply below_alloc | apply pw_below_drewN | apply below_drew1 | refine below_set ?_ GE206.out) | exact HB.out)) hb); clear BK206; clear HB; have BK206 := n0_; have HB := n1_; clear n0_ n1_; (try clear hb); (try clear hb2); (try clear hk); (try clear hi); have hcz35_0 : w34.cell? ⟨gb206, 0, none⟩ = some (.int .i64 0) := (blk_cell BK206.out 0).trans rfl; have hcz35_1 : w34.cell? ⟨gb206, 1, none⟩ = some (.string (⟨#[]⟩ : ByteArray)) := (blk_cell BK206.out 1).trans rfl; have hcz35_2 : w34.cell? ⟨gb206, 2, none⟩ = some (.int .i64 0) := (blk_cell BK206.out 2).trans rfl; have hfz35_0 := blk_frozen BK206.out 0; have hfz35_1 := blk_frozen BK206.out 1; have hfz35_2 := blk_frozen BK206.out 2))
                        refine bodyPost_ret (results_list (rs := [.cell 4 30, .tmp 5, .tmp 6, .tmp 7]) rfl (by simp) (.cell gb206 30 #[.int .i64 4, .string ((a0.extract (a1 : Int).toNat a0.size).extract 0 (t211 : Int).toNat), .int .i64 a1] (0, 0) _ rfl (by (with_reducible repeat (first | refine blk_drewN ?_ _ | refine blk_drew ?_ | refine blk_alloc ?_ _)); refine blk_put (cs := #[.int .i64 4, .string ((a0.extract (a1 : Int).toNat a0.size).extract 0 (t211 : Int).toNat), .int .i64 0]) ?_ 2 _ rfl; (with_reducible repeat (first | refine blk_drewN ?_ _ | refine blk_drew ?_ | refine blk_alloc ?_ _)); refine blk_put (cs := #[.int .i64 4, .string (⟨#[]⟩ : ByteArray), .int .i64 0]) ?_ 1 _ rfl; (with_reducible repeat (first | refine blk_drewN ?_ _ | refine blk_drew ?_ | refine blk_alloc ?_ _)); refine blk_put (cs := #[.int .i64 0, .string (⟨#[]⟩ : ByteArray), .int .i64 0]) ?_ 0 _ rfl; (with_reducible repeat (first | refine blk_drewN ?_ _ | refine blk_drew ?_ | refine blk_alloc ?_ _)); exact BK206.out) Tryd.underlying30 rfl (by kernel_rfl) (.tmp (.tmp (.tmp .nil))))) rfl ?_
                        exact ⟨by first | rfl | (simp [errW_none, errW_some] <;> rfl) | (simp [*, errW_none, errW_some, bne]; done) | (simp [*, errW_none, errW_some] <;> rfl), by repeat (first | (with_reducible first | exact HB.out | apply below_alloc | apply pw_below_drewN | apply below_drew1 | refine below_set ?_ GE206.out) | exact HB.out)⟩
                      · rw [if_neg c33] at H
                        have c33b0 : (((a0.extract (a1 : Int).toNat a0.size).extract 0 (t211 : Int).toNat).toList == ([116, 114, 117, 101] : List UInt8)) = false := beq_eq_false_iff_ne.mpr c33
                        have c33b1 : (((a0.extract (a1 : Int).toNat a0.size).extract 0 (t211 : Int).toNat).toList != ([116, 114, 117, 101] : List UInt8)) = true := bne_iff_ne.mpr c33
                        by_cases c36 : ((a0.extract (a1 : Int).toNat a0.size).extract 0 (t211 : Int).toNat).toList = ([102, 97, 108, 115, 101] : List UInt8)
                        · rw [if_pos c36] at H
                          have c36b0 : (((a0.extract (a1 : Int).toNat a0.size).extract 0 (t211 : Int).toNat).toList == ([102, 97, 108, 115, 101] : List UInt8)) = true := beq_iff_eq.mpr c36
                          have c36b1 : (((a0.extract (a1 : Int).toNat a0.size).extract 0 (t211 : Int).toNat).toList != ([102, 97, 108, 115, 101] : List UInt8)) = false := bne_eq_false_iff_eq.mpr c36
                          clear c36
                          simp only [Option.some.injEq, Prod.mk.injEq] at H
                          obtain ⟨rfl, rfl, rfl, rfl, rfl, rfl⟩ := H
                          go_wp2_with (first | ((with_reducible refine gate_callee (f := 32) rfl ?_); refine goesL_ (some 63) rfl rfl Tryd.func32 (by kernel_rfl) rfl #[.string (a0.extract (a1 : Int).toNat a0.size), .string (⟨#[97, 98, 99, 100, 101, 102, 103, 104, 105, 106, 107, 108, 109, 110, 111, 112, 113, 114, 115, 116, 117, 118, 119, 120, 121, 122]⟩ : ByteArray)] rfl (by (try simp only [List.map_toArray, List.map_cons, List.map_nil]); first | done | rfl | (simp only [List.length_drop, List.length_take]; rfl)) ?_; (with_reducible refine (jlex_while.calls (a0.extract (a1 : Int).toNat a0.size) (⟨#[97, 98, 99, 100, 101, 102, 103, 104, 105, 106, 107, 108, 109, 110, 111, 112, 113, 114, 115, 116, 117, 118, 119, 120, 121, 122]⟩ : ByteArray) t211 _ A30.out).mono ?_); rintro e w37 ⟨rfl, hb⟩; refine ⟨_, rfl, ?_⟩; have n0_ := Aside0.mk (blk_below (g := gb206) (o := .cells #[.int .i64 0, .string (⟨#[]⟩ : ByteArray), .int .i64 0] 30 (0, 0)) (by (with_reducible repeat (first | refine blk_drewN ?_ _ | refine blk_drew ?_ | refine blk_alloc ?_ _)); exact BK206.out) hb); have n1_ := Aside0.mk (below_step (by repeat (first | (with_reducible first | exact HB.out | apply below_alloc | apply pw_below_drewN | apply below_drew1 | refine below_set ?_ GE206.out) | exact HB.out)) hb); clear BK206; clear HB; have BK206 := n0_; have HB := n1_; clear n0_ n1_; (try clear hb); (try clear hb2); (try clear hk); (try clear hi); have hcz38_0 : w37.cell? ⟨gb206, 0, none⟩ = some (.int .i64 0) := (blk_cell BK206.out 0).trans rfl; have hcz38_1 : w37.cell? ⟨gb206, 1, none⟩ = some (.string (⟨#[]⟩ : ByteArray)) := (blk_cell BK206.out 1).trans rfl; have hcz38_2 : w37.cell? ⟨gb206, 2, none⟩ = some (.int .i64 0) := (blk_cell BK206.out 2).trans rfl; have hfz38_0 := blk_frozen BK206.out 0; have hfz38_1 := blk_frozen BK206.out 1; have hfz38_2 := blk_frozen BK206.out 2))
                          refine bodyPost_ret (results_list (rs := [.cell 4 30, .tmp 5, .tmp 6, .tmp 7]) rfl (by simp) (.cell gb206 30 #[.int .i64 4, .string ((a0.extract (a1 : Int).toNat a0.size).extract 0 (t211 : Int).toNat), .int .i64 a1] (0, 0) _ rfl (by (with_reducible repeat (first | refine blk_drewN ?_ _ | refine blk_drew ?_ | refine blk_alloc ?_ _)); refine blk_put (cs := #[.int .i64 4, .string ((a0.extract (a1 : Int).toNat a0.size).extract 0 (t211 : Int).toNat), .int .i64 0]) ?_ 2 _ rfl; (with_reducible repeat (first | refine blk_drewN ?_ _ | refine blk_drew ?_ | refine blk_alloc ?_ _)); refine blk_put (cs := #[.int .i64 4, .string (⟨#[]⟩ : ByteArray), .int .i64 0]) ?_ 1 _ rfl; (with_reducible repeat (first | refine blk_drewN ?_ _ | refine blk_drew ?_ | refine blk_alloc ?_ _)); refine blk_put (cs := #[.int .i64 0, .string (⟨#[]⟩ : ByteArray), .int .i64 0]) ?_ 0 _ rfl; (with_reducible repeat (first | refine blk_drewN ?_ _ | refine blk_drew ?_ | refine blk_alloc ?_ _)); exact BK206.out) Tryd.underlying30 rfl (by kernel_rfl) (.tmp (.tmp (.tmp .nil))))) rfl ?_
                          exact ⟨by first | rfl | (simp [errW_none, errW_some] <;> rfl) | (simp [*, errW_none, errW_some, bne]; done) | (simp [*, errW_none, errW_some] <;> rfl), by repeat (first | (with_reducible first | exact HB.out | apply below_alloc | apply pw_below_drewN | apply below_drew1 | refine below_set ?_ GE206.out) | exact HB.out)⟩
                        · rw [if_neg c36] at H
                          have c36b0 : (((a0.extract (a1 : Int).toNat a0.size).extract 0 (t211 : Int).toNat).toList == ([102, 97, 108, 115, 101] : List UInt8)) = false := beq_eq_false_iff_ne.mpr c36
                          have c36b1 : (((a0.extract (a1 : Int).toNat a0.size).extract 0 (t211 : Int).toNat).toList != ([102, 97, 108, 115, 101] : List UInt8)) = true := bne_iff_ne.mpr c36
                          by_cases c39 : ((a0.extract (a1 : Int).toNat a0.size).extract 0 (t211 : Int).toNat).toList = ([110, 117, 108, 108] : List UInt8)
                          · rw [if_pos c39] at H
                            have c39b0 : (((a0.extract (a1 : Int).toNat a0.size).extract 0 (t211 : Int).toNat).toList == ([110, 117, 108, 108] : List UInt8)) = true := beq_iff_eq.mpr c39
                            have c39b1 : (((a0.extract (a1 : Int).toNat a0.size).extract 0 (t211 : Int).toNat).toList != ([110, 117, 108, 108] : List UInt8)) = false := bne_eq_false_iff_eq.mpr c39
                            clear c39
                            simp only [Option.some.injEq, Prod.mk.injEq] at H
                            obtain ⟨rfl, rfl, rfl, rfl, rfl, rfl⟩ := H
                            go_wp2_with (first | ((with_reducible refine gate_callee (f := 32) rfl ?_); refine goesL_ (some 63) rfl rfl Tryd.func32 (by kernel_rfl) rfl #[.string (a0.extract (a1 : Int).toNat a0.size), .string (⟨#[97, 98, 99, 100, 101, 102, 103, 104, 105, 106, 107, 108, 109, 110, 111, 112, 113, 114, 115, 116, 117, 118, 119, 120, 121, 122]⟩ : ByteArray)] rfl (by (try simp only [List.map_toArray, List.map_cons, List.map_nil]); first | done | rfl | (simp only [List.length_drop, List.length_take]; rfl)) ?_; (with_reducible refine (jlex_while.calls (a0.extract (a1 : Int).toNat a0.size) (⟨#[97, 98, 99, 100, 101, 102, 103, 104, 105, 106, 107, 108, 109, 110, 111, 112, 113, 114, 115, 116, 117, 118, 119, 120, 121, 122]⟩ : ByteArray) t211 _ A30.out).mono ?_); rintro e w40 ⟨rfl, hb⟩; refine ⟨_, rfl, ?_⟩; have n0_ := Aside0.mk (blk_below (g := gb206) (o := .cells #[.int .i64 0, .string (⟨#[]⟩ : ByteArray), .int .i64 0] 30 (0, 0)) (by (with_reducible repeat (first | refine blk_drewN ?_ _ | refine blk_drew ?_ | refine blk_alloc ?_ _)); exact BK206.out) hb); have n1_ := Aside0.mk (below_step (by repeat (first | (with_reducible first | exact HB.out | apply below_alloc | apply pw_below_drewN | apply below_drew1 | refine below_set ?_ GE206.out) | exact HB.out)) hb); clear BK206; clear HB; have BK206 := n0_; have HB := n1_; clear n0_ n1_; (try clear hb); (try clear hb2); (try clear hk); (try clear hi); have hcz41_0 : w40.cell? ⟨gb206, 0, none⟩ = some (.int .i64 0) := (blk_cell BK206.out 0).trans rfl; have hcz41_1 : w40.cell? ⟨gb206, 1, none⟩ = some (.string (⟨#[]⟩ : ByteArray)) := (blk_cell BK206.out 1).trans rfl; have hcz41_2 : w40.cell? ⟨gb206, 2, none⟩ = some (.int .i64 0) := (blk_cell BK206.out 2).trans rfl; have hfz41_0 := blk_frozen BK206.out 0; have hfz41_1 := blk_frozen BK206.out 1; have hfz41_2 := blk_frozen BK206.out 2))
                            refine bodyPost_ret (results_list (rs := [.cell 4 30, .tmp 5, .tmp 6, .tmp 7]) rfl (by simp) (.cell gb206 30 #[.int .i64 4, .string ((a0.extract (a1 : Int).toNat a0.size).extract 0 (t211 : Int).toNat), .int .i64 a1] (0, 0) _ rfl (by (with_reducible repeat (first | refine blk_drewN ?_ _ | refine blk_drew ?_ | refine blk_alloc ?_ _)); refine blk_put (cs := #[.int .i64 4, .string ((a0.extract (a1 : Int).toNat a0.size).extract 0 (t211 : Int).toNat), .int .i64 0]) ?_ 2 _ rfl; (with_reducible repeat (first | refine blk_drewN ?_ _ | refine blk_drew ?_ | refine blk_alloc ?_ _)); refine blk_put (cs := #[.int .i64 4, .string (⟨#[]⟩ : ByteArray), .int .i64 0]) ?_ 1 _ rfl; (with_reducible repeat (first | refine blk_drewN ?_ _ | refine blk_drew ?_ | refine blk_alloc ?_ _)); refine blk_put (cs := #[.int .i64 0, .string (⟨#[]⟩ : ByteArray), .int .i64 0]) ?_ 0 _ rfl; (with_reducible repeat (first | refine blk_drewN ?_ _ | refine blk_drew ?_ | refine blk_alloc ?_ _)); exact BK206.out) Tryd.underlying30 rfl (by kernel_rfl) (.tmp (.tmp (.tmp .nil))))) rfl ?_
                            exact ⟨by first | rfl | (simp [errW_none, errW_some] <;> rfl) | (simp [*, errW_none, errW_some, bne]; done) | (simp [*, errW_none, errW_some] <;> rfl), by repeat (first | (with_reducible first | exact HB.out | apply below_alloc | apply pw_below_drewN | apply below_drew1 | refine below_set ?_ GE206.out) | exact HB.out)⟩
                          · rw [if_neg c39] at H
                            have c39b0 : (((a0.extract (a1 : Int).toNat a0.size).extract 0 (t211 : Int).toNat).toList == ([110, 117, 108, 108] : List UInt8)) = false := beq_eq_false_iff_ne.mpr c39
                            have c39b1 : (((a0.extract (a1 : Int).toNat a0.size).extract 0 (t211 : Int).toNat).toList != ([110, 117, 108, 108] : List UInt8)) = true := bne_iff_ne.mpr c39
                            simp only [Option.some.injEq, Prod.mk.injEq] at H
                            obtain ⟨rfl, rfl, rfl, rfl, rfl, rfl⟩ := H
                            go_wp2_with (first | ((with_reducible refine gate_callee (f := 32) rfl ?_); refine goesL_ (some 63) rfl rfl Tryd.func32 (by kernel_rfl) rfl #[.string (a0.extract (a1 : Int).toNat a0.size), .string (⟨#[97, 98, 99, 100, 101, 102, 103, 104, 105, 106, 107, 108, 109, 110, 111, 112, 113, 114, 115, 116, 117, 118, 119, 120, 121, 122]⟩ : ByteArray)] rfl (by (try simp only [List.map_toArray, List.map_cons, List.map_nil]); first | done | rfl | (simp only [List.length_drop, List.length_take]; rfl)) ?_; (with_reducible refine (jlex_while.calls (a0.extract (a1 : Int).toNat a0.size) (⟨#[97, 98, 99, 100, 101, 102, 103, 104, 105, 106, 107, 108, 109, 110, 111, 112, 113, 114, 115, 116, 117, 118, 119, 120, 121, 122]⟩ : ByteArray) t211 _ A30.out).mono ?_); rintro e w42 ⟨rfl, hb⟩; refine ⟨_, rfl, ?_⟩; have n0_ := Aside0.mk (blk_below (g := gb206) (o := .cells #[.int .i64 0, .string (⟨#[]⟩ : ByteArray), .int .i64 0] 30 (0, 0)) (by (with_reducible repeat (first | refine blk_drewN ?_ _ | refine blk_drew ?_ | refine blk_alloc ?_ _)); exact BK206.out) hb); have n1_ := Aside0.mk (below_step (by repeat (first | (with_reducible first | exact HB.out | apply below_alloc | apply pw_below_drewN | apply below_drew1 | refine below_set ?_ GE206.out) | exact HB.out)) hb); clear BK206; clear HB; have BK206 := n0_; have HB := n1_; clear n0_ n1_; (try clear hb); (try clear hb2); (try clear hk); (try clear hi); have hcz43_0 : w42.cell? ⟨gb206, 0, none⟩ = some (.int .i64 0) := (blk_cell BK206.out 0).trans rfl; have hcz43_1 : w42.cell? ⟨gb206, 1, none⟩ = some (.string (⟨#[]⟩ : ByteArray)) := (blk_cell BK206.out 1).trans rfl; have hcz43_2 : w42.cell? ⟨gb206, 2, none⟩ = some (.int .i64 0) := (blk_cell BK206.out 2).trans rfl; have hfz43_0 := blk_frozen BK206.out 0; have hfz43_1 := blk_frozen BK206.out 1; have hfz43_2 := blk_frozen BK206.out 2))
                            refine bodyPost_ret (results_list (rs := [.cell 4 30, .tmp 5, .tmp 6, .tmp 7]) rfl (by simp) (.cell gb206 30 #[.int .i64 0, .string (⟨#[]⟩ : ByteArray), .int .i64 0] (0, 0) _ rfl (by (with_reducible repeat (first | refine blk_drewN ?_ _ | refine blk_drew ?_ | refine blk_alloc ?_ _)); refine blk_put (cs := #[.int .i64 0, .string (⟨#[]⟩ : ByteArray), .int .i64 0]) ?_ 2 _ rfl; (with_reducible repeat (first | refine blk_drewN ?_ _ | refine blk_drew ?_ | refine blk_alloc ?_ _)); refine blk_put (cs := #[.int .i64 0, .string (⟨#[]⟩ : ByteArray), .int .i64 0]) ?_ 1 _ rfl; (with_reducible repeat (first | refine blk_drewN ?_ _ | refine blk_drew ?_ | refine blk_alloc ?_ _)); refine blk_put (cs := #[.int .i64 0, .string (⟨#[]⟩ : ByteArray), .int .i64 0]) ?_ 0 _ rfl; (with_reducible repeat (first | refine blk_drewN ?_ _ | refine blk_drew ?_ | refine blk_alloc ?_ _)); exact BK206.out) Tryd.underlying30 rfl (by kernel_rfl) (.tmp (.tmp (.tmp .nil))))) rfl ?_
                            exact ⟨by first | rfl | (simp [errW_none, errW_some] <;> rfl) | (simp [*, errW_none, errW_some, bne]; done) | (simp [*, errW_none, errW_some] <;> rfl), by repeat (first | (with_reducible first | exact HB.out | apply below_alloc | apply pw_below_drewN | apply below_drew1 | refine below_set ?_ GE206.out) | exact HB.out)⟩
                    · rw [if_neg c32] at H
                      exact absurd H (by simp)
                  · rw [if_neg c31] at H
                    exact absurd H (by simp)
                · replace c29 := Bool.eq_false_iff.mpr c29
                  subst c29
                  have H1 : ((jlex_while.f (a0.extract (a1 : Int).toNat a0.size) (⟨#[48, 49, 50, 51, 52, 53, 54, 55, 56, 57, 43, 45, 46, 101, 69]⟩ : ByteArray)).bind fun t212 => (if 0 ≤ t212 then (if t212 ≤ ((a0.extract (a1 : Int).toNat a0.size).size : Int) then (if ((a0.extract (a1 : Int).toNat a0.size).extract 0 (t212 : Int).toNat).toList = ([] : List UInt8) then (some (0, (⟨#[]⟩ : ByteArray), 0, 0, 4, a1)) else ((jlex_number.f kj25 ((a0.extract (a1 : Int).toNat a0.size).extract 0 (t212 : Int).toNat)).bind fun t213 => (if t213 = 0 then (some (3, (a0.extract (a1 : Int).toNat a0.size).extract 0 (t212 : Int).toNat, a1, wrap64 (a1 + (((a0.extract (a1 : Int).toNat a0.size).extract 0 (t212 : Int).toNat).size : Int)), 0, 0)) else (some (0, (⟨#[]⟩ : ByteArray), 0, 0, t213, a1))))) else (none)) else (none))) = some (r1, r2, r3, r4, r5, r6) := by rw [if_neg (show ¬ (false = true) by decide)] at H; exact H
                  clear H
                  have H := H1
                  clear H1
                  replace H := Option.bind_eq_some_iff.mp H
                  obtain ⟨t212, A440, H⟩ := H
                  replace H : (if 0 ≤ t212 then (if t212 ≤ ((a0.extract (a1 : Int).toNat a0.size).size : Int) then (if ((a0.extract (a1 : Int).toNat a0.size).extract 0 (t212 : Int).toNat).toList = ([] : List UInt8) then (some (0, (⟨#[]⟩ : ByteArray), 0, 0, 4, a1)) else ((jlex_number.f kj25 ((a0.extract (a1 : Int).toNat a0.size).extract 0 (t212 : Int).toNat)).bind fun t213 => (if t213 = 0 then (some (3, (a0.extract (a1 : Int).toNat a0.size).extract 0 (t212 : Int).toNat, a1, wrap64 (a1 + (((a0.extract (a1 : Int).toNat a0.size).extract 0 (t212 : Int).toNat).size : Int)), 0, 0)) else (some (0, (⟨#[]⟩ : ByteArray), 0, 0, t213, a1))))) else (none)) else (none)) = some (r1, r2, r3, r4, r5, r6) := H
                  have A44 := Aside0.mk A440
                  clear A440
                  by_cases c45 : 0 ≤ t212
                  · rw [if_pos c45] at H
                    have c45b0 := eq_true c45
                    have c45b1 : decide (0 ≤ t212) = true := decide_eq_true c45
                    clear c45
                    by_cases c46 : t212 ≤ ((a0.extract (a1 : Int).toNat a0.size).size : Int)
                    · rw [if_pos c46] at H
                      have c46b0 := eq_true c46
                      have c46b1 : decide (t212 ≤ ((a0.extract (a1 : Int).toNat a0.size).size : Int)) = true := decide_eq_true c46
                      clear c46
                      by_cases c47 : ((a0.extract (a1 : Int).toNat a0.size).extract 0 (t212 : Int).toNat).toList = ([] : List UInt8)
                      · rw [if_pos c47] at H
                        have c47b0 : (((a0.extract (a1 : Int).toNat a0.size).extract 0 (t212 : Int).toNat).toList == ([] : List UInt8)) = true := beq_iff_eq.mpr c47
                        have c47b1 : (((a0.extract (a1 : Int).toNat a0.size).extract 0 (t212 : Int).toNat).toList != ([] : List UInt8)) = false := bne_eq_false_iff_eq.mpr c47
                        have c47b2 : ((a0.extract (a1 : Int).toNat a0.size).extract 0 (t212 : Int).toNat).toList.isEmpty = true := List.isEmpty_iff.mpr c47
                        (try simp only [c47b2, Bool.not_true, Bool.not_false])
                        clear c47
                        simp only [Option.some.injEq, Prod.mk.injEq] at H
                        obtain ⟨rfl, rfl, rfl, rfl, rfl, rfl⟩ := H
                        go_wp2_with (first | ((with_reducible refine gate_callee (f := 32) rfl ?_); refine goesL_ (some 86) rfl rfl Tryd.func32 (by kernel_rfl) rfl #[.string (a0.extract (a1 : Int).toNat a0.size), .string (⟨#[48, 49, 50, 51, 52, 53, 54, 55, 56, 57, 43, 45, 46, 101, 69]⟩ : ByteArray)] rfl (by (try simp only [List.map_toArray, List.map_cons, List.map_nil]); first | done | rfl | (simp only [List.length_drop, List.length_take]; rfl)) ?_; (with_reducible refine (jlex_while.calls (a0.extract (a1 : Int).toNat a0.size) (⟨#[48, 49, 50, 51, 52, 53, 54, 55, 56, 57, 43, 45, 46, 101, 69]⟩ : ByteArray) t212 _ A44.out).mono ?_); rintro e w48 ⟨rfl, hb⟩; refine ⟨_, rfl, ?_⟩; have n0_ := Aside0.mk (blk_below (g := gb206) (o := .cells #[.int .i64 0, .string (⟨#[]⟩ : ByteArray), .int .i64 0] 30 (0, 0)) (by (with_reducible repeat (first | refine blk_drewN ?_ _ | refine blk_drew ?_ | refine blk_alloc ?_ _)); exact BK206.out) hb); have n1_ := Aside0.mk (below_step (by repeat (first | (with_reducible first | exact HB.out | apply below_alloc | apply pw_below_drewN | apply below_drew1 | refine below_set ?_ GE206.out) | exact HB.out)) hb); clear BK206; clear HB; have BK206 := n0_; have HB := n1_; clear n0_ n1_; (try clear hb); (try clear hb2); (try clear hk); (try clear hi); have hcz49_0 : w48.cell? ⟨gb206, 0, none⟩ = some (.int .i64 0) := (blk_cell BK206.out 0).trans rfl; have hcz49_1 : w48.cell? ⟨gb206, 1, none⟩ = some (.string (⟨#[]⟩ : ByteArray)) := (blk_cell BK206.out 1).trans rfl; have hcz49_2 : w48.cell? ⟨gb206, 2, none⟩ = some (.int .i64 0) := (blk_cell BK206.out 2).trans rfl; have hfz49_0 := blk_frozen BK206.out 0; have hfz49_1 := blk_frozen BK206.out 1; have hfz49_2 := blk_frozen BK206.out 2))
                        refine bodyPost_ret (results_list (rs := [.cell 4 30, .tmp 5, .tmp 6, .tmp 7]) rfl (by simp) (.cell gb206 30 #[.int .i64 0, .string (⟨#[]⟩ : ByteArray), .int .i64 0] (0, 0) _ rfl (by (with_reducible repeat (first | refine blk_drewN ?_ _ | refine blk_drew ?_ | refine blk_alloc ?_ _)); refine blk_put (cs := #[.int .i64 0, .string (⟨#[]⟩ : ByteArray), .int .i64 0]) ?_ 2 _ rfl; (with_reducible repeat (first | refine blk_drewN ?_ _ | refine blk_drew ?_ | refine blk_alloc ?_ _)); refine blk_put (cs := #[.int .i64 0, .string (⟨#[]⟩ : ByteArray), .int .i64 0]) ?_ 1 _ rfl; (with_reducible repeat (first | refine blk_drewN ?_ _ | refine blk_drew ?_ | refine blk_alloc ?_ _)); refine blk_put (cs := #[.int .i64 0, .string (⟨#[]⟩ : ByteArray), .int .i64 0]) ?_ 0 _ rfl; (with_reducible repeat (first | refine blk_drewN ?_ _ | refine blk_drew ?_ | refine blk_alloc ?_ _)); exact BK206.out) Tryd.underlying30 rfl (by kernel_rfl) (.tmp (.tmp (.tmp .nil))))) rfl ?_
                        exact ⟨by first | rfl | (simp [errW_none, errW_some] <;> rfl) | (simp [*, errW_none, errW_some, bne]; done) | (simp [*, errW_none, errW_some] <;> rfl), by repeat (first | (with_reducible first | exact HB.out | apply below_alloc | apply pw_below_drewN | apply below_drew1 | refine below_set ?_ GE206.out) | exact HB.out)⟩
                      · rw [if_neg c47] at H
                        have c47b0 : (((a0.extract (a1 : Int).toNat a0.size).extract 0 (t212 : Int).toNat).toList == ([] : List UInt8)) = false := beq_eq_false_iff_ne.mpr c47
                        have c47b1 : (((a0.extract (a1 : Int).toNat a0.size).extract 0 (t212 : Int).toNat).toList != ([] : List UInt8)) = true := bne_iff_ne.mpr c47
                        have c47b2 : ((a0.extract (a1 : Int).toNat a0.size).extract 0 (t212 : Int).toNat).toList.isEmpty = false := List.isEmpty_eq_false_iff.mpr c47
                        (try simp only [c47b2, Bool.not_true, Bool.not_false])
                        replace H := Option.bind_eq_some_iff.mp H
                        obtain ⟨t213, A500, H⟩ := H
                        replace H : (if t213 = 0 then (some (3, (a0.extract (a1 : Int).toNat a0.size).extract 0 (t212 : Int).toNat, a1, wrap64 (a1 + (((a0.extract (a1 : Int).toNat a0.size).extract 0 (t212 : Int).toNat).size : Int)), 0, 0)) else (some (0, (⟨#[]⟩ : ByteArray), 0, 0, t213, a1))) = some (r1, r2, r3, r4, r5, r6) := H
                        have A50 := Aside0.mk A500
                        clear A500
                        by_cases c51 : t213 = 0
                        · rw [if_pos c51] at H
                          have c51b0 : (t213 == 0) = true := beq_iff_eq.mpr c51
                          have c51b1 : (t213 != 0) = false := bne_eq_false_iff_eq.mpr c51
                          clear c51
                          simp only [Option.some.injEq, Prod.mk.injEq] at H
                          obtain ⟨rfl, rfl, rfl, rfl, rfl, rfl⟩ := H
                          go_wp2_with (first | ((with_reducible refine gate_callee (f := 32) rfl ?_); refine goesL_ (some 86) rfl rfl Tryd.func32 (by kernel_rfl) rfl #[.string (a0.extract (a1 : Int).toNat a0.size), .string (⟨#[48, 49, 50, 51, 52, 53, 54, 55, 56, 57, 43, 45, 46, 101, 69]⟩ : ByteArray)] rfl (by (try simp only [List.map_toArray, List.map_cons, List.map_nil]); first | done | rfl | (simp only [List.length_drop, List.length_take]; rfl)) ?_; (with_reducible refine (jlex_while.calls (a0.extract (a1 : Int).toNat a0.size) (⟨#[48, 49, 50, 51, 52, 53, 54, 55, 56, 57, 43, 45, 46, 101, 69]⟩ : ByteArray) t212 _ A44.out).mono ?_); rintro e w52 ⟨rfl, hb⟩; refine ⟨_, rfl, ?_⟩; have n0_ := Aside0.mk (blk_below (g := gb206) (o := .cells #[.int .i64 0, .string (⟨#[]⟩ : ByteArray), .int .i64 0] 30 (0, 0)) (by (with_reducible repeat (first | refine blk_drewN ?_ _ | refine blk_drew ?_ | refine blk_alloc ?_ _)); exact BK206.out) hb); have n1_ := Aside0.mk (below_step (by repeat (first | (with_reducible first | exact HB.out | apply below_alloc | apply pw_below_drewN | apply below_drew1 | refine below_set ?_ GE206.out) | exact HB.out)) hb); clear BK206; clear HB; have BK206 := n0_; have HB := n1_; clear n0_ n1_; (try clear hb); (try clear hb2); (try clear hk); (try clear hi)) | ((with_reducible refine gate_callee (f := 57) rfl ?_); refine goesL_ (some 93) rfl rfl Tryd.func57 (by kernel_rfl) rfl #[.string ((a0.extract (a1 : Int).toNat a0.size).extract 0 (t212 : Int).toNat)] rfl (by (try simp only [List.map_toArray, List.map_cons, List.map_nil]); first | done | rfl | (simp only [List.length_drop, List.length_take]; rfl)) ?_; (with_reducible refine (jlex_number.calls kj25 ((a0.extract (a1 : Int).toNat a0.size).extract 0 (t212 : Int).toNat) t213 _ A50.out).mono ?_); rintro e w53 ⟨rfl, hb⟩; refine ⟨_, rfl, ?_⟩; have n0_ := Aside0.mk (blk_below (g := gb206) (o := .cells #[.int .i64 0, .string (⟨#[]⟩ : ByteArray), .int .i64 0] 30 (0, 0)) (by (with_reducible repeat (first | refine blk_drewN ?_ _ | refine blk_drew ?_ | refine blk_alloc ?_ _)); exact BK206.out) hb); have n1_ := Aside0.mk (below_step (by repeat (first | (with_reducible first | exact HB.out | apply below_alloc | apply pw_below_drewN | apply below_drew1 | refine below_set ?_ GE206.out) | exact HB.out)) hb); clear BK206; clear HB; have BK206 := n0_; have HB := n1_; clear n0_ n1_; (try clear hb); (try clear hb2); (try clear hk); (try clear hi); have hcz54_0 : w53.cell? ⟨gb206, 0, none⟩ = some (.int .i64 0) := (blk_cell BK206.out 0).trans rfl; have hcz54_1 : w53.cell? ⟨gb206, 1, none⟩ = some (.string (⟨#[]⟩ : ByteArray)) := (blk_cell BK206.out 1).trans rfl; have hcz54_2 : w53.cell? ⟨gb206, 2, none⟩ = some (.int .i64 0) := (blk_cell BK206.out 2).trans rfl; have hfz54_0 := blk_frozen BK206.out 0; have hfz54_1 := blk_frozen BK206.out 1; have hfz54_2 := blk_frozen BK206.out 2))
                          refine bodyPost_ret (results_list (rs := [.cell 4 30, .tmp 5, .tmp 6, .tmp 7]) rfl (by simp) (.cell gb206 30 #[.int .i64 3, .string ((a0.extract (a1 : Int).toNat a0.size).extract 0 (t212 : Int).toNat), .int .i64 a1] (0, 0) _ rfl (by (with_reducible repeat (first | refine blk_drewN ?_ _ | refine blk_drew ?_ | refine blk_alloc ?_ _)); refine blk_put (cs := #[.int .i64 3, .string ((a0.extract (a1 : Int).toNat a0.size).extract 0 (t212 : Int).toNat), .int .i64 0]) ?_ 2 _ rfl; (with_reducible repeat (first | refine blk_drewN ?_ _ | refine blk_drew ?_ | refine blk_alloc ?_ _)); refine blk_put (cs := #[.int .i64 3, .string (⟨#[]⟩ : ByteArray), .int .i64 0]) ?_ 1 _ rfl; (with_reducible repeat (first | refine blk_drewN ?_ _ | refine blk_drew ?_ | refine blk_alloc ?_ _)); refine blk_put (cs := #[.int .i64 0, .string (⟨#[]⟩ : ByteArray), .int .i64 0]) ?_ 0 _ rfl; (with_reducible repeat (first | refine blk_drewN ?_ _ | refine blk_drew ?_ | refine blk_alloc ?_ _)); exact BK206.out) Tryd.underlying30 rfl (by kernel_rfl) (.tmp (.tmp (.tmp .nil))))) rfl ?_
                          exact ⟨by first | rfl | (simp [errW_none, errW_some] <;> rfl) | (simp [*, errW_none, errW_some, bne]; done) | (simp [*, errW_none, errW_some] <;> rfl), by repeat (first | (with_reducible first | exact HB.out | apply below_alloc | apply pw_below_drewN | apply below_drew1 | refine below_set ?_ GE206.out) | exact HB.out)⟩
                        · rw [if_neg c51] at H
                          have c51b0 : (t213 == 0) = false := beq_eq_false_iff_ne.mpr c51
                          have c51b1 : (t213 != 0) = true := bne_iff_ne.mpr c51
                          simp only [Option.some.injEq, Prod.mk.injEq] at H
                          obtain ⟨rfl, rfl, rfl, rfl, rfl, rfl⟩ := H
                          go_wp2_with (first | ((with_reducible refine gate_callee (f := 32) rfl ?_); refine goesL_ (some 86) rfl rfl Tryd.func32 (by kernel_rfl) rfl #[.string (a0.extract (a1 : Int).toNat a0.size), .string (⟨#[48, 49, 50, 51, 52, 53, 54, 55, 56, 57, 43, 45, 46, 101, 69]⟩ : ByteArray)] rfl (by (try simp only [List.map_toArray, List.map_cons, List.map_nil]); first | done | rfl | (simp only [List.length_drop, List.length_take]; rfl)) ?_; (with_reducible refine (jlex_while.calls (a0.extract (a1 : Int).toNat a0.size) (⟨#[48, 49, 50, 51, 52, 53, 54, 55, 56, 57, 43, 45, 46, 101, 69]⟩ : ByteArray) t212 _ A44.out).mono ?_); rintro e w55 ⟨rfl, hb⟩; refine ⟨_, rfl, ?_⟩; have n0_ := Aside0.mk (blk_below (g := gb206) (o := .cells #[.int .i64 0, .string (⟨#[]⟩ : ByteArray), .int .i64 0] 30 (0, 0)) (by (with_reducible repeat (first | refine blk_drewN ?_ _ | refine blk_drew ?_ | refine blk_alloc ?_ _)); exact BK206.out) hb); have n1_ := Aside0.mk (below_step (by repeat (first | (with_reducible first | exact HB.out | apply below_alloc | apply pw_below_drewN | apply below_drew1 | refine below_set ?_ GE206.out) | exact HB.out)) hb); clear BK206; clear HB; have BK206 := n0_; have HB := n1_; clear n0_ n1_; (try clear hb); (try clear hb2); (try clear hk); (try clear hi)) | ((with_reducible refine gate_callee (f := 57) rfl ?_); refine goesL_ (some 93) rfl rfl Tryd.func57 (by kernel_rfl) rfl #[.string ((a0.extract (a1 : Int).toNat a0.size).extract 0 (t212 : Int).toNat)] rfl (by (try simp only [List.map_toArray, List.map_cons, List.map_nil]); first | done | rfl | (simp only [List.length_drop, List.length_take]; rfl)) ?_; (with_reducible refine (jlex_number.calls kj25 ((a0.extract (a1 : Int).toNat a0.size).extract 0 (t212 : Int).toNat) t213 _ A50.out).mono ?_); rintro e w56 ⟨rfl, hb⟩; refine ⟨_, rfl, ?_⟩; have n0_ := Aside0.mk (blk_below (g := gb206) (o := .cells #[.int .i64 0, .string (⟨#[]⟩ : ByteArray), .int .i64 0] 30 (0, 0)) (by (with_reducible repeat (first | refine blk_drewN ?_ _ | refine blk_drew ?_ | refine blk_alloc ?_ _)); exact BK206.out) hb); have n1_ := Aside0.mk (below_step (by repeat (first | (with_reducible first | exact HB.out | apply below_alloc | apply pw_below_drewN | apply below_drew1 | refine below_set ?_ GE206.out) | exact HB.out)) hb); clear BK206; clear HB; have BK206 := n0_; have HB := n1_; clear n0_ n1_; (try clear hb); (try clear hb2); (try clear hk); (try clear hi); have hcz57_0 : w56.cell? ⟨gb206, 0, none⟩ = some (.int .i64 0) := (blk_cell BK206.out 0).trans rfl; have hcz57_1 : w56.cell? ⟨gb206, 1, none⟩ = some (.string (⟨#[]⟩ : ByteArray)) := (blk_cell BK206.out 1).trans rfl; have hcz57_2 : w56.cell? ⟨gb206, 2, none⟩ = some (.int .i64 0) := (blk_cell BK206.out 2).trans rfl; have hfz57_0 := blk_frozen BK206.out 0; have hfz57_1 := blk_frozen BK206.out 1; have hfz57_2 := blk_frozen BK206.out 2))
                          refine bodyPost_ret (results_list (rs := [.cell 4 30, .tmp 5, .tmp 6, .tmp 7]) rfl (by simp) (.cell gb206 30 #[.int .i64 0, .string (⟨#[]⟩ : ByteArray), .int .i64 0] (0, 0) _ rfl (by (with_reducible repeat (first | refine blk_drewN ?_ _ | refine blk_drew ?_ | refine blk_alloc ?_ _)); refine blk_put (cs := #[.int .i64 0, .string (⟨#[]⟩ : ByteArray), .int .i64 0]) ?_ 2 _ rfl; (with_reducible repeat (first | refine blk_drewN ?_ _ | refine blk_drew ?_ | refine blk_alloc ?_ _)); refine blk_put (cs := #[.int .i64 0, .string (⟨#[]⟩ : ByteArray), .int .i64 0]) ?_ 1 _ rfl; (with_reducible repeat (first | refine blk_drewN ?_ _ | refine blk_drew ?_ | refine blk_alloc ?_ _)); refine blk_put (cs := #[.int .i64 0, .string (⟨#[]⟩ : ByteArray), .int .i64 0]) ?_ 0 _ rfl; (with_reducible repeat (first | refine blk_drewN ?_ _ | refine blk_drew ?_ | refine blk_alloc ?_ _)); exact BK206.out) Tryd.underlying30 rfl (by kernel_rfl) (.tmp (.tmp (.tmp .nil))))) rfl ?_
                          exact ⟨by first | rfl | (simp [errW_none, errW_some] <;> rfl) | (simp [*, errW_none, errW_some, bne]; done) | (simp [*, errW_none, errW_some] <;> rfl), by repeat (first | (with_reducible first | exact HB.out | apply below_alloc | apply pw_below_drewN | apply below_drew1 | refine below_set ?_ GE206.out) | exact HB.out)⟩
                    · rw [if_neg c46] at H
                      exact absurd H (by simp)
                  · rw [if_neg c45] at H
                    exact absurd H (by simp)
      · rw [if_neg c5] at H
        exact absurd H (by simp)
    · rw [if_neg c4] at H
      exact absurd H (by simp)
  · rw [if_neg c3] at H
    exact absurd H (by simp)
end Go.Proofs.YtoanbmggffkmgaaDoor.P
end
section
namespace Go.Proofs.YtoanbmggffkmgaaDoor.P
open Go.RowKit Go.Proofs.YtoanbmggffkmgaaDoorW.PrintWords Go.Proofs.YtoanbmggffkmgaaDoorW.PrintLast Go.Proofs.YtoanbmggffkmgaaDoorW.PrintMore
attribute [local go_sem] max2_int min2_int max_two min_two max_three min_three max_four min_four   -- for this text's walks alone
attribute [-simp] ByteArray.size_extract
set_option linter.unusedVariables false
set_option linter.unusedSimpArgs false
/-! ### jlex_Cut: function 13 -/
def jlex_Cut.l0 : Nat → ByteArray → List (S30) → Int → Option ((List (S30)) × Int × Int × Int × Int)
  | 0, _, _, _ => none
  | k + 1, x0, x5, x6 => if x6 < (x0.size : Int) then ((jlex_word.f k x0 x6).bind fun bt224 => (if bt224.2.2.2.2.1 = 0 then (if x5.length < 4398046511104 then (if 0 ≤ bt224.2.2.2.1 then (if bt224.2.2.2.1 ≤ (x0.size : Int) then ((jlex_while.f (x0.extract (bt224.2.2.2.1 : Int).toNat x0.size) (⟨#[32, 9, 10, 13]⟩ : ByteArray)).bind fun t234 => (jlex_Cut.l0 k x0 (x5 ++ [(⟨bt224.1, bt224.2.1, bt224.2.2.1⟩ : S30)]) (wrap64 (bt224.2.2.2.1 + t234)))) else (none)) else (none)) else (none)) else ((place_Fault.f k x0 bt224.2.2.2.2.2 bt224.2.2.2.2.1).bind fun bt235 => (some (([] : List (S30)), bt235.1, bt235.2.1, bt235.2.2.1, bt235.2.2.2))))) else (if x5.length < 4398046511104 then (some ((x5 ++ [(⟨0, (⟨#[]⟩ : ByteArray), (x0.size : Int)⟩ : S30)]), 0, 0, 0, 0)) else (none))
def jlex_Cut.f (k : Nat) (a0 : ByteArray) : Option ((List (S30)) × Int × Int × Int × Int) := (jlex_Judge.f k a0).bind fun bt215 => (if bt215.1 = 0 then ((jlex_while.f a0 (⟨#[32, 9, 10, 13]⟩ : ByteArray)).bind fun t220 => (jlex_Cut.l0 k a0 ([] : List (S30)) t220)) else (some (([] : List (S30)), bt215.1, bt215.2.1, bt215.2.2.1, bt215.2.2.2)))
set_option maxHeartbeats 8000000 in
set_option maxRecDepth 100000 in
theorem jlex_Cut.calls (k : Nat) (a0 : ByteArray) (r1 : List (S30)) (r2 : Int) (r3 : Int) (r4 : Int) (r5 : Int) (w : World) (h : jlex_Cut.f k a0 = some (r1, r2, r3, r4, r5)) :
    Calls Tryd.prog 13 #[.string a0] w fun e w' => ∃ v0_ : Value, e = .returned (.tuple #[v0_, .agg #[.int .i64 r2, .int .i64 r3, .int .i64 r4, .int .i64 r5]]) ∧ Kd.R k30 30 w' w.heap.size (fun _ => True) v0_ r1 ∧ Below w.heap.size w w' := by
  have hu26 := Tryd.underlying26
  have hu30 := Tryd.underlying30
  have HB := Aside0.mk (Below.refl w.heap.size w)
  have H : ((jlex_Judge.f k a0).bind fun bt215 => (if bt215.1 = 0 then ((jlex_while.f a0 (⟨#[32, 9, 10, 13]⟩ : ByteArray)).bind fun t220 => (jlex_Cut.l0 k a0 ([] : List (S30)) t220)) else (some (([] : List (S30)), bt215.1, bt215.2.1, bt215.2.2.1, bt215.2.2.2)))) = some (r1, r2, r3, r4, r5) := h
  clear h
  replace H := Option.bind_eq_some_iff.mp H
  obtain ⟨⟨t215, t216, t217, t218⟩, A20, H⟩ := H
  replace H : (if t215 = 0 then ((jlex_while.f a0 (⟨#[32, 9, 10, 13]⟩ : ByteArray)).bind fun t220 => (jlex_Cut.l0 k a0 ([] : List (S30)) t220)) else (some (([] : List (S30)), t215, t216, t217, t218))) = some (r1, r2, r3, r4, r5) := H
  have A2 := Aside0.mk A20
  clear A20
  by_cases c3 : t215 = 0
  · rw [if_pos c3] at H
    have c3b0 : (t215 == 0) = true := beq_iff_eq.mpr c3
    have c3b1 : (t215 != 0) = false := bne_eq_false_iff_eq.mpr c3
    clear c3
    replace H := Option.bind_eq_some_iff.mp H
    obtain ⟨t220, A40, H⟩ := H
    replace H : (jlex_Cut.l0 k a0 ([] : List (S30)) t220) = some (r1, r2, r3, r4, r5) := H
    have A4 := Aside0.mk A40
    clear A40
    have H' := Aside0.mk H
    clear H
    go_enter Tryd.func13, Tryd.ntmps13
    go_wp2_with (first | ((with_reducible refine gate_dst (N := 3) rfl ?_); refine box_event ?hg (N := 3) ?hd (cs := #[.int .i64 0, .int .i64 0, .int .i64 0, .int .i64 0]) (t := 26) ?hr ?_; (case hd => rfl); (case hg => rfl); (case hr => first | (go_simp; done) | (go_simp; rfl)); intro gb214 hg w5 hbox hb; have n0_ := Aside0.mk (below_step (by repeat (first | (with_reducible first | exact HB.out | apply below_alloc | apply pw_below_drewN | apply below_drew1) | exact HB.out)) hb); have n1_ := Aside0.mk (hbox); have n2_ := Aside0.mk ((by rw [hg]; exact (below_size (by repeat (first | (with_reducible first | exact HB.out | apply below_alloc | apply pw_below_drewN | apply below_drew1) | exact HB.out))) : w.heap.size ≤ gb214)); have n3_ := Aside0.mk ((by rw [hg]; exact (below_size (by repeat (first | (with_reducible first | exact HB.out | apply below_alloc | apply pw_below_drewN | apply below_drew1) | exact HB.out))) : w.heap.size ≤ gb214)); clear HB; have HB := n0_; have BK214 := n1_; have GW214 := n2_; have GE214 := n3_; clear n0_ n1_ n2_ n3_; clear hb hbox hg) | ((with_reducible refine gate_callee (f := 31) rfl ?_); refine goesL_ (some 12) rfl rfl Tryd.func31 (by kernel_rfl) rfl #[.string a0] rfl (by (try simp only [List.map_toArray, List.map_cons, List.map_nil]); first | done | rfl | (simp only [List.length_drop, List.length_take]; rfl)) ?_; (with_reducible refine (jlex_Judge.calls k a0 t215 t216 t217 t218 _ A2.out).mono ?_); rintro e w6 ⟨rfl, hb⟩; refine ⟨_, rfl, ?_⟩; have n0_ := Aside0.mk (blk_below (g := gb214) (o := .cells #[.int .i64 0, .int .i64 0, .int .i64 0, .int .i64 0] 26 (0, 0)) (by (with_reducible repeat (first | refine blk_drewN ?_ _ | refine blk_drew ?_ | refine blk_alloc ?_ _)); exact BK214.out) hb); have n1_ := Aside0.mk (below_step (by repeat (first | (with_reducible first | exact HB.out | apply below_alloc | apply pw_below_drewN | apply below_drew1 | refine below_set ?_ GE214.out) | exact HB.out)) hb); clear BK214; clear HB; have BK214 := n0_; have HB := n1_; clear n0_ n1_; (try clear hb); (try clear hb2); (try clear hk); (try clear hi)) | ((with_reducible refine gate_dst (N := 4) rfl ?_); refine box_event ?hg (N := 4) ?hd (cs := #[.int .i64 0, .int .i64 0, .int .i64 0, .int .i64 0]) (t := 26) ?hr ?_; (case hd => rfl); (case hg => rfl); (case hr => first | (go_simp; done) | (go_simp; rfl)); intro gb219 hg w7 hbox hb; have n0_ := Aside0.mk (blk_below (g := gb214) (o := .cells #[.int .i64 0, .int .i64 0, .int .i64 0, .int .i64 0] 26 (0, 0)) (by (with_reducible repeat (first | refine blk_drewN ?_ _ | refine blk_drew ?_ | refine blk_alloc ?_ _)); exact BK214.out) hb); have n1_ := Aside0.mk (below_step (by repeat (first | (with_reducible first | exact HB.out | apply below_alloc | apply pw_below_drewN | apply below_drew1 | refine below_set ?_ GE214.out) | exact HB.out)) hb); have n2_ := Aside0.mk (hbox); have n3_ := Aside0.mk ((by rw [hg]; exact (below_size (by repeat (first | (with_reducible first | exact HB.out | apply below_alloc | apply pw_below_drewN | apply below_drew1 | refine below_set ?_ GE214.out) | exact HB.out))) : w.heap.size ≤ gb219)); have n4_ := Aside0.mk ((by rw [hg]; exact (below_size (by repeat (first | (with_reducible first | exact HB.out | apply below_alloc | apply pw_below_drewN | apply below_drew1 | refine below_set ?_ GE214.out) | exact HB.out))) : w.heap.size ≤ gb219)); have n5_ := Aside0.mk ((by rw [hg]; exact Nat.ne_of_lt (blk_lt (g := gb214) (o := .cells #[.int .i64 0, .int .i64 0, .int .i64 0, .int .i64 0] 26 (0, 0)) (by (with_reducible repeat (first | refine blk_drewN ?_ _ | refine blk_drew ?_ | refine blk_alloc ?_ _)); exact BK214.out)) : gb214 ≠ gb219)); have n6_ := Aside0.mk ((by rw [hg]; exact Nat.ne_of_gt (blk_lt (g := gb214) (o := .cells #[.int .i64 0, .int .i64 0, .int .i64 0, .int .i64 0] 26 (0, 0)) (by (with_reducible repeat (first | refine blk_drewN ?_ _ | refine blk_drew ?_ | refine blk_alloc ?_ _)); exact BK214.out)) : gb219 ≠ gb214)); clear BK214; clear HB; have BK214 := n0_; have HB := n1_; have BK219 := n2_; have GW219 := n3_; have GE219 := n4_; have NB214_219 := n5_; have NB219_214 := n6_; clear n0_ n1_ n2_ n3_ n4_ n5_ n6_; clear hb hbox hg; have hnb8 := NB219_214.out; have hnc8 := NB214_219.out; have hcz9_0 : w7.cell? ⟨gb219, 0, none⟩ = some (.int .i64 0) := (blk_cell BK219.out 0).trans rfl; have hcz9_1 : w7.cell? ⟨gb219, 1, none⟩ = some (.int .i64 0) := (blk_cell BK219.out 1).trans rfl; have hcz9_2 : w7.cell? ⟨gb219, 2, none⟩ = some (.int .i64 0) := (blk_cell BK219.out 2).trans rfl; have hcz9_3 : w7.cell? ⟨gb219, 3, none⟩ = some (.int .i64 0) := (blk_cell BK219.out 3).trans rfl; have hfz9_0 := blk_frozen BK219.out 0; have hfz9_1 := blk_frozen BK219.out 1; have hfz9_2 := blk_frozen BK219.out 2; have hfz9_3 := blk_frozen BK219.out 3) | ((with_reducible refine gate_callee (f := 32) rfl ?_); refine goesL_ (some 18) rfl rfl Tryd.func32 (by kernel_rfl) rfl #[.string a0, .string (⟨#[32, 9, 10, 13]⟩ : ByteArray)] rfl (by (try simp only [List.map_toArray, List.map_cons, List.map_nil]); first | done | rfl | (simp only [List.length_drop, List.length_take]; rfl)) ?_; (with_reducible refine (jlex_while.calls a0 (⟨#[32, 9, 10, 13]⟩ : ByteArray) t220 _ A4.out).mono ?_); rintro e w10 ⟨rfl, hb⟩; refine ⟨_, rfl, ?_⟩; have n0_ := Aside0.mk (blk_below (g := gb214) (o := .cells #[.int .i64 0, .int .i64 0, .int .i64 0, .int .i64 0] 26 (0, 0)) (by (with_reducible repeat (first | refine blk_drewN ?_ _ | refine blk_drew ?_ | refine blk_alloc ?_ _)); refine blk_far ?_ NB214_219.out _; (with_reducible repeat (first | refine blk_drewN ?_ _ | refine blk_drew ?_ | refine blk_alloc ?_ _)); refine blk_far ?_ NB214_219.out _; (with_reducible repeat (first | refine blk_drewN ?_ _ | refine blk_drew ?_ | refine blk_alloc ?_ _)); refine blk_far ?_ NB214_219.out _; (with_reducible repeat (first | refine blk_drewN ?_ _ | refine blk_drew ?_ | refine blk_alloc ?_ _)); refine blk_far ?_ NB214_219.out _; (with_reducible repeat (first | refine blk_drewN ?_ _ | refine blk_drew ?_ | refine blk_alloc ?_ _)); exact BK214.out) hb); have n1_ := Aside0.mk (blk_below (g := gb219) (o := .cells #[.int .i64 t215, .int .i64 t216, .int .i64 t217, .int .i64 t218] 26 (0, 0)) (by (with_reducible repeat (first | refine blk_drewN ?_ _ | refine blk_drew ?_ | refine blk_alloc ?_ _)); refine blk_put (cs := #[.int .i64 t215, .int .i64 t216, .int .i64 t217, .int .i64 0]) ?_ 3 _ rfl; (with_reducible repeat (first | refine blk_drewN ?_ _ | refine blk_drew ?_ | refine blk_alloc ?_ _)); refine blk_put (cs := #[.int .i64 t215, .int .i64 t216, .int .i64 0, .int .i64 0]) ?_ 2 _ rfl; (with_reducible repeat (first | refine blk_drewN ?_ _ | refine blk_drew ?_ | refine blk_alloc ?_ _)); refine blk_put (cs := #[.int .i64 t215, .int .i64 0, .int .i64 0, .int .i64 0]) ?_ 1 _ rfl; (with_reducible repeat (first | refine blk_drewN ?_ _ | refine blk_drew ?_ | refine blk_alloc ?_ _)); refine blk_put (cs := #[.int .i64 0, .int .i64 0, .int .i64 0, .int .i64 0]) ?_ 0 _ rfl; (with_reducible repeat (first | refine blk_drewN ?_ _ | refine blk_drew ?_ | refine blk_alloc ?_ _)); exact BK219.out) hb); have n2_ := Aside0.mk (below_step (by repeat (first | (with_reducible first | exact HB.out | apply below_alloc | apply pw_below_drewN | apply below_drew1 | refine below_set ?_ GE214.out | refine below_set ?_ GE219.out) | exact HB.out)) hb); clear BK214; clear BK219; clear HB; have BK214 := n0_; have BK219 := n1_; have HB := n2_; clear n0_ n1_ n2_; (try clear hb); (try clear hb2); (try clear hk); (try clear hi)))
    go_loopg [5, 6] k (fun kq v5 v6 w' => ∃ (x5_1 : List (S30)) (x6_1 : Int) (x215000_1 : Int) (x215001_1 : Int) (x215002_1 : Int) (x215003_1 : Int), v6 = .int .i64 x6_1 ∧ Aside0 (jlex_Cut.l0 kq a0 x5_1 x6_1 = some (r1, r2, r3, r4, r5)) ∧ Aside0 (kq ≤ k) ∧ Aside0 (Kd.R k30 30 w' w.heap.size (fun _ => True) v5 x5_1) ∧ Aside0 (w'.heap[gb214]? = some (.cells #[.int .i64 x215000_1, .int .i64 x215001_1, .int .i64 x215002_1, .int .i64 x215003_1] 26 (0, 0))) ∧ Aside0 (w'.heap[gb219]? = some (.cells #[.int .i64 t215, .int .i64 t216, .int .i64 t217, .int .i64 t218] 26 (0, 0))) ∧ Aside0 (Below w.heap.size w w'))
    case atStart => exact ⟨(([] : List (S30))), (t220), (0), (0), (0), (0), (by first | rfl | (simp; done) | (simp [*]; done)), H', ⟨Nat.le_refl _⟩, ⟨by first | exact Kd.R_nil _ _ _ _ _ | exact Kd.N_nil _ _ _ _ _ | exact Kd.V_nil _ _ _ _ _ | exact Kd.Q_nil _ _ _ _ _ | exact Kd.S_nil _ _ _ _ _⟩, ⟨by (with_reducible repeat (first | refine blk_drewN ?_ _ | refine blk_drew ?_ | refine blk_alloc ?_ _)); exact BK214.out⟩, ⟨by (with_reducible repeat (first | refine blk_drewN ?_ _ | refine blk_drew ?_ | refine blk_alloc ?_ _)); exact BK219.out⟩, ⟨by repeat (first | (with_reducible first | exact HB.out | apply below_alloc | apply pw_below_drewN | apply below_drew1 | refine below_set ?_ GE214.out | refine below_set ?_ GE219.out) | exact HB.out)⟩⟩
    case round =>
      clear H'
      try clear c1
      try clear p2
      try clear c3
      try clear c3b0
      try clear c3b1
      try clear c8
      try clear hcz9_0
      try clear hcz9_1
      try clear hcz9_2
      try clear hcz9_3
      try clear hfz9_0
      try clear hfz9_1
      try clear hfz9_2
      try clear hfz9_3
      obtain ⟨x5_1, x6_1, x215000_1, x215001_1, x215002_1, x215003_1, rfl, HA, HK1, HO_5, BK214, BK219, HB⟩ := hrel
      cases gk with
      | zero => exact absurd HA.out (by simp [jlex_Cut.l0])
      | succ k1 =>
        have H := HA.out
        clear HA
        simp only [jlex_Cut.l0] at H
        by_cases c11 : x6_1 < (a0.size : Int)
        · rw [if_pos c11] at H
          have c11b0 : decide (x6_1 < (a0.size : Int)) = true := decide_eq_true c11
          clear c11
          replace H := Option.bind_eq_some_iff.mp H
          obtain ⟨⟨t224, t225, t226, t227, t228, t229⟩, A120, H⟩ := H
          replace H : (if t228 = 0 then (if x5_1.length < 4398046511104 then (if 0 ≤ t227 then (if t227 ≤ (a0.size : Int) then ((jlex_while.f (a0.extract (t227 : Int).toNat a0.size) (⟨#[32, 9, 10, 13]⟩ : ByteArray)).bind fun t234 => (jlex_Cut.l0 k1 a0 (x5_1 ++ [(⟨t224, t225, t226⟩ : S30)]) (wrap64 (t227 + t234)))) else (none)) else (none)) else (none)) else ((place_Fault.f k1 a0 t229 t228).bind fun bt235 => (some (([] : List (S30)), bt235.1, bt235.2.1, bt235.2.2.1, bt235.2.2.2)))) = some (r1, r2, r3, r4, r5) := H
          have A12 := Aside0.mk A120
          clear A120
          by_cases c13 : t228 = 0
          · rw [if_pos c13] at H
            have c13b0 : (t228 == 0) = true := beq_iff_eq.mpr c13
            have c13b1 : (t228 != 0) = false := bne_eq_false_iff_eq.mpr c13
            clear c13
            by_cases c14 : x5_1.length < 4398046511104
            · rw [if_pos c14] at H
              have LMc14 := Aside0.mk c14
              clear c14
              obtain ⟨y231, hy231⟩ : ∃ y_ : List (S30), y_ = (x5_1 ++ [(⟨t224, t225, t226⟩ : S30)]) := ⟨_, rfl⟩
              replace H : (if 0 ≤ t227 then (if t227 ≤ (a0.size : Int) then ((jlex_while.f (a0.extract (t227 : Int).toNat a0.size) (⟨#[32, 9, 10, 13]⟩ : ByteArray)).bind fun t234 => (jlex_Cut.l0 k1 a0 y231 (wrap64 (t227 + t234)))) else (none)) else (none)) = some (r1, r2, r3, r4, r5) := by first | (rw [hy231]; with_reducible exact H) | (have H2_ := (Option.bind_some _ _).symm.trans H; rw [hy231]; with_reducible exact H2_) | (have H2_ := (Option.bind_some _ _).symm.trans H; with_reducible exact H2_) | with_reducible exact H | (rw [hy231]; exact H) | exact H
              have Ny231 := Aside0.mk hy231
              clear hy231
              by_cases c15 : 0 ≤ t227
              · rw [if_pos c15] at H
                have c15b0 := eq_true c15
                have c15b1 : decide (0 ≤ t227) = true := decide_eq_true c15
                clear c15
                by_cases c16 : t227 ≤ (a0.size : Int)
                · rw [if_pos c16] at H
                  have c16b0 := eq_true c16
                  have c16b1 : decide (t227 ≤ (a0.size : Int)) = true := decide_eq_true c16
                  clear c16
                  replace H := Option.bind_eq_some_iff.mp H
                  obtain ⟨t234, A170, H⟩ := H
                  replace H : (jlex_Cut.l0 k1 a0 y231 (wrap64 (t227 + t234))) = some (r1, r2, r3, r4, r5) := H
                  have A17 := Aside0.mk A170
                  clear A170
                  have H' := Aside0.mk H
                  clear H
                  go_wp2_with (first | ((with_reducible refine gate_callee (f := 33) rfl ?_); refine goesL_ (some 26) rfl rfl Tryd.func33 (by kernel_rfl) rfl #[.string a0, .int .i64 x6_1] rfl (by (try simp only [List.map_toArray, List.map_cons, List.map_nil]); first | done | rfl | (simp only [List.length_drop, List.length_take]; rfl)) ?_; (with_reducible refine (jlex_word.calls k1 a0 x6_1 t224 t225 t226 t227 t228 t229 _ A12.out).mono ?_); rintro e w18 ⟨rfl, hb⟩; refine ⟨_, rfl, ?_⟩; have n0_ := Aside0.mk (Kd.R_below (by (with_reducible repeat (first | apply Kd.R_alloc | apply Kd.R_drewN | apply Kd.R_drew)); exact HO_5.out) hb); have n1_ := Aside0.mk (blk_below (g := gb214) (o := .cells #[.int .i64 x215000_1, .int .i64 x215001_1, .int .i64 x215002_1, .int .i64 x215003_1] 26 (0, 0)) (by (with_reducible repeat (first | refine blk_drewN ?_ _ | refine blk_drew ?_ | refine blk_alloc ?_ _)); exact BK214.out) hb); have n2_ := Aside0.mk (blk_below (g := gb219) (o := .cells #[.int .i64 t215, .int .i64 t216, .int .i64 t217, .int .i64 t218] 26 (0, 0)) (by (with_reducible repeat (first | refine blk_drewN ?_ _ | refine blk_drew ?_ | refine blk_alloc ?_ _)); exact BK219.out) hb); have n3_ := Aside0.mk (below_step (by repeat (first | (with_reducible first | exact HB.out | apply below_alloc | apply pw_below_drewN | apply below_drew1 | refine below_set ?_ GE214.out | refine below_set ?_ GE219.out) | exact HB.out)) hb); clear HO_5; clear BK214; clear BK219; clear HB; have HO_5 := n0_; have BK214 := n1_; have BK219 := n2_; have HB := n3_; clear n0_ n1_ n2_ n3_; (try clear hb); (try clear hb2); (try clear hk); (try clear hi)) | ((with_reducible refine gate_dst (N := 7) rfl ?_); refine box_event ?hg (N := 7) ?hd (cs := #[.int .i64 0, .string (⟨#[]⟩ : ByteArray), .int .i64 0]) (t := 30) ?hr ?_; (case hd => rfl); (case hg => rfl); (case hr => first | (go_simp; done) | (go_simp; rfl)); intro gb230 hg w19 hbox hb; have n0_ := Aside0.mk (Kd.R_below (Kd.R_elderB (by (with_reducible repeat (first | apply Kd.R_alloc | apply Kd.R_drewN | apply Kd.R_drew)); exact HO_5.out) gb230 (Nat.le_of_eq hg.symm)) hb); have n1_ := Aside0.mk (blk_below (g := gb214) (o := .cells #[.int .i64 x215000_1, .int .i64 x215001_1, .int .i64 x215002_1, .int .i64 x215003_1] 26 (0, 0)) (by (with_reducible repeat (first | refine blk_drewN ?_ _ | refine blk_drew ?_ | refine blk_alloc ?_ _)); exact BK214.out) hb); have n2_ := Aside0.mk (blk_below (g := gb219) (o := .cells #[.int .i64 t215, .int .i64 t216, .int .i64 t217, .int .i64 t218] 26 (0, 0)) (by (with_reducible repeat (first | refine blk_drewN ?_ _ | refine blk_drew ?_ | refine blk_alloc ?_ _)); exact BK219.out) hb); have n3_ := Aside0.mk (below_step (by repeat (first | (with_reducible first | exact HB.out | apply below_alloc | apply pw_below_drewN | apply below_drew1 | refine below_set ?_ GE214.out | refine below_set ?_ GE219.out) | exact HB.out)) hb); have n4_ := Aside0.mk (hbox); have n5_ := Aside0.mk ((by rw [hg]; exact (below_size (by repeat (first | (with_reducible first | exact HB.out | apply below_alloc | apply pw_below_drewN | apply below_drew1 | refine below_set ?_ GE214.out | refine below_set ?_ GE219.out) | exact HB.out))) : w.heap.size ≤ gb230)); have n6_ := Aside0.mk ((by rw [hg]; exact (below_size (by repeat (first | (with_reducible first | exact HB.out | apply below_alloc | apply pw_below_drewN | apply below_drew1 | refine below_set ?_ GE214.out | refine below_set ?_ GE219.out) | exact HB.out))) : w.heap.size ≤ gb230)); have n7_ := Aside0.mk ((by rw [hg]; exact Nat.ne_of_lt (blk_lt (g := gb214) (o := .cells #[.int .i64 x215000_1, .int .i64 x215001_1, .int .i64 x215002_1, .int .i64 x215003_1] 26 (0, 0)) (by (with_reducible repeat (first | refine blk_drewN ?_ _ | refine blk_drew ?_ | refine blk_alloc ?_ _)); exact BK214.out)) : gb214 ≠ gb230)); have n8_ := Aside0.mk ((by rw [hg]; exact Nat.ne_of_gt (blk_lt (g := gb214) (o := .cells #[.int .i64 x215000_1, .int .i64 x215001_1, .int .i64 x215002_1, .int .i64 x215003_1] 26 (0, 0)) (by (with_reducible repeat (first | refine blk_drewN ?_ _ | refine blk_drew ?_ | refine blk_alloc ?_ _)); exact BK214.out)) : gb230 ≠ gb214)); have n9_ := Aside0.mk ((by rw [hg]; exact Nat.ne_of_lt (blk_lt (g := gb219) (o := .cells #[.int .i64 t215, .int .i64 t216, .int .i64 t217, .int .i64 t218] 26 (0, 0)) (by (with_reducible repeat (first | refine blk_drewN ?_ _ | refine blk_drew ?_ | refine blk_alloc ?_ _)); exact BK219.out)) : gb219 ≠ gb230)); have n10_ := Aside0.mk ((by rw [hg]; exact Nat.ne_of_gt (blk_lt (g := gb219) (o := .cells #[.int .i64 t215, .int .i64 t216, .int .i64 t217, .int .i64 t218] 26 (0, 0)) (by (with_reducible repeat (first | refine blk_drewN ?_ _ | refine blk_drew ?_ | refine blk_alloc ?_ _)); exact BK219.out)) : gb230 ≠ gb219)); clear HO_5; clear BK214; clear BK219; clear HB; have HO_5 := n0_; have BK214 := n1_; have BK219 := n2_; have HB := n3_; have BK230 := n4_; have GW230 := n5_; have GE230 := n6_; have NB214_230 := n7_; have NB230_214 := n8_; have NB219_230 := n9_; have NB230_219 := n10_; clear n0_ n1_ n2_ n3_ n4_ n5_ n6_ n7_ n8_ n9_ n10_; clear hb hbox hg; have hnb20 := NB230_214.out; have hnc20 := NB214_230.out; have hnb21 := NB230_219.out; have hnc21 := NB219_230.out; have hcz22_0 : w19.cell? ⟨gb230, 0, none⟩ = some (.int .i64 0) := (blk_cell BK230.out 0).trans rfl; have hcz22_1 : w19.cell? ⟨gb230, 1, none⟩ = some (.string (⟨#[]⟩ : ByteArray)) := (blk_cell BK230.out 1).trans rfl; have hcz22_2 : w19.cell? ⟨gb230, 2, none⟩ = some (.int .i64 0) := (blk_cell BK230.out 2).trans rfl; have hfz22_0 := blk_frozen BK230.out 0; have hfz22_1 := blk_frozen BK230.out 1; have hfz22_2 := blk_frozen BK230.out 2) | ((with_reducible refine gate_builtin (b := .append) (xs := #[.tmp 37, .tmp 39]) rfl ?_); at_builtin; refine Kd.R_append k30 (w0 := w) w.heap.size rfl (.tmp 37) (.tmp 39) 23 30 (.agg #[(.int .i64 0), (.string ⟨#[]⟩), (.int .i64 0)]) 32 rfl Tryd.underlying23 info30 rfl (by decide) (by omega) u5 x5_1 (⟨t224, t225, t226⟩ : S30) [.int .i64 t224, .string t225, .int .i64 t226] (fun k_ => k_ ≠ gb230) (fun _ => False) rfl (by first | (go_simp; done) | (go_simp; rfl)) ?aP (fun _ hk => hk.elim) ?aF ?aO ?aB ?aS ?aL ?_; (case aP => exact k30_mkM _ _ _ (⟨t224, t225, t226⟩ : S30)); (case aB => exact (by repeat (first | (with_reducible first | exact HB.out | apply below_alloc | apply pw_below_drewN | apply below_drew1 | refine below_set ?_ GE214.out | refine below_set ?_ GE219.out | refine below_set ?_ GE230.out) | exact HB.out))); (case aF => exact (fun k_ hk => Kd.freshB (g := gb230) (o := .cells #[.int .i64 t224, .string t225, .int .i64 t226] 30 (0, 0)) (by (with_reducible repeat (first | refine blk_drewN ?_ _ | refine blk_drew ?_ | refine blk_alloc ?_ _)); refine blk_put (cs := #[.int .i64 t224, .string t225, .int .i64 0]) ?_ 2 _ rfl; (with_reducible repeat (first | refine blk_drewN ?_ _ | refine blk_drew ?_ | refine blk_alloc ?_ _)); refine blk_put (cs := #[.int .i64 t224, .string (⟨#[]⟩ : ByteArray), .int .i64 0]) ?_ 1 _ rfl; (with_reducible repeat (first | refine blk_drewN ?_ _ | refine blk_drew ?_ | refine blk_alloc ?_ _)); refine blk_put (cs := #[.int .i64 0, .string (⟨#[]⟩ : ByteArray), .int .i64 0]) ?_ 0 _ rfl; (with_reducible repeat (first | refine blk_drewN ?_ _ | refine blk_drew ?_ | refine blk_alloc ?_ _)); exact BK230.out) k_ hk)); (case aO => exact (by (with_reducible repeat (first | apply Kd.R_alloc | apply Kd.R_drewN | apply Kd.R_drew)); exact Kd.R_mono (Kd.R_far (p := ⟨gb230, 2, none⟩) (Kd.R_far (p := ⟨gb230, 1, none⟩) (Kd.R_far (p := ⟨gb230, 0, none⟩) (Kd.R_mono HO_5.out (fun k_ hk => (⟨hk, hk.2⟩ : _ ∧ k_ ≠ gb230))) (fun _ hk => hk.2) (.int .i64 t224)) (fun _ hk => hk.2) (.string t225)) (fun _ hk => hk.2) (.int .i64 t226)) (fun _ hk => hk.1.2))); (case aS => exact (below_size (by repeat (first | (with_reducible first | exact HB.out | apply below_alloc | apply pw_below_drewN | apply below_drew1 | refine below_set ?_ GE214.out | refine below_set ?_ GE219.out | refine below_set ?_ GE230.out) | exact HB.out)))); (case aL => have := LMc14.out; omega); intro v232 w23 ho hb hg hat; rw [← Ny231.out] at ho; have n0_ := Aside0.mk (blk_grown (g := gb214) (o := .cells #[.int .i64 x215000_1, .int .i64 x215001_1, .int .i64 x215002_1, .int .i64 x215003_1] 26 (0, 0)) (by (with_reducible repeat (first | refine blk_drewN ?_ _ | refine blk_drew ?_ | refine blk_alloc ?_ _)); refine blk_far ?_ NB214_230.out _; (with_reducible repeat (first | refine blk_drewN ?_ _ | refine blk_drew ?_ | refine blk_alloc ?_ _)); refine blk_far ?_ NB214_230.out _; (with_reducible repeat (first | refine blk_drewN ?_ _ | refine blk_drew ?_ | refine blk_alloc ?_ _)); refine blk_far ?_ NB214_230.out _; (with_reducible repeat (first | refine blk_drewN ?_ _ | refine blk_drew ?_ | refine blk_alloc ?_ _)); exact BK214.out) hg (Kd.R_ne HO_5.out BK214.out (by decide))); have n1_ := Aside0.mk (blk_grown (g := gb219) (o := .cells #[.int .i64 t215, .int .i64 t216, .int .i64 t217, .int .i64 t218] 26 (0, 0)) (by (with_reducible repeat (first | refine blk_drewN ?_ _ | refine blk_drew ?_ | refine blk_alloc ?_ _)); refine blk_far ?_ NB219_230.out _; (with_reducible repeat (first | refine blk_drewN ?_ _ | refine blk_drew ?_ | refine blk_alloc ?_ _)); refine blk_far ?_ NB219_230.out _; (with_reducible repeat (first | refine blk_drewN ?_ _ | refine blk_drew ?_ | refine blk_alloc ?_ _)); refine blk_far ?_ NB219_230.out _; (with_reducible repeat (first | refine blk_drewN ?_ _ | refine blk_drew ?_ | refine blk_alloc ?_ _)); exact BK219.out) hg (Kd.R_ne HO_5.out BK219.out (by decide))); have n2_ := Aside0.mk (blk_grown (g := gb230) (o := .cells #[.int .i64 t224, .string t225, .int .i64 t226] 30 (0, 0)) (by (with_reducible repeat (first | refine blk_drewN ?_ _ | refine blk_drew ?_ | refine blk_alloc ?_ _)); refine blk_put (cs := #[.int .i64 t224, .string t225, .int .i64 0]) ?_ 2 _ rfl; (with_reducible repeat (first | refine blk_drewN ?_ _ | refine blk_drew ?_ | refine blk_alloc ?_ _)); refine blk_put (cs := #[.int .i64 t224, .string (⟨#[]⟩ : ByteArray), .int .i64 0]) ?_ 1 _ rfl; (with_reducible repeat (first | refine blk_drewN ?_ _ | refine blk_drew ?_ | refine blk_alloc ?_ _)); refine blk_put (cs := #[.int .i64 0, .string (⟨#[]⟩ : ByteArray), .int .i64 0]) ?_ 0 _ rfl; (with_reducible repeat (first | refine blk_drewN ?_ _ | refine blk_drew ?_ | refine blk_alloc ?_ _)); exact BK230.out) hg (Kd.R_away HO_5.out (fun _ hk => hk.2))); have n3_ := Aside0.mk (hb); have n4_ := Aside0.mk (ho); clear BK214; clear BK219; clear BK230; clear HB; clear HO_5; have BK214 := n0_; have BK219 := n1_; have BK230 := n2_; have HB := n3_; have HO233 := n4_; clear n0_ n1_ n2_ n3_ n4_; clear ho hb hg hat) | ((with_reducible refine gate_callee (f := 32) rfl ?_); refine goesL_ (some 45) rfl rfl Tryd.func32 (by kernel_rfl) rfl #[.string (a0.extract (t227 : Int).toNat a0.size), .string (⟨#[32, 9, 10, 13]⟩ : ByteArray)] rfl (by (try simp only [List.map_toArray, List.map_cons, List.map_nil]); first | done | rfl | (simp only [List.length_drop, List.length_take]; rfl)) ?_; (with_reducible refine (jlex_while.calls (a0.extract (t227 : Int).toNat a0.size) (⟨#[32, 9, 10, 13]⟩ : ByteArray) t234 _ A17.out).mono ?_); rintro e w24 ⟨rfl, hb⟩; refine ⟨_, rfl, ?_⟩; have n0_ := Aside0.mk (Kd.R_below (by (with_reducible repeat (first | apply Kd.R_alloc | apply Kd.R_drewN | apply Kd.R_drew)); exact HO233.out) hb); have n1_ := Aside0.mk (blk_below (g := gb214) (o := .cells #[.int .i64 x215000_1, .int .i64 x215001_1, .int .i64 x215002_1, .int .i64 x215003_1] 26 (0, 0)) (by (with_reducible repeat (first | refine blk_drewN ?_ _ | refine blk_drew ?_ | refine blk_alloc ?_ _)); exact BK214.out) hb); have n2_ := Aside0.mk (blk_below (g := gb219) (o := .cells #[.int .i64 t215, .int .i64 t216, .int .i64 t217, .int .i64 t218] 26 (0, 0)) (by (with_reducible repeat (first | refine blk_drewN ?_ _ | refine blk_drew ?_ | refine blk_alloc ?_ _)); exact BK219.out) hb); have n3_ := Aside0.mk (blk_below (g := gb230) (o := .cells #[.int .i64 t224, .string t225, .int .i64 t226] 30 (0, 0)) (by (with_reducible repeat (first | refine blk_drewN ?_ _ | refine blk_drew ?_ | refine blk_alloc ?_ _)); exact BK230.out) hb); have n4_ := Aside0.mk (below_step (by repeat (first | (with_reducible first | exact HB.out | apply below_alloc | apply pw_below_drewN | apply below_drew1 | refine below_set ?_ GE214.out | refine below_set ?_ GE219.out | refine below_set ?_ GE230.out) | exact HB.out)) hb); clear HO233; clear BK214; clear BK219; clear BK230; clear HB; have HO233 := n0_; have BK214 := n1_; have BK219 := n2_; have BK230 := n3_; have HB := n4_; clear n0_ n1_ n2_ n3_ n4_; (try clear hb); (try clear hb2); (try clear hk); (try clear hi)))
                  go_roundg k1
                  case measure => have := HK1.out; omega
                  case rel => exact ⟨(y231), (wrap64 (t227 + t234)), (x215000_1), (x215001_1), (x215002_1), (x215003_1), (by first | rfl | (simp; done) | (simp [*]; done)), H', ⟨by have := HK1.out; omega⟩, ⟨by (with_reducible repeat (first | apply Kd.R_alloc | apply Kd.R_drewN | apply Kd.R_drew)); exact Kd.R_mono HO233.out (fun _ hk => trivial)⟩, ⟨by (with_reducible repeat (first | refine blk_drewN ?_ _ | refine blk_drew ?_ | refine blk_alloc ?_ _)); exact BK214.out⟩, ⟨by (with_reducible repeat (first | refine blk_drewN ?_ _ | refine blk_drew ?_ | refine blk_alloc ?_ _)); exact BK219.out⟩, ⟨by repeat (first | (with_reducible first | exact HB.out | apply below_alloc | apply pw_below_drewN | apply below_drew1 | refine below_set ?_ GE214.out | refine below_set ?_ GE219.out | refine below_set ?_ GE230.out) | exact HB.out)⟩⟩
                · rw [if_neg c16] at H
                  exact absurd H (by simp)
              · rw [if_neg c15] at H
                exact absurd H (by simp)
            · rw [if_neg c14] at H
              exact absurd H (by simp)
          · rw [if_neg c13] at H
            have c13b0 : (t228 == 0) = false := beq_eq_false_iff_ne.mpr c13
            have c13b1 : (t228 != 0) = true := bne_iff_ne.mpr c13
            replace H := Option.bind_eq_some_iff.mp H
            obtain ⟨⟨t235, t236, t237, t238⟩, A250, H⟩ := H
            replace H : (some (([] : List (S30)), t235, t236, t237, t238)) = some (r1, r2, r3, r4, r5) := H
            have A25 := Aside0.mk A250
            clear A250
            simp only [Option.some.injEq, Prod.mk.injEq] at H
            obtain ⟨rfl, rfl, rfl, rfl, rfl⟩ := H
            go_wp2_with (first | ((with_reducible refine gate_callee (f := 33) rfl ?_); refine goesL_ (some 26) rfl rfl Tryd.func33 (by kernel_rfl) rfl #[.string a0, .int .i64 x6_1] rfl (by (try simp only [List.map_toArray, List.map_cons, List.map_nil]); first | done | rfl | (simp only [List.length_drop, List.length_take]; rfl)) ?_; (with_reducible refine (jlex_word.calls k1 a0 x6_1 t224 t225 t226 t227 t228 t229 _ A12.out).mono ?_); rintro e w26 ⟨rfl, hb⟩; refine ⟨_, rfl, ?_⟩; have n0_ := Aside0.mk (Kd.R_below (by (with_reducible repeat (first | apply Kd.R_alloc | apply Kd.R_drewN | apply Kd.R_drew)); exact HO_5.out) hb); have n1_ := Aside0.mk (blk_below (g := gb214) (o := .cells #[.int .i64 x215000_1, .int .i64 x215001_1, .int .i64 x215002_1, .int .i64 x215003_1] 26 (0, 0)) (by (with_reducible repeat (first | refine blk_drewN ?_ _ | refine blk_drew ?_ | refine blk_alloc ?_ _)); exact BK214.out) hb); have n2_ := Aside0.mk (blk_below (g := gb219) (o := .cells #[.int .i64 t215, .int .i64 t216, .int .i64 t217, .int .i64 t218] 26 (0, 0)) (by (with_reducible repeat (first | refine blk_drewN ?_ _ | refine blk_drew ?_ | refine blk_alloc ?_ _)); exact BK219.out) hb); have n3_ := Aside0.mk (below_step (by repeat (first | (with_reducible first | exact HB.out | apply below_alloc | apply pw_below_drewN | apply below_drew1 | refine below_set ?_ GE214.out | refine below_set ?_ GE219.out) | exact HB.out)) hb); clear HO_5; clear BK214; clear BK219; clear HB; have HO_5 := n0_; have BK214 := n1_; have BK219 := n2_; have HB := n3_; clear n0_ n1_ n2_ n3_; (try clear hb); (try clear hb2); (try clear hk); (try clear hi)) | ((with_reducible refine gate_dst (N := 7) rfl ?_); refine box_event ?hg (N := 7) ?hd (cs := #[.int .i64 0, .string (⟨#[]⟩ : ByteArray), .int .i64 0]) (t := 30) ?hr ?_; (case hd => rfl); (case hg => rfl); (case hr => first | (go_simp; done) | (go_simp; rfl)); intro gb230 hg w27 hbox hb; have n0_ := Aside0.mk (Kd.R_below (Kd.R_elderB (by (with_reducible repeat (first | apply Kd.R_alloc | apply Kd.R_drewN | apply Kd.R_drew)); exact HO_5.out) gb230 (Nat.le_of_eq hg.symm)) hb); have n1_ := Aside0.mk (blk_below (g := gb214) (o := .cells #[.int .i64 x215000_1, .int .i64 x215001_1, .int .i64 x215002_1, .int .i64 x215003_1] 26 (0, 0)) (by (with_reducible repeat (first | refine blk_drewN ?_ _ | refine blk_drew ?_ | refine blk_alloc ?_ _)); exact BK214.out) hb); have n2_ := Aside0.mk (blk_below (g := gb219) (o := .cells #[.int .i64 t215, .int .i64 t216, .int .i64 t217, .int .i64 t218] 26 (0, 0)) (by (with_reducible repeat (first | refine blk_drewN ?_ _ | refine blk_drew ?_ | refine blk_alloc ?_ _)); exact BK219.out) hb); have n3_ := Aside0.mk (below_step (by repeat (first | (with_reducible first | exact HB.out | apply below_alloc | apply pw_below_drewN | apply below_drew1 | refine below_set ?_ GE214.out | refine below_set ?_ GE219.out) | exact HB.out)) hb); have n4_ := Aside0.mk (hbox); have n5_ := Aside0.mk ((by rw [hg]; exact (below_size (by repeat (first | (with_reducible first | exact HB.out | apply below_alloc | apply pw_below_drewN | apply below_drew1 | refine below_set ?_ GE214.out | refine below_set ?_ GE219.out) | exact HB.out))) : w.heap.size ≤ gb230)); have n6_ := Aside0.mk ((by rw [hg]; exact (below_size (by repeat (first | (with_reducible first | exact HB.out | apply below_alloc | apply pw_below_drewN | apply below_drew1 | refine below_set ?_ GE214.out | refine below_set ?_ GE219.out) | exact HB.out))) : w.heap.size ≤ gb230)); have n7_ := Aside0.mk ((by rw [hg]; exact Nat.ne_of_lt (blk_lt (g := gb214) (o := .cells #[.int .i64 x215000_1, .int .i64 x215001_1, .int .i64 x215002_1, .int .i64 x215003_1] 26 (0, 0)) (by (with_reducible repeat (first | refine blk_drewN ?_ _ | refine blk_drew ?_ | refine blk_alloc ?_ _)); exact BK214.out)) : gb214 ≠ gb230)); have n8_ := Aside0.mk ((by rw [hg]; exact Nat.ne_of_gt (blk_lt (g := gb214) (o := .cells #[.int .i64 x215000_1, .int .i64 x215001_1, .int .i64 x215002_1, .int .i64 x215003_1] 26 (0, 0)) (by (with_reducible repeat (first | refine blk_drewN ?_ _ | refine blk_drew ?_ | refine blk_alloc ?_ _)); exact BK214.out)) : gb230 ≠ gb214)); have n9_ := Aside0.mk ((by rw [hg]; exact Nat.ne_of_lt (blk_lt (g := gb219) (o := .cells #[.int .i64 t215, .int .i64 t216, .int .i64 t217, .int .i64 t218] 26 (0, 0)) (by (with_reducible repeat (first | refine blk_drewN ?_ _ | refine blk_drew ?_ | refine blk_alloc ?_ _)); exact BK219.out)) : gb219 ≠ gb230)); have n10_ := Aside0.mk ((by rw [hg]; exact Nat.ne_of_gt (blk_lt (g := gb219) (o := .cells #[.int .i64 t215, .int .i64 t216, .int .i64 t217, .int .i64 t218] 26 (0, 0)) (by (with_reducible repeat (first | refine blk_drewN ?_ _ | refine blk_drew ?_ | refine blk_alloc ?_ _)); exact BK219.out)) : gb230 ≠ gb219)); clear HO_5; clear BK214; clear BK219; clear HB; have HO_5 := n0_; have BK214 := n1_; have BK219 := n2_; have HB := n3_; have BK230 := n4_; have GW230 := n5_; have GE230 := n6_; have NB214_230 := n7_; have NB230_214 := n8_; have NB219_230 := n9_; have NB230_219 := n10_; clear n0_ n1_ n2_ n3_ n4_ n5_ n6_ n7_ n8_ n9_ n10_; clear hb hbox hg; have hnb28 := NB230_214.out; have hnc28 := NB214_230.out; have hnb29 := NB230_219.out; have hnc29 := NB219_230.out; have hcz30_0 : w27.cell? ⟨gb230, 0, none⟩ = some (.int .i64 0) := (blk_cell BK230.out 0).trans rfl; have hcz30_1 : w27.cell? ⟨gb230, 1, none⟩ = some (.string (⟨#[]⟩ : ByteArray)) := (blk_cell BK230.out 1).trans rfl; have hcz30_2 : w27.cell? ⟨gb230, 2, none⟩ = some (.int .i64 0) := (blk_cell BK230.out 2).trans rfl; have hfz30_0 := blk_frozen BK230.out 0; have hfz30_1 := blk_frozen BK230.out 1; have hfz30_2 := blk_frozen BK230.out 2) | ((with_reducible refine gate_callee (f := 34) rfl ?_); refine goesL_ (some 36) rfl rfl Tryd.func34 (by kernel_rfl) rfl #[.string a0, .int .i64 t229, .int .i64 t228] rfl (by (try simp only [List.map_toArray, List.map_cons, List.map_nil]); first | done | rfl | (simp only [List.length_drop, List.length_take]; rfl)) ?_; (with_reducible refine (place_Fault.calls k1 a0 t229 t228 t235 t236 t237 t238 _ A25.out).mono ?_); rintro e w31 ⟨rfl, hb⟩; refine ⟨_, rfl, ?_⟩; have n0_ := Aside0.mk (Kd.R_below (by (with_reducible repeat (first | apply Kd.R_alloc | apply Kd.R_drewN | apply Kd.R_drew)); exact (Kd.R_mono (Kd.R_far (p := ⟨gb230, 2, none⟩) (Kd.R_far (p := ⟨gb230, 1, none⟩) (Kd.R_far (p := ⟨gb230, 0, none⟩) (Kd.R_mono HO_5.out (fun k_ hk => (⟨hk, hk.2⟩ : _ ∧ k_ ≠ gb230))) (fun _ hk => hk.2) (.int .i64 t224)) (fun _ hk => hk.2) (.string t225)) (fun _ hk => hk.2) (.int .i64 t226)) (fun _ h_ => h_.1))) hb); have n1_ := Aside0.mk (blk_below (g := gb214) (o := .cells #[.int .i64 x215000_1, .int .i64 x215001_1, .int .i64 x215002_1, .int .i64 x215003_1] 26 (0, 0)) (by (with_reducible repeat (first | refine blk_drewN ?_ _ | refine blk_drew ?_ | refine blk_alloc ?_ _)); refine blk_far ?_ NB214_230.out _; (with_reducible repeat (first | refine blk_drewN ?_ _ | refine blk_drew ?_ | refine blk_alloc ?_ _)); refine blk_far ?_ NB214_230.out _; (with_reducible repeat (first | refine blk_drewN ?_ _ | refine blk_drew ?_ | refine blk_alloc ?_ _)); refine blk_far ?_ NB214_230.out _; (with_reducible repeat (first | refine blk_drewN ?_ _ | refine blk_drew ?_ | refine blk_alloc ?_ _)); exact BK214.out) hb); have n2_ := Aside0.mk (blk_below (g := gb219) (o := .cells #[.int .i64 t215, .int .i64 t216, .int .i64 t217, .int .i64 t218] 26 (0, 0)) (by (with_reducible repeat (first | refine blk_drewN ?_ _ | refine blk_drew ?_ | refine blk_alloc ?_ _)); refine blk_far ?_ NB219_230.out _; (with_reducible repeat (first | refine blk_drewN ?_ _ | refine blk_drew ?_ | refine blk_alloc ?_ _)); refine blk_far ?_ NB219_230.out _; (with_reducible repeat (first | refine blk_drewN ?_ _ | refine blk_drew ?_ | refine blk_alloc ?_ _)); refine blk_far ?_ NB219_230.out _; (with_reducible repeat (first | refine blk_drewN ?_ _ | refine blk_drew ?_ | refine blk_alloc ?_ _)); exact BK219.out) hb); have n3_ := Aside0.mk (blk_below (g := gb230) (o := .cells #[.int .i64 t224, .string t225, .int .i64 t226] 30 (0, 0)) (by (with_reducible repeat (first | refine blk_drewN ?_ _ | refine blk_drew ?_ | refine blk_alloc ?_ _)); refine blk_put (cs := #[.int .i64 t224, .string t225, .int .i64 0]) ?_ 2 _ rfl; (with_reducible repeat (first | refine blk_drewN ?_ _ | refine blk_drew ?_ | refine blk_alloc ?_ _)); refine blk_put (cs := #[.int .i64 t224, .string (⟨#[]⟩ : ByteArray), .int .i64 0]) ?_ 1 _ rfl; (with_reducible repeat (first | refine blk_drewN ?_ _ | refine blk_drew ?_ | refine blk_alloc ?_ _)); refine blk_put (cs := #[.int .i64 0, .string (⟨#[]⟩ : ByteArray), .int .i64 0]) ?_ 0 _ rfl; (with_reducible repeat (first | refine blk_drewN ?_ _ | refine blk_drew ?_ | refine blk_alloc ?_ _)); exact BK230.out) hb); have n4_ := Aside0.mk (below_step (by repeat (first | (with_reducible first | exact HB.out | apply below_alloc | apply pw_below_drewN | apply below_drew1 | refine below_set ?_ GE214.out | refine below_set ?_ GE219.out | refine below_set ?_ GE230.out) | exact HB.out)) hb); clear HO_5; clear BK214; clear BK219; clear BK230; clear HB; have HO_5 := n0_; have BK214 := n1_; have BK219 := n2_; have BK230 := n3_; have HB := n4_; clear n0_ n1_ n2_ n3_ n4_; (try clear hb); (try clear hb2); (try clear hk); (try clear hi); have hnb32 := NB214_219.out; have hnc32 := NB219_214.out; have hcz33_0 : w31.cell? ⟨gb214, 0, none⟩ = some (.int .i64 x215000_1) := (blk_cell BK214.out 0).trans rfl; have hcz33_1 : w31.cell? ⟨gb214, 1, none⟩ = some (.int .i64 x215001_1) := (blk_cell BK214.out 1).trans rfl; have hcz33_2 : w31.cell? ⟨gb214, 2, none⟩ = some (.int .i64 x215002_1) := (blk_cell BK214.out 2).trans rfl; have hcz33_3 : w31.cell? ⟨gb214, 3, none⟩ = some (.int .i64 x215003_1) := (blk_cell BK214.out 3).trans rfl; have hfz33_0 := blk_frozen BK214.out 0; have hfz33_1 := blk_frozen BK214.out 1; have hfz33_2 := blk_frozen BK214.out 2; have hfz33_3 := blk_frozen BK214.out 3))
            refine bodyPost_ret (results_tc rfl _ _ gb214 26 #[.int .i64 t235, .int .i64 t236, .int .i64 t237, .int .i64 t238] (0, 0) _ rfl (by (with_reducible repeat (first | refine blk_drewN ?_ _ | refine blk_drew ?_ | refine blk_alloc ?_ _)); refine blk_put (cs := #[.int .i64 t235, .int .i64 t236, .int .i64 t237, .int .i64 x215003_1]) ?_ 3 _ rfl; (with_reducible repeat (first | refine blk_drewN ?_ _ | refine blk_drew ?_ | refine blk_alloc ?_ _)); refine blk_put (cs := #[.int .i64 t235, .int .i64 t236, .int .i64 x215002_1, .int .i64 x215003_1]) ?_ 2 _ rfl; (with_reducible repeat (first | refine blk_drewN ?_ _ | refine blk_drew ?_ | refine blk_alloc ?_ _)); refine blk_put (cs := #[.int .i64 t235, .int .i64 x215001_1, .int .i64 x215002_1, .int .i64 x215003_1]) ?_ 1 _ rfl; (with_reducible repeat (first | refine blk_drewN ?_ _ | refine blk_drew ?_ | refine blk_alloc ?_ _)); refine blk_put (cs := #[.int .i64 x215000_1, .int .i64 x215001_1, .int .i64 x215002_1, .int .i64 x215003_1]) ?_ 0 _ rfl; (with_reducible repeat (first | refine blk_drewN ?_ _ | refine blk_drew ?_ | refine blk_alloc ?_ _)); exact BK214.out) Tryd.underlying26 rfl (by kernel_rfl)) rfl ?_
            exact ⟨_, by first | rfl | (simp [errW_none, errW_some] <;> rfl) | (simp [*, errW_none, errW_some, bne]; done) | (simp [*, errW_none, errW_some] <;> rfl), by first | exact Kd.R_nil _ _ _ _ _ | exact Kd.N_nil _ _ _ _ _ | exact Kd.V_nil _ _ _ _ _ | exact Kd.Q_nil _ _ _ _ _ | exact Kd.S_nil _ _ _ _ _, by repeat (first | (with_reducible first | exact HB.out | apply below_alloc | apply pw_below_drewN | apply below_drew1 | refine below_set ?_ GE214.out | refine below_set ?_ GE219.out | refine below_set ?_ GE230.out) | exact HB.out)⟩
        · rw [if_neg c11] at H
          have c11b0 : decide (x6_1 < (a0.size : Int)) = false := decide_eq_false c11
          clear c11
          by_cases c34 : x5_1.length < 4398046511104
          · rw [if_pos c34] at H
            have LMc34 := Aside0.mk c34
            clear c34
            obtain ⟨y221, hy221⟩ : ∃ y_ : List (S30), y_ = (x5_1 ++ [(⟨0, (⟨#[]⟩ : ByteArray), (a0.size : Int)⟩ : S30)]) := ⟨_, rfl⟩
            replace H : (some (y221, 0, 0, 0, 0)) = some (r1, r2, r3, r4, r5) := by first | (rw [hy221]; with_reducible exact H) | (have H2_ := (Option.bind_some _ _).symm.trans H; rw [hy221]; with_reducible exact H2_) | (have H2_ := (Option.bind_some _ _).symm.trans H; with_reducible exact H2_) | with_reducible exact H | (rw [hy221]; exact H) | exact H
            have Ny221 := Aside0.mk hy221
            clear hy221
            simp only [Option.some.injEq, Prod.mk.injEq] at H
            obtain ⟨rfl, rfl, rfl, rfl, rfl⟩ := H
            go_wp2_with (first | ((with_reducible refine gate_builtin (b := .append) (xs := #[.tmp 47, .tmp 51]) rfl ?_); at_builtin; refine Kd.R_append k30 (w0 := w) w.heap.size rfl (.tmp 47) (.tmp 51) 23 30 (.agg #[(.int .i64 0), (.string ⟨#[]⟩), (.int .i64 0)]) 32 rfl Tryd.underlying23 info30 rfl (by decide) (by omega) u5 x5_1 (⟨0, (⟨#[]⟩ : ByteArray), (a0.size : Int)⟩ : S30) [.int .i64 0, .string (⟨#[]⟩ : ByteArray), .int .i64 (a0.size : Int)] (fun _ => True) (fun _ => False) rfl rfl ?aP (fun _ hk => hk.elim) ?aF ?aO ?aB ?aS ?aL ?_; (case aP => exact k30_mkM _ _ _ (⟨0, (⟨#[]⟩ : ByteArray), (a0.size : Int)⟩ : S30)); (case aB => exact (by repeat (first | (with_reducible first | exact HB.out | apply below_alloc | apply pw_below_drewN | apply below_drew1 | refine below_set ?_ GE214.out | refine below_set ?_ GE219.out) | exact HB.out))); (case aF => exact (fun _ _ => trivial)); (case aO => exact (by (with_reducible repeat (first | apply Kd.R_alloc | apply Kd.R_drewN | apply Kd.R_drew)); exact HO_5.out)); (case aS => exact (below_size (by repeat (first | (with_reducible first | exact HB.out | apply below_alloc | apply pw_below_drewN | apply below_drew1 | refine below_set ?_ GE214.out | refine below_set ?_ GE219.out) | exact HB.out)))); (case aL => have := LMc34.out; omega); intro v222 w35 ho hb hg hat; rw [← Ny221.out] at ho; have n0_ := Aside0.mk (blk_grown (g := gb214) (o := .cells #[.int .i64 x215000_1, .int .i64 x215001_1, .int .i64 x215002_1, .int .i64 x215003_1] 26 (0, 0)) (by (with_reducible repeat (first | refine blk_drewN ?_ _ | refine blk_drew ?_ | refine blk_alloc ?_ _)); exact BK214.out) hg (Kd.R_ne HO_5.out BK214.out (by decide))); have n1_ := Aside0.mk (blk_grown (g := gb219) (o := .cells #[.int .i64 t215, .int .i64 t216, .int .i64 t217, .int .i64 t218] 26 (0, 0)) (by (with_reducible repeat (first | refine blk_drewN ?_ _ | refine blk_drew ?_ | refine blk_alloc ?_ _)); exact BK219.out) hg (Kd.R_ne HO_5.out BK219.out (by decide))); have n2_ := Aside0.mk (hb); have n3_ := Aside0.mk (ho); clear BK214; clear BK219; clear HB; clear HO_5; have BK214 := n0_; have BK219 := n1_; have HB := n2_; have HO223 := n3_; clear n0_ n1_ n2_ n3_; clear ho hb hg hat; have hnb36 := NB214_219.out; have hnc36 := NB219_214.out; have hcz37_0 : w35.cell? ⟨gb214, 0, none⟩ = some (.int .i64 x215000_1) := (blk_cell BK214.out 0).trans rfl; have hcz37_1 : w35.cell? ⟨gb214, 1, none⟩ = some (.int .i64 x215001_1) := (blk_cell BK214.out 1).trans rfl; have hcz37_2 : w35.cell? ⟨gb214, 2, none⟩ = some (.int .i64 x215002_1) := (blk_cell BK214.out 2).trans rfl; have hcz37_3 : w35.cell? ⟨gb214, 3, none⟩ = some (.int .i64 x215003_1) := (blk_cell BK214.out 3).trans rfl; have hfz37_0 := blk_frozen BK214.out 0; have hfz37_1 := blk_frozen BK214.out 1; have hfz37_2 := blk_frozen BK214.out 2; have hfz37_3 := blk_frozen BK214.out 3))
            refine bodyPost_ret (results_tc rfl _ _ gb214 26 #[.int .i64 0, .int .i64 0, .int .i64 0, .int .i64 0] (0, 0) _ rfl (by (with_reducible repeat (first | refine blk_drewN ?_ _ | refine blk_drew ?_ | refine blk_alloc ?_ _)); refine blk_put (cs := #[.int .i64 0, .int .i64 0, .int .i64 0, .int .i64 x215003_1]) ?_ 3 _ rfl; (with_reducible repeat (first | refine blk_drewN ?_ _ | refine blk_drew ?_ | refine blk_alloc ?_ _)); refine blk_put (cs := #[.int .i64 0, .int .i64 0, .int .i64 x215002_1, .int .i64 x215003_1]) ?_ 2 _ rfl; (with_reducible repeat (first | refine blk_drewN ?_ _ | refine blk_drew ?_ | refine blk_alloc ?_ _)); refine blk_put (cs := #[.int .i64 0, .int .i64 x215001_1, .int .i64 x215002_1, .int .i64 x215003_1]) ?_ 1 _ rfl; (with_reducible repeat (first | refine blk_drewN ?_ _ | refine blk_drew ?_ | refine blk_alloc ?_ _)); refine blk_put (cs := #[.int .i64 x215000_1, .int .i64 x215001_1, .int .i64 x215002_1, .int .i64 x215003_1]) ?_ 0 _ rfl; (with_reducible repeat (first | refine blk_drewN ?_ _ | refine blk_drew ?_ | refine blk_alloc ?_ _)); exact BK214.out) Tryd.underlying26 rfl (by kernel_rfl)) rfl ?_
            exact ⟨_, by first | rfl | (simp [errW_none, errW_some] <;> rfl) | (simp [*, errW_none, errW_some, bne]; done) | (simp [*, errW_none, errW_some] <;> rfl), by (with_reducible repeat (first | apply Kd.R_alloc | apply Kd.R_drewN | apply Kd.R_drew)); exact Kd.R_mono (Kd.R_far (p := ⟨gb214, 3, none⟩) (Kd.R_far (p := ⟨gb214, 2, none⟩) (Kd.R_far (p := ⟨gb214, 1, none⟩) (Kd.R_far (p := ⟨gb214, 0, none⟩) (Kd.R_types HO223.out BK214.out (by decide)) (fun _ hk => hk.2) (.int .i64 0)) (fun _ hk => hk.2) (.int .i64 0)) (fun _ hk => hk.2) (.int .i64 0)) (fun _ hk => hk.2) (.int .i64 0)) (fun _ hk => trivial), by repeat (first | (with_reducible first | exact HB.out | apply below_alloc | apply pw_below_drewN | apply below_drew1 | refine below_set ?_ GE214.out | refine below_set ?_ GE219.out) | exact HB.out)⟩
          · rw [if_neg c34] at H
            exact absurd H (by simp)
  · rw [if_neg c3] at H
    have c3b0 : (t215 == 0) = false := beq_eq_false_iff_ne.mpr c3
    have c3b1 : (t215 != 0) = true := bne_iff_ne.mpr c3
    simp only [Option.some.injEq, Prod.mk.injEq] at H
    obtain ⟨rfl, rfl, rfl, rfl, rfl⟩ := H
    go_enter Tryd.func13, Tryd.ntmps13
    try go_wp2_with (first | ((with_reducible refine gate_dst (N := 3) rfl ?_); refine box_event ?hg (N := 3) ?hd (cs := #[.int .i64 0, .int .i64 0, .int .i64 0, .int .i64 0]) (t := 26) ?hr ?_; (case hd => rfl); (case hg => rfl); (case hr => first | (go_simp; done) | (go_simp; rfl)); intro gb214 hg w38 hbox hb; have n0_ := Aside0.mk (below_step (by repeat (first | (with_reducible first | exact HB.out | apply below_alloc | apply pw_below_drewN | apply below_drew1) | exact HB.out)) hb); have n1_ := Aside0.mk (hbox); have n2_ := Aside0.mk ((by rw [hg]; exact (below_size (by repeat (first | (with_reducible first | exact HB.out | apply below_alloc | apply pw_below_drewN | apply below_drew1) | exact HB.out))) : w.heap.size ≤ gb214)); have n3_ := Aside0.mk ((by rw [hg]; exact (below_size (by repeat (first | (with_reducible first | exact HB.out | apply below_alloc | apply pw_below_drewN | apply below_drew1) | exact HB.out))) : w.heap.size ≤ gb214)); clear HB; have HB := n0_; have BK214 := n1_; have GW214 := n2_; have GE214 := n3_; clear n0_ n1_ n2_ n3_; clear hb hbox hg) | ((with_reducible refine gate_callee (f := 31) rfl ?_); refine goesL_ (some 12) rfl rfl Tryd.func31 (by kernel_rfl) rfl #[.string a0] rfl (by (try simp only [List.map_toArray, List.map_cons, List.map_nil]); first | done | rfl | (simp only [List.length_drop, List.length_take]; rfl)) ?_; (with_reducible refine (jlex_Judge.calls k a0 t215 t216 t217 t218 _ A2.out).mono ?_); rintro e w39 ⟨rfl, hb⟩; refine ⟨_, rfl, ?_⟩; have n0_ := Aside0.mk (blk_below (g := gb214) (o := .cells #[.int .i64 0, .int .i64 0, .int .i64 0, .int .i64 0] 26 (0, 0)) (by (with_reducible repeat (first | refine blk_drewN ?_ _ | refine blk_drew ?_ | refine blk_alloc ?_ _)); exact BK214.out) hb); have n1_ := Aside0.mk (below_step (by repeat (first | (with_reducible first | exact HB.out | apply below_alloc | apply pw_below_drewN | apply below_drew1 | refine below_set ?_ GE214.out) | exact HB.out)) hb); clear BK214; clear HB; have BK214 := n0_; have HB := n1_; clear n0_ n1_; (try clear hb); (try clear hb2); (try clear hk); (try clear hi)) | ((with_reducible refine gate_dst (N := 4) rfl ?_); refine box_event ?hg (N := 4) ?hd (cs := #[.int .i64 0, .int .i64 0, .int .i64 0, .int .i64 0]) (t := 26) ?hr ?_; (case hd => rfl); (case hg => rfl); (case hr => first | (go_simp; done) | (go_simp; rfl)); intro gb219 hg w40 hbox hb; have n0_ := Aside0.mk (blk_below (g := gb214) (o := .cells #[.int .i64 0, .int .i64 0, .int .i64 0, .int .i64 0] 26 (0, 0)) (by (with_reducible repeat (first | refine blk_drewN ?_ _ | refine blk_drew ?_ | refine blk_alloc ?_ _)); exact BK214.out) hb); have n1_ := Aside0.mk (below_step (by repeat (first | (with_reducible first | exact HB.out | apply below_alloc | apply pw_below_drewN | apply below_drew1 | refine below_set ?_ GE214.out) | exact HB.out)) hb); have n2_ := Aside0.mk (hbox); have n3_ := Aside0.mk ((by rw [hg]; exact (below_size (by repeat (first | (with_reducible first | exact HB.out | apply below_alloc | apply pw_below_drewN | apply below_drew1 | refine below_set ?_ GE214.out) | exact HB.out))) : w.heap.size ≤ gb219)); have n4_ := Aside0.mk ((by rw [hg]; exact (below_size (by repeat (first | (with_reducible first | exact HB.out | apply below_alloc | apply pw_below_drewN | apply below_drew1 | refine below_set ?_ GE214.out) | exact HB.out))) : w.heap.size ≤ gb219)); have n5_ := Aside0.mk ((by rw [hg]; exact Nat.ne_of_lt (blk_lt (g := gb214) (o := .cells #[.int .i64 0, .int .i64 0, .int .i64 0, .int .i64 0] 26 (0, 0)) (by (with_reducible repeat (first | refine blk_drewN ?_ _ | refine blk_drew ?_ | refine blk_alloc ?_ _)); exact BK214.out)) : gb214 ≠ gb219)); have n6_ := Aside0.mk ((by rw [hg]; exact Nat.ne_of_gt (blk_lt (g := gb214) (o := .cells #[.int .i64 0, .int .i64 0, .int .i64 0, .int .i64 0] 26 (0, 0)) (by (with_reducible repeat (first | refine blk_drewN ?_ _ | refine blk_drew ?_ | refine blk_alloc ?_ _)); exact BK214.out)) : gb219 ≠ gb214)); clear BK214; clear HB; have BK214 := n0_; have HB := n1_; have BK219 := n2_; have GW219 := n3_; have GE219 := n4_; have NB214_219 := n5_; have NB219_214 := n6_; clear n0_ n1_ n2_ n3_ n4_ n5_ n6_; clear hb hbox hg; have hnb41 := NB219_214.out; have hnc41 := NB214_219.out; have hcz42_0 : w40.cell? ⟨gb219, 0, none⟩ = some (.int .i64 0) := (blk_cell BK219.out 0).trans rfl; have hcz42_1 : w40.cell? ⟨gb219, 1, none⟩ = some (.int .i64 0) := (blk_cell BK219.out 1).trans rfl; have hcz42_2 : w40.cell? ⟨gb219, 2, none⟩ = some (.int .i64 0) := (blk_cell BK219.out 2).trans rfl; have hcz42_3 : w40.cell? ⟨gb219, 3, none⟩ = some (.int .i64 0) := (blk_cell BK219.out 3).trans rfl; have hfz42_0 := blk_frozen BK219.out 0; have hfz42_1 := blk_frozen BK219.out 1; have hfz42_2 := blk_frozen BK219.out 2; have hfz42_3 := blk_frozen BK219.out 3))
    have n0_ : Aside0 (((((w40.setCell ⟨gb219, 0, none⟩ (.int .i64 t215)).setCell ⟨gb219, 1, none⟩ (.int .i64 t216)).setCell ⟨gb219, 2, none⟩ (.int .i64 t217)).setCell ⟨gb219, 3, none⟩ (.int .i64 t218)).heap[gb214]? = some (.cells #[.int .i64 0, .int .i64 0, .int .i64 0, .int .i64 0] 26 (0, 0))) := ⟨by (with_reducible repeat (first | refine blk_drewN ?_ _ | refine blk_drew ?_ | refine blk_alloc ?_ _)); refine blk_far ?_ NB214_219.out _; (with_reducible repeat (first | refine blk_drewN ?_ _ | refine blk_drew ?_ | refine blk_alloc ?_ _)); refine blk_far ?_ NB214_219.out _; (with_reducible repeat (first | refine blk_drewN ?_ _ | refine blk_drew ?_ | refine blk_alloc ?_ _)); refine blk_far ?_ NB214_219.out _; (with_reducible repeat (first | refine blk_drewN ?_ _ | refine blk_drew ?_ | refine blk_alloc ?_ _)); refine blk_far ?_ NB214_219.out _; (with_reducible repeat (first | refine blk_drewN ?_ _ | refine blk_drew ?_ | refine blk_alloc ?_ _)); exact BK214.out⟩
    have n1_ : Aside0 (((((w40.setCell ⟨gb219, 0, none⟩ (.int .i64 t215)).setCell ⟨gb219, 1, none⟩ (.int .i64 t216)).setCell ⟨gb219, 2, none⟩ (.int .i64 t217)).setCell ⟨gb219, 3, none⟩ (.int .i64 t218)).heap[gb219]? = some (.cells #[.int .i64 t215, .int .i64 t216, .int .i64 t217, .int .i64 t218] 26 (0, 0))) := ⟨by (with_reducible repeat (first | refine blk_drewN ?_ _ | refine blk_drew ?_ | refine blk_alloc ?_ _)); refine blk_put (cs := #[.int .i64 t215, .int .i64 t216, .int .i64 t217, .int .i64 0]) ?_ 3 _ rfl; (with_reducible repeat (first | refine blk_drewN ?_ _ | refine blk_drew ?_ | refine blk_alloc ?_ _)); refine blk_put (cs := #[.int .i64 t215, .int .i64 t216, .int .i64 0, .int .i64 0]) ?_ 2 _ rfl; (with_reducible repeat (first | refine blk_drewN ?_ _ | refine blk_drew ?_ | refine blk_alloc ?_ _)); refine blk_put (cs := #[.int .i64 t215, .int .i64 0, .int .i64 0, .int .i64 0]) ?_ 1 _ rfl; (with_reducible repeat (first | refine blk_drewN ?_ _ | refine blk_drew ?_ | refine blk_alloc ?_ _)); refine blk_put (cs := #[.int .i64 0, .int .i64 0, .int .i64 0, .int .i64 0]) ?_ 0 _ rfl; (with_reducible repeat (first | refine blk_drewN ?_ _ | refine blk_drew ?_ | refine blk_alloc ?_ _)); exact BK219.out⟩
    have n2_ : Aside0 (Below w.heap.size w ((((w40.setCell ⟨gb219, 0, none⟩ (.int .i64 t215)).setCell ⟨gb219, 1, none⟩ (.int .i64 t216)).setCell ⟨gb219, 2, none⟩ (.int .i64 t217)).setCell ⟨gb219, 3, none⟩ (.int .i64 t218))) := ⟨by repeat (first | (with_reducible first | exact HB.out | apply below_alloc | apply pw_below_drewN | apply below_drew1 | refine below_set ?_ GE214.out | refine below_set ?_ GE219.out) | exact HB.out)⟩
    (try clear BK214)
    (try clear BK219)
    (try clear HB)
    generalize ((((w40.setCell ⟨gb219, 0, none⟩ (.int .i64 t215)).setCell ⟨gb219, 1, none⟩ (.int .i64 t216)).setCell ⟨gb219, 2, none⟩ (.int .i64 t217)).setCell ⟨gb219, 3, none⟩ (.int .i64 t218)) = w43 at n0_ n1_ n2_ ⊢
    have BK214 := n0_
    have BK219 := n1_
    have HB := n2_
    clear n0_ n1_ n2_
    have n0_ := Aside0.mk (blk_drew BK214.out)
    have n1_ := Aside0.mk (blk_drew BK219.out)
    have n2_ := Aside0.mk (below_drew1 HB.out)
    clear BK214
    clear BK219
    clear HB
    have BK214 := n0_
    have BK219 := n1_
    have HB := n2_
    clear n0_ n1_ n2_
    refine start_ (n := 3) (S := fun w' => w'.cell? ⟨gb219, 0, none⟩ = some (.int .i64 t215) ∧ w'.cell? ⟨gb219, 1, none⟩ = some (.int .i64 t216) ∧ w'.cell? ⟨gb219, 2, none⟩ = some (.int .i64 t217) ∧ w'.cell? ⟨gb219, 3, none⟩ = some (.int .i64 t218)) (ds := []) #[false, false, false] (by kernel_rfl) rfl rfl ⟨(blk_cell BK219.out 0).trans rfl, (blk_cell BK219.out 1).trans rfl, (blk_cell BK219.out 2).trans rfl, (blk_cell BK219.out 3).trans rfl⟩ (fun hHeld => ?_)
    generalize w43.drew = w44 at BK214 BK219 HB hHeld ⊢
    refine pure_ (i := 1) (N := some 2) (v := ?_) (a' := ?_) #[false, true, false] rfl rfl (by kernel_rfl) (fun _ _ _ h => h) (Or.inl ⟨by rfl, ?_⟩) ?_ ?_
    rotate_left
    · intro w'
      go_simp
      with_reducible rfl
    rotate_left
    · simp only [Act.put, List.setIfInBounds_toArray, List.set_cons_zero, List.set_cons_succ, i64_w, i32_w]
      rfl
    refine take_ (i := 0) (N := some 16) (v := ?_) (a' := ?_) #[true, true, false] rfl rfl (by kernel_rfl) (fun _ _ _ h => h) (Or.inl ⟨by rfl, ?_⟩) hHeld ?_ ?_
    rotate_left
    · rintro w' ⟨s0, s1, s2, s3⟩
      go_simp
      with_reducible rfl
    rotate_left
    · simp only [Act.put, List.setIfInBounds_toArray, List.set_cons_zero, List.set_cons_succ, i64_w, i32_w]
      rfl
    refine one_ (i := 2) (N := none) #[true, true, true] rfl rfl (by kernel_rfl) (by decide) (fun K hK => ?_)
    have hs45 : w44.cell? ⟨gb214, 0, none⟩ = some (.int .i64 0) := (blk_cell BK214.out 0).trans rfl
    have hfs45 := blk_frozen BK214.out 0
    have hns45_1 := NB219_214.out
    have hms45_1 := NB214_219.out
    have hs46 : w44.cell? ⟨gb214, 1, none⟩ = some (.int .i64 0) := (blk_cell BK214.out 1).trans rfl
    have hfs46 := blk_frozen BK214.out 1
    have hns46_1 := NB219_214.out
    have hms46_1 := NB214_219.out
    have hs47 : w44.cell? ⟨gb214, 2, none⟩ = some (.int .i64 0) := (blk_cell BK214.out 2).trans rfl
    have hfs47 := blk_frozen BK214.out 2
    have hns47_1 := NB219_214.out
    have hms47_1 := NB214_219.out
    have hs48 : w44.cell? ⟨gb214, 3, none⟩ = some (.int .i64 0) := (blk_cell BK214.out 3).trans rfl
    have hfs48 := blk_frozen BK214.out 3
    have hns48_1 := NB219_214.out
    have hms48_1 := NB214_219.out
    refine skip_ (w1 := ?_) (by rfl) rfl ?_ ?_
    rotate_left
    · go_simp
      rfl
    refine hK.out _ _ ⟨((cell_far (p := ⟨gb214, _, none⟩) NB219_214.out _).trans (((cell_far (p := ⟨gb214, _, none⟩) NB219_214.out _).trans (((cell_far (p := ⟨gb214, _, none⟩) NB219_214.out _).trans (((cell_far (p := ⟨gb214, _, none⟩) NB219_214.out _).trans (hHeld.1)))))))), ((cell_far (p := ⟨gb214, _, none⟩) NB219_214.out _).trans (((cell_far (p := ⟨gb214, _, none⟩) NB219_214.out _).trans (((cell_far (p := ⟨gb214, _, none⟩) NB219_214.out _).trans (((cell_far (p := ⟨gb214, _, none⟩) NB219_214.out _).trans (hHeld.2.1)))))))), ((cell_far (p := ⟨gb214, _, none⟩) NB219_214.out _).trans (((cell_far (p := ⟨gb214, _, none⟩) NB219_214.out _).trans (((cell_far (p := ⟨gb214, _, none⟩) NB219_214.out _).trans (((cell_far (p := ⟨gb214, _, none⟩) NB219_214.out _).trans (hHeld.2.2.1)))))))), ((cell_far (p := ⟨gb214, _, none⟩) NB219_214.out _).trans (((cell_far (p := ⟨gb214, _, none⟩) NB219_214.out _).trans (((cell_far (p := ⟨gb214, _, none⟩) NB219_214.out _).trans (((cell_far (p := ⟨gb214, _, none⟩) NB219_214.out _).trans (hHeld.2.2.2))))))))⟩ (fun hHeld => ?_)
    clear hK K
    refine done_ (by kernel_rfl) ?_
    try go_wp2
    refine bodyPost_ret (results_tc rfl _ _ gb214 26 #[.int .i64 t215, .int .i64 t216, .int .i64 t217, .int .i64 t218] (0, 0) _ rfl (by (with_reducible repeat (first | refine blk_drewN ?_ _ | refine blk_drew ?_ | refine blk_alloc ?_ _)); refine blk_put (cs := #[.int .i64 t215, .int .i64 t216, .int .i64 t217, .int .i64 0]) ?_ 3 _ rfl; (with_reducible repeat (first | refine blk_drewN ?_ _ | refine blk_drew ?_ | refine blk_alloc ?_ _)); refine blk_put (cs := #[.int .i64 t215, .int .i64 t216, .int .i64 0, .int .i64 0]) ?_ 2 _ rfl; (with_reducible repeat (first | refine blk_drewN ?_ _ | refine blk_drew ?_ | refine blk_alloc ?_ _)); refine blk_put (cs := #[.int .i64 t215, .int .i64 0, .int .i64 0, .int .i64 0]) ?_ 1 _ rfl; (with_reducible repeat (first | refine blk_drewN ?_ _ | refine blk_drew ?_ | refine blk_alloc ?_ _)); refine blk_put (cs := #[.int .i64 0, .int .i64 0, .int .i64 0, .int .i64 0]) ?_ 0 _ rfl; (with_reducible repeat (first | refine blk_drewN ?_ _ | refine blk_drew ?_ | refine blk_alloc ?_ _)); exact BK214.out) Tryd.underlying26 rfl (by kernel_rfl)) rfl ?_
    exact ⟨_, by first | rfl | (simp [errW_none, errW_some] <;> rfl) | (simp [*, errW_none, errW_some, bne]; done) | (simp [*, errW_none, errW_some] <;> rfl), by first | exact Kd.R_nil _ _ _ _ _ | exact Kd.N_nil _ _ _ _ _ | exact Kd.V_nil _ _ _ _ _ | exact Kd.Q_nil _ _ _ _ _ | exact Kd.S_nil _ _ _ _ _, by repeat (first | (with_reducible first | exact HB.out | apply below_alloc | apply pw_below_drewN | apply below_drew1 | refine below_set ?_ GE214.out | refine below_set ?_ GE219.out) | exact HB.out)⟩
end Go.Proofs.YtoanbmggffkmgaaDoor.P
end
section
namespace Go.Proofs.YtoanbmggffkmgaaDoor.P
open Go.RowKit Go.Proofs.YtoanbmggffkmgaaDoorW.PrintWords Go.Proofs.YtoanbmggffkmgaaDoorW.PrintLast Go.Proofs.YtoanbmggffkmgaaDoorW.PrintMore
attribute [local go_sem] max2_int min2_int max_two min_two max_three min_three max_four min_four   -- for this text's walks alone
set_option linter.unusedVariables false
set_option linter.unusedSimpArgs false
theorem eqA30 (d : Nat) (w : World) (x0 y0 : Int) (x1 y1 : ByteArray) (x2 y2 : Int) :
    (Op.equalIn (d + 2) 30 (.agg #[.int .i64 x0, .string x1, .int .i64 x2]) (.agg #[.int .i64 y0, .string y1, .int .i64 y2])).run Tryd.prog w = .ok (x0 == y0 && (x1.toList == y1.toList && (x2 == y2))) w := by
  refine eqA_of Tryd.underlying30 (by kernel_rfl) ?_
  refine eqf_cons (by rfl) (by go_simp; rfl) (by go_simp; rfl) (by go_simp) ?_
  refine eqf_cons (by rfl) (by go_simp; rfl) (by go_simp; rfl) (by go_simp) ?_
  exact eqf_last (by rfl) (by go_simp; rfl) (by go_simp; rfl) (by go_simp)
end Go.Proofs.YtoanbmggffkmgaaDoor.P
end
section
namespace Go.Proofs.YtoanbmggffkmgaaDoor.P
open Go.RowKit Go.Proofs.YtoanbmggffkmgaaDoorW.PrintWords Go.Proofs.YtoanbmggffkmgaaDoorW.PrintLast Go.Proofs.YtoanbmggffkmgaaDoorW.PrintMore
attribute [local go_sem high] eqA26 eqA30
theorem awake7_1 : jlex_Cut.f 20 (⟨#[91, 49, 93]⟩ : ByteArray) = some ([⟨1, ⟨#[91]⟩, 0⟩, ⟨3, ⟨#[49]⟩, 1⟩, ⟨1, ⟨#[93]⟩, 2⟩, ⟨0, ⟨#[]⟩, 3⟩], 0, 0, 0, 0) := by kernel_rfl
theorem awake7_2 : jlex_Cut.f 20 (⟨#[32, 64]⟩ : ByteArray) = some ([], 4, 1, 1, 2) := by kernel_rfl
set_option maxHeartbeats 4000000 in
theorem awake7_walk (w : World) : Calls Tryd.prog 12 #[] w fun e w' => e = .returned (.bool true) ∧ Below w.heap.size w w' := by
  go_enter Tryd.func12, Tryd.ntmps12
  go_wp2_with fail
  refine (jlex_Cut.calls 20 _ _ _ _ _ _ _ awake7_1).mono ?_
  rintro e w1 ⟨v1, rfl, hR1, hb1⟩
  go_wp2_with fail
  refine (jlex_Cut.calls 20 _ _ _ _ _ _ _ awake7_2).mono ?_
  rintro e w2 ⟨v2, rfl, hR2, hb2⟩
  have hbk := hb2.block w1.heap.size (by simp)
  rw [show (w1.alloc (.cells #[.int .i64 0, .int .i64 0, .int .i64 0, .int .i64 0] 26)).heap[w1.heap.size]? = some (.cells #[.int .i64 0, .int .i64 0, .int .i64 0, .int .i64 0] 26 (0, 0)) from by simpa using heap_alloc_new w1 _] at hbk
  have hB2 : Below w1.heap.size w1 w2 := below_step (below_alloc (Below.refl _ _) _) hb2
  have hR3 := Kd.R_below hR1 hB2
  have hlt : w1.heap.size < w2.heap.size := by have := hb2.size; simp at this; omega
  have z0 : w2.cell? ⟨w1.heap.size, 0, none⟩ = some (.int .i64 0) := (blk_cell hbk 0).trans rfl
  have z1 : w2.cell? ⟨w1.heap.size, 1, none⟩ = some (.int .i64 0) := (blk_cell hbk 1).trans rfl
  have z2 : w2.cell? ⟨w1.heap.size, 2, none⟩ = some (.int .i64 0) := (blk_cell hbk 2).trans rfl
  have z3 : w2.cell? ⟨w1.heap.size, 3, none⟩ = some (.int .i64 0) := (blk_cell hbk 3).trans rfl
  have hR4 := Kd.R_below hR3 (below_alloc (Below.refl w2.heap.size w2) (.cells #[.int .i64 4, .int .i64 1, .int .i64 1, .int .i64 2] 26))
  obtain ⟨A, c, rfl, hl, hC⟩ := Kd.R_reads hR4
  obtain ⟨ad, rfl, x0, x1, x2⟩ := at_T30 hC 1 (by decide) (by decide)
  obtain ⟨ad', e', y0, y1, y2⟩ := at_T30 hC 3 (by decide) (by decide)
  obtain rfl := Option.some.inj e'
  have hB4 := below_alloc (below_step hb1 hB2) (.cells #[.int .i64 4, .int .i64 1, .int .i64 1, .int .i64 2] 26)
  generalize hW : w2.alloc (.cells #[.int .i64 4, .int .i64 1, .int .i64 1, .int .i64 2] 26) = W at x0 x1 x2 y0 y1 y2 hB4
  replace x0 : W.cell? ⟨ad.block, ad.off + 3, none⟩ = some (.int .i64 3) := x0
  replace x1 : W.cell? ⟨ad.block, ad.off + 3 + 1, none⟩ = some (.string ⟨#[49]⟩) := x1
  replace x2 : W.cell? ⟨ad.block, ad.off + 3 + 2, none⟩ = some (.int .i64 1) := x2
  replace y0 : W.cell? ⟨ad.block, ad.off + 9, none⟩ = some (.int .i64 0) := y0
  replace y1 : W.cell? ⟨ad.block, ad.off + 9 + 1, none⟩ = some (.string ⟨#[]⟩) := y1
  replace y2 : W.cell? ⟨ad.block, ad.off + 9 + 2, none⟩ = some (.int .i64 3) := y2
  rw [← hW] at x0 x1 x2 y0 y1 y2 hB4
  clear hW hR1 hR2 hR3 hR4 hC hbk hb2 hb1 hB2
  go_wp2
  go_ret
  exact ⟨rfl, by first | exact hB4 | exact pw_below_drewN hB4 _⟩
def dragomanlaw7_awake.f : Option Bool := some true
theorem dragomanlaw7_awake.calls (r : Bool) (w : World) (h : dragomanlaw7_awake.f = some r) : Calls Tryd.prog 12 #[] w fun e w' => e = .returned (.bool r) ∧ Below w.heap.size w w' := by
  obtain rfl : true = r := Option.some.inj h
  exact awake7_walk w
end Go.Proofs.YtoanbmggffkmgaaDoor.P
end
section
namespace Go.Proofs.YtoanbmggffkmgaaDoor.P
open Go.RowKit Go.Proofs.YtoanbmggffkmgaaDoorW.PrintWords Go.Proofs.YtoanbmggffkmgaaDoorW.PrintLast Go.Proofs.YtoanbmggffkmgaaDoorW.PrintMore
attribute [local go_sem] max2_int min2_int max_two min_two max_three min_three max_four min_four   -- for this text's walks alone
attribute [-simp] ByteArray.size_extract
set_option linter.unusedVariables false
set_option linter.unusedSimpArgs false
attribute [local go_sem high] eqA26
/-! ### dragomanlaw7_JlexBlanks: function 11 -/
mutual
def dragomanlaw7_JlexBlanks.l0 : Nat → ByteArray → List (S30) → ByteArray → Int → Option (Bool)
  | 0, _, _, _, _ => none
  | k + 1, x0, x3, x5, x6 => if (wrap64 (x6 + 1)) < (x3.length : Int) then (if x5.size + 2 ≤ 9223372036854775807 then (if 0 ≤ x6 then (if x6 < (x3.length : Int) then (if 0 ≤ (wrap64 (x6 + 1)) then (if 0 ≤ ((rd_T30 x3 x6).f2) then (if ((rd_T30 x3 x6).f2) ≤ ((rd_T30 x3 (wrap64 (x6 + 1))).f2) then (if ((rd_T30 x3 (wrap64 (x6 + 1))).f2) ≤ (x0.size : Int) then (if (x5 ++ (⟨#[32, 10]⟩ : ByteArray)).size + (x0.extract (((rd_T30 x3 x6).f2) : Int).toNat (((rd_T30 x3 (wrap64 (x6 + 1))).f2) : Int).toNat).size ≤ 9223372036854775807 then (if ((x5 ++ (⟨#[32, 10]⟩ : ByteArray)) ++ (x0.extract (((rd_T30 x3 x6).f2) : Int).toNat (((rd_T30 x3 (wrap64 (x6 + 1))).f2) : Int).toNat)).size + 2 ≤ 9223372036854775807 then (dragomanlaw7_JlexBlanks.l0 k x0 x3 (((x5 ++ (⟨#[32, 10]⟩ : ByteArray)) ++ (x0.extract (((rd_T30 x3 x6).f2) : Int).toNat (((rd_T30 x3 (wrap64 (x6 + 1))).f2) : Int).toNat)) ++ (⟨#[9, 13]⟩ : ByteArray)) (wrap64 (x6 + 1))) else (none)) else (none)) else (none)) else (none)) else (none)) else (none)) else (none)) else (none)) else (none)) else ((jlex_Cut.f k x5).bind fun bt447 => (if (!(bt447.2.1 == 0) || (!(bt447.2.2.1 == 0) || (!(bt447.2.2.2.1 == 0) || (!(bt447.2.2.2.2 == 0))))) = true then (dragomanlaw7_JlexBlanks.j1 k x3 bt447.1 true) else (dragomanlaw7_JlexBlanks.j1 k x3 bt447.1 ((bt447.1.length : Int) != (x3.length : Int)))))
def dragomanlaw7_JlexBlanks.j1 : Nat → List (S30) → List (S30) → Bool → Option (Bool)
  | 0, _, _, _ => none
  | k + 1, x3, x7, x61 => if x61 = true then (some false) else (dragomanlaw7_JlexBlanks.l1 k x3 x7 0)
def dragomanlaw7_JlexBlanks.l1 : Nat → List (S30) → List (S30) → Int → Option (Bool)
  | 0, _, _, _ => none
  | k + 1, x3, x7, x9 => if x9 < (x3.length : Int) then (if 0 ≤ x9 then (if x9 < (x7.length : Int) then (if ((rd_T30 x7 x9).f0) = ((rd_T30 x3 x9).f0) then (if ((rd_T30 x7 x9).f1).toList = ((rd_T30 x3 x9).f1).toList then (dragomanlaw7_JlexBlanks.l1 k x3 x7 (wrap64 (x9 + 1))) else (some false)) else (some false)) else (none)) else (none)) else (some true)
end
def dragomanlaw7_JlexBlanks.f (k : Nat) (a0 : ByteArray) : Option (Bool) := (dragomanlaw7_awake.f).bind fun t436 => (if t436 = true then (if (a0.size : Int) > 1500 then (some true) else ((jlex_Cut.f k a0).bind fun bt437 => (if (!(bt437.2.1 == 0) || (!(bt437.2.2.1 == 0) || (!(bt437.2.2.2.1 == 0) || (!(bt437.2.2.2.2 == 0))))) = true then (some true) else (dragomanlaw7_JlexBlanks.l0 k a0 bt437.1 (⟨#[]⟩ : ByteArray) 0)))) else (some false))
set_option maxHeartbeats 8000000 in
set_option maxRecDepth 100000 in
theorem dragomanlaw7_JlexBlanks.calls (k : Nat) (a0 : ByteArray) (r : Bool) (w : World) (h : dragomanlaw7_JlexBlanks.f k a0 = some r) :
    Calls Tryd.prog 11 #[.string a0] w fun e w' => e = .returned (.bool r) ∧ Below w.heap.size w w' := by
  have hu26 := Tryd.underlying26
  have HB := Aside0.mk (Below.refl w.heap.size w)
  have H : ((dragomanlaw7_awake.f).bind fun t436 => (if t436 = true then (if (a0.size : Int) > 1500 then (some true) else ((jlex_Cut.f k a0).bind fun bt437 => (if (!(bt437.2.1 == 0) || (!(bt437.2.2.1 == 0) || (!(bt437.2.2.2.1 == 0) || (!(bt437.2.2.2.2 == 0))))) = true then (some true) else (dragomanlaw7_JlexBlanks.l0 k a0 bt437.1 (⟨#[]⟩ : ByteArray) 0)))) else (some false))) = some r := h
  clear h
  replace H := Option.bind_eq_some_iff.mp H
  obtain ⟨t436, A20, H⟩ := H
  replace H : (if t436 = true then (if (a0.size : Int) > 1500 then (some true) else ((jlex_Cut.f k a0).bind fun bt437 => (if (!(bt437.2.1 == 0) || (!(bt437.2.2.1 == 0) || (!(bt437.2.2.2.1 == 0) || (!(bt437.2.2.2.2 == 0))))) = true then (some true) else (dragomanlaw7_JlexBlanks.l0 k a0 bt437.1 (⟨#[]⟩ : ByteArray) 0)))) else (some false)) = some r := H
  have A2 := Aside0.mk A20
  clear A20
  by_cases c3 : t436 = true
  · subst c3
    have H1 : (if (a0.size : Int) > 1500 then (some true) else ((jlex_Cut.f k a0).bind fun bt437 => (if (!(bt437.2.1 == 0) || (!(bt437.2.2.1 == 0) || (!(bt437.2.2.2.1 == 0) || (!(bt437.2.2.2.2 == 0))))) = true then (some true) else (dragomanlaw7_JlexBlanks.l0 k a0 bt437.1 (⟨#[]⟩ : ByteArray) 0)))) = some r := by rw [if_pos rfl] at H; exact H
    clear H
    have H := H1
    clear H1
    by_cases c4 : (a0.size : Int) > 1500
    · rw [if_pos c4] at H
      have c4b0 : decide (1500 < (a0.size : Int)) = true := decide_eq_true c4
      have c4b1 : decide (1500 < a0.size) = true := decide_eq_true (by omega)
      clear c4
      obtain rfl := Option.some.inj H
      go_enter Tryd.func11, Tryd.ntmps11
      go_wp2_with (first | (go_at_call 12; (with_reducible refine (dragomanlaw7_awake.calls  true _ A2.out).mono ?_); rintro e w5 ⟨rfl, hb⟩; have n0_ := Aside0.mk (below_step (by repeat (first | (with_reducible first | exact HB.out | apply below_alloc | apply pw_below_drewN | apply below_drew1) | exact HB.out)) hb); clear HB; have HB := n0_; clear n0_; (try clear hb); (try clear hb2); (try clear hk); (try clear hi)))
      repeat (go_quiet (first | (go_at_call 12; (with_reducible refine (dragomanlaw7_awake.calls  true _ A2.out).mono ?_); rintro e w5 ⟨rfl, hb⟩; have n0_ := Aside0.mk (below_step (by repeat (first | (with_reducible first | exact HB.out | apply below_alloc | apply pw_below_drewN | apply below_drew1) | exact HB.out)) hb); clear HB; have HB := n0_; clear n0_; (try clear hb); (try clear hb2); (try clear hk); (try clear hi))); try go_wp2_with (first | (go_at_call 12; (with_reducible refine (dragomanlaw7_awake.calls  true _ A2.out).mono ?_); rintro e w5 ⟨rfl, hb⟩; have n0_ := Aside0.mk (below_step (by repeat (first | (with_reducible first | exact HB.out | apply below_alloc | apply pw_below_drewN | apply below_drew1) | exact HB.out)) hb); clear HB; have HB := n0_; clear n0_; (try clear hb); (try clear hb2); (try clear hk); (try clear hi))))
      go_ret
      exact ⟨by first | rfl | (simp [errW_none, errW_some] <;> rfl) | (simp [*, errW_none, errW_some, bne]; done) | (simp [*, errW_none, errW_some] <;> rfl), by repeat (first | (with_reducible first | exact HB.out | apply below_alloc | apply pw_below_drewN | apply below_drew1) | exact HB.out)⟩
    · rw [if_neg c4] at H
      have c4b0 : decide (1500 < (a0.size : Int)) = false := decide_eq_false c4
      have c4b1 : decide (1500 < a0.size) = false := decide_eq_false (by omega)
      clear c4
      replace H := Option.bind_eq_some_iff.mp H
      obtain ⟨⟨t437, t440, t441, t442, t443⟩, A60, H⟩ := H
      replace H : (if (!(t440 == 0) || (!(t441 == 0) || (!(t442 == 0) || (!(t443 == 0))))) = true then (some true) else (dragomanlaw7_JlexBlanks.l0 k a0 t437 (⟨#[]⟩ : ByteArray) 0)) = some r := H
      have A6 := Aside0.mk A60
      clear A60
      by_cases c7 : (!(t440 == 0) || (!(t441 == 0) || (!(t442 == 0) || (!(t443 == 0))))) = true
      · rw [if_pos c7] at H
        have c7b0 : (!(t440 == 0) || (!(t441 == 0) || (!(t442 == 0) || (!(t443 == 0))))) = true := c7
        clear c7
        obtain rfl := Option.some.inj H
        go_enter Tryd.func11, Tryd.ntmps11
        go_wp2_with (first | (go_at_call 12; (with_reducible refine (dragomanlaw7_awake.calls  true _ A2.out).mono ?_); rintro e w8 ⟨rfl, hb⟩; have n0_ := Aside0.mk (below_step (by repeat (first | (with_reducible first | exact HB.out | apply below_alloc | apply pw_below_drewN | apply below_drew1) | exact HB.out)) hb); clear HB; have HB := n0_; clear n0_; (try clear hb); (try clear hb2); (try clear hk); (try clear hi)) | (go_at_call 13; (with_reducible refine (jlex_Cut.calls k a0 t437 t440 t441 t442 t443 _ A6.out).mono ?_); rintro e w9 ⟨v438, rfl, ho0, hb⟩; have n0_ := Aside0.mk (Kd.R_lower ho0 (below_size (by repeat (first | (with_reducible first | exact HB.out | apply below_alloc | apply pw_below_drewN | apply below_drew1) | exact HB.out)))); have n1_ := Aside0.mk (below_step (by repeat (first | (with_reducible first | exact HB.out | apply below_alloc | apply pw_below_drewN | apply below_drew1) | exact HB.out)) hb); clear HB; have HO439 := n0_; have HB := n1_; clear n0_ n1_; (try clear hb); (try clear hb2); (try clear hk); (try clear hi); (try clear ho0)) | ((with_reducible refine gate_dst (N := 4) rfl ?_); (try (refine gate_guard (by rfl) ?_; dsimp only)); refine box_event ?hg (N := 4) ?hd (cs := #[.int .i64 0, .int .i64 0, .int .i64 0, .int .i64 0]) (t := 26) ?hr ?_; (case hd => rfl); (case hg => rfl); (case hr => first | (go_simp; done) | (go_simp; rfl)); intro gb444 hg w10 hbox hb; have n0_ := Aside0.mk (Kd.R_below (by (with_reducible repeat (first | apply Kd.R_alloc | apply Kd.R_drewN | apply Kd.R_drew)); exact HO439.out) hb); have n1_ := Aside0.mk (below_step (by repeat (first | (with_reducible first | exact HB.out | apply below_alloc | apply pw_below_drewN | apply below_drew1) | exact HB.out)) hb); have n2_ := Aside0.mk (hbox); have n3_ := Aside0.mk ((by rw [hg]; exact (below_size (by repeat (first | (with_reducible first | exact HB.out | apply below_alloc | apply pw_below_drewN | apply below_drew1) | exact HB.out))) : w.heap.size ≤ gb444)); have n4_ := Aside0.mk ((by rw [hg]; exact (below_size (by repeat (first | (with_reducible first | exact HB.out | apply below_alloc | apply pw_below_drewN | apply below_drew1) | exact HB.out))) : w.heap.size ≤ gb444)); clear HO439; clear HB; have HO439 := n0_; have HB := n1_; have BK444 := n2_; have GW444 := n3_; have GE444 := n4_; clear n0_ n1_ n2_ n3_ n4_; clear hb hbox hg; have hcz11_0 : w10.cell? ⟨gb444, 0, none⟩ = some (.int .i64 0) := (blk_cell BK444.out 0).trans rfl; have hcz11_1 : w10.cell? ⟨gb444, 1, none⟩ = some (.int .i64 0) := (blk_cell BK444.out 1).trans rfl; have hcz11_2 : w10.cell? ⟨gb444, 2, none⟩ = some (.int .i64 0) := (blk_cell BK444.out 2).trans rfl; have hcz11_3 : w10.cell? ⟨gb444, 3, none⟩ = some (.int .i64 0) := (blk_cell BK444.out 3).trans rfl; have hfz11_0 := blk_frozen BK444.out 0; have hfz11_1 := blk_frozen BK444.out 1; have hfz11_2 := blk_frozen BK444.out 2; have hfz11_3 := blk_frozen BK444.out 3))
        repeat (go_quiet (first | (go_at_call 12; (with_reducible refine (dragomanlaw7_awake.calls  true _ A2.out).mono ?_); rintro e w8 ⟨rfl, hb⟩; have n0_ := Aside0.mk (below_step (by repeat (first | (with_reducible first | exact HB.out | apply below_alloc | apply pw_below_drewN | apply below_drew1) | exact HB.out)) hb); clear HB; have HB := n0_; clear n0_; (try clear hb); (try clear hb2); (try clear hk); (try clear hi)) | (go_at_call 13; (with_reducible refine (jlex_Cut.calls k a0 t437 t440 t441 t442 t443 _ A6.out).mono ?_); rintro e w9 ⟨v438, rfl, ho0, hb⟩; have n0_ := Aside0.mk (Kd.R_lower ho0 (below_size (by repeat (first | (with_reducible first | exact HB.out | apply below_alloc | apply pw_below_drewN | apply below_drew1) | exact HB.out)))); have n1_ := Aside0.mk (below_step (by repeat (first | (with_reducible first | exact HB.out | apply below_alloc | apply pw_below_drewN | apply below_drew1) | exact HB.out)) hb); clear HB; have HO439 := n0_; have HB := n1_; clear n0_ n1_; (try clear hb); (try clear hb2); (try clear hk); (try clear hi); (try clear ho0)) | ((with_reducible refine gate_dst (N := 4) rfl ?_); (try (refine gate_guard (by rfl) ?_; dsimp only)); refine box_event ?hg (N := 4) ?hd (cs := #[.int .i64 0, .int .i64 0, .int .i64 0, .int .i64 0]) (t := 26) ?hr ?_; (case hd => rfl); (case hg => rfl); (case hr => first | (go_simp; done) | (go_simp; rfl)); intro gb444 hg w10 hbox hb; have n0_ := Aside0.mk (Kd.R_below (by (with_reducible repeat (first | apply Kd.R_alloc | apply Kd.R_drewN | apply Kd.R_drew)); exact HO439.out) hb); have n1_ := Aside0.mk (below_step (by repeat (first | (with_reducible first | exact HB.out | apply below_alloc | apply pw_below_drewN | apply below_drew1) | exact HB.out)) hb); have n2_ := Aside0.mk (hbox); have n3_ := Aside0.mk ((by rw [hg]; exact (below_size (by repeat (first | (with_reducible first | exact HB.out | apply below_alloc | apply pw_below_drewN | apply below_drew1) | exact HB.out))) : w.heap.size ≤ gb444)); have n4_ := Aside0.mk ((by rw [hg]; exact (below_size (by repeat (first | (with_reducible first | exact HB.out | apply below_alloc | apply pw_below_drewN | apply below_drew1) | exact HB.out))) : w.heap.size ≤ gb444)); clear HO439; clear HB; have HO439 := n0_; have HB := n1_; have BK444 := n2_; have GW444 := n3_; have GE444 := n4_; clear n0_ n1_ n2_ n3_ n4_; clear hb hbox hg; have hcz11_0 : w10.cell? ⟨gb444, 0, none⟩ = some (.int .i64 0) := (blk_cell BK444.out 0).trans rfl; have hcz11_1 : w10.cell? ⟨gb444, 1, none⟩ = some (.int .i64 0) := (blk_cell BK444.out 1).trans rfl; have hcz11_2 : w10.cell? ⟨gb444, 2, none⟩ = some (.int .i64 0) := (blk_cell BK444.out 2).trans rfl; have hcz11_3 : w10.cell? ⟨gb444, 3, none⟩ = some (.int .i64 0) := (blk_cell BK444.out 3).trans rfl; have hfz11_0 := blk_frozen BK444.out 0; have hfz11_1 := blk_frozen BK444.out 1; have hfz11_2 := blk_frozen BK444.out 2; have hfz11_3 := blk_frozen BK444.out 3)); try go_wp2_with (first | (go_at_call 12; (with_reducible refine (dragomanlaw7_awake.calls  true _ A2.out).mono ?_); rintro e w8 ⟨rfl, hb⟩; have n0_ := Aside0.mk (below_step (by repeat (first | (with_reducible first | exact HB.out | apply below_alloc | apply pw_below_drewN | apply below_drew1) | exact HB.out)) hb); clear HB; have HB := n0_; clear n0_; (try clear hb); (try clear hb2); (try clear hk); (try clear hi)) | (go_at_call 13; (with_reducible refine (jlex_Cut.calls k a0 t437 t440 t441 t442 t443 _ A6.out).mono ?_); rintro e w9 ⟨v438, rfl, ho0, hb⟩; have n0_ := Aside0.mk (Kd.R_lower ho0 (below_size (by repeat (first | (with_reducible first | exact HB.out | apply below_alloc | apply pw_below_drewN | apply below_drew1) | exact HB.out)))); have n1_ := Aside0.mk (below_step (by repeat (first | (with_reducible first | exact HB.out | apply below_alloc | apply pw_below_drewN | apply below_drew1) | exact HB.out)) hb); clear HB; have HO439 := n0_; have HB := n1_; clear n0_ n1_; (try clear hb); (try clear hb2); (try clear hk); (try clear hi); (try clear ho0)) | ((with_reducible refine gate_dst (N := 4) rfl ?_); (try (refine gate_guard (by rfl) ?_; dsimp only)); refine box_event ?hg (N := 4) ?hd (cs := #[.int .i64 0, .int .i64 0, .int .i64 0, .int .i64 0]) (t := 26) ?hr ?_; (case hd => rfl); (case hg => rfl); (case hr => first | (go_simp; done) | (go_simp; rfl)); intro gb444 hg w10 hbox hb; have n0_ := Aside0.mk (Kd.R_below (by (with_reducible repeat (first | apply Kd.R_alloc | apply Kd.R_drewN | apply Kd.R_drew)); exact HO439.out) hb); have n1_ := Aside0.mk (below_step (by repeat (first | (with_reducible first | exact HB.out | apply below_alloc | apply pw_below_drewN | apply below_drew1) | exact HB.out)) hb); have n2_ := Aside0.mk (hbox); have n3_ := Aside0.mk ((by rw [hg]; exact (below_size (by repeat (first | (with_reducible first | exact HB.out | apply below_alloc | apply pw_below_drewN | apply below_drew1) | exact HB.out))) : w.heap.size ≤ gb444)); have n4_ := Aside0.mk ((by rw [hg]; exact (below_size (by repeat (first | (with_reducible first | exact HB.out | apply below_alloc | apply pw_below_drewN | apply below_drew1) | exact HB.out))) : w.heap.size ≤ gb444)); clear HO439; clear HB; have HO439 := n0_; have HB := n1_; have BK444 := n2_; have GW444 := n3_; have GE444 := n4_; clear n0_ n1_ n2_ n3_ n4_; clear hb hbox hg; have hcz11_0 : w10.cell? ⟨gb444, 0, none⟩ = some (.int .i64 0) := (blk_cell BK444.out 0).trans rfl; have hcz11_1 : w10.cell? ⟨gb444, 1, none⟩ = some (.int .i64 0) := (blk_cell BK444.out 1).trans rfl; have hcz11_2 : w10.cell? ⟨gb444, 2, none⟩ = some (.int .i64 0) := (blk_cell BK444.out 2).trans rfl; have hcz11_3 : w10.cell? ⟨gb444, 3, none⟩ = some (.int .i64 0) := (blk_cell BK444.out 3).trans rfl; have hfz11_0 := blk_frozen BK444.out 0; have hfz11_1 := blk_frozen BK444.out 1; have hfz11_2 := blk_frozen BK444.out 2; have hfz11_3 := blk_frozen BK444.out 3)))
        go_ret
        exact ⟨by first | rfl | (simp [errW_none, errW_some] <;> rfl) | (simp [*, errW_none, errW_some, bne]; done) | (simp [*, errW_none, errW_some] <;> rfl), by repeat (first | (with_reducible first | exact HB.out | apply below_alloc | apply pw_below_drewN | apply below_drew1 | refine below_set ?_ GE444.out) | exact HB.out)⟩
      · rw [if_neg c7] at H
        have c7b0 : (!(t440 == 0) || (!(t441 == 0) || (!(t442 == 0) || (!(t443 == 0))))) = false := by simpa using c7
        clear c7
        have H' := Aside0.mk H
        clear H
        go_enter Tryd.func11, Tryd.ntmps11
        go_wp2_with (first | (go_at_call 12; (with_reducible refine (dragomanlaw7_awake.calls  true _ A2.out).mono ?_); rintro e w12 ⟨rfl, hb⟩; have n0_ := Aside0.mk (below_step (by repeat (first | (with_reducible first | exact HB.out | apply below_alloc | apply pw_below_drewN | apply below_drew1) | exact HB.out)) hb); clear HB; have HB := n0_; clear n0_; (try clear hb); (try clear hb2); (try clear hk); (try clear hi)) | (go_at_call 13; (with_reducible refine (jlex_Cut.calls k a0 t437 t440 t441 t442 t443 _ A6.out).mono ?_); rintro e w13 ⟨v438, rfl, ho0, hb⟩; have n0_ := Aside0.mk (Kd.R_lower ho0 (below_size (by repeat (first | (with_reducible first | exact HB.out | apply below_alloc | apply pw_below_drewN | apply below_drew1) | exact HB.out)))); have n1_ := Aside0.mk (below_step (by repeat (first | (with_reducible first | exact HB.out | apply below_alloc | apply pw_below_drewN | apply below_drew1) | exact HB.out)) hb); clear HB; have HO439 := n0_; have HB := n1_; clear n0_ n1_; (try clear hb); (try clear hb2); (try clear hk); (try clear hi); (try clear ho0)) | ((with_reducible refine gate_dst (N := 4) rfl ?_); (try (refine gate_guard (by rfl) ?_; dsimp only)); refine box_event ?hg (N := 4) ?hd (cs := #[.int .i64 0, .int .i64 0, .int .i64 0, .int .i64 0]) (t := 26) ?hr ?_; (case hd => rfl); (case hg => rfl); (case hr => first | (go_simp; done) | (go_simp; rfl)); intro gb444 hg w14 hbox hb; have n0_ := Aside0.mk (Kd.R_below (by (with_reducible repeat (first | apply Kd.R_alloc | apply Kd.R_drewN | apply Kd.R_drew)); exact HO439.out) hb); have n1_ := Aside0.mk (below_step (by repeat (first | (with_reducible first | exact HB.out | apply below_alloc | apply pw_below_drewN | apply below_drew1) | exact HB.out)) hb); have n2_ := Aside0.mk (hbox); have n3_ := Aside0.mk ((by rw [hg]; exact (below_size (by repeat (first | (with_reducible first | exact HB.out | apply below_alloc | apply pw_below_drewN | apply below_drew1) | exact HB.out))) : w.heap.size ≤ gb444)); have n4_ := Aside0.mk ((by rw [hg]; exact (below_size (by repeat (first | (with_reducible first | exact HB.out | apply below_alloc | apply pw_below_drewN | apply below_drew1) | exact HB.out))) : w.heap.size ≤ gb444)); clear HO439; clear HB; have HO439 := n0_; have HB := n1_; have BK444 := n2_; have GW444 := n3_; have GE444 := n4_; clear n0_ n1_ n2_ n3_ n4_; clear hb hbox hg; have hcz15_0 : w14.cell? ⟨gb444, 0, none⟩ = some (.int .i64 0) := (blk_cell BK444.out 0).trans rfl; have hcz15_1 : w14.cell? ⟨gb444, 1, none⟩ = some (.int .i64 0) := (blk_cell BK444.out 1).trans rfl; have hcz15_2 : w14.cell? ⟨gb444, 2, none⟩ = some (.int .i64 0) := (blk_cell BK444.out 2).trans rfl; have hcz15_3 : w14.cell? ⟨gb444, 3, none⟩ = some (.int .i64 0) := (blk_cell BK444.out 3).trans rfl; have hfz15_0 := blk_frozen BK444.out 0; have hfz15_1 := blk_frozen BK444.out 1; have hfz15_2 := blk_frozen BK444.out 2; have hfz15_3 := blk_frozen BK444.out 3))
        repeat (go_quiet (first | (go_at_call 12; (with_reducible refine (dragomanlaw7_awake.calls  true _ A2.out).mono ?_); rintro e w12 ⟨rfl, hb⟩; have n0_ := Aside0.mk (below_step (by repeat (first | (with_reducible first | exact HB.out | apply below_alloc | apply pw_below_drewN | apply below_drew1) | exact HB.out)) hb); clear HB; have HB := n0_; clear n0_; (try clear hb); (try clear hb2); (try clear hk); (try clear hi)) | (go_at_call 13; (with_reducible refine (jlex_Cut.calls k a0 t437 t440 t441 t442 t443 _ A6.out).mono ?_); rintro e w13 ⟨v438, rfl, ho0, hb⟩; have n0_ := Aside0.mk (Kd.R_lower ho0 (below_size (by repeat (first | (with_reducible first | exact HB.out | apply below_alloc | apply pw_below_drewN | apply below_drew1) | exact HB.out)))); have n1_ := Aside0.mk (below_step (by repeat (first | (with_reducible first | exact HB.out | apply below_alloc | apply pw_below_drewN | apply below_drew1) | exact HB.out)) hb); clear HB; have HO439 := n0_; have HB := n1_; clear n0_ n1_; (try clear hb); (try clear hb2); (try clear hk); (try clear hi); (try clear ho0)) | ((with_reducible refine gate_dst (N := 4) rfl ?_); (try (refine gate_guard (by rfl) ?_; dsimp only)); refine box_event ?hg (N := 4) ?hd (cs := #[.int .i64 0, .int .i64 0, .int .i64 0, .int .i64 0]) (t := 26) ?hr ?_; (case hd => rfl); (case hg => rfl); (case hr => first | (go_simp; done) | (go_simp; rfl)); intro gb444 hg w14 hbox hb; have n0_ := Aside0.mk (Kd.R_below (by (with_reducible repeat (first | apply Kd.R_alloc | apply Kd.R_drewN | apply Kd.R_drew)); exact HO439.out) hb); have n1_ := Aside0.mk (below_step (by repeat (first | (with_reducible first | exact HB.out | apply below_alloc | apply pw_below_drewN | apply below_drew1) | exact HB.out)) hb); have n2_ := Aside0.mk (hbox); have n3_ := Aside0.mk ((by rw [hg]; exact (below_size (by repeat (first | (with_reducible first | exact HB.out | apply below_alloc | apply pw_below_drewN | apply below_drew1) | exact HB.out))) : w.heap.size ≤ gb444)); have n4_ := Aside0.mk ((by rw [hg]; exact (below_size (by repeat (first | (with_reducible first | exact HB.out | apply below_alloc | apply pw_below_drewN | apply below_drew1) | exact HB.out))) : w.heap.size ≤ gb444)); clear HO439; clear HB; have HO439 := n0_; have HB := n1_; have BK444 := n2_; have GW444 := n3_; have GE444 := n4_; clear n0_ n1_ n2_ n3_ n4_; clear hb hbox hg; have hcz15_0 : w14.cell? ⟨gb444, 0, none⟩ = some (.int .i64 0) := (blk_cell BK444.out 0).trans rfl; have hcz15_1 : w14.cell? ⟨gb444, 1, none⟩ = some (.int .i64 0) := (blk_cell BK444.out 1).trans rfl; have hcz15_2 : w14.cell? ⟨gb444, 2, none⟩ = some (.int .i64 0) := (blk_cell BK444.out 2).trans rfl; have hcz15_3 : w14.cell? ⟨gb444, 3, none⟩ = some (.int .i64 0) := (blk_cell BK444.out 3).trans rfl; have hfz15_0 := blk_frozen BK444.out 0; have hfz15_1 := blk_frozen BK444.out 1; have hfz15_2 := blk_frozen BK444.out 2; have hfz15_3 := blk_frozen BK444.out 3)); try go_wp2_with (first | (go_at_call 12; (with_reducible refine (dragomanlaw7_awake.calls  true _ A2.out).mono ?_); rintro e w12 ⟨rfl, hb⟩; have n0_ := Aside0.mk (below_step (by repeat (first | (with_reducible first | exact HB.out | apply below_alloc | apply pw_below_drewN | apply below_drew1) | exact HB.out)) hb); clear HB; have HB := n0_; clear n0_; (try clear hb); (try clear hb2); (try clear hk); (try clear hi)) | (go_at_call 13; (with_reducible refine (jlex_Cut.calls k a0 t437 t440 t441 t442 t443 _ A6.out).mono ?_); rintro e w13 ⟨v438, rfl, ho0, hb⟩; have n0_ := Aside0.mk (Kd.R_lower ho0 (below_size (by repeat (first | (with_reducible first | exact HB.out | apply below_alloc | apply pw_below_drewN | apply below_drew1) | exact HB.out)))); have n1_ := Aside0.mk (below_step (by repeat (first | (with_reducible first | exact HB.out | apply below_alloc | apply pw_below_drewN | apply below_drew1) | exact HB.out)) hb); clear HB; have HO439 := n0_; have HB := n1_; clear n0_ n1_; (try clear hb); (try clear hb2); (try clear hk); (try clear hi); (try clear ho0)) | ((with_reducible refine gate_dst (N := 4) rfl ?_); (try (refine gate_guard (by rfl) ?_; dsimp only)); refine box_event ?hg (N := 4) ?hd (cs := #[.int .i64 0, .int .i64 0, .int .i64 0, .int .i64 0]) (t := 26) ?hr ?_; (case hd => rfl); (case hg => rfl); (case hr => first | (go_simp; done) | (go_simp; rfl)); intro gb444 hg w14 hbox hb; have n0_ := Aside0.mk (Kd.R_below (by (with_reducible repeat (first | apply Kd.R_alloc | apply Kd.R_drewN | apply Kd.R_drew)); exact HO439.out) hb); have n1_ := Aside0.mk (below_step (by repeat (first | (with_reducible first | exact HB.out | apply below_alloc | apply pw_below_drewN | apply below_drew1) | exact HB.out)) hb); have n2_ := Aside0.mk (hbox); have n3_ := Aside0.mk ((by rw [hg]; exact (below_size (by repeat (first | (with_reducible first | exact HB.out | apply below_alloc | apply pw_below_drewN | apply below_drew1) | exact HB.out))) : w.heap.size ≤ gb444)); have n4_ := Aside0.mk ((by rw [hg]; exact (below_size (by repeat (first | (with_reducible first | exact HB.out | apply below_alloc | apply pw_below_drewN | apply below_drew1) | exact HB.out))) : w.heap.size ≤ gb444)); clear HO439; clear HB; have HO439 := n0_; have HB := n1_; have BK444 := n2_; have GW444 := n3_; have GE444 := n4_; clear n0_ n1_ n2_ n3_ n4_; clear hb hbox hg; have hcz15_0 : w14.cell? ⟨gb444, 0, none⟩ = some (.int .i64 0) := (blk_cell BK444.out 0).trans rfl; have hcz15_1 : w14.cell? ⟨gb444, 1, none⟩ = some (.int .i64 0) := (blk_cell BK444.out 1).trans rfl; have hcz15_2 : w14.cell? ⟨gb444, 2, none⟩ = some (.int .i64 0) := (blk_cell BK444.out 2).trans rfl; have hcz15_3 : w14.cell? ⟨gb444, 3, none⟩ = some (.int .i64 0) := (blk_cell BK444.out 3).trans rfl; have hfz15_0 := blk_frozen BK444.out 0; have hfz15_1 := blk_frozen BK444.out 1; have hfz15_2 := blk_frozen BK444.out 2; have hfz15_3 := blk_frozen BK444.out 3)))
        go_loopg [5, 6] k (fun kq v5 v6 w' => ∃ (x5_1 : ByteArray) (x6_1 : Int), v5 = .string x5_1 ∧ v6 = .int .i64 x6_1 ∧ Aside0 (dragomanlaw7_JlexBlanks.l0 kq a0 t437 x5_1 x6_1 = some r) ∧ Aside0 (kq ≤ k) ∧ Aside0 (Kd.R k30 30 w' w.heap.size (fun _ => True) v438 t437) ∧ Aside0 (w'.heap[gb444]? = some (.cells #[.int .i64 t440, .int .i64 t441, .int .i64 t442, .int .i64 t443] 26 (0, 0))) ∧ Aside0 (Below w.heap.size w w'))
        case atStart => exact ⟨((⟨#[]⟩ : ByteArray)), (0), (by first | rfl | (simp; done) | (simp [*]; done)), (by first | rfl | (simp; done) | (simp [*]; done)), H', ⟨Nat.le_refl _⟩, ⟨by (with_reducible repeat (first | apply Kd.R_alloc | apply Kd.R_drewN | apply Kd.R_drew)); exact Kd.R_mono (Kd.R_far (p := ⟨gb444, 3, none⟩) (Kd.R_far (p := ⟨gb444, 2, none⟩) (Kd.R_far (p := ⟨gb444, 1, none⟩) (Kd.R_far (p := ⟨gb444, 0, none⟩) (Kd.R_types HO439.out BK444.out (by decide)) (fun _ hk => hk.2) (.int .i64 t440)) (fun _ hk => hk.2) (.int .i64 t441)) (fun _ hk => hk.2) (.int .i64 t442)) (fun _ hk => hk.2) (.int .i64 t443)) (fun _ hk => trivial)⟩, ⟨by (with_reducible repeat (first | refine blk_drewN ?_ _ | refine blk_drew ?_ | refine blk_alloc ?_ _)); refine blk_put (cs := #[.int .i64 t440, .int .i64 t441, .int .i64 t442, .int .i64 0]) ?_ 3 _ rfl; (with_reducible repeat (first | refine blk_drewN ?_ _ | refine blk_drew ?_ | refine blk_alloc ?_ _)); refine blk_put (cs := #[.int .i64 t440, .int .i64 t441, .int .i64 0, .int .i64 0]) ?_ 2 _ rfl; (with_reducible repeat (first | refine blk_drewN ?_ _ | refine blk_drew ?_ | refine blk_alloc ?_ _)); refine blk_put (cs := #[.int .i64 t440, .int .i64 0, .int .i64 0, .int .i64 0]) ?_ 1 _ rfl; (with_reducible repeat (first | refine blk_drewN ?_ _ | refine blk_drew ?_ | refine blk_alloc ?_ _)); refine blk_put (cs := #[.int .i64 0, .int .i64 0, .int .i64 0, .int .i64 0]) ?_ 0 _ rfl; (with_reducible repeat (first | refine blk_drewN ?_ _ | refine blk_drew ?_ | refine blk_alloc ?_ _)); exact BK444.out⟩, ⟨by repeat (first | (with_reducible first | exact HB.out | apply below_alloc | apply pw_below_drewN | apply below_drew1 | refine below_set ?_ GE444.out) | exact HB.out)⟩⟩
        case round =>
          clear H'
          try clear c1
          try clear p2
          try clear c3
          try clear c4
          try clear c4b0
          try clear c4b1
          try clear c7
          try clear c7b0
          try clear c11
          try clear hcz11_0
          try clear hcz11_1
          try clear hcz11_2
          try clear hcz11_3
          try clear hcz15_0
          try clear hcz15_1
          try clear hcz15_2
          try clear hcz15_3
          try clear hfz11_0
          try clear hfz11_1
          try clear hfz11_2
          try clear hfz11_3
          try clear hfz15_0
          try clear hfz15_1
          try clear hfz15_2
          try clear hfz15_3
          obtain ⟨x5_1, x6_1, rfl, rfl, HA, HK1, HO_3, BK444, HB⟩ := hrel
          cases gk with
          | zero => exact absurd HA.out (by simp [dragomanlaw7_JlexBlanks.l0])
          | succ k1 =>
            have H := HA.out
            clear HA
            simp only [dragomanlaw7_JlexBlanks.l0] at H
            by_cases c16 : (wrap64 (x6_1 + 1)) < (t437.length : Int)
            · rw [if_pos c16] at H
              have c16b0 : decide ((wrap64 (x6_1 + 1)) < (t437.length : Int)) = true := decide_eq_true c16
              clear c16
              by_cases c17 : x5_1.size + 2 ≤ 9223372036854775807
              · rw [if_pos c17] at H
                have c17b0 := eq_true c17
                have c17b1 : decide (x5_1.size + 2 ≤ 9223372036854775807) = true := decide_eq_true c17
                try have c17b2 : (9223372036854775807 < x5_1.size + 2) = False := eq_false (Nat.not_lt.2 c17)
                by_cases c18 : 0 ≤ x6_1
                · rw [if_pos c18] at H
                  have c18b0 : decide (0 ≤ x6_1) = true := decide_eq_true c18
                  clear c18
                  by_cases c19 : x6_1 < (t437.length : Int)
                  · rw [if_pos c19] at H
                    have c19b0 : decide (x6_1 < (t437.length : Int)) = true := decide_eq_true c19
                    clear c19
                    obtain ⟨ji20, hji20⟩ : ∃ j_ : Int, (wrap64 (x6_1 + 1)) = j_ := ⟨_, rfl⟩
                    replace H : (if 0 ≤ (ji20) then (if 0 ≤ ((rd_T30 t437 x6_1).f2) then (if ((rd_T30 t437 x6_1).f2) ≤ ((rd_T30 t437 (ji20)).f2) then (if ((rd_T30 t437 (ji20)).f2) ≤ (a0.size : Int) then (if (x5_1 ++ (⟨#[32, 10]⟩ : ByteArray)).size + (a0.extract (((rd_T30 t437 x6_1).f2) : Int).toNat (((rd_T30 t437 (ji20)).f2) : Int).toNat).size ≤ 9223372036854775807 then (if ((x5_1 ++ (⟨#[32, 10]⟩ : ByteArray)) ++ (a0.extract (((rd_T30 t437 x6_1).f2) : Int).toNat (((rd_T30 t437 (ji20)).f2) : Int).toNat)).size + 2 ≤ 9223372036854775807 then (dragomanlaw7_JlexBlanks.l0 k1 a0 t437 (((x5_1 ++ (⟨#[32, 10]⟩ : ByteArray)) ++ (a0.extract (((rd_T30 t437 x6_1).f2) : Int).toNat (((rd_T30 t437 (ji20)).f2) : Int).toNat)) ++ (⟨#[9, 13]⟩ : ByteArray)) ji20) else (none)) else (none)) else (none)) else (none)) else (none)) else (none)) = some r := by first | (rw [hji20] at H; exact H) | (simp only [hji20] at H ⊢; exact H)
                    (try rw [hji20] at c16b0)
                    have hji20w : (IntKind.i64.wrap (x6_1 + 1)) = ji20 := (i64_w _).trans hji20
                    by_cases c21 : 0 ≤ (ji20)
                    · rw [if_pos c21] at H
                      have c21b0 : decide (0 ≤ (ji20)) = true := decide_eq_true c21
                      clear c21
                      by_cases c22 : 0 ≤ ((rd_T30 t437 x6_1).f2)
                      · rw [if_pos c22] at H
                        have c22b0 := eq_true c22
                        have c22b1 : decide (0 ≤ ((rd_T30 t437 x6_1).f2)) = true := decide_eq_true c22
                        clear c22
                        by_cases c23 : ((rd_T30 t437 x6_1).f2) ≤ ((rd_T30 t437 (ji20)).f2)
                        · rw [if_pos c23] at H
                          have c23b0 := eq_true c23
                          have c23b1 : decide (((rd_T30 t437 x6_1).f2) ≤ ((rd_T30 t437 (ji20)).f2)) = true := decide_eq_true c23
                          clear c23
                          by_cases c24 : ((rd_T30 t437 (ji20)).f2) ≤ (a0.size : Int)
                          · rw [if_pos c24] at H
                            have c24b0 := eq_true c24
                            have c24b1 : decide (((rd_T30 t437 (ji20)).f2) ≤ (a0.size : Int)) = true := decide_eq_true c24
                            clear c24
                            by_cases c25 : (x5_1 ++ (⟨#[32, 10]⟩ : ByteArray)).size + (a0.extract (((rd_T30 t437 x6_1).f2) : Int).toNat (((rd_T30 t437 (ji20)).f2) : Int).toNat).size ≤ 9223372036854775807
                            · rw [if_pos c25] at H
                              have c25b0 := eq_true c25
                              have c25b1 : decide ((x5_1 ++ (⟨#[32, 10]⟩ : ByteArray)).size + (a0.extract (((rd_T30 t437 x6_1).f2) : Int).toNat (((rd_T30 t437 (ji20)).f2) : Int).toNat).size ≤ 9223372036854775807) = true := decide_eq_true c25
                              try have c25b2 : (9223372036854775807 < (x5_1 ++ (⟨#[32, 10]⟩ : ByteArray)).size + (a0.extract (((rd_T30 t437 x6_1).f2) : Int).toNat (((rd_T30 t437 (ji20)).f2) : Int).toNat).size) = False := eq_false (Nat.not_lt.2 c25)
                              try (have c25b4 := c25b2; simp only [ByteArray.size_append, show (⟨#[32, 10]⟩ : ByteArray).size = 2 from rfl] at c25b4)
                              by_cases c26 : ((x5_1 ++ (⟨#[32, 10]⟩ : ByteArray)) ++ (a0.extract (((rd_T30 t437 x6_1).f2) : Int).toNat (((rd_T30 t437 (ji20)).f2) : Int).toNat)).size + 2 ≤ 9223372036854775807
                              · rw [if_pos c26] at H
                                have c26b0 := eq_true c26
                                have c26b1 : decide (((x5_1 ++ (⟨#[32, 10]⟩ : ByteArray)) ++ (a0.extract (((rd_T30 t437 x6_1).f2) : Int).toNat (((rd_T30 t437 (ji20)).f2) : Int).toNat)).size + 2 ≤ 9223372036854775807) = true := decide_eq_true c26
                                try have c26b2 : (9223372036854775807 < ((x5_1 ++ (⟨#[32, 10]⟩ : ByteArray)) ++ (a0.extract (((rd_T30 t437 x6_1).f2) : Int).toNat (((rd_T30 t437 (ji20)).f2) : Int).toNat)).size + 2) = False := eq_false (Nat.not_lt.2 c26)
                                try (have c26b4 := c26b2; simp only [ByteArray.size_append, show (⟨#[32, 10]⟩ : ByteArray).size = 2 from rfl] at c26b4)
                                have H' := Aside0.mk H
                                clear H
                                obtain ⟨Ao27, co27, eo27⟩ := Kd.R_slice HO_3.out
                                subst eo27
                                have p445 : 0 ≤ (x6_1 : Int) := of_decide_eq_true (by first | (with_reducible assumption) | assumption)
                                have q445 : x6_1 < (t437.length : Int) := of_decide_eq_true (by first | (with_reducible assumption) | assumption)
                                obtain ⟨ad445, e445, hx445_0, hx445_1, hx445_2⟩ := at_T30 (Kd.R_reads' HO_3.out).2.2 x6_1 p445 q445
                                cases e445
                                replace p445 := eq_true p445
                                replace q445 := eq_true q445
                                have p446 : 0 ≤ ((ji20) : Int) := of_decide_eq_true (by first | (with_reducible assumption) | assumption)
                                have q446 : (ji20) < (t437.length : Int) := of_decide_eq_true (by first | (with_reducible assumption) | assumption)
                                obtain ⟨ad446, e446, hx446_0, hx446_1, hx446_2⟩ := at_T30 (Kd.R_reads' HO_3.out).2.2 (ji20) p446 q446
                                obtain rfl : ad445 = ad446 := (by injection e446)
                                replace p446 := eq_true p446
                                replace q446 := eq_true q446
                                go_wp2
                                repeat (go_quiet (fail); try go_wp2)
                                go_roundg k1
                                case measure => have := HK1.out; omega
                                case rel => exact ⟨(((x5_1 ++ (⟨#[32, 10]⟩ : ByteArray)) ++ (a0.extract (((rd_T30 t437 x6_1).f2) : Int).toNat (((rd_T30 t437 (ji20)).f2) : Int).toNat)) ++ (⟨#[9, 13]⟩ : ByteArray)), (ji20), (by first | rfl | (simp; done) | (simp only [← hji20] <;> (first | rfl | simp)) | (simp [*]; done)), (by first | rfl | (simp; done) | (simp only [← hji20] <;> (first | rfl | simp)) | (simp [*]; done)), H', ⟨by have := HK1.out; omega⟩, ⟨by (with_reducible repeat (first | apply Kd.R_alloc | apply Kd.R_drewN | apply Kd.R_drew)); exact HO_3.out⟩, ⟨by (with_reducible repeat (first | refine blk_drewN ?_ _ | refine blk_drew ?_ | refine blk_alloc ?_ _)); exact BK444.out⟩, ⟨by repeat (first | (with_reducible first | exact HB.out | apply below_alloc | apply pw_below_drewN | apply below_drew1 | refine below_set ?_ GE444.out) | exact HB.out)⟩⟩
                              · rw [if_neg c26] at H
                                exact absurd H (by simp)
                            · rw [if_neg c25] at H
                              exact absurd H (by simp)
                          · rw [if_neg c24] at H
                            exact absurd H (by simp)
                        · rw [if_neg c23] at H
                          exact absurd H (by simp)
                      · rw [if_neg c22] at H
                        exact absurd H (by simp)
                    · rw [if_neg c21] at H
                      exact absurd H (by simp)
                  · rw [if_neg c19] at H
                    exact absurd H (by simp)
                · rw [if_neg c18] at H
                  exact absurd H (by simp)
              · rw [if_neg c17] at H
                exact absurd H (by simp)
            · rw [if_neg c16] at H
              have c16b0 : decide ((wrap64 (x6_1 + 1)) < (t437.length : Int)) = false := decide_eq_false c16
              clear c16
              replace H := Option.bind_eq_some_iff.mp H
              obtain ⟨⟨t447, t450, t451, t452, t453⟩, A280, H⟩ := H
              replace H : (if (!(t450 == 0) || (!(t451 == 0) || (!(t452 == 0) || (!(t453 == 0))))) = true then (dragomanlaw7_JlexBlanks.j1 k1 t437 t447 true) else (dragomanlaw7_JlexBlanks.j1 k1 t437 t447 ((t447.length : Int) != (t437.length : Int)))) = some r := H
              have A28 := Aside0.mk A280
              clear A280
              have HC29 := Aside0.mk H
              clear H
              obtain ⟨Ao30, co30, eo30⟩ := Kd.R_slice HO_3.out
              subst eo30
              go_upto_region 14 with (first | (go_at_call 13; (with_reducible refine (jlex_Cut.calls k1 x5_1 t447 t450 t451 t452 t453 _ A28.out).mono ?_); rintro e w31 ⟨v448, rfl, ho0, hb⟩; have n0_ := Aside0.mk (Kd.R_elder' (by (with_reducible repeat (first | apply Kd.R_alloc | apply Kd.R_drewN | apply Kd.R_drew)); exact HO_3.out) (Kd.R_base ho0) hb); have n1_ := Aside0.mk (Kd.R_lower (Kd.R_new' ho0 (Kd.R_lt (by (with_reducible repeat (first | apply Kd.R_alloc | apply Kd.R_drewN | apply Kd.R_drew)); exact HO_3.out))) (below_size (by repeat (first | (with_reducible first | exact HB.out | apply below_alloc | apply pw_below_drewN | apply below_drew1 | refine below_set ?_ GE444.out) | exact HB.out)))); have n2_ := Aside0.mk (blk_below (g := gb444) (o := .cells #[.int .i64 t440, .int .i64 t441, .int .i64 t442, .int .i64 t443] 26 (0, 0)) (by (with_reducible repeat (first | refine blk_drewN ?_ _ | refine blk_drew ?_ | refine blk_alloc ?_ _)); exact BK444.out) hb); have n3_ := Aside0.mk (below_step (by repeat (first | (with_reducible first | exact HB.out | apply below_alloc | apply pw_below_drewN | apply below_drew1 | refine below_set ?_ GE444.out) | exact HB.out)) hb); clear HO_3; clear BK444; clear HB; have HO_3 := n0_; have HO449 := n1_; have BK444 := n2_; have HB := n3_; clear n0_ n1_ n2_ n3_; (try clear hb); (try clear hb2); (try clear hk); (try clear hi); (try clear ho0)) | ((with_reducible refine gate_dst (N := 8) rfl ?_); (try (refine gate_guard (by rfl) ?_; dsimp only)); refine box_event ?hg (N := 8) ?hd (cs := #[.int .i64 0, .int .i64 0, .int .i64 0, .int .i64 0]) (t := 26) ?hr ?_; (case hd => rfl); (case hg => rfl); (case hr => first | (go_simp; done) | (go_simp; rfl)); intro gb454 hg w32 hbox hb; have n0_ := Aside0.mk (Kd.R_below (by (with_reducible repeat (first | apply Kd.R_alloc | apply Kd.R_drewN | apply Kd.R_drew)); exact HO_3.out) hb); have n1_ := Aside0.mk (Kd.R_below (by (with_reducible repeat (first | apply Kd.R_alloc | apply Kd.R_drewN | apply Kd.R_drew)); exact HO449.out) hb); have n2_ := Aside0.mk (blk_below (g := gb444) (o := .cells #[.int .i64 t440, .int .i64 t441, .int .i64 t442, .int .i64 t443] 26 (0, 0)) (by (with_reducible repeat (first | refine blk_drewN ?_ _ | refine blk_drew ?_ | refine blk_alloc ?_ _)); exact BK444.out) hb); have n3_ := Aside0.mk (below_step (by repeat (first | (with_reducible first | exact HB.out | apply below_alloc | apply pw_below_drewN | apply below_drew1 | refine below_set ?_ GE444.out) | exact HB.out)) hb); have n4_ := Aside0.mk (hbox); have n5_ := Aside0.mk ((by rw [hg]; exact (below_size (by repeat (first | (with_reducible first | exact HB.out | apply below_alloc | apply pw_below_drewN | apply below_drew1 | refine below_set ?_ GE444.out) | exact HB.out))) : w.heap.size ≤ gb454)); have n6_ := Aside0.mk ((by rw [hg]; exact (below_size (by repeat (first | (with_reducible first | exact HB.out | apply below_alloc | apply pw_below_drewN | apply below_drew1 | refine below_set ?_ GE444.out) | exact HB.out))) : w.heap.size ≤ gb454)); have n7_ := Aside0.mk ((by rw [hg]; exact Nat.ne_of_lt (blk_lt (g := gb444) (o := .cells #[.int .i64 t440, .int .i64 t441, .int .i64 t442, .int .i64 t443] 26 (0, 0)) (by (with_reducible repeat (first | refine blk_drewN ?_ _ | refine blk_drew ?_ | refine blk_alloc ?_ _)); exact BK444.out)) : gb444 ≠ gb454)); have n8_ := Aside0.mk ((by rw [hg]; exact Nat.ne_of_gt (blk_lt (g := gb444) (o := .cells #[.int .i64 t440, .int .i64 t441, .int .i64 t442, .int .i64 t443] 26 (0, 0)) (by (with_reducible repeat (first | refine blk_drewN ?_ _ | refine blk_drew ?_ | refine blk_alloc ?_ _)); exact BK444.out)) : gb454 ≠ gb444)); clear HO_3; clear HO449; clear BK444; clear HB; have HO_3 := n0_; have HO449 := n1_; have BK444 := n2_; have HB := n3_; have BK454 := n4_; have GW454 := n5_; have GE454 := n6_; have NB444_454 := n7_; have NB454_444 := n8_; clear n0_ n1_ n2_ n3_ n4_ n5_ n6_ n7_ n8_; clear hb hbox hg; have hnb33 := NB454_444.out; have hnc33 := NB444_454.out; have hcz34_0 : w32.cell? ⟨gb454, 0, none⟩ = some (.int .i64 0) := (blk_cell BK454.out 0).trans rfl; have hcz34_1 : w32.cell? ⟨gb454, 1, none⟩ = some (.int .i64 0) := (blk_cell BK454.out 1).trans rfl; have hcz34_2 : w32.cell? ⟨gb454, 2, none⟩ = some (.int .i64 0) := (blk_cell BK454.out 2).trans rfl; have hcz34_3 : w32.cell? ⟨gb454, 3, none⟩ = some (.int .i64 0) := (blk_cell BK454.out 3).trans rfl; have hfz34_0 := blk_frozen BK454.out 0; have hfz34_1 := blk_frozen BK454.out 1; have hfz34_2 := blk_frozen BK454.out 2; have hfz34_3 := blk_frozen BK454.out 3))
              repeat (go_quiet (first | (go_at_call 13; (with_reducible refine (jlex_Cut.calls k1 x5_1 t447 t450 t451 t452 t453 _ A28.out).mono ?_); rintro e w31 ⟨v448, rfl, ho0, hb⟩; have n0_ := Aside0.mk (Kd.R_elder' (by (with_reducible repeat (first | apply Kd.R_alloc | apply Kd.R_drewN | apply Kd.R_drew)); exact HO_3.out) (Kd.R_base ho0) hb); have n1_ := Aside0.mk (Kd.R_lower (Kd.R_new' ho0 (Kd.R_lt (by (with_reducible repeat (first | apply Kd.R_alloc | apply Kd.R_drewN | apply Kd.R_drew)); exact HO_3.out))) (below_size (by repeat (first | (with_reducible first | exact HB.out | apply below_alloc | apply pw_below_drewN | apply below_drew1 | refine below_set ?_ GE444.out) | exact HB.out)))); have n2_ := Aside0.mk (blk_below (g := gb444) (o := .cells #[.int .i64 t440, .int .i64 t441, .int .i64 t442, .int .i64 t443] 26 (0, 0)) (by (with_reducible repeat (first | refine blk_drewN ?_ _ | refine blk_drew ?_ | refine blk_alloc ?_ _)); exact BK444.out) hb); have n3_ := Aside0.mk (below_step (by repeat (first | (with_reducible first | exact HB.out | apply below_alloc | apply pw_below_drewN | apply below_drew1 | refine below_set ?_ GE444.out) | exact HB.out)) hb); clear HO_3; clear BK444; clear HB; have HO_3 := n0_; have HO449 := n1_; have BK444 := n2_; have HB := n3_; clear n0_ n1_ n2_ n3_; (try clear hb); (try clear hb2); (try clear hk); (try clear hi); (try clear ho0)) | ((with_reducible refine gate_dst (N := 8) rfl ?_); (try (refine gate_guard (by rfl) ?_; dsimp only)); refine box_event ?hg (N := 8) ?hd (cs := #[.int .i64 0, .int .i64 0, .int .i64 0, .int .i64 0]) (t := 26) ?hr ?_; (case hd => rfl); (case hg => rfl); (case hr => first | (go_simp; done) | (go_simp; rfl)); intro gb454 hg w32 hbox hb; have n0_ := Aside0.mk (Kd.R_below (by (with_reducible repeat (first | apply Kd.R_alloc | apply Kd.R_drewN | apply Kd.R_drew)); exact HO_3.out) hb); have n1_ := Aside0.mk (Kd.R_below (by (with_reducible repeat (first | apply Kd.R_alloc | apply Kd.R_drewN | apply Kd.R_drew)); exact HO449.out) hb); have n2_ := Aside0.mk (blk_below (g := gb444) (o := .cells #[.int .i64 t440, .int .i64 t441, .int .i64 t442, .int .i64 t443] 26 (0, 0)) (by (with_reducible repeat (first | refine blk_drewN ?_ _ | refine blk_drew ?_ | refine blk_alloc ?_ _)); exact BK444.out) hb); have n3_ := Aside0.mk (below_step (by repeat (first | (with_reducible first | exact HB.out | apply below_alloc | apply pw_below_drewN | apply below_drew1 | refine below_set ?_ GE444.out) | exact HB.out)) hb); have n4_ := Aside0.mk (hbox); have n5_ := Aside0.mk ((by rw [hg]; exact (below_size (by repeat (first | (with_reducible first | exact HB.out | apply below_alloc | apply pw_below_drewN | apply below_drew1 | refine below_set ?_ GE444.out) | exact HB.out))) : w.heap.size ≤ gb454)); have n6_ := Aside0.mk ((by rw [hg]; exact (below_size (by repeat (first | (with_reducible first | exact HB.out | apply below_alloc | apply pw_below_drewN | apply below_drew1 | refine below_set ?_ GE444.out) | exact HB.out))) : w.heap.size ≤ gb454)); have n7_ := Aside0.mk ((by rw [hg]; exact Nat.ne_of_lt (blk_lt (g := gb444) (o := .cells #[.int .i64 t440, .int .i64 t441, .int .i64 t442, .int .i64 t443] 26 (0, 0)) (by (with_reducible repeat (first | refine blk_drewN ?_ _ | refine blk_drew ?_ | refine blk_alloc ?_ _)); exact BK444.out)) : gb444 ≠ gb454)); have n8_ := Aside0.mk ((by rw [hg]; exact Nat.ne_of_gt (blk_lt (g := gb444) (o := .cells #[.int .i64 t440, .int .i64 t441, .int .i64 t442, .int .i64 t443] 26 (0, 0)) (by (with_reducible repeat (first | refine blk_drewN ?_ _ | refine blk_drew ?_ | refine blk_alloc ?_ _)); exact BK444.out)) : gb454 ≠ gb444)); clear HO_3; clear HO449; clear BK444; clear HB; have HO_3 := n0_; have HO449 := n1_; have BK444 := n2_; have HB := n3_; have BK454 := n4_; have GW454 := n5_; have GE454 := n6_; have NB444_454 := n7_; have NB454_444 := n8_; clear n0_ n1_ n2_ n3_ n4_ n5_ n6_ n7_ n8_; clear hb hbox hg; have hnb33 := NB454_444.out; have hnc33 := NB444_454.out; have hcz34_0 : w32.cell? ⟨gb454, 0, none⟩ = some (.int .i64 0) := (blk_cell BK454.out 0).trans rfl; have hcz34_1 : w32.cell? ⟨gb454, 1, none⟩ = some (.int .i64 0) := (blk_cell BK454.out 1).trans rfl; have hcz34_2 : w32.cell? ⟨gb454, 2, none⟩ = some (.int .i64 0) := (blk_cell BK454.out 2).trans rfl; have hcz34_3 : w32.cell? ⟨gb454, 3, none⟩ = some (.int .i64 0) := (blk_cell BK454.out 3).trans rfl; have hfz34_0 := blk_frozen BK454.out 0; have hfz34_1 := blk_frozen BK454.out 1; have hfz34_2 := blk_frozen BK454.out 2; have hfz34_3 := blk_frozen BK454.out 3)); go_upto_region 14 with (first | (go_at_call 13; (with_reducible refine (jlex_Cut.calls k1 x5_1 t447 t450 t451 t452 t453 _ A28.out).mono ?_); rintro e w31 ⟨v448, rfl, ho0, hb⟩; have n0_ := Aside0.mk (Kd.R_elder' (by (with_reducible repeat (first | apply Kd.R_alloc | apply Kd.R_drewN | apply Kd.R_drew)); exact HO_3.out) (Kd.R_base ho0) hb); have n1_ := Aside0.mk (Kd.R_lower (Kd.R_new' ho0 (Kd.R_lt (by (with_reducible repeat (first | apply Kd.R_alloc | apply Kd.R_drewN | apply Kd.R_drew)); exact HO_3.out))) (below_size (by repeat (first | (with_reducible first | exact HB.out | apply below_alloc | apply pw_below_drewN | apply below_drew1 | refine below_set ?_ GE444.out) | exact HB.out)))); have n2_ := Aside0.mk (blk_below (g := gb444) (o := .cells #[.int .i64 t440, .int .i64 t441, .int .i64 t442, .int .i64 t443] 26 (0, 0)) (by (with_reducible repeat (first | refine blk_drewN ?_ _ | refine blk_drew ?_ | refine blk_alloc ?_ _)); exact BK444.out) hb); have n3_ := Aside0.mk (below_step (by repeat (first | (with_reducible first | exact HB.out | apply below_alloc | apply pw_below_drewN | apply below_drew1 | refine below_set ?_ GE444.out) | exact HB.out)) hb); clear HO_3; clear BK444; clear HB; have HO_3 := n0_; have HO449 := n1_; have BK444 := n2_; have HB := n3_; clear n0_ n1_ n2_ n3_; (try clear hb); (try clear hb2); (try clear hk); (try clear hi); (try clear ho0)) | ((with_reducible refine gate_dst (N := 8) rfl ?_); (try (refine gate_guard (by rfl) ?_; dsimp only)); refine box_event ?hg (N := 8) ?hd (cs := #[.int .i64 0, .int .i64 0, .int .i64 0, .int .i64 0]) (t := 26) ?hr ?_; (case hd => rfl); (case hg => rfl); (case hr => first | (go_simp; done) | (go_simp; rfl)); intro gb454 hg w32 hbox hb; have n0_ := Aside0.mk (Kd.R_below (by (with_reducible repeat (first | apply Kd.R_alloc | apply Kd.R_drewN | apply Kd.R_drew)); exact HO_3.out) hb); have n1_ := Aside0.mk (Kd.R_below (by (with_reducible repeat (first | apply Kd.R_alloc | apply Kd.R_drewN | apply Kd.R_drew)); exact HO449.out) hb); have n2_ := Aside0.mk (blk_below (g := gb444) (o := .cells #[.int .i64 t440, .int .i64 t441, .int .i64 t442, .int .i64 t443] 26 (0, 0)) (by (with_reducible repeat (first | refine blk_drewN ?_ _ | refine blk_drew ?_ | refine blk_alloc ?_ _)); exact BK444.out) hb); have n3_ := Aside0.mk (below_step (by repeat (first | (with_reducible first | exact HB.out | apply below_alloc | apply pw_below_drewN | apply below_drew1 | refine below_set ?_ GE444.out) | exact HB.out)) hb); have n4_ := Aside0.mk (hbox); have n5_ := Aside0.mk ((by rw [hg]; exact (below_size (by repeat (first | (with_reducible first | exact HB.out | apply below_alloc | apply pw_below_drewN | apply below_drew1 | refine below_set ?_ GE444.out) | exact HB.out))) : w.heap.size ≤ gb454)); have n6_ := Aside0.mk ((by rw [hg]; exact (below_size (by repeat (first | (with_reducible first | exact HB.out | apply below_alloc | apply pw_below_drewN | apply below_drew1 | refine below_set ?_ GE444.out) | exact HB.out))) : w.heap.size ≤ gb454)); have n7_ := Aside0.mk ((by rw [hg]; exact Nat.ne_of_lt (blk_lt (g := gb444) (o := .cells #[.int .i64 t440, .int .i64 t441, .int .i64 t442, .int .i64 t443] 26 (0, 0)) (by (with_reducible repeat (first | refine blk_drewN ?_ _ | refine blk_drew ?_ | refine blk_alloc ?_ _)); exact BK444.out)) : gb444 ≠ gb454)); have n8_ := Aside0.mk ((by rw [hg]; exact Nat.ne_of_gt (blk_lt (g := gb444) (o := .cells #[.int .i64 t440, .int .i64 t441, .int .i64 t442, .int .i64 t443] 26 (0, 0)) (by (with_reducible repeat (first | refine blk_drewN ?_ _ | refine blk_drew ?_ | refine blk_alloc ?_ _)); exact BK444.out)) : gb454 ≠ gb444)); clear HO_3; clear HO449; clear BK444; clear HB; have HO_3 := n0_; have HO449 := n1_; have BK444 := n2_; have HB := n3_; have BK454 := n4_; have GW454 := n5_; have GE454 := n6_; have NB444_454 := n7_; have NB454_444 := n8_; clear n0_ n1_ n2_ n3_ n4_ n5_ n6_ n7_ n8_; clear hb hbox hg; have hnb33 := NB454_444.out; have hnc33 := NB444_454.out; have hcz34_0 : w32.cell? ⟨gb454, 0, none⟩ = some (.int .i64 0) := (blk_cell BK454.out 0).trans rfl; have hcz34_1 : w32.cell? ⟨gb454, 1, none⟩ = some (.int .i64 0) := (blk_cell BK454.out 1).trans rfl; have hcz34_2 : w32.cell? ⟨gb454, 2, none⟩ = some (.int .i64 0) := (blk_cell BK454.out 2).trans rfl; have hcz34_3 : w32.cell? ⟨gb454, 3, none⟩ = some (.int .i64 0) := (blk_cell BK454.out 3).trans rfl; have hfz34_0 := blk_frozen BK454.out 0; have hfz34_1 := blk_frozen BK454.out 1; have hfz34_2 := blk_frozen BK454.out 2; have hfz34_3 := blk_frozen BK454.out 3)))
              (try simp only [Act.put, List.setIfInBounds_toArray, List.set_cons_zero, List.set_cons_succ])
              go_cut [61] (fun v61 wc => ∃ (kq : Nat) (x61_28 : Bool), v61 = .bool x61_28 ∧ Aside0 (dragomanlaw7_JlexBlanks.j1 kq t437 t447 x61_28 = some r) ∧ Aside0 (kq ≤ k1) ∧ Aside0 (Kd.R k30 30 wc w.heap.size (fun k_ => some k_ ≠ (v448 : Value).ownBlock) (.slice Ao30 t437.length co30) t437) ∧ Aside0 (Kd.R k30 30 wc w.heap.size (fun k_ => some k_ ≠ ((.slice Ao30 t437.length co30) : Value).ownBlock) v448 t447) ∧ Aside0 (wc.heap[gb444]? = some (.cells #[.int .i64 t440, .int .i64 t441, .int .i64 t442, .int .i64 t443] 26 (0, 0))) ∧ Aside0 (wc.heap[gb454]? = some (.cells #[.int .i64 t450, .int .i64 t451, .int .i64 t452, .int .i64 t453] 26 (0, 0))) ∧ Aside0 (Below w.heap.size w wc))
              case first =>
                have H := HC29.out
                clear HC29
                by_cases c35 : (!(t450 == 0) || (!(t451 == 0) || (!(t452 == 0) || (!(t453 == 0))))) = true
                · rw [if_pos c35] at H
                  have c35b0 : (!(t450 == 0) || (!(t451 == 0) || (!(t452 == 0) || (!(t453 == 0))))) = true := c35
                  clear c35
                  (first | rw [c35b0] | (simp only [i64_w, i32_w]; rw [c35b0]) | skip)
                  have H' := Aside0.mk H
                  clear H
                  have hnb36 := NB454_444.out
                  have hnc36 := NB444_454.out
                  have hcz37_0 : w32.cell? ⟨gb454, 0, none⟩ = some (.int .i64 0) := (blk_cell BK454.out 0).trans rfl
                  have hcz37_1 : w32.cell? ⟨gb454, 1, none⟩ = some (.int .i64 0) := (blk_cell BK454.out 1).trans rfl
                  have hcz37_2 : w32.cell? ⟨gb454, 2, none⟩ = some (.int .i64 0) := (blk_cell BK454.out 2).trans rfl
                  have hcz37_3 : w32.cell? ⟨gb454, 3, none⟩ = some (.int .i64 0) := (blk_cell BK454.out 3).trans rfl
                  have hfz37_0 := blk_frozen BK454.out 0
                  have hfz37_1 := blk_frozen BK454.out 1
                  have hfz37_2 := blk_frozen BK454.out 2
                  have hfz37_3 := blk_frozen BK454.out 3
                  go_wp2
                  repeat (go_quiet (fail); try go_wp2)
                  go_meet
                  case rel => exact ⟨_, (true), (by first | rfl | (simp; done) | (simp [*]; done)), H', ⟨by have := HK1.out; first | omega | exact Nat.le_refl _⟩, ⟨by (with_reducible repeat (first | apply Kd.R_alloc | apply Kd.R_drewN | apply Kd.R_drew)); exact Kd.R_mono (Kd.R_far (p := ⟨gb454, 3, none⟩) (Kd.R_far (p := ⟨gb454, 2, none⟩) (Kd.R_far (p := ⟨gb454, 1, none⟩) (Kd.R_far (p := ⟨gb454, 0, none⟩) (Kd.R_types HO_3.out BK454.out (by decide)) (fun _ hk => hk.2) (.int .i64 t450)) (fun _ hk => hk.2) (.int .i64 t451)) (fun _ hk => hk.2) (.int .i64 t452)) (fun _ hk => hk.2) (.int .i64 t453)) (fun _ hk => hk.1.2)⟩, ⟨by (with_reducible repeat (first | apply Kd.R_alloc | apply Kd.R_drewN | apply Kd.R_drew)); exact Kd.R_mono (Kd.R_far (p := ⟨gb454, 3, none⟩) (Kd.R_far (p := ⟨gb454, 2, none⟩) (Kd.R_far (p := ⟨gb454, 1, none⟩) (Kd.R_far (p := ⟨gb454, 0, none⟩) (Kd.R_types HO449.out BK454.out (by decide)) (fun _ hk => hk.2) (.int .i64 t450)) (fun _ hk => hk.2) (.int .i64 t451)) (fun _ hk => hk.2) (.int .i64 t452)) (fun _ hk => hk.2) (.int .i64 t453)) (fun _ hk => hk.1.2)⟩, ⟨by (with_reducible repeat (first | refine blk_drewN ?_ _ | refine blk_drew ?_ | refine blk_alloc ?_ _)); refine blk_far ?_ NB444_454.out _; (with_reducible repeat (first | refine blk_drewN ?_ _ | refine blk_drew ?_ | refine blk_alloc ?_ _)); refine blk_far ?_ NB444_454.out _; (with_reducible repeat (first | refine blk_drewN ?_ _ | refine blk_drew ?_ | refine blk_alloc ?_ _)); refine blk_far ?_ NB444_454.out _; (with_reducible repeat (first | refine blk_drewN ?_ _ | refine blk_drew ?_ | refine blk_alloc ?_ _)); refine blk_far ?_ NB444_454.out _; (with_reducible repeat (first | refine blk_drewN ?_ _ | refine blk_drew ?_ | refine blk_alloc ?_ _)); exact BK444.out⟩, ⟨by (with_reducible repeat (first | refine blk_drewN ?_ _ | refine blk_drew ?_ | refine blk_alloc ?_ _)); refine blk_put (cs := #[.int .i64 t450, .int .i64 t451, .int .i64 t452, .int .i64 0]) ?_ 3 _ rfl; (with_reducible repeat (first | refine blk_drewN ?_ _ | refine blk_drew ?_ | refine blk_alloc ?_ _)); refine blk_put (cs := #[.int .i64 t450, .int .i64 t451, .int .i64 0, .int .i64 0]) ?_ 2 _ rfl; (with_reducible repeat (first | refine blk_drewN ?_ _ | refine blk_drew ?_ | refine blk_alloc ?_ _)); refine blk_put (cs := #[.int .i64 t450, .int .i64 0, .int .i64 0, .int .i64 0]) ?_ 1 _ rfl; (with_reducible repeat (first | refine blk_drewN ?_ _ | refine blk_drew ?_ | refine blk_alloc ?_ _)); refine blk_put (cs := #[.int .i64 0, .int .i64 0, .int .i64 0, .int .i64 0]) ?_ 0 _ rfl; (with_reducible repeat (first | refine blk_drewN ?_ _ | refine blk_drew ?_ | refine blk_alloc ?_ _)); exact BK454.out⟩, ⟨by repeat (first | (with_reducible first | exact HB.out | apply below_alloc | apply pw_below_drewN | apply below_drew1 | refine below_set ?_ GE444.out | refine below_set ?_ GE454.out) | exact HB.out)⟩⟩
                · rw [if_neg c35] at H
                  have c35b0 : (!(t450 == 0) || (!(t451 == 0) || (!(t452 == 0) || (!(t453 == 0))))) = false := by simpa using c35
                  clear c35
                  (first | rw [c35b0] | (simp only [i64_w, i32_w]; rw [c35b0]) | skip)
                  have H' := Aside0.mk H
                  clear H
                  have hnb38 := NB454_444.out
                  have hnc38 := NB444_454.out
                  have hcz39_0 : w32.cell? ⟨gb454, 0, none⟩ = some (.int .i64 0) := (blk_cell BK454.out 0).trans rfl
                  have hcz39_1 : w32.cell? ⟨gb454, 1, none⟩ = some (.int .i64 0) := (blk_cell BK454.out 1).trans rfl
                  have hcz39_2 : w32.cell? ⟨gb454, 2, none⟩ = some (.int .i64 0) := (blk_cell BK454.out 2).trans rfl
                  have hcz39_3 : w32.cell? ⟨gb454, 3, none⟩ = some (.int .i64 0) := (blk_cell BK454.out 3).trans rfl
                  have hfz39_0 := blk_frozen BK454.out 0
                  have hfz39_1 := blk_frozen BK454.out 1
                  have hfz39_2 := blk_frozen BK454.out 2
                  have hfz39_3 := blk_frozen BK454.out 3
                  obtain ⟨Ao40, co40, eo40⟩ := Kd.R_slice HO449.out
                  subst eo40
                  go_wp2
                  repeat (go_quiet (fail); try go_wp2)
                  go_meet
                  case rel => exact ⟨_, (((t447.length : Int) != (t437.length : Int))), (by first | rfl | (simp; done) | (simp [*]; done)), H', ⟨by have := HK1.out; first | omega | exact Nat.le_refl _⟩, ⟨by (with_reducible repeat (first | apply Kd.R_alloc | apply Kd.R_drewN | apply Kd.R_drew)); exact Kd.R_mono (Kd.R_far (p := ⟨gb454, 3, none⟩) (Kd.R_far (p := ⟨gb454, 2, none⟩) (Kd.R_far (p := ⟨gb454, 1, none⟩) (Kd.R_far (p := ⟨gb454, 0, none⟩) (Kd.R_types HO_3.out BK454.out (by decide)) (fun _ hk => hk.2) (.int .i64 t450)) (fun _ hk => hk.2) (.int .i64 t451)) (fun _ hk => hk.2) (.int .i64 t452)) (fun _ hk => hk.2) (.int .i64 t453)) (fun _ hk => hk.1.2)⟩, ⟨by (with_reducible repeat (first | apply Kd.R_alloc | apply Kd.R_drewN | apply Kd.R_drew)); exact Kd.R_mono (Kd.R_far (p := ⟨gb454, 3, none⟩) (Kd.R_far (p := ⟨gb454, 2, none⟩) (Kd.R_far (p := ⟨gb454, 1, none⟩) (Kd.R_far (p := ⟨gb454, 0, none⟩) (Kd.R_types HO449.out BK454.out (by decide)) (fun _ hk => hk.2) (.int .i64 t450)) (fun _ hk => hk.2) (.int .i64 t451)) (fun _ hk => hk.2) (.int .i64 t452)) (fun _ hk => hk.2) (.int .i64 t453)) (fun _ hk => hk.1.2)⟩, ⟨by (with_reducible repeat (first | refine blk_drewN ?_ _ | refine blk_drew ?_ | refine blk_alloc ?_ _)); refine blk_far ?_ NB444_454.out _; (with_reducible repeat (first | refine blk_drewN ?_ _ | refine blk_drew ?_ | refine blk_alloc ?_ _)); refine blk_far ?_ NB444_454.out _; (with_reducible repeat (first | refine blk_drewN ?_ _ | refine blk_drew ?_ | refine blk_alloc ?_ _)); refine blk_far ?_ NB444_454.out _; (with_reducible repeat (first | refine blk_drewN ?_ _ | refine blk_drew ?_ | refine blk_alloc ?_ _)); refine blk_far ?_ NB444_454.out _; (with_reducible repeat (first | refine blk_drewN ?_ _ | refine blk_drew ?_ | refine blk_alloc ?_ _)); exact BK444.out⟩, ⟨by (with_reducible repeat (first | refine blk_drewN ?_ _ | refine blk_drew ?_ | refine blk_alloc ?_ _)); refine blk_put (cs := #[.int .i64 t450, .int .i64 t451, .int .i64 t452, .int .i64 0]) ?_ 3 _ rfl; (with_reducible repeat (first | refine blk_drewN ?_ _ | refine blk_drew ?_ | refine blk_alloc ?_ _)); refine blk_put (cs := #[.int .i64 t450, .int .i64 t451, .int .i64 0, .int .i64 0]) ?_ 2 _ rfl; (with_reducible repeat (first | refine blk_drewN ?_ _ | refine blk_drew ?_ | refine blk_alloc ?_ _)); refine blk_put (cs := #[.int .i64 t450, .int .i64 0, .int .i64 0, .int .i64 0]) ?_ 1 _ rfl; (with_reducible repeat (first | refine blk_drewN ?_ _ | refine blk_drew ?_ | refine blk_alloc ?_ _)); refine blk_put (cs := #[.int .i64 0, .int .i64 0, .int .i64 0, .int .i64 0]) ?_ 0 _ rfl; (with_reducible repeat (first | refine blk_drewN ?_ _ | refine blk_drew ?_ | refine blk_alloc ?_ _)); exact BK454.out⟩, ⟨by repeat (first | (with_reducible first | exact HB.out | apply below_alloc | apply pw_below_drewN | apply below_drew1 | refine below_set ?_ GE444.out | refine below_set ?_ GE454.out) | exact HB.out)⟩⟩
              case rest =>
                clear HC29
                try clear c1
                try clear c2
                try clear p2
                try clear c3
                try clear c4
                try clear c4b0
                try clear c4b1
                try clear p4
                try clear q4
                try clear hx4
                try clear p6
                try clear c7
                try clear c7b0
                try clear c11
                try clear c16
                try clear c16b0
                try clear c17
                try clear c17b0
                try clear c17b1
                try clear c17b2
                try clear c18
                try clear c18b0
                try clear c19
                try clear c19b0
                try clear c21
                try clear c21b0
                try clear c22
                try clear c22b0
                try clear c22b1
                try clear c23
                try clear c23b0
                try clear c23b1
                try clear c24
                try clear c24b0
                try clear c24b1
                try clear c25
                try clear c25b0
                try clear c25b1
                try clear c25b2
                try clear c26
                try clear c26b0
                try clear c26b1
                try clear c26b2
                try clear c33
                try clear c35
                try clear c35b0
                try clear c36
                try clear c38
                try clear hcz11_0
                try clear hcz11_1
                try clear hcz11_2
                try clear hcz11_3
                try clear hcz15_0
                try clear hcz15_1
                try clear hcz15_2
                try clear hcz15_3
                try clear hcz34_0
                try clear hcz34_1
                try clear hcz34_2
                try clear hcz34_3
                try clear hcz37_0
                try clear hcz37_1
                try clear hcz37_2
                try clear hcz37_3
                try clear hcz39_0
                try clear hcz39_1
                try clear hcz39_2
                try clear hcz39_3
                try clear hfz11_0
                try clear hfz11_1
                try clear hfz11_2
                try clear hfz11_3
                try clear hfz15_0
                try clear hfz15_1
                try clear hfz15_2
                try clear hfz15_3
                try clear hfz34_0
                try clear hfz34_1
                try clear hfz34_2
                try clear hfz34_3
                try clear hfz37_0
                try clear hfz37_1
                try clear hfz37_2
                try clear hfz37_3
                try clear hfz39_0
                try clear hfz39_1
                try clear hfz39_2
                try clear hfz39_3
                try clear hx445_0
                try clear hx445_1
                try clear hx445_2
                try clear hx446_0
                try clear hx446_1
                try clear hx446_2
                try clear p2
                try clear p445
                try clear p446
                try clear q445
                try clear q446
                obtain ⟨kq, x61_28, rfl, HA, HJ28, HO_3, HO_7, BK444, BK454, HB⟩ := hcut
                cases kq with
                | zero => exact absurd HA.out (by simp [dragomanlaw7_JlexBlanks.j1])
                | succ kj28 =>
                  have H := HA.out
                  clear HA
                  simp only [dragomanlaw7_JlexBlanks.j1] at H
                  by_cases c41 : x61_28 = true
                  · subst c41
                    have H1 : (some false) = some r := by rw [if_pos rfl] at H; exact H
                    clear H
                    have H := H1
                    clear H1
                    obtain rfl := Option.some.inj H
                    go_wp2
                    repeat (go_quiet (fail); try go_wp2)
                    go_ret
                    exact ⟨by first | rfl | (simp [errW_none, errW_some] <;> rfl) | (simp [*, errW_none, errW_some, bne]; done) | (simp [*, errW_none, errW_some] <;> rfl), by repeat (first | (with_reducible first | exact HB.out | apply below_alloc | apply pw_below_drewN | apply below_drew1 | refine below_set ?_ GE444.out | refine below_set ?_ GE454.out) | exact HB.out)⟩
                  · replace c41 := Bool.eq_false_iff.mpr c41
                    subst c41
                    have H1 : (dragomanlaw7_JlexBlanks.l1 kj28 t437 t447 0) = some r := by rw [if_neg (show ¬ (false = true) by decide)] at H; exact H
                    clear H
                    have H := H1
                    clear H1
                    have H' := Aside0.mk H
                    clear H
                    go_wp2
                    repeat (go_quiet (fail); try go_wp2)
                    go_loopg [9] kj28 (fun kq v9 w' => ∃ (x9_3 : Int), v9 = .int .i64 x9_3 ∧ Aside0 (dragomanlaw7_JlexBlanks.l1 kq t437 t447 x9_3 = some r) ∧ Aside0 (kq ≤ kj28) ∧ Aside0 (Kd.R k30 30 w' w.heap.size (fun k_ => some k_ ≠ (v448 : Value).ownBlock) (.slice Ao30 t437.length co30) t437) ∧ Aside0 (Kd.R k30 30 w' w.heap.size (fun k_ => some k_ ≠ ((.slice Ao30 t437.length co30) : Value).ownBlock) v448 t447) ∧ Aside0 (w'.heap[gb444]? = some (.cells #[.int .i64 t440, .int .i64 t441, .int .i64 t442, .int .i64 t443] 26 (0, 0))) ∧ Aside0 (w'.heap[gb454]? = some (.cells #[.int .i64 t450, .int .i64 t451, .int .i64 t452, .int .i64 t453] 26 (0, 0))) ∧ Aside0 (Below w.heap.size w w'))
                    case atStart => exact ⟨(0), (by first | rfl | (simp; done) | (simp [*]; done)), H', ⟨Nat.le_refl _⟩, ⟨by (with_reducible repeat (first | apply Kd.R_alloc | apply Kd.R_drewN | apply Kd.R_drew)); exact HO_3.out⟩, ⟨by (with_reducible repeat (first | apply Kd.R_alloc | apply Kd.R_drewN | apply Kd.R_drew)); exact HO_7.out⟩, ⟨by (with_reducible repeat (first | refine blk_drewN ?_ _ | refine blk_drew ?_ | refine blk_alloc ?_ _)); exact BK444.out⟩, ⟨by (with_reducible repeat (first | refine blk_drewN ?_ _ | refine blk_drew ?_ | refine blk_alloc ?_ _)); exact BK454.out⟩, ⟨by repeat (first | (with_reducible first | exact HB.out | apply below_alloc | apply pw_below_drewN | apply below_drew1 | refine below_set ?_ GE444.out | refine below_set ?_ GE454.out) | exact HB.out)⟩⟩
                    case round =>
                      clear H'
                      try clear c1
                      try clear c2
                      try clear p2
                      try clear c3
                      try clear c4
                      try clear c4b0
                      try clear c4b1
                      try clear p4
                      try clear q4
                      try clear hx4
                      try clear p6
                      try clear c7
                      try clear c7b0
                      try clear c11
                      try clear c16
                      try clear c16b0
                      try clear c17
                      try clear c17b0
                      try clear c17b1
                      try clear c17b2
                      try clear c18
                      try clear c18b0
                      try clear c19
                      try clear c19b0
                      try clear c21
                      try clear c21b0
                      try clear c22
                      try clear c22b0
                      try clear c22b1
                      try clear c23
                      try clear c23b0
                      try clear c23b1
                      try clear c24
                      try clear c24b0
                      try clear c24b1
                      try clear c25
                      try clear c25b0
                      try clear c25b1
                      try clear c25b2
                      try clear c26
                      try clear c26b0
                      try clear c26b1
                      try clear c26b2
                      try clear c33
                      try clear c35
                      try clear c35b0
                      try clear c36
                      try clear c38
                      try clear c41
                      try clear hcz11_0
                      try clear hcz11_1
                      try clear hcz11_2
                      try clear hcz11_3
                      try clear hcz15_0
                      try clear hcz15_1
                      try clear hcz15_2
                      try clear hcz15_3
                      try clear hcz34_0
                      try clear hcz34_1
                      try clear hcz34_2
                      try clear hcz34_3
                      try clear hcz37_0
                      try clear hcz37_1
                      try clear hcz37_2
                      try clear hcz37_3
                      try clear hcz39_0
                      try clear hcz39_1
                      try clear hcz39_2
                      try clear hcz39_3
                      try clear hfz11_0
                      try clear hfz11_1
                      try clear hfz11_2
                      try clear hfz11_3
                      try clear hfz15_0
                      try clear hfz15_1
                      try clear hfz15_2
                      try clear hfz15_3
                      try clear hfz34_0
                      try clear hfz34_1
                      try clear hfz34_2
                      try clear hfz34_3
                      try clear hfz37_0
                      try clear hfz37_1
                      try clear hfz37_2
                      try clear hfz37_3
                      try clear hfz39_0
                      try clear hfz39_1
                      try clear hfz39_2
                      try clear hfz39_3
                      try clear hx445_0
                      try clear hx445_1
                      try clear hx445_2
                      try clear hx446_0
                      try clear hx446_1
                      try clear hx446_2
                      try clear p2
                      try clear p4
                      try clear p445
                      try clear p446
                      try clear p6
                      try clear q4
                      try clear q445
                      try clear q446
                      obtain ⟨x9_3, rfl, HA, HK3, HO_3, HO_7, BK444, BK454, HB⟩ := hrel
                      cases gk with
                      | zero => exact absurd HA.out (by simp [dragomanlaw7_JlexBlanks.l1])
                      | succ k3 =>
                        have H := HA.out
                        clear HA
                        simp only [dragomanlaw7_JlexBlanks.l1] at H
                        by_cases c42 : x9_3 < (t437.length : Int)
                        · rw [if_pos c42] at H
                          have c42b0 : decide (x9_3 < (t437.length : Int)) = true := decide_eq_true c42
                          clear c42
                          by_cases c43 : 0 ≤ x9_3
                          · rw [if_pos c43] at H
                            have c43b0 : decide (0 ≤ x9_3) = true := decide_eq_true c43
                            clear c43
                            by_cases c44 : x9_3 < (t447.length : Int)
                            · rw [if_pos c44] at H
                              have c44b0 : decide (x9_3 < (t447.length : Int)) = true := decide_eq_true c44
                              clear c44
                              by_cases c45 : ((rd_T30 t447 x9_3).f0) = ((rd_T30 t437 x9_3).f0)
                              · rw [if_pos c45] at H
                                have c45b0 : (((rd_T30 t447 x9_3).f0) == ((rd_T30 t437 x9_3).f0)) = true := beq_iff_eq.mpr c45
                                have c45b1 : (((rd_T30 t447 x9_3).f0) != ((rd_T30 t437 x9_3).f0)) = false := bne_eq_false_iff_eq.mpr c45
                                clear c45
                                by_cases c46 : ((rd_T30 t447 x9_3).f1).toList = ((rd_T30 t437 x9_3).f1).toList
                                · rw [if_pos c46] at H
                                  have c46b0 : (((rd_T30 t447 x9_3).f1).toList == ((rd_T30 t437 x9_3).f1).toList) = true := beq_iff_eq.mpr c46
                                  have c46b1 : (((rd_T30 t447 x9_3).f1).toList != ((rd_T30 t437 x9_3).f1).toList) = false := bne_eq_false_iff_eq.mpr c46
                                  clear c46
                                  have H' := Aside0.mk H
                                  clear H
                                  obtain ⟨Ao47, co47, eo47⟩ := Kd.R_slice HO_7.out
                                  subst eo47
                                  have p455 : 0 ≤ (x9_3 : Int) := of_decide_eq_true (by first | (with_reducible assumption) | assumption)
                                  have q455 : x9_3 < (t447.length : Int) := of_decide_eq_true (by first | (with_reducible assumption) | assumption)
                                  obtain ⟨ad455, e455, hx455_0, hx455_1, hx455_2⟩ := at_T30 (Kd.R_reads' HO_7.out).2.2 x9_3 p455 q455
                                  cases e455
                                  replace p455 := eq_true p455
                                  replace q455 := eq_true q455
                                  have p456 : 0 ≤ (x9_3 : Int) := of_decide_eq_true (by first | (with_reducible assumption) | assumption)
                                  have q456 : x9_3 < (t437.length : Int) := of_decide_eq_true (by first | (with_reducible assumption) | assumption)
                                  obtain ⟨ad456, e456, hx456_0, hx456_1, hx456_2⟩ := at_T30 (Kd.R_reads' HO_3.out).2.2 x9_3 p456 q456
                                  cases e456
                                  replace p456 := eq_true p456
                                  replace q456 := eq_true q456
                                  have p457 : 0 ≤ (x9_3 : Int) := of_decide_eq_true (by first | (with_reducible assumption) | assumption)
                                  have q457 : x9_3 < (t447.length : Int) := of_decide_eq_true (by first | (with_reducible assumption) | assumption)
                                  obtain ⟨ad457, e457, hx457_0, hx457_1, hx457_2⟩ := at_T30 (Kd.R_reads' HO_7.out).2.2 x9_3 p457 q457
                                  obtain rfl : ad455 = ad457 := (by injection e457)
                                  replace p457 := eq_true p457
                                  replace q457 := eq_true q457
                                  have p458 : 0 ≤ (x9_3 : Int) := of_decide_eq_true (by first | (with_reducible assumption) | assumption)
                                  have q458 : x9_3 < (t437.length : Int) := of_decide_eq_true (by first | (with_reducible assumption) | assumption)
                                  obtain ⟨ad458, e458, hx458_0, hx458_1, hx458_2⟩ := at_T30 (Kd.R_reads' HO_3.out).2.2 x9_3 p458 q458
                                  obtain rfl : ad456 = ad458 := (by injection e458)
                                  replace p458 := eq_true p458
                                  replace q458 := eq_true q458
                                  go_wp2
                                  repeat (go_quiet (fail); try go_wp2)
                                  go_roundg k3
                                  case measure => have := HK1.out; have := HJ28.out; have := HK3.out; omega
                                  case rel => exact ⟨(wrap64 (x9_3 + 1)), (by first | rfl | (simp; done) | (simp [*]; done)), H', ⟨by have := HK1.out; have := HJ28.out; have := HK3.out; omega⟩, ⟨by (with_reducible repeat (first | apply Kd.R_alloc | apply Kd.R_drewN | apply Kd.R_drew)); exact HO_3.out⟩, ⟨by (with_reducible repeat (first | apply Kd.R_alloc | apply Kd.R_drewN | apply Kd.R_drew)); exact HO_7.out⟩, ⟨by (with_reducible repeat (first | refine blk_drewN ?_ _ | refine blk_drew ?_ | refine blk_alloc ?_ _)); exact BK444.out⟩, ⟨by (with_reducible repeat (first | refine blk_drewN ?_ _ | refine blk_drew ?_ | refine blk_alloc ?_ _)); exact BK454.out⟩, ⟨by repeat (first | (with_reducible first | exact HB.out | apply below_alloc | apply pw_below_drewN | apply below_drew1 | refine below_set ?_ GE444.out | refine below_set ?_ GE454.out) | exact HB.out)⟩⟩
                                · rw [if_neg c46] at H
                                  have c46b0 : (((rd_T30 t447 x9_3).f1).toList == ((rd_T30 t437 x9_3).f1).toList) = false := beq_eq_false_iff_ne.mpr c46
                                  have c46b1 : (((rd_T30 t447 x9_3).f1).toList != ((rd_T30 t437 x9_3).f1).toList) = true := bne_iff_ne.mpr c46
                                  obtain rfl := Option.some.inj H
                                  obtain ⟨Ao48, co48, eo48⟩ := Kd.R_slice HO_7.out
                                  subst eo48
                                  have p455 : 0 ≤ (x9_3 : Int) := of_decide_eq_true (by first | (with_reducible assumption) | assumption)
                                  have q455 : x9_3 < (t447.length : Int) := of_decide_eq_true (by first | (with_reducible assumption) | assumption)
                                  obtain ⟨ad455, e455, hx455_0, hx455_1, hx455_2⟩ := at_T30 (Kd.R_reads' HO_7.out).2.2 x9_3 p455 q455
                                  cases e455
                                  replace p455 := eq_true p455
                                  replace q455 := eq_true q455
                                  have p456 : 0 ≤ (x9_3 : Int) := of_decide_eq_true (by first | (with_reducible assumption) | assumption)
                                  have q456 : x9_3 < (t437.length : Int) := of_decide_eq_true (by first | (with_reducible assumption) | assumption)
                                  obtain ⟨ad456, e456, hx456_0, hx456_1, hx456_2⟩ := at_T30 (Kd.R_reads' HO_3.out).2.2 x9_3 p456 q456
                                  cases e456
                                  replace p456 := eq_true p456
                                  replace q456 := eq_true q456
                                  have p457 : 0 ≤ (x9_3 : Int) := of_decide_eq_true (by first | (with_reducible assumption) | assumption)
                                  have q457 : x9_3 < (t447.length : Int) := of_decide_eq_true (by first | (with_reducible assumption) | assumption)
                                  obtain ⟨ad457, e457, hx457_0, hx457_1, hx457_2⟩ := at_T30 (Kd.R_reads' HO_7.out).2.2 x9_3 p457 q457
                                  obtain rfl : ad455 = ad457 := (by injection e457)
                                  replace p457 := eq_true p457
                                  replace q457 := eq_true q457
                                  have p458 : 0 ≤ (x9_3 : Int) := of_decide_eq_true (by first | (with_reducible assumption) | assumption)
                                  have q458 : x9_3 < (t437.length : Int) := of_decide_eq_true (by first | (with_reducible assumption) | assumption)
                                  obtain ⟨ad458, e458, hx458_0, hx458_1, hx458_2⟩ := at_T30 (Kd.R_reads' HO_3.out).2.2 x9_3 p458 q458
                                  obtain rfl : ad456 = ad458 := (by injection e458)
                                  replace p458 := eq_true p458
                                  replace q458 := eq_true q458
                                  go_wp2
                                  repeat (go_quiet (fail); try go_wp2)
                                  go_ret
                                  exact ⟨by first | rfl | (simp [errW_none, errW_some] <;> rfl) | (simp [*, errW_none, errW_some, bne]; done) | (simp [*, errW_none, errW_some] <;> rfl), by repeat (first | (with_reducible first | exact HB.out | apply below_alloc | apply pw_below_drewN | apply below_drew1 | refine below_set ?_ GE444.out | refine below_set ?_ GE454.out) | exact HB.out)⟩
                              · rw [if_neg c45] at H
                                have c45b0 : (((rd_T30 t447 x9_3).f0) == ((rd_T30 t437 x9_3).f0)) = false := beq_eq_false_iff_ne.mpr c45
                                have c45b1 : (((rd_T30 t447 x9_3).f0) != ((rd_T30 t437 x9_3).f0)) = true := bne_iff_ne.mpr c45
                                obtain rfl := Option.some.inj H
                                obtain ⟨Ao49, co49, eo49⟩ := Kd.R_slice HO_7.out
                                subst eo49
                                have p455 : 0 ≤ (x9_3 : Int) := of_decide_eq_true (by first | (with_reducible assumption) | assumption)
                                have q455 : x9_3 < (t447.length : Int) := of_decide_eq_true (by first | (with_reducible assumption) | assumption)
                                obtain ⟨ad455, e455, hx455_0, hx455_1, hx455_2⟩ := at_T30 (Kd.R_reads' HO_7.out).2.2 x9_3 p455 q455
                                cases e455
                                replace p455 := eq_true p455
                                replace q455 := eq_true q455
                                have p456 : 0 ≤ (x9_3 : Int) := of_decide_eq_true (by first | (with_reducible assumption) | assumption)
                                have q456 : x9_3 < (t437.length : Int) := of_decide_eq_true (by first | (with_reducible assumption) | assumption)
                                obtain ⟨ad456, e456, hx456_0, hx456_1, hx456_2⟩ := at_T30 (Kd.R_reads' HO_3.out).2.2 x9_3 p456 q456
                                cases e456
                                replace p456 := eq_true p456
                                replace q456 := eq_true q456
                                go_wp2
                                repeat (go_quiet (fail); try go_wp2)
                                go_ret
                                exact ⟨by first | rfl | (simp [errW_none, errW_some] <;> rfl) | (simp [*, errW_none, errW_some, bne]; done) | (simp [*, errW_none, errW_some] <;> rfl), by repeat (first | (with_reducible first | exact HB.out | apply below_alloc | apply pw_below_drewN | apply below_drew1 | refine below_set ?_ GE444.out | refine below_set ?_ GE454.out) | exact HB.out)⟩
                            · rw [if_neg c44] at H
                              exact absurd H (by simp)
                          · rw [if_neg c43] at H
                            exact absurd H (by simp)
                        · rw [if_neg c42] at H
                          have c42b0 : decide (x9_3 < (t437.length : Int)) = false := decide_eq_false c42
                          clear c42
                          obtain rfl := Option.some.inj H
                          go_wp2
                          repeat (go_quiet (fail); try go_wp2)
                          go_ret
                          exact ⟨by first | rfl | (simp [errW_none, errW_some] <;> rfl) | (simp [*, errW_none, errW_some, bne]; done) | (simp [*, errW_none, errW_some] <;> rfl), by repeat (first | (with_reducible first | exact HB.out | apply below_alloc | apply pw_below_drewN | apply below_drew1 | refine below_set ?_ GE444.out | refine below_set ?_ GE454.out) | exact HB.out)⟩
  · replace c3 := Bool.eq_false_iff.mpr c3
    subst c3
    have H1 : (some false) = some r := by rw [if_neg (show ¬ (false = true) by decide)] at H; exact H
    clear H
    have H := H1
    clear H1
    obtain rfl := Option.some.inj H
    go_enter Tryd.func11, Tryd.ntmps11
    go_wp2_with (first | (go_at_call 12; (with_reducible refine (dragomanlaw7_awake.calls  false _ A2.out).mono ?_); rintro e w50 ⟨rfl, hb⟩; have n0_ := Aside0.mk (below_step (by repeat (first | (with_reducible first | exact HB.out | apply below_alloc | apply pw_below_drewN | apply below_drew1) | exact HB.out)) hb); clear HB; have HB := n0_; clear n0_; (try clear hb); (try clear hb2); (try clear hk); (try clear hi)))
    repeat (go_quiet (first | (go_at_call 12; (with_reducible refine (dragomanlaw7_awake.calls  false _ A2.out).mono ?_); rintro e w50 ⟨rfl, hb⟩; have n0_ := Aside0.mk (below_step (by repeat (first | (with_reducible first | exact HB.out | apply below_alloc | apply pw_below_drewN | apply below_drew1) | exact HB.out)) hb); clear HB; have HB := n0_; clear n0_; (try clear hb); (try clear hb2); (try clear hk); (try clear hi))); try go_wp2_with (first | (go_at_call 12; (with_reducible refine (dragomanlaw7_awake.calls  false _ A2.out).mono ?_); rintro e w50 ⟨rfl, hb⟩; have n0_ := Aside0.mk (below_step (by repeat (first | (with_reducible first | exact HB.out | apply below_alloc | apply pw_below_drewN | apply below_drew1) | exact HB.out)) hb); clear HB; have HB := n0_; clear n0_; (try clear hb); (try clear hb2); (try clear hk); (try clear hi))))
    go_ret
    exact ⟨by first | rfl | (simp [errW_none, errW_some] <;> rfl) | (simp [*, errW_none, errW_some, bne]; done) | (simp [*, errW_none, errW_some] <;> rfl), by repeat (first | (with_reducible first | exact HB.out | apply below_alloc | apply pw_below_drewN | apply below_drew1) | exact HB.out)⟩
/-- THE ONE PURE STATEMENT of dragomanlaw7_JlexBlanks: yours. -/
def dragomanlaw7_JlexBlanks.Pure : Prop := ∀ (a0 : ByteArray), a0.size ≤ 140737488351232 → ∃ k, dragomanlaw7_JlexBlanks.f k a0 = some true
theorem dragomanlaw7_JlexBlanks.walk (P : dragomanlaw7_JlexBlanks.Pure) (a0 : ByteArray) (w : World) (w0 : a0.size ≤ 140737488351232) :
    Calls Tryd.prog 11 #[.string a0] w fun e w' => e = .returned (.bool true) ∧ Below w.heap.size w w' := by
  obtain ⟨k, h⟩ := P a0 w0
  refine (dragomanlaw7_JlexBlanks.calls k a0 true w h).mono ?_
  rintro e w' ⟨rfl, hd⟩
  exact ⟨rfl, hd⟩
end Go.Proofs.YtoanbmggffkmgaaDoor.P
end
section
namespace Go.Proofs.YtoanbmggffkmgaaDoor.La
open Go.RowKit Go.Proofs.YtoanbmggffkmgaaDoor.P Go.Proofs.YtoanbmggffkmgaaDoorW.PrintWords Go.Proofs.YtoanbmggffkmgaaDoorW.PrintLast Go.Proofs.YtoanbmggffkmgaaDoorW.PrintMore
/-- What stands behind a number's e (nothing: it has none); none: it has no number's form. -/
def nexp : List Int → Option (List Int)
  | [] => some []
  | c :: p => if c ≠ 101 ∧ c ≠ 69 then none else if noSign p = [] ∨ digs (noSign p) ≠ (noSign p).length then none else some p
def nfrac (l : List Int) : Option (List Int) :=
  if l.head? = some 46 then (if digs (l.drop 1) = 0 then none else some (l.drop (1 + digs (l.drop 1)))) else some l
def nwhole (l : List Int) : Option (List Int) :=
  if digs l = 0 ∨ (1 < digs l ∧ l.head? = some 48) then none else some (l.drop (digs l))
def nneg (l : List Int) : List Int := if l.head? = some 45 then l.drop 1 else l
def nform (l : List Int) : Option (List Int) := (nwhole (nneg l)).bind fun a => (nfrac a).bind nexp
/-- Is the power not too great? -/
def fits (p : List Int) : Bool := (powV 0 (noSign p)).isSome
def ngood (l : List Int) : Bool := (nform l).elim false fits
theorem head_of (s : ByteArray) (h : 0 < s.size) : (bytesOf s).head? = some (bt s 0) := by
  rw [bt_get]
  have : 0 < (bytesOf s).length := by rw [size_of]; exact h
  cases hl : bytesOf s with
  | nil => rw [hl] at this; simp at this
  | cons a t => rfl
theorem cons_of (s : ByteArray) {c : Int} {p : List Int} (h : bytesOf s = c :: p) : 0 < s.size ∧ bt s 0 = c ∧ bytesOf (s.extract 1 s.size) = p ∧ s.size = p.length + 1 := by
  have hz : s.size = p.length + 1 := by rw [← size_of, h]; rfl
  refine ⟨by omega, by rw [bt_get, h]; rfl, by rw [bytesOf_drop, h]; rfl, hz⟩
theorem cutMinus (s : ByteArray) : strings_CutPrefix.f s (⟨#[45]⟩ : ByteArray) = some (if (bytesOf s).head? = some 45 then (s.extract 1 s.size, true) else (s, false)) := by
  unfold strings_CutPrefix.f stringslite_CutPrefix.f
  have h1 : stringslite_HasPrefix.f s (⟨#[45]⟩ : ByteArray) = some (decide ((bytesOf s).head? = some 45)) := by
    have := hasPrefix_eq s (⟨#[45]⟩ : ByteArray)
    unfold strings_HasPrefix.f at this
    have h2 : stringslite_HasPrefix.f s (⟨#[45]⟩ : ByteArray) = (stringslite_HasPrefix.f s (⟨#[45]⟩ : ByteArray)).bind fun t => some t := by cases stringslite_HasPrefix.f s (⟨#[45]⟩ : ByteArray) <;> rfl
    rw [h2, this]
    congr 1
    rw [decide_eq_decide]
    cases bytesOf s with
    | nil => simp [bytesOf]
    | cons a t => simp [bytesOf, ByteArray.size]
  rw [h1, Option.bind_some]
  by_cases h : (bytesOf s).head? = some 45
  · have hz : 0 < s.size := by
      rw [← size_of]
      cases hl : bytesOf s with
      | nil => rw [hl] at h; cases h
      | cons a t => simp
    rw [decide_eq_true h, if_pos rfl, if_pos (by show (0 : Int) ≤ 1; omega), if_pos (by show (1 : Int) ≤ _; omega), Option.bind_some, if_pos h]
    rfl
  · rw [decide_eq_false h, if_neg (by decide), Option.bind_some, if_neg h]
theorem powR_snd (l : List Int) : (powR l).2 = (decide (noSign l ≠ [] ∧ digs (noSign l) = (noSign l).length) && fits l) := by
  unfold powR powT fits
  by_cases h : noSign l = [] ∨ digs (noSign l) ≠ (noSign l).length
  · rw [if_pos h, decide_eq_false (by rintro ⟨h1, h2⟩; exact h.elim h1 (fun g => g h2))]
    rfl
  · have h1 : noSign l ≠ [] := fun e => h (.inl e)
    have h2 : digs (noSign l) = (noSign l).length := Classical.byContradiction fun e => h (.inr e)
    rw [if_neg h, decide_eq_true (show noSign l ≠ [] ∧ digs (noSign l) = (noSign l).length from And.intro h1 h2)]
    cases powV 0 (noSign l) <;> rfl
theorem one48 : (⟨#[48]⟩ : ByteArray).size < 4294967281 := by
  have h : (⟨#[48]⟩ : ByteArray).size = 1 := rfl
  rw [h]
  omega
theorem asc48 : ascii (bytesOf (⟨#[48]⟩ : ByteArray)) = true := by decide
theorem bts48 : bytesOf (⟨#[48]⟩ : ByteArray) = [48] := rfl
theorem trimL0 (s : ByteArray) : strings_TrimLeft.f s (⟨#[48]⟩ : ByteArray) = some (strOfNums (trimL [48] (bytesOf s))) := by
  unfold strings_TrimLeft.f
  rw [if_pos (And.intro one48 asc48), bts48]
theorem trimR0 (s : ByteArray) (h : s.size ≤ 140737488355328) : strings_TrimRight.f s (⟨#[48]⟩ : ByteArray) = some (strOfNums (trimR [48] (bytesOf s))) := by
  unfold strings_TrimRight.f
  rw [if_pos (And.intro h (And.intro one48 asc48)), bts48]
theorem trimL_len (cs l : List Int) : (trimL cs l).length ≤ l.length := (List.dropWhile_suffix _).length_le
theorem parse_j3 (x5 : Bool) (x7 x8 : ByteArray) (x9 : Int) (h7 : x7.size ≤ 1000) (h8 : x8.size ≤ 1000) : ∃ r, r.2.2.2 = true ∧ Ev (fun k => dec_parse.j3 k x5 x7 x8 x9) r := by
  have hsz : (strOfNums (trimL [48] (bytesOf (x7 ++ x8)))).size ≤ 140737488355328 := by
    rw [size_strOfNums (trimL_bytes (bytes_of _))]
    have := trimL_len [48] (bytesOf (x7 ++ x8))
    rw [size_of, size_append'] at this
    omega
  by_cases h : (strOfNums (trimL [48] (bytesOf (x7 ++ x8)))).toList = ([] : List UInt8)
  · refine ⟨_, ?_, Ev.step (fun k => by rw [dec_parse.j3, if_pos (by omega), trimL0, Option.bind_some, if_pos h]) (Ev.now _)⟩
    rfl
  · refine ⟨_, ?_, Ev.step (fun k => by rw [dec_parse.j3, if_pos (by omega), trimL0, Option.bind_some, if_neg h, trimR0 _ hsz, Option.bind_some]) (Ev.now _)⟩
    rfl
theorem parse_j1 (x4 : ByteArray) (x5 : Bool) (x7 x8 : ByteArray) (h4 : x4.size ≤ 1000) (h7 : x7.size ≤ 1000) (h8 : x8.size ≤ 1000) : ∃ r, r.2.2.2 = (nexp (bytesOf x4)).elim false fits ∧ Ev (fun k => dec_parse.j1 k x4 x5 x7 x8 0) r := by
  cases hl : bytesOf x4 with
  | nil =>
    obtain ⟨r, hr, he⟩ := parse_j3 x5 x7 x8 0 h7 h8
    refine ⟨r, by rw [hr]; rfl, Ev.step (fun k => by rw [dec_parse.j1, if_pos ((toList_nil_iff _).2 hl)]) he⟩
  | cons c p =>
    obtain ⟨hz, hb, hp, hn⟩ := cons_of x4 hl
    have hne : ¬ x4.toList = ([] : List UInt8) := fun e => by rw [toList_nil_iff, hl] at e; cases e
    have hj2 : ∃ r, r.2.2.2 = (nexp (c :: p)).elim false fits ∧ Ev (fun k => dec_parse.j2 k x4 x5 x7 x8 (decide (c ≠ 101 ∧ c ≠ 69))) r := by
      by_cases hc : c ≠ 101 ∧ c ≠ 69
      · refine ⟨_, ?_, Ev.step (fun k => by rw [dec_parse.j2, if_pos (decide_eq_true hc)]) (Ev.now _)⟩
        simp only [nexp]
        rw [if_pos hc]
        rfl
      · have hpw : dec_power.f (x4.extract 1 x4.size) = some (powR p) := by
          unfold dec_power.f
          rw [if_pos (by rw [size_drop]; omega), hp]
        have h2 := powR_snd p
        simp only [nexp]
        rw [if_neg hc]
        by_cases hq : noSign p = [] ∨ digs (noSign p) ≠ (noSign p).length
        · rw [decide_eq_false (by rintro ⟨h1, h2⟩; exact hq.elim h1 (fun g => g h2)), Bool.false_and] at h2
          refine ⟨_, ?_, Ev.step (fun k => by rw [dec_parse.j2, if_neg (by simpa using hc), if_pos (by omega), hpw, Option.bind_some, if_neg (by rw [h2]; decide)]) (Ev.now _)⟩
          rw [if_pos hq]
          rfl
        · rw [decide_eq_true ⟨fun e => hq (.inl e), Classical.byContradiction fun e => hq (.inr e)⟩, Bool.true_and] at h2
          rw [if_neg hq]
          simp only [Option.elim_some]
          cases hf : fits p with
          | false =>
            rw [hf] at h2
            refine ⟨_, ?_, Ev.step (fun k => by rw [dec_parse.j2, if_neg (by simpa using hc), if_pos (by omega), hpw, Option.bind_some, if_neg (by rw [h2]; decide)]) (Ev.now _)⟩
            rfl
          | true =>
            rw [hf] at h2
            obtain ⟨r, hr, he⟩ := parse_j3 x5 x7 x8 (powR p).1 h7 h8
            exact ⟨r, hr, Ev.step (fun k => by rw [dec_parse.j2, if_neg (by simpa using hc), if_pos (by omega), hpw, Option.bind_some, if_pos h2]) he⟩
    obtain ⟨r, hr, he⟩ := hj2
    refine ⟨r, hr, Ev.step (fun k => by rw [dec_parse.j1, if_neg hne, if_pos (by omega), hb]) ?_⟩
    by_cases h1 : c = 101
    · rw [decide_eq_false (by simp [h1])] at he
      simp only [if_pos h1]
      exact he
    · simp only [if_neg h1]
      have : (c != 69) = decide (c ≠ 101 ∧ c ≠ 69) := by rw [Bool.eq_iff_iff]; simp [h1]
      rw [this]
      exact he
theorem hasDot (s : ByteArray) : strings_HasPrefix.f s (⟨#[46]⟩ : ByteArray) = some (decide ((bytesOf s).head? = some 46)) := by
  rw [hasPrefix_eq]
  congr 1
  rw [decide_eq_decide]
  cases bytesOf s with
  | nil => simp [bytesOf]
  | cons a t => simp [bytesOf, ByteArray.size]
theorem extract_mid (s : ByteArray) (n : Nat) (_h : 1 + n ≤ s.size) : (s.extract 1 (1 + n)).size ≤ s.size := by
  rw [← size_of, bytesOf_extract, List.length_drop, List.length_take, size_of]
  omega
theorem parse_j0 (x4 : ByteArray) (x5 : Bool) (h4 : x4.size ≤ 1000) : ∃ r, r.2.2.2 = ((nfrac ((bytesOf x4).drop (digs (bytesOf x4)))).bind nexp).elim false fits ∧ Ev (fun k => dec_parse.j0 k x4 x5 (digs (bytesOf x4) : Int) false) r := by
  have hd := digs_le (bytesOf x4)
  rw [size_of] at hd
  generalize hn : digs (bytesOf x4) = n at hd
  have hx : bytesOf (x4.extract ((n : Int)).toNat x4.size) = (bytesOf x4).drop n := by rw [Int.toNat_natCast, bytesOf_drop]
  have hxz : (x4.extract ((n : Int)).toNat x4.size).size = x4.size - n := by rw [Int.toNat_natCast, size_drop]
  generalize hy : x4.extract ((n : Int)).toNat x4.size = y at hx hxz
  rw [← hx]
  have hsz7 : (x4.extract 0 ((n : Int)).toNat).size ≤ 1000 := by rw [Int.toNat_natCast, size_take _ hd]; omega
  generalize hx7 : x4.extract 0 ((n : Int)).toNat = x7 at hsz7
  unfold nfrac
  by_cases hdot : (bytesOf y).head? = some 46
  · rw [if_pos hdot]
    have hy0 : 0 < y.size := by
      rw [← size_of]
      cases hl : bytesOf y with
      | nil => rw [hl] at hdot; cases hdot
      | cons a t => simp
    have hdg := digits_ev (y.extract 1 y.size) (by rw [size_drop]; omega)
    rw [bytesOf_drop] at hdg
    have hdl := digs_le ((bytesOf y).drop 1)
    rw [List.length_drop, size_of] at hdl
    generalize digs ((bytesOf y).drop 1) = m at hdg hdl
    by_cases hm : m = 0
    · rw [if_pos hm]
      refine ⟨(false, ⟨#[]⟩, 0, false), rfl, Ev.step (fun k => by rw [dec_parse.j0, if_neg (by decide), if_pos (by omega), if_pos (by omega), hy, hx7, hasDot, Option.bind_some, if_pos (decide_eq_true hdot), if_pos (by omega)]) ?_⟩
      refine Ev.bind hdg ?_
      simp only [hm, Int.natCast_zero, if_true]
      exact Ev.now _
    · rw [if_neg hm]
      have hw : wrap64 ((m : Int) + 1) = ((1 + m : Nat) : Int) := by rw [wrap_id (by omega) (by omega)]; omega
      have hz8 : (y.extract 1 (1 + m)).size ≤ 1000 := by have := extract_mid y m (by omega); omega
      have hz4 : (y.extract (1 + m) y.size).size ≤ 1000 := by rw [size_drop]; omega
      obtain ⟨r, hr, he⟩ := parse_j1 (y.extract (1 + m) y.size) x5 x7 (y.extract 1 (1 + m)) hz4 hsz7 hz8
      rw [bytesOf_drop] at hr
      refine ⟨r, hr, Ev.step (fun k => by rw [dec_parse.j0, if_neg (by decide), if_pos (by omega), if_pos (by omega), hy, hx7, hasDot, Option.bind_some, if_pos (decide_eq_true hdot), if_pos (by omega)]) ?_⟩
      refine Ev.bind hdg ?_
      simp only [hw, if_neg (show ¬ ((m : Int) = 0) by omega), if_pos (show (1 : Int) ≤ ((1 + m : Nat) : Int) by omega), if_pos (show ((1 + m : Nat) : Int) ≤ (y.size : Int) by omega), if_pos (show (0 : Int) ≤ ((1 + m : Nat) : Int) by omega), Int.toNat_natCast]
      exact he
  · rw [if_neg hdot]
    obtain ⟨r, hr, he⟩ := parse_j1 y x5 x7 (⟨#[]⟩) (by omega) hsz7 (by show 0 ≤ 1000; omega)
    exact ⟨r, hr, Ev.step (fun k => by rw [dec_parse.j0, if_neg (by decide), if_pos (by omega), if_pos (by omega), hy, hx7, hasDot, Option.bind_some, if_neg (by rw [decide_eq_false hdot]; decide)]) he⟩
theorem parse_ev (s : ByteArray) (hs : s.size ≤ 400) : ∃ r, r.2.2.2 = ngood (bytesOf s) ∧ Ev (fun k => dec_parse.f k s) r := by
  have key : ∀ (y : ByteArray) (b : Bool), y.size ≤ 1000 → ∃ r, r.2.2.2 = ((nwhole (bytesOf y)).bind fun a => (nfrac a).bind nexp).elim false fits ∧
      Ev (fun k => (dec_digits.f k y).bind fun t187 => (if t187 = 0 then (dec_parse.j0 k y b t187 true) else (if t187 > 1 then (if 0 < (y.size : Int) then (dec_parse.j0 k y b t187 ((bt y 0) == 48)) else (none)) else (dec_parse.j0 k y b t187 false)))) r := by
    intro y b hy
    have hdg := digits_ev y (by omega)
    have hd := digs_le (bytesOf y)
    rw [size_of] at hd
    unfold nwhole
    have bad : ∀ t : Int, Ev (fun k => dec_parse.j0 k y b t true) (false, (⟨#[]⟩ : ByteArray), 0, false) := fun t => Ev.step (fun k => by rw [dec_parse.j0, if_pos rfl]) (Ev.now _)
    by_cases h0 : digs (bytesOf y) = 0
    · rw [if_pos (.inl h0)]
      refine ⟨(false, ⟨#[]⟩, 0, false), rfl, Ev.bind hdg ?_⟩
      simp only [if_pos (show (digs (bytesOf y) : Int) = 0 by omega)]
      exact bad _
    · have hz : 0 < y.size := by omega
      have hh := head_of y hz
      by_cases h1 : 1 < digs (bytesOf y)
      · by_cases h48 : bt y 0 = 48
        · rw [if_pos (.inr ⟨h1, by rw [hh, h48]⟩)]
          refine ⟨(false, ⟨#[]⟩, 0, false), rfl, Ev.bind hdg ?_⟩
          simp only [if_neg (show ¬ (digs (bytesOf y) : Int) = 0 by omega), if_pos (show (digs (bytesOf y) : Int) > 1 by omega), if_pos (show (0 : Int) < (y.size : Int) by omega), h48, beq_self_eq_true]
          exact bad _
        · rw [if_neg (by rintro (h | ⟨_, h⟩); exact h0 h; rw [hh] at h; exact h48 (Option.some.inj h)), Option.bind_some]
          obtain ⟨r, hr, he⟩ := parse_j0 y b hy
          refine ⟨r, hr, Ev.bind hdg ?_⟩
          simp only [if_neg (show ¬ (digs (bytesOf y) : Int) = 0 by omega), if_pos (show (digs (bytesOf y) : Int) > 1 by omega), if_pos (show (0 : Int) < (y.size : Int) by omega), beq_eq_false_iff_ne.2 h48]
          exact he
      · rw [if_neg (by rintro (h | ⟨h, _⟩); exact h0 h; exact h1 h), Option.bind_some]
        obtain ⟨r, hr, he⟩ := parse_j0 y b hy
        refine ⟨r, hr, Ev.bind hdg ?_⟩
        simp only [if_neg (show ¬ (digs (bytesOf y) : Int) = 0 by omega), if_neg (show ¬ (digs (bytesOf y) : Int) > 1 by omega)]
        exact he
  unfold ngood nform nneg
  by_cases h : (bytesOf s).head? = some 45
  · rw [if_pos h]
    obtain ⟨r, hr, he⟩ := key (s.extract 1 s.size) true (by rw [size_drop]; omega)
    rw [bytesOf_drop] at hr
    exact ⟨r, hr, Ev.congr (fun k => by rw [dec_parse.f, if_neg (by omega), cutMinus, if_pos h, Option.bind_some]) he⟩
  · rw [if_neg h]
    obtain ⟨r, hr, he⟩ := key s false (by omega)
    exact ⟨r, hr, Ev.congr (fun k => by rw [dec_parse.f, if_neg (by omega), cutMinus, if_neg h, Option.bind_some]) he⟩
theorem good_ev (s : ByteArray) (hs : s.size ≤ 400) : Ev (fun k => dec_Good.f k s) (ngood (bytesOf s)) := by
  obtain ⟨r, hr, he⟩ := parse_ev s hs
  refine Ev.congr (fun k => by rw [dec_Good.f]) (Ev.bind he ?_)
  rw [hr]
  exact Ev.now _
end Go.Proofs.YtoanbmggffkmgaaDoor.La
end
section
namespace Go.Proofs.YtoanbmggffkmgaaDoor.La
open Go.RowKit Go.Proofs.YtoanbmggffkmgaaDoor.P Go.Proofs.YtoanbmggffkmgaaDoorW.PrintWords Go.Proofs.YtoanbmggffkmgaaDoorW.PrintLast Go.Proofs.YtoanbmggffkmgaaDoorW.PrintMore
/-- How many bytes of a set stand at a text's beginning. -/
def wh (cs : List Int) : List Int → Nat
  | [] => 0
  | b :: l => if inSet cs b = true then wh cs l + 1 else 0
theorem wh_le (cs l : List Int) : wh cs l ≤ l.length := by
  induction l with
  | nil => simp [wh]
  | cons b l ih => simp only [wh, List.length_cons]; split <;> omega
theorem trimL_wh (cs l : List Int) : trimL cs l = l.drop (wh cs l) := by
  unfold trimL
  induction l with
  | nil => rfl
  | cons b l ih =>
    simp only [List.dropWhile_cons, wh]
    split
    · rw [ih, List.drop_succ_cons]
    · rfl
theorem wh_in {cs l : List Int} {i : Nat} (h : i < wh cs l) : inSet cs (l.getD i 0) = true := by
  induction l generalizing i with
  | nil => simp [wh] at h
  | cons b l ih =>
    simp only [wh] at h
    split at h
    · rename_i hb
      cases i with
      | zero => simpa using hb
      | succ i => simpa using ih (i := i) (by omega)
    · omega
theorem while_eq (s t : ByteArray) (hs : s.size ≤ 140737488355328) (h : t.size < 4294967281) (ha : ascii (bytesOf t) = true) : jlex_while.f s t = some (wh (bytesOf t) (bytesOf s) : Int) := by
  unfold jlex_while.f strings_TrimLeft.f
  rw [if_pos (And.intro h ha), Option.bind_some, size_strOfNums (trimL_bytes (bytes_of _)), trimL_wh, List.length_drop, size_of]
  have := wh_le (bytesOf t) (bytesOf s)
  rw [size_of] at this
  rw [wrap_id (by omega) (by omega)]
  congr 1
  omega
def tenS : List Int := [48, 49, 50, 51, 52, 53, 54, 55, 56, 57]
theorem ten_dig {b : Int} (_h0 : 0 ≤ b) : inSet tenS b = isDig b := by
  rw [Bool.eq_iff_iff]
  unfold inSet tenS isDig
  simp
  omega
theorem wh_ten {l : List Int} (h : Bytes l) : wh tenS l = digs l := by
  induction l with
  | nil => rfl
  | cons b l ih =>
    simp only [wh, digs, ten_dig (h b List.mem_cons_self).1, ih (fun x hx => h x (List.mem_cons_of_mem _ hx))]
theorem digs_end {l p : List Int} {c : Int} (hc : isDig c = false) : digs (l ++ c :: p) = digs l := by
  induction l with
  | nil => simp only [List.nil_append, digs, hc]; rfl
  | cons b l ih => simp only [List.cons_append, digs, ih]
theorem nneg_app {a p : List Int} {c : Int} (hc : c ≠ 45) : nneg (a ++ c :: p) = nneg a ++ c :: p := by
  unfold nneg
  cases a with
  | nil => rw [List.nil_append, if_neg (by simpa using hc), if_neg (by simp), List.nil_append]
  | cons x t =>
    rw [List.cons_append]
    by_cases h : x = 45
    · rw [if_pos (by simp [h]), if_pos (by simp [h])]; rfl
    · rw [if_neg (by simp [h]), if_neg (by simp [h])]; rfl
theorem nwhole_app {a p : List Int} {c : Int} (hc : isDig c = false) : nwhole (a ++ c :: p) = (nwhole a).map (· ++ c :: p) := by
  unfold nwhole
  rw [digs_end hc]
  have hl := digs_le a
  cases a with
  | nil => rw [if_pos (.inl rfl), if_pos (.inl rfl)]; rfl
  | cons x t =>
    rw [List.cons_append]
    by_cases h : digs (x :: t) = 0 ∨ 1 < digs (x :: t) ∧ x = 48
    · rw [if_pos (by simpa using h), if_pos (by simpa using h)]; rfl
    · rw [if_neg (by simpa using h), if_neg (by simpa using h)]
      simp only [Option.map_some]
      congr 1
      exact List.drop_append_of_le_length hl
theorem nfrac_app {a p : List Int} {c : Int} (hc : isDig c = false) (h46 : c ≠ 46) : nfrac (a ++ c :: p) = (nfrac a).map (· ++ c :: p) := by
  unfold nfrac
  cases a with
  | nil => rw [List.nil_append, if_neg (by simpa using h46), if_neg (by simp)]; rfl
  | cons x t =>
    rw [List.cons_append]
    by_cases h : x = 46
    · have e1 : (x :: (t ++ c :: p)).head? = some 46 := by rw [h]; rfl
      have e2 : (x :: t).head? = some 46 := by rw [h]; rfl
      rw [if_pos e1, if_pos e2, List.drop_succ_cons, List.drop_zero, List.drop_succ_cons, List.drop_zero, digs_end hc]
      by_cases h2 : digs t = 0
      · rw [if_pos h2, if_pos h2]; rfl
      · rw [if_neg h2, if_neg h2, Option.map_some]
        have hl := digs_le t
        rw [Nat.add_comm, List.drop_succ_cons, List.drop_succ_cons, List.drop_append_of_le_length hl]
    · have e1 : ¬ (x :: (t ++ c :: p)).head? = some 46 := fun e => h (Option.some.inj e)
      have e2 : ¬ (x :: t).head? = some 46 := fun e => h (Option.some.inj e)
      rw [if_neg e1, if_neg e2]; rfl
theorem nwhole_sub {a r : List Int} (h : nwhole a = some r) : ∀ x ∈ r, x ∈ a := by
  unfold nwhole at h
  split at h
  · cases h
  · obtain rfl := Option.some.inj h; exact fun x hx => List.mem_of_mem_drop hx
theorem nfrac_sub {a r : List Int} (h : nfrac a = some r) : ∀ x ∈ r, x ∈ a := by
  unfold nfrac at h
  split at h
  · split at h
    · cases h
    · obtain rfl := Option.some.inj h; exact fun x hx => List.mem_of_mem_drop hx
  · obtain rfl := Option.some.inj h; exact fun x hx => hx
theorem nneg_sub (a : List Int) : ∀ x ∈ nneg a, x ∈ a := by
  unfold nneg
  split
  · exact fun x hx => List.mem_of_mem_drop hx
  · exact fun x hx => hx
/-- A text without e has no power. -/
theorem nform_plain {a : List Int} (h : ∀ x ∈ a, x ≠ 101 ∧ x ≠ 69) : nform a = none ∨ nform a = some [] := by
  unfold nform
  cases h1 : nwhole (nneg a) with
  | none => exact .inl rfl
  | some r =>
    rw [Option.bind_some]
    cases h2 : nfrac r with
    | none => exact .inl rfl
    | some q =>
      rw [Option.bind_some]
      cases q with
      | nil => exact .inr rfl
      | cons x t =>
        have := h x (nneg_sub a x (nwhole_sub h1 x (nfrac_sub h2 x List.mem_cons_self)))
        simp only [nexp]
        rw [if_pos this]
        exact .inl rfl
theorem nform_e {a p : List Int} {c : Int} (h : ∀ x ∈ a, x ≠ 101 ∧ x ≠ 69) (hc : c = 101 ∨ c = 69) :
    nform (a ++ c :: p) = if nform a = some [] then (if noSign p = [] ∨ digs (noSign p) ≠ (noSign p).length then none else some p) else none := by
  have hd : isDig c = false := by rcases hc with rfl | rfl <;> rfl
  have key : ∀ o : Option (List Int), (∀ q, o = some q → ∀ x ∈ q, x ≠ 101 ∧ x ≠ 69) → (o.map (· ++ c :: p)).bind nexp = if o.bind nexp = some [] then (if noSign p = [] ∨ digs (noSign p) ≠ (noSign p).length then none else some p) else none := by
    intro o ho
    cases o with
    | none => rw [if_neg (by simp)]; rfl
    | some q =>
      rw [Option.map_some, Option.bind_some, Option.bind_some]
      cases q with
      | nil =>
        rw [if_pos (show nexp [] = some [] from rfl), List.nil_append, nexp, if_neg (by omega)]
      | cons x t =>
        have := ho _ rfl x List.mem_cons_self
        have e1 : nexp (x :: t) = none := by rw [nexp, if_pos this]
        rw [e1, if_neg (by simp), List.cons_append, nexp, if_pos this]
  have hL : nform (a ++ c :: p) = (((nwhole (nneg a)).bind nfrac).map (· ++ c :: p)).bind nexp := by
    unfold nform
    rw [nneg_app (by omega), nwhole_app hd]
    cases nwhole (nneg a) with
    | none => rfl
    | some r =>
      rw [Option.map_some, Option.bind_some, Option.bind_some, nfrac_app hd (by omega)]
  have hR : nform a = ((nwhole (nneg a)).bind nfrac).bind nexp := by
    unfold nform
    cases nwhole (nneg a) <;> rfl
  rw [hL, hR]
  refine key _ (fun q hq x hx => ?_)
  obtain ⟨r, h1, h2⟩ := Option.bind_eq_some_iff.1 hq
  exact h x (nneg_sub a x (nwhole_sub h1 x (nfrac_sub h2 x hx)))
theorem e_split (l : List Int) : ((∀ x ∈ l, x ≠ 101 ∧ x ≠ 69) ∧ idxAny [101, 69] l = -1) ∨ (∃ a c p, l = a ++ c :: p ∧ (∀ x ∈ a, x ≠ 101 ∧ x ≠ 69) ∧ (c = 101 ∨ c = 69) ∧ idxAny [101, 69] l = (a.length : Int)) := by
  induction l with
  | nil => exact .inl ⟨fun x hx => by simp at hx, rfl⟩
  | cons b l ih =>
    have hb : inSet [101, 69] b = decide (b = 101 ∨ b = 69) := by rw [Bool.eq_iff_iff]; unfold inSet; simp; omega
    by_cases h : b = 101 ∨ b = 69
    · right
      refine ⟨[], b, l, rfl, fun x hx => by simp at hx, h, ?_⟩
      simp only [idxAny, hb, decide_eq_true h, if_true]
      rfl
    · simp only [idxAny, hb, decide_eq_false h, Bool.false_eq_true, if_false]
      rcases ih with ⟨h1, h2⟩ | ⟨a, c, p, rfl, h1, h2, h3⟩
      · left
        refine ⟨fun x hx => ?_, by rw [if_pos h2]⟩
        rcases List.mem_cons.1 hx with rfl | hx
        · omega
        · exact h1 x hx
      · right
        refine ⟨b :: a, c, p, rfl, fun x hx => ?_, h2, ?_⟩
        · rcases List.mem_cons.1 hx with rfl | hx
          · omega
          · exact h1 x hx
        · rw [if_neg (by omega), h3, List.length_cons]; omega
/-- Has a text a number's form, with a power? -/
def greatS (l : List Int) : Bool := (nform l).elim false (fun p => decide (p ≠ []))
theorem trim10 (s : ByteArray) : strings_TrimLeft.f s (⟨#[48, 49, 50, 51, 52, 53, 54, 55, 56, 57]⟩ : ByteArray) = some (strOfNums ((bytesOf s).drop (digs (bytesOf s)))) := by
  unfold strings_TrimLeft.f
  have h1 : (⟨#[48, 49, 50, 51, 52, 53, 54, 55, 56, 57]⟩ : ByteArray).size < 4294967281 := by
    have h : (⟨#[48, 49, 50, 51, 52, 53, 54, 55, 56, 57]⟩ : ByteArray).size = 10 := rfl
    rw [h]; omega
  have h2 : ascii (bytesOf (⟨#[48, 49, 50, 51, 52, 53, 54, 55, 56, 57]⟩ : ByteArray)) = true := by decide
  rw [if_pos (And.intro h1 h2), trimL_wh]
  rw [show bytesOf (⟨#[48, 49, 50, 51, 52, 53, 54, 55, 56, 57]⟩ : ByteArray) = tenS from rfl, wh_ten (bytes_of s)]
theorem while10 (s : ByteArray) (hs : s.size ≤ 140737488355328) : jlex_while.f s (⟨#[48, 49, 50, 51, 52, 53, 54, 55, 56, 57]⟩ : ByteArray) = some (digs (bytesOf s) : Int) := by
  have h1 : (⟨#[48, 49, 50, 51, 52, 53, 54, 55, 56, 57]⟩ : ByteArray).size < 4294967281 := by
    have h : (⟨#[48, 49, 50, 51, 52, 53, 54, 55, 56, 57]⟩ : ByteArray).size = 10 := rfl
    rw [h]; omega
  have h2 : ascii (bytesOf (⟨#[48, 49, 50, 51, 52, 53, 54, 55, 56, 57]⟩ : ByteArray)) = true := by decide
  rw [while_eq s _ hs h1 h2]
  rw [show bytesOf (⟨#[48, 49, 50, 51, 52, 53, 54, 55, 56, 57]⟩ : ByteArray) = tenS from rfl, wh_ten (bytes_of s)]
theorem ngood_plain {a : List Int} (h : ∀ x ∈ a, x ≠ 101 ∧ x ≠ 69) : ngood a = decide (nform a = some []) := by
  unfold ngood
  rcases nform_plain h with e | e <;> rw [e] <;> rfl
theorem great_ev (s : ByteArray) (hs : s.size ≤ 400) (ha : ascii (bytesOf s) = true) : Ev (fun k => jlex_great.f k s) (greatS (bytesOf s)) := by
  have hidx : strings_IndexAny.f s (⟨#[101, 69]⟩ : ByteArray) = some (idxAny [101, 69] (bytesOf s)) := by
    unfold strings_IndexAny.f
    have h1 : (⟨#[101, 69]⟩ : ByteArray).size < 4294967281 := by
      have h : (⟨#[101, 69]⟩ : ByteArray).size = 2 := rfl
      rw [h]; omega
    have h2 : ascii (bytesOf (⟨#[101, 69]⟩ : ByteArray)) = true := by decide
    rw [if_pos (And.intro (And.intro (by omega) h1) (And.intro ha h2))]
    rfl
  rcases e_split (bytesOf s) with ⟨h1, h2⟩ | ⟨a, c, p, hl, h1, hc, h2⟩
  · have : greatS (bytesOf s) = false := by
      unfold greatS
      rcases nform_plain h1 with e | e <;> rw [e] <;> rfl
    rw [this]
    exact Ev.congr (fun k => by rw [jlex_great.f, hidx, Option.bind_some, if_pos (by omega)]) (Ev.now _)
  · have hz : s.size = a.length + (p.length + 1) := by rw [← size_of, hl, List.length_append, List.length_cons]
    have hw : wrap64 ((a.length : Int) + 1) = ((a.length + 1 : Nat) : Int) := by rw [wrap_id (by omega) (by omega)]; omega
    have hpb : Bytes p := fun x hx => bytes_of s x (by rw [hl]; exact List.mem_append.2 (.inr (List.mem_cons_of_mem _ hx)))
    have hy : bytesOf (s.extract (a.length + 1) s.size) = p := by
      rw [bytesOf_drop, hl, ← List.drop_drop, List.drop_left]
      rfl
    have hyz : (s.extract (a.length + 1) s.size).size = p.length := by rw [size_drop]; omega
    have ht := trim10 (s.extract (a.length + 1) s.size)
    rw [hy] at ht
    have hgood := good_ev (s.extract 0 a.length) (by rw [size_take _ (by omega)]; omega)
    rw [bytesOf_take, hl, List.take_left, ngood_plain h1] at hgood
    have htz : (strOfNums (p.drop (digs p))).size = p.length - digs p := by rw [size_strOfNums (hpb.drop _), List.length_drop]
    have htb : bytesOf (strOfNums (p.drop (digs p))) = p.drop (digs p) := strOfNums_bytes (hpb.drop _)
    have hdl := digs_le p
    have hgr : greatS (bytesOf s) = (decide (nform a = some []) && decide (noSign p ≠ [] ∧ digs (noSign p) = (noSign p).length)) := by
      unfold greatS
      rw [hl, nform_e h1 hc]
      by_cases hf : nform a = some []
      · rw [if_pos hf, decide_eq_true hf, Bool.true_and]
        by_cases hq : noSign p = [] ∨ digs (noSign p) ≠ (noSign p).length
        · rw [if_pos hq, decide_eq_false (by rintro ⟨g1, g2⟩; exact hq.elim g1 (fun g => g g2))]
          rfl
        · have g1 : noSign p ≠ [] := fun e => hq (.inl e)
          have g2 : digs (noSign p) = (noSign p).length := Classical.byContradiction fun e => hq (.inr e)
          rw [if_neg hq, decide_eq_true (show noSign p ≠ [] ∧ digs (noSign p) = (noSign p).length from And.intro g1 g2)]
          have : p ≠ [] := fun e => g1 (by rw [e]; rfl)
          simp [this]
      · rw [if_neg hf, decide_eq_false hf]
        rfl
    rw [hgr]
    have step1 : ∀ k, jlex_great.f k s = if (strOfNums (p.drop (digs p))).toList = (s.extract (a.length + 1) s.size).toList then (if ((strOfNums (p.drop (digs p))).size : Int) > 0 then (if 0 < ((strOfNums (p.drop (digs p))).size : Int) then (if (bt (strOfNums (p.drop (digs p))) 0) = 43 then (jlex_great.j0 k s (a.length : Int) (strOfNums (p.drop (digs p))) true) else (jlex_great.j0 k s (a.length : Int) (strOfNums (p.drop (digs p))) ((bt (strOfNums (p.drop (digs p))) 0) == 45))) else (none)) else (jlex_great.j0 k s (a.length : Int) (strOfNums (p.drop (digs p))) false)) else (jlex_great.j0 k s (a.length : Int) (strOfNums (p.drop (digs p))) false) := by
      intro k
      rw [jlex_great.f, hidx, Option.bind_some, h2, if_neg (by omega), hw, if_pos (by omega), if_pos (by omega), Int.toNat_natCast, ht, Option.bind_some]
    have fall : digs p ≠ 0 ∨ p = [] ∨ (p.head? ≠ some 43 ∧ p.head? ≠ some 45) → Ev (fun k => jlex_great.j0 k s (a.length : Int) (strOfNums (p.drop (digs p))) false) (decide (nform a = some []) && decide (noSign p ≠ [] ∧ digs (noSign p) = (noSign p).length)) := by
      intro hcase
      have hns : noSign p = p := by
        unfold noSign
        rw [if_neg]
        rintro (h | h)
        · rcases hcase with g | g | ⟨_, g⟩
          · cases p with
            | nil => cases h
            | cons x t =>
              simp at h
              subst h
              simp [digs, isDig] at g
          · rw [g] at h; cases h
          · exact g h
        · rcases hcase with g | g | ⟨g, _⟩
          · cases p with
            | nil => cases h
            | cons x t =>
              simp at h
              subst h
              simp [digs, isDig] at g
          · rw [g] at h; cases h
          · exact g h
      rw [hns]
      by_cases hall : digs p = p.length
      · have hnil : (strOfNums (p.drop (digs p))).toList = ([] : List UInt8) := by rw [toList_nil_iff, htb, hall, List.drop_length]
        by_cases hp0 : p = []
        · rw [decide_eq_false (p := p ≠ [] ∧ digs p = p.length) (fun g => g.1 hp0), Bool.and_false]
          have : p.length = 0 := by rw [hp0]; rfl
          exact Ev.step (fun k => by rw [jlex_great.j0, if_neg (by decide), if_pos hnil, hw, if_neg (by omega)]) (Ev.now _)
        · rw [decide_eq_true (p := p ≠ [] ∧ digs p = p.length) (And.intro hp0 hall), Bool.and_true]
          have : 0 < p.length := List.length_pos_iff.2 hp0
          refine Ev.step (fun k => by rw [jlex_great.j0, if_neg (by decide), if_pos hnil, hw, if_pos (by omega), if_pos (by omega), if_pos (by omega), Int.toNat_natCast]) (Ev.bind hgood ?_)
          exact Ev.now _
      · have hnil : ¬ (strOfNums (p.drop (digs p))).toList = ([] : List UInt8) := by
          rw [toList_nil_iff, htb]
          intro e
          have := congrArg List.length e
          rw [List.length_drop, List.length_nil] at this
          omega
        rw [decide_eq_false (p := p ≠ [] ∧ digs p = p.length) (fun g => hall g.2), Bool.and_false]
        exact Ev.step (fun k => by rw [jlex_great.j0, if_neg (by decide), if_neg hnil]) (Ev.now _)
    refine Ev.congr step1 ?_
    by_cases hd0 : digs p = 0
    · have heq : (strOfNums (p.drop (digs p))).toList = (s.extract (a.length + 1) s.size).toList := by rw [toList_eq_iff, htb, hy, hd0]; rfl
      simp only [if_pos heq, htz]
      rw [hd0, Nat.sub_zero]
      cases p with
      | nil =>
        simp only [List.length_nil, if_neg (show ¬ ((0 : Nat) : Int) > 0 by omega)]
        have := fall (.inr (.inl rfl))
        rw [hd0] at this
        exact this
      | cons x t =>
        have hbx : bt (strOfNums ((x :: t).drop 0)) 0 = x := by
          rw [hd0] at htb
          rw [bt_get, htb]; rfl
        simp only [if_pos (show ((x :: t).length : Int) > 0 by simp), hbx]
        by_cases hsg : x = 43 ∨ x = 45
        · have hj : (if x = 43 then true else (x == 45)) = true := by
            rcases hsg with rfl | rfl <;> rfl
          have hns : noSign (x :: t) = t := by
            unfold noSign
            rw [if_pos (by rcases hsg with rfl | rfl <;> simp)]
            rfl
          have hyt : bytesOf ((strOfNums ((x :: t).drop 0)).extract 1 (strOfNums ((x :: t).drop 0)).size) = t := by
            rw [bytesOf_drop]
            rw [hd0] at htb
            rw [htb]; rfl
          have hz2 : (strOfNums ((x :: t).drop 0)).size = t.length + 1 := by
            rw [hd0] at htz
            rw [htz]; simp
          have htl : t.length ≤ 400 := by rw [List.length_cons] at hz; omega
          have goal : Ev (fun k => jlex_great.j0 k s (a.length : Int) (strOfNums ((x :: t).drop 0)) true) (decide (nform a = some []) && decide (noSign (x :: t) ≠ [] ∧ digs (noSign (x :: t)) = (noSign (x :: t)).length)) := by
            rw [hns]
            generalize strOfNums ((x :: t).drop 0) = y at hyt hz2
            have hyz2 : (y.extract 1 y.size).size = t.length := by rw [size_drop]; omega
            by_cases ht0 : t = []
            · rw [decide_eq_false (p := t ≠ [] ∧ digs t = t.length) (fun g => g.1 ht0), Bool.and_false]
              exact Ev.step (fun k => by rw [jlex_great.j0, if_pos rfl, if_pos (by omega), if_pos ((toList_nil_iff _).2 (by rw [hyt, ht0]))]) (Ev.now _)
            · have hne : ¬ (y.extract 1 y.size).toList = ([] : List UInt8) := fun e => ht0 (by rw [← hyt]; exact (toList_nil_iff _).1 e)
              by_cases hall : digs t = t.length
              · rw [decide_eq_true (p := t ≠ [] ∧ digs t = t.length) (And.intro ht0 hall), Bool.and_true]
                refine Ev.step (fun k => by rw [jlex_great.j0, if_pos rfl, if_pos (by omega), if_neg hne, while10 _ (by omega), Option.bind_some, hyt, hyz2, if_pos (by omega), if_pos (by omega), if_pos (by omega), Int.toNat_natCast]) (Ev.bind hgood ?_)
                exact Ev.now _
              · rw [decide_eq_false (p := t ≠ [] ∧ digs t = t.length) (fun g => hall g.2), Bool.and_false]
                exact Ev.step (fun k => by rw [jlex_great.j0, if_pos rfl, if_pos (by omega), if_neg hne, while10 _ (by omega), Option.bind_some, hyt, hyz2, if_neg (by omega)]) (Ev.now _)
          rcases hsg with rfl | rfl
          · simp only [if_true]
            exact goal
          · simp only [show ¬ ((45 : Int) = 43) by decide, if_false, beq_self_eq_true]
            exact goal
        · have h43 : ¬ x = 43 := fun e => hsg (.inl e)
          have h45 : ¬ x = 45 := fun e => hsg (.inr e)
          simp only [if_neg h43, beq_eq_false_iff_ne.2 h45]
          have := fall (.inr (.inr ⟨by simpa using h43, by simpa using h45⟩))
          rw [hd0] at this
          exact this
    · have hne : ¬ (strOfNums (p.drop (digs p))).toList = (s.extract (a.length + 1) s.size).toList := by
        rw [toList_eq_iff, htb, hy]
        intro e
        have := congrArg List.length e
        rw [List.length_drop] at this
        omega
      simp only [if_neg hne]
      exact fall (.inl hd0)
/-- How a number's text is judged. -/
def numb (l : List Int) : Int := if l.length > 400 then 2 else (nform l).elim 4 (fun p => if fits p = true then 0 else 6)
theorem number_ev (s : ByteArray) (ha : ascii (bytesOf s) = true) : Ev (fun k => jlex_number.f k s) (numb (bytesOf s)) := by
  unfold numb
  rw [size_of]
  by_cases hs : s.size > 400
  · rw [if_pos hs]
    exact Ev.congr (fun k => by rw [jlex_number.f, if_pos (by omega)]) (Ev.now _)
  · rw [if_neg hs]
    refine Ev.congr (fun k => by rw [jlex_number.f, if_neg (by omega)]) (Ev.bind (good_ev s (by omega)) ?_)
    have hg := great_ev s (by omega) ha
    unfold greatS at hg
    cases hf : nform (bytesOf s) with
    | none =>
      rw [hf, Option.elim_none] at hg
      have hng : ngood (bytesOf s) = false := by unfold ngood; rw [hf]; rfl
      rw [hng, Option.elim_none]
      exact Ev.congr (fun k => by rw [if_neg (by decide)]) (Ev.bind hg (Ev.now _))
    | some p =>
      rw [hf, Option.elim_some] at hg
      have hng : ngood (bytesOf s) = fits p := by unfold ngood; rw [hf]; rfl
      rw [hng, Option.elim_some]
      by_cases hp : fits p = true
      · exact Ev.congr (fun k => by rw [if_pos hp]) (by rw [if_pos hp]; exact Ev.now _)
      · have : p ≠ [] := fun e => hp (by rw [e]; rfl)
        rw [decide_eq_true this] at hg
        rw [if_neg hp]
        exact Ev.congr (fun k => by rw [if_neg hp]) (Ev.bind hg (Ev.now _))
end Go.Proofs.YtoanbmggffkmgaaDoor.La
end
section
namespace Go.Proofs.YtoanbmggffkmgaaDoor.La
theorem enc_ne (r : Int) : enc r ≠ [] := fun h => by have := enc_len r; rw [h] at this; simp at this
theorem stp_enc {r : Int} (hr : good r) (m : List Int) : stp (enc r ++ m) = (enc r).length := by
  have := enc_len r
  unfold stp
  rw [tk_enc hr]
  rw [if_neg (by simp only; omega)]
  simp
/-- A text of letters begins with one. -/
theorem good_text {l : List Int} (hl : ∀ x ∈ l, 0 ≤ x ∧ x < 256) (h : bad l = none) (hne : l ≠ []) : ∃ r m, good r ∧ l = enc r ++ m ∧ bad m = none := by
  have h0 : (tk l).2 ≠ 0 := fun h0 => by rw [bad_none hne h0] at h; cases h
  rcases tk_inv l hl with e | ⟨hg, _, m, hm⟩
  · rw [e] at h0; exact absurd rfl h0
  · refine ⟨_, m, hg, hm, ?_⟩
    rw [bad_step hne h0] at h
    have hs : stp l = (enc (tk l).1).length := by
      have := stp_enc hg m
      rwa [← hm] at this
    have hd : l.drop (stp l) = m := by
      rw [hs]
      have : l.drop (enc (tk l).1).length = (enc (tk l).1 ++ m).drop (enc (tk l).1).length := by rw [← hm]
      rw [this, List.drop_left]
    rw [hd] at h
    exact Option.map_eq_none_iff.1 h
theorem tk_letter_ne {r : Int} (hr : good r) (m : List Int) : (tk (enc r ++ m)).2 ≠ 0 := by
  have := enc_len r
  rw [tk_enc hr]
  simp only
  omega
theorem bad_enc {r : Int} (hr : good r) (m : List Int) : bad (enc r ++ m) = (bad m).map (· + (enc r).length) := by
  rw [bad_step (by simp [enc_ne]) (tk_letter_ne hr m), stp_enc hr, List.drop_left]
/-- Induction over a text's letters. -/
theorem text_induction {P : List Int → Prop} (nil : P []) (cons : ∀ r m, good r → bad m = none → (∀ x ∈ m, 0 ≤ x ∧ x < 256) → P m → P (enc r ++ m)) (l : List Int) (hl : ∀ x ∈ l, 0 ≤ x ∧ x < 256) (h : bad l = none) : P l := by
  by_cases hne : l = []
  · subst hne; exact nil
  · obtain ⟨r, m, hr, rfl, hm⟩ := good_text hl h hne
    have hmb : ∀ x ∈ m, 0 ≤ x ∧ x < 256 := fun x hx => hl x (List.mem_append.2 (.inr hx))
    have : m.length < (enc r ++ m).length := by have := enc_len r; rw [List.length_append]; omega
    exact cons r m hr hm hmb (text_induction nil cons m hmb hm)
termination_by l.length
theorem bad_join {a b : List Int} (ha : ∀ x ∈ a, 0 ≤ x ∧ x < 256) (h : bad a = none) : bad (a ++ b) = (bad b).map (· + a.length) := by
  refine text_induction (P := fun a => bad (a ++ b) = (bad b).map (· + a.length)) ?_ ?_ a ha h
  · simp
  · intro r m hr _ _ ih
    rw [List.append_assoc, bad_enc hr, ih, Option.map_map]
    congr 1
    funext x
    simp [List.length_append]
    omega
end Go.Proofs.YtoanbmggffkmgaaDoor.La
end
section
namespace Go.Proofs.YtoanbmggffkmgaaDoor.La
/-- Where the last line begins. -/
def lst : List Int → Nat
  | [] => 0
  | b :: t => if 0 < lst t then lst t + 1 else if b = 10 then 1 else 0
def nl (l : List Int) : Nat := cntB l 10
theorem lst_le (l : List Int) : lst l ≤ l.length := by
  induction l with
  | nil => simp [lst]
  | cons b t ih => simp only [lst, List.length_cons]; (repeat' split) <;> omega
theorem lst_append (a b : List Int) : lst (a ++ b) = if 0 < lst b then a.length + lst b else lst a := by
  induction a with
  | nil => simp [lst]
  | cons x a ih =>
    simp only [List.cons_append, lst, ih, List.length_cons]
    by_cases h : 0 < lst b
    · simp only [if_pos h]
      rw [if_pos (by omega)]
      omega
    · simp only [if_neg h]
theorem lst_snoc (a : List Int) (x : Int) : lst (a ++ [x]) = if x = 10 then a.length + 1 else lst a := by
  rw [lst_append]
  by_cases h : x = 10
  · simp [lst, h]
  · simp [lst, h]
end Go.Proofs.YtoanbmggffkmgaaDoor.La
end
section
namespace Go.Proofs.YtoanbmggffkmgaaDoor.La
open Go.RowKit Go.Proofs.YtoanbmggffkmgaaDoor.P Go.Proofs.YtoanbmggffkmgaaDoorW.PrintWords Go.Proofs.YtoanbmggffkmgaaDoorW.PrintLast Go.Proofs.YtoanbmggffkmgaaDoorW.PrintMore
def clamp (size : Nat) (i : Int) : Nat := if i < 0 then 0 else if i > (size : Int) then size else i.toNat
theorem clamp_le (size : Nat) (i : Int) : clamp size i ≤ size := by unfold clamp; (repeat' split) <;> omega
theorem clamp_eq (s : ByteArray) (i : Int) : place_clamp.f s i = some (clamp s.size i : Int) := by
  unfold place_clamp.f mn mx clamp
  congr 1
  (repeat' split) <;> omega
theorem count10 (s : ByteArray) : strings_Count.f s (⟨#[10]⟩ : ByteArray) = some (nl (bytesOf s) : Int) := by
  unfold strings_Count.f
  rw [if_pos (by rfl)]
  rfl
theorem last_l0 (s : ByteArray) (hs : s.size ≤ 140737488355328) (m : Nat) : m ≤ s.size → Ev (fun k => bytealg_LastIndexByteString.l0 k s 10 ((m : Int) - 1)) ((lst ((bytesOf s).take m) : Int) - 1) := by
  induction m with
  | zero =>
    intro _
    refine Ev.step (fun k => by rw [bytealg_LastIndexByteString.l0]) ?_
    simp only [if_neg (show ¬ (((0 : Nat) : Int) - 1 ≥ 0) by omega)]
    exact Ev.now _
  | succ m ih =>
    intro hm
    refine Ev.step (fun k => by rw [bytealg_LastIndexByteString.l0]) ?_
    have e : ((m + 1 : Nat) : Int) - 1 = (m : Int) := by omega
    have hlt : m < (bytesOf s).length := by rw [size_of]; omega
    have hb : bt s (m : Int) = (bytesOf s)[m] := by rw [bt_get]; simp [List.getD_eq_getElem?_getD, hlt]
    simp only [e, if_pos (show (m : Int) ≥ 0 by omega), if_pos (show (m : Int) < (s.size : Int) by omega)]
    rw [List.take_succ_eq_append_getElem hlt, lst_snoc, hb]
    by_cases h : (bytesOf s)[m] = 10
    · simp only [if_pos h, List.length_take, Nat.min_eq_left (Nat.le_of_lt hlt)]
      have : ((m + 1 : Nat) : Int) - 1 = (m : Int) := by omega
      rw [this]
      exact Ev.now _
    · simp only [if_neg h]
      rw [wrap_id (by omega) (by omega)]
      exact ih (by omega)
theorem last_ev (s : ByteArray) (hs : s.size ≤ 140737488355328) : Ev (fun k => strings_LastIndexByte.f k s 10) ((lst (bytesOf s) : Int) - 1) := by
  have h := last_l0 s hs s.size (Nat.le_refl _)
  rw [List.take_of_length_le (by rw [size_of]; omega)] at h
  refine Ev.congr (fun k => by rw [strings_LastIndexByte.f, bytealg_LastIndexByteString.f, wrap_id (by omega) (by omega)]) (Ev.bind h ?_)
  exact Ev.now _
/-- A place's line and column. -/
def lineOf (l : List Int) : Int := (nl l : Int) + 1
def colOf (l : List Int) : Int := (cnt (l.drop (lst l)) : Int) + 1
theorem of_ev (s : ByteArray) (hs : s.size ≤ 8796093022208) (i : Int) : Ev (fun k => place_Of.f k s i) (lineOf ((bytesOf s).take (clamp s.size i)), colOf ((bytesOf s).take (clamp s.size i))) := by
  have hc := clamp_le s.size i
  refine Ev.congr (fun k => by rw [place_Of.f, clamp_eq, Option.bind_some]) ?_
  generalize clamp s.size i = c at *
  have hsz : (s.extract 0 c).size = c := size_take s hc
  have hl := lst_le ((bytesOf s).take c)
  rw [List.length_take, size_of, Nat.min_eq_left hc] at hl
  simp only [if_pos (show (0 : Int) ≤ (c : Int) by omega), if_pos (show (c : Int) ≤ (s.size : Int) by omega), Int.toNat_natCast]
  refine Ev.bind (last_ev (s.extract 0 c) (by rw [hsz]; omega)) ?_
  rw [bytesOf_take]
  have hn : nl ((bytesOf s).take c) ≤ c := by
    have := cntB_le ((bytesOf s).take c) 10
    rw [List.length_take, size_of, Nat.min_eq_left hc] at this
    exact this
  have hw : wrap64 ((lst ((bytesOf s).take c) : Int) - 1 + 1) = (lst ((bytesOf s).take c) : Int) := by rw [wrap_id (by omega) (by omega)]; omega
  simp only [count10, Option.bind_some, hw, hsz, bytesOf_take, if_pos (show (0 : Int) ≤ (lst ((bytesOf s).take c) : Int) by omega), if_pos (show (lst ((bytesOf s).take c) : Int) ≤ (c : Int) by omega), Int.toNat_natCast]
  have hx : bytesOf ((s.extract 0 c).extract (lst ((bytesOf s).take c)) c) = ((bytesOf s).take c).drop (lst ((bytesOf s).take c)) := by
    rw [bytesOf_extract, bytesOf_take, List.take_take, Nat.min_self]
  have hxs : ((s.extract 0 c).extract (lst ((bytesOf s).take c)) c).size ≤ 140737488355328 := by rw [← size_of, hx, List.length_drop, List.length_take, size_of]; omega
  refine Ev.bind (count_ev _ hxs) ?_
  rw [hx]
  have hcn := cnt_le (((bytesOf s).take c).drop (lst ((bytesOf s).take c)))
  rw [List.length_drop, List.length_take, size_of] at hcn
  rw [wrap_id (by omega) (by omega), wrap_id (by omega) (by omega)]
  exact Ev.now _
theorem fault_ev (s : ByteArray) (hs : s.size ≤ 8796093022208) (i e : Int) : Ev (fun k => place_Fault.f k s i e) (e, (clamp s.size i : Int), lineOf ((bytesOf s).take (clamp s.size i)), colOf ((bytesOf s).take (clamp s.size i))) := by
  refine Ev.congr (fun k => by rw [place_Fault.f]) (Ev.bind (of_ev s hs i) ?_)
  rw [clamp_eq, Option.bind_some]
  exact Ev.now _
end Go.Proofs.YtoanbmggffkmgaaDoor.La
end
