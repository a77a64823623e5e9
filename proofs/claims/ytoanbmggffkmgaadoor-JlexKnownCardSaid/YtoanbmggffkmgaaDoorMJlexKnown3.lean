/- The parts of this claim's proof, in one text: what each Go function answers and that its call comes to it; plain facts of lists of numbers. Conditions as each theorem names them. -/
import Derived.ArgAppend
import Derived.Below
import Derived.BigQuiet
import Derived.Deep.AppendLies
import Derived.Deep.CutBlock
import Derived.Deep.DeepCutAuto
import Derived.Deep.Draws
import Derived.Deep.LoopGhost
import Derived.Deep.OwnRows
import Derived.Deep.QuietTactic
import Derived.Deep.RegionHeld3
import Derived.KernelRfl
import Derived.Laws.BitsLemmas
import Derived.Laws.BytesArg
import Derived.Laws.IdiomCopy
import Derived.Laws.MakeOwn
import Derived.Laws.OwnMore
import Derived.Laws.Rows
import Derived.Laws.Slices
import Derived.Lib.AppendStr
import Derived.Lib.Bytealg
import Derived.Lib.Bytes
import Derived.Lib.ConvBytes
import Derived.Lib.Hide
import Derived.Maps.AppendAt
import Derived.OrdersHeld
import Derived.Outline
import Derived.OwnWalk
import Derived.RowKit
import Derived.RowKit3
import Derived.Shelf.Bits.Mul64
import Derived.Shelf.LaysM
import Derived.Shelf.Small.Strs
import Derived.Shelf.Small.Utf8
import Derived.Shelf.Strings.AsciiSet
import Derived.Shelf.Strings.Builder1
import Derived.Shelf.Strings.Builder2
import Derived.Shelf.Strings.BuilderF
import Derived.Shelf.Strings.Count
import Derived.Shelf.Strings.IndexAny
import Derived.Shelf.Strings.IndexAnyAll
import Derived.Shelf.Strings.Prefix
import Derived.Shelf.Strings.Repeat
import Derived.Shelf.Strings.Runes
import Derived.Shelf.Strings.Search1
import Derived.Shelf.Strings.Search2
import Derived.Shelf.Strings.Search3
import Derived.Shelf.Strings.Shaped
import Derived.Shelf.Strings.SlTrimAscii
import Derived.Shelf.Strings.Trim
import Derived.Shelf.Unicode.DecodeSlow
import Derived.Tactics
import Derived.WalkKit
import Derived.WideLaws
import Derived.Test.YtoanbmggffkmgaaDoorProg
import Derived.Test.YtoanbmggffkmgaaDoorWApart
import Derived.Test.YtoanbmggffkmgaaDoorWArr
import Derived.Test.YtoanbmggffkmgaaDoorWAt
import Derived.Test.YtoanbmggffkmgaaDoorWEqStruct
import Derived.Test.YtoanbmggffkmgaaDoorWFoot
import Derived.Test.YtoanbmggffkmgaaDoorWFootNe
import Derived.Test.YtoanbmggffkmgaaDoorWFour
import Derived.Test.YtoanbmggffkmgaaDoorWGuard
import Derived.Test.YtoanbmggffkmgaaDoorWInv
import Derived.Test.YtoanbmggffkmgaaDoorWInvWords
import Derived.Test.YtoanbmggffkmgaaDoorWKept
import Derived.Test.YtoanbmggffkmgaaDoorWLast
import Derived.Test.YtoanbmggffkmgaaDoorWMake0
import Derived.Test.YtoanbmggffkmgaaDoorWMore
import Derived.Test.YtoanbmggffkmgaaDoorWN
import Derived.Test.YtoanbmggffkmgaaDoorWNEv
import Derived.Test.YtoanbmggffkmgaaDoorWQPut
import Derived.Test.YtoanbmggffkmgaaDoorWRepsOne
import Derived.Test.YtoanbmggffkmgaaDoorWShare
import Derived.Test.YtoanbmggffkmgaaDoorWTab
import Derived.Test.YtoanbmggffkmgaaDoorWWords
import Derived.Test.YtoanbmggffkmgaaDoorWZeros
import Derived.Test.YtoanbmggffkmgaaDoorMJlexKnown1
import Derived.Test.YtoanbmggffkmgaaDoorMJlexKnown2
section
namespace Go.Proofs.YtoanbmggffkmgaaDoor.P
open Go.RowKit Go.Proofs.YtoanbmggffkmgaaDoorW.PrintWords Go.Proofs.YtoanbmggffkmgaaDoorW.PrintLast Go.Proofs.YtoanbmggffkmgaaDoorW.PrintMore
attribute [local go_sem] max2_int min2_int max_two min_two max_three min_three max_four min_four   -- for this text's walks alone
attribute [-simp] ByteArray.size_extract
set_option linter.unusedVariables false
set_option linter.unusedSimpArgs false
/-! ### jlex_word: function 33 -/
def jlex_word.j0 : Nat → Int → ByteArray → Bool → Option (Int × ByteArray × Int × Int × Int × Int)
  | 0, _, _, _ => none
  | k + 1, x1, x8, x54 => if x54 = true then ((jlex_while.f x8 (⟨#[97, 98, 99, 100, 101, 102, 103, 104, 105, 106, 107, 108, 109, 110, 111, 112, 113, 114, 115, 116, 117, 118, 119, 120, 121, 122]⟩ : ByteArray)).bind fun t211 => (if 0 ≤ t211 then (if t211 ≤ (x8.size : Int) then (if (x8.extract 0 (t211 : Int).toNat).toList = ([116, 114, 117, 101] : List UInt8) then (some (4, x8.extract 0 (t211 : Int).toNat, x1, wrap64 (x1 + ((x8.extract 0 (t211 : Int).toNat).size : Int)), 0, 0)) else (if (x8.extract 0 (t211 : Int).toNat).toList = ([102, 97, 108, 115, 101] : List UInt8) then (some (4, x8.extract 0 (t211 : Int).toNat, x1, wrap64 (x1 + ((x8.extract 0 (t211 : Int).toNat).size : Int)), 0, 0)) else (if (x8.extract 0 (t211 : Int).toNat).toList = ([110, 117, 108, 108] : List UInt8) then (some (4, x8.extract 0 (t211 : Int).toNat, x1, wrap64 (x1 + ((x8.extract 0 (t211 : Int).toNat).size : Int)), 0, 0)) else (some (0, (⟨#[]⟩ : ByteArray), 0, 0, 4, x1))))) else (none)) else (none))) else ((jlex_while.f x8 (⟨#[48, 49, 50, 51, 52, 53, 54, 55, 56, 57, 43, 45, 46, 101, 69]⟩ : ByteArray)).bind fun t212 => (if 0 ≤ t212 then (if t212 ≤ (x8.size : Int) then (if (x8.extract 0 (t212 : Int).toNat).toList = ([] : List UInt8) then (some (0, (⟨#[]⟩ : ByteArray), 0, 0, 4, x1)) else ((jlex_number.f k (x8.extract 0 (t212 : Int).toNat)).bind fun t213 => (if t213 = 0 then (some (3, x8.extract 0 (t212 : Int).toNat, x1, wrap64 (x1 + ((x8.extract 0 (t212 : Int).toNat).size : Int)), 0, 0)) else (some (0, (⟨#[]⟩ : ByteArray), 0, 0, t213, x1))))) else (none)) else (none)))
def jlex_word.f (k : Nat) (a0 : ByteArray) (a1 : Int) : Option (Int × ByteArray × Int × Int × Int × Int) := if 0 ≤ a1 then (if a1 ≤ (a0.size : Int) then (if 0 < ((a0.extract (a1 : Int).toNat a0.size).size : Int) then ((strings_IndexByte.f (⟨#[123, 125, 91, 93, 58, 44]⟩ : ByteArray) (bt (a0.extract (a1 : Int).toNat a0.size) 0)).bind fun t207 => (if t207 ≥ 0 then (if 0 ≤ 1 then (if 1 ≤ ((a0.extract (a1 : Int).toNat a0.size).size : Int) then (some (1, (a0.extract (a1 : Int).toNat a0.size).extract 0 1, a1, wrap64 (a1 + 1), 0, 0)) else (none)) else (none)) else (if (bt (a0.extract (a1 : Int).toNat a0.size) 0) = 34 then ((esc_Unquote.f a0 a1).bind fun bt208 => (if bt208.2.2 ≥ 0 then (some (0, (⟨#[]⟩ : ByteArray), 0, 0, 4, bt208.2.2)) else (if (bt208.1.size : Int) > 4096 then (some (0, (⟨#[]⟩ : ByteArray), 0, 0, 2, a1)) else (some (2, bt208.1, a1, bt208.2.1, 0, 0))))) else (if (bt (a0.extract (a1 : Int).toNat a0.size) 0) ≥ 97 then (jlex_word.j0 k a1 (a0.extract (a1 : Int).toNat a0.size) (decide ((bt (a0.extract (a1 : Int).toNat a0.size) 0) ≤ 122))) else (jlex_word.j0 k a1 (a0.extract (a1 : Int).toNat a0.size) false))))) else (none)) else (none)) else (none)
theorem jlex_word.mono_l : ∀ k, (∀ y0 y1 y2, LeO (jlex_word.j0 k y0 y1 y2) (jlex_word.j0 (k + 1) y0 y1 y2))
  | 0 => fun _ _ _ r h => by simp [jlex_word.j0] at h
  | k + 1 => by
    have ih0 := jlex_word.mono_l k
    · intro y0 y1 y2
      unfold jlex_word.j0
      repeat' first
      | (with_reducible exact ih0 _ _ _)
      | (with_reducible exact jlex_number.mono _ _)
      | (with_reducible exact LeO.refl _)
      | (with_reducible exact LeO.none _)
      | (with_reducible refine LeO.ite ?_ ?_)
      | (with_reducible refine LeO.bind ?_ (fun _ => ?_))
      | exact ih0 _ _ _
      | exact jlex_number.mono _ _
      | exact LeO.none _
      | refine LeO.ite ?_ ?_
      | refine LeO.bind ?_ (fun _ => ?_)
theorem jlex_word.mono : ∀ a0 a1 k, LeO (jlex_word.f k a0 a1) (jlex_word.f (k + 1) a0 a1) := by
  intro a0 a1 k
  have ih0 := jlex_word.mono_l k
  unfold jlex_word.f
  repeat' first
      | (with_reducible exact ih0 _ _ _)
      | (with_reducible exact jlex_number.mono _ _)
      | (with_reducible exact LeO.refl _)
      | (with_reducible exact LeO.none _)
      | (with_reducible refine LeO.ite ?_ ?_)
      | (with_reducible refine LeO.bind ?_ (fun _ => ?_))
      | exact ih0 _ _ _
      | exact jlex_number.mono _ _
      | exact LeO.none _
      | refine LeO.ite ?_ ?_
      | refine LeO.bind ?_ (fun _ => ?_)
set_option maxHeartbeats 8000000 in
set_option maxRecDepth 100000 in
theorem jlex_word.calls (k : Nat) (a0 : ByteArray) (a1 : Int) (r1 : Int) (r2 : ByteArray) (r3 : Int) (r4 : Int) (r5 : Int) (r6 : Int) (w : World) (h : jlex_word.f k a0 a1 = some (r1, r2, r3, r4, r5, r6)) :
    Calls Tryd.prog 33 #[.string a0, .int .i64 a1] w fun e w' => e = .returned (.tuple #[.agg #[.int .i64 r1, .string r2, .int .i64 r3], .int .i64 r4, .int .i64 r5, .int .i64 r6]) ∧ Below w.heap.size w w' := by
  have hu30 := Tryd.underlying30
  have HB := Aside0.mk (Below.refl w.heap.size w)
  have H : (if 0 ≤ a1 then (if a1 ≤ (a0.size : Int) then (if 0 < ((a0.extract (a1 : Int).toNat a0.size).size : Int) then ((strings_IndexByte.f (⟨#[123, 125, 91, 93, 58, 44]⟩ : ByteArray) (bt (a0.extract (a1 : Int).toNat a0.size) 0)).bind fun t207 => (if t207 ≥ 0 then (if 0 ≤ 1 then (if 1 ≤ ((a0.extract (a1 : Int).toNat a0.size).size : Int) then (some (1, (a0.extract (a1 : Int).toNat a0.size).extract 0 1, a1, wrap64 (a1 + 1), 0, 0)) else (none)) else (none)) else (if (bt (a0.extract (a1 : Int).toNat a0.size) 0) = 34 then ((esc_Unquote.f a0 a1).bind fun bt208 => (if bt208.2.2 ≥ 0 then (some (0, (⟨#[]⟩ : ByteArray), 0, 0, 4, bt208.2.2)) else (if (bt208.1.size : Int) > 4096 then (some (0, (⟨#[]⟩ : ByteArray), 0, 0, 2, a1)) else (some (2, bt208.1, a1, bt208.2.1, 0, 0))))) else (if (bt (a0.extract (a1 : Int).toNat a0.size) 0) ≥ 97 then (jlex_word.j0 k a1 (a0.extract (a1 : Int).toNat a0.size) (decide ((bt (a0.extract (a1 : Int).toNat a0.size) 0) ≤ 122))) else (jlex_word.j0 k a1 (a0.extract (a1 : Int).toNat a0.size) false))))) else (none)) else (none)) else (none)) = some (r1, r2, r3, r4, r5, r6) := h
  clear h
  by_cases c3 : 0 ≤ a1
  · rw [if_pos c3] at H
    have c3b0 := eq_true c3
    have c3b1 : decide (0 ≤ a1) = true := decide_eq_true c3
    clear c3
    by_cases c4 : a1 ≤ (a0.size : Int)
    · rw [if_pos c4] at H
      have c4b0 := eq_true c4
      have c4b1 : decide (a1 ≤ (a0.size : Int)) = true := decide_eq_true c4
      clear c4
      by_cases c5 : 0 < ((a0.extract (a1 : Int).toNat a0.size).size : Int)
      · rw [if_pos c5] at H
        have c5b0 : decide (0 < ((a0.extract (a1 : Int).toNat a0.size).size : Int)) = true := decide_eq_true c5
        have c5b1 : decide (0 < (a0.extract (a1 : Int).toNat a0.size).size) = true := decide_eq_true (by omega)
        clear c5
        replace H := Option.bind_eq_some_iff.mp H
        obtain ⟨t207, A70, H⟩ := H
        replace H : (if t207 ≥ 0 then (if 0 ≤ 1 then (if 1 ≤ ((a0.extract (a1 : Int).toNat a0.size).size : Int) then (some (1, (a0.extract (a1 : Int).toNat a0.size).extract 0 1, a1, wrap64 (a1 + 1), 0, 0)) else (none)) else (none)) else (if (bt (a0.extract (a1 : Int).toNat a0.size) 0) = 34 then ((esc_Unquote.f a0 a1).bind fun bt208 => (if bt208.2.2 ≥ 0 then (some (0, (⟨#[]⟩ : ByteArray), 0, 0, 4, bt208.2.2)) else (if (bt208.1.size : Int) > 4096 then (some (0, (⟨#[]⟩ : ByteArray), 0, 0, 2, a1)) else (some (2, bt208.1, a1, bt208.2.1, 0, 0))))) else (if (bt (a0.extract (a1 : Int).toNat a0.size) 0) ≥ 97 then (jlex_word.j0 k a1 (a0.extract (a1 : Int).toNat a0.size) (decide ((bt (a0.extract (a1 : Int).toNat a0.size) 0) ≤ 122))) else (jlex_word.j0 k a1 (a0.extract (a1 : Int).toNat a0.size) false)))) = some (r1, r2, r3, r4, r5, r6) := H
        have A7 := Aside0.mk A70
        clear A70
        by_cases c8 : t207 ≥ 0
        · rw [if_pos c8] at H
          have c8b0 : decide (0 ≤ t207) = true := decide_eq_true c8
          clear c8
          by_cases c9 : 0 ≤ 1
          · rw [if_pos c9] at H
            have c9b0 := eq_true c9
            have c9b1 : decide (0 ≤ 1) = true := decide_eq_true c9
            clear c9
            by_cases c10 : 1 ≤ ((a0.extract (a1 : Int).toNat a0.size).size : Int)
            · rw [if_pos c10] at H
              have c10b0 := eq_true c10
              have c10b1 : decide (1 ≤ ((a0.extract (a1 : Int).toNat a0.size).size : Int)) = true := decide_eq_true c10
              clear c10
              simp only [Option.some.injEq, Prod.mk.injEq] at H
              obtain ⟨rfl, rfl, rfl, rfl, rfl, rfl⟩ := H
              go_enter Tryd.func33, Tryd.ntmps33
              go_wp2_with (first | ((with_reducible refine gate_dst (N := 4) rfl ?_); refine box_event ?hg (N := 4) ?hd (cs := #[.int .i64 0, .string (⟨#[]⟩ : ByteArray), .int .i64 0]) (t := 30) ?hr ?_; (case hd => rfl); (case hg => rfl); (case hr => first | (go_simp; done) | (go_simp; rfl)); intro gb206 hg w11 hbox hb; have n0_ := Aside0.mk (below_step (by repeat (first | (with_reducible first | exact HB.out | apply below_alloc | apply pw_below_drewN | apply below_drew1) | exact HB.out)) hb); have n1_ := Aside0.mk (hbox); have n2_ := Aside0.mk ((by rw [hg]; exact (below_size (by repeat (first | (with_reducible first | exact HB.out | apply below_alloc | apply pw_below_drewN | apply below_drew1) | exact HB.out))) : w.heap.size ≤ gb206)); have n3_ := Aside0.mk ((by rw [hg]; exact (below_size (by repeat (first | (with_reducible first | exact HB.out | apply below_alloc | apply pw_below_drewN | apply below_drew1) | exact HB.out))) : w.heap.size ≤ gb206)); clear HB; have HB := n0_; have BK206 := n1_; have GW206 := n2_; have GE206 := n3_; clear n0_ n1_ n2_ n3_; clear hb hbox hg; have p6 : 0 ≤ (0 : Int) := (by omega); have q6 : 0 < (a0.extract (a1 : Int).toNat a0.size).size := (by have : (0 : Int) < ((a0.extract (a1 : Int).toNat a0.size).size : Int) := of_decide_eq_true (by first | (with_reducible assumption) | assumption); omega); have hx6 : ∀ h : 0 < (a0.extract (a1 : Int).toNat a0.size).size, (((a0.extract (a1 : Int).toNat a0.size)[0]'h).toNat : Int) = bt (a0.extract (a1 : Int).toNat a0.size) 0 := bt_at (a0.extract (a1 : Int).toNat a0.size) 0; clear p6; have qi6 : (0 < ((a0.extract (a1 : Int).toNat a0.size).size : Int)) = True := eq_true (of_decide_eq_true (by first | (with_reducible assumption) | assumption)); replace q6 := eq_true q6) | ((with_reducible refine gate_callee (f := 56) rfl ?_); refine goesL_ (some 23) rfl rfl Tryd.func56 (by kernel_rfl) rfl #[.string (⟨#[123, 125, 91, 93, 58, 44]⟩ : ByteArray), .int .u8 (bt (a0.extract (a1 : Int).toNat a0.size) 0)] rfl (by (try simp only [List.map_toArray, List.map_cons, List.map_nil]); first | done | rfl | (simp only [List.length_drop, List.length_take]; rfl)) ?_; (with_reducible refine (strings_IndexByte.calls (⟨#[123, 125, 91, 93, 58, 44]⟩ : ByteArray) (bt (a0.extract (a1 : Int).toNat a0.size) 0) t207 _ A7.out).mono ?_); rintro e w' ⟨rfl, ⟨nd, rfl⟩⟩; refine ⟨_, rfl, ?_⟩; (try (rw [drewN_self w11]; generalize hq_ : World.drewN w11 _ = w11; have n0_ : Aside0 (w11.heap[gb206]? = some (.cells #[.int .i64 0, .string (⟨#[]⟩ : ByteArray), .int .i64 0] 30 (0, 0))) := ⟨by rw [← hq_]; exact (by (with_reducible repeat (first | refine blk_drewN ?_ _ | refine blk_drew ?_ | refine blk_alloc ?_ _)); exact BK206.out)⟩; have n1_ : Aside0 (Below w.heap.size w w11) := ⟨by rw [← hq_]; exact (by repeat (first | (with_reducible first | exact HB.out | apply below_alloc | apply pw_below_drewN | apply below_drew1 | refine below_set ?_ GE206.out) | exact HB.out))⟩; clear BK206 HB hq_; have BK206 := n0_; have HB := n1_; clear n0_ n1_)); have hcz12_0 : w11.cell? ⟨gb206, 0, none⟩ = some (.int .i64 0) := (blk_cell BK206.out 0).trans rfl; have hcz12_1 : w11.cell? ⟨gb206, 1, none⟩ = some (.string (⟨#[]⟩ : ByteArray)) := (blk_cell BK206.out 1).trans rfl; have hcz12_2 : w11.cell? ⟨gb206, 2, none⟩ = some (.int .i64 0) := (blk_cell BK206.out 2).trans rfl; have hfz12_0 := blk_frozen BK206.out 0; have hfz12_1 := blk_frozen BK206.out 1; have hfz12_2 := blk_frozen BK206.out 2))
              refine bodyPost_ret (results_list (rs := [.cell 4 30, .tmp 5, .tmp 6, .tmp 7]) rfl (by simp) (.cell gb206 30 #[.int .i64 1, .string ((a0.extract (a1 : Int).toNat a0.size).extract 0 1), .int .i64 a1] (0, 0) _ rfl (by (with_reducible repeat (first | refine blk_drewN ?_ _ | refine blk_drew ?_ | refine blk_alloc ?_ _)); refine blk_put (cs := #[.int .i64 1, .string ((a0.extract (a1 : Int).toNat a0.size).extract 0 1), .int .i64 0]) ?_ 2 _ rfl; (with_reducible repeat (first | refine blk_drewN ?_ _ | refine blk_drew ?_ | refine blk_alloc ?_ _)); refine blk_put (cs := #[.int .i64 1, .string (⟨#[]⟩ : ByteArray), .int .i64 0]) ?_ 1 _ rfl; (with_reducible repeat (first | refine blk_drewN ?_ _ | refine blk_drew ?_ | refine blk_alloc ?_ _)); refine blk_put (cs := #[.int .i64 0, .string (⟨#[]⟩ : ByteArray), .int .i64 0]) ?_ 0 _ rfl; (with_reducible repeat (first | refine blk_drewN ?_ _ | refine blk_drew ?_ | refine blk_alloc ?_ _)); exact BK206.out) Tryd.underlying30 rfl (by kernel_rfl) (.tmp (.tmp (.tmp .nil))))) rfl ?_
              exact ⟨by first | rfl | (simp [errW_none, errW_some] <;> rfl) | (simp [*, errW_none, errW_some, bne]; done) | (simp [*, errW_none, errW_some] <;> rfl), by repeat (first | (with_reducible first | exact HB.out | apply below_alloc | apply pw_below_drewN | apply below_drew1 | refine below_set ?_ GE206.out) | exact HB.out)⟩
            · rw [if_neg c10] at H
              exact absurd H (by simp)
          · rw [if_neg c9] at H
            exact absurd H (by simp)
        · rw [if_neg c8] at H
          have c8b0 : decide (0 ≤ t207) = false := decide_eq_false c8
          clear c8
          by_cases c13 : (bt (a0.extract (a1 : Int).toNat a0.size) 0) = 34
          · rw [if_pos c13] at H
            have c13b0 : ((bt (a0.extract (a1 : Int).toNat a0.size) 0) == 34) = true := beq_iff_eq.mpr c13
            have c13b1 : ((bt (a0.extract (a1 : Int).toNat a0.size) 0) != 34) = false := bne_eq_false_iff_eq.mpr c13
            clear c13
            replace H := Option.bind_eq_some_iff.mp H
            obtain ⟨⟨t208, t209, t210⟩, A140, H⟩ := H
            replace H : (if t210 ≥ 0 then (some (0, (⟨#[]⟩ : ByteArray), 0, 0, 4, t210)) else (if (t208.size : Int) > 4096 then (some (0, (⟨#[]⟩ : ByteArray), 0, 0, 2, a1)) else (some (2, t208, a1, t209, 0, 0)))) = some (r1, r2, r3, r4, r5, r6) := H
            have A14 := Aside0.mk A140
            clear A140
            by_cases c15 : t210 ≥ 0
            · rw [if_pos c15] at H
              have c15b0 : decide (0 ≤ t210) = true := decide_eq_true c15
              clear c15
              simp only [Option.some.injEq, Prod.mk.injEq] at H
              obtain ⟨rfl, rfl, rfl, rfl, rfl, rfl⟩ := H
              go_enter Tryd.func33, Tryd.ntmps33
              go_wp2_with (first | ((with_reducible refine gate_dst (N := 4) rfl ?_); refine box_event ?hg (N := 4) ?hd (cs := #[.int .i64 0, .string (⟨#[]⟩ : ByteArray), .int .i64 0]) (t := 30) ?hr ?_; (case hd => rfl); (case hg => rfl); (case hr => first | (go_simp; done) | (go_simp; rfl)); intro gb206 hg w16 hbox hb; have n0_ := Aside0.mk (below_step (by repeat (first | (with_reducible first | exact HB.out | apply below_alloc | apply pw_below_drewN | apply below_drew1) | exact HB.out)) hb); have n1_ := Aside0.mk (hbox); have n2_ := Aside0.mk ((by rw [hg]; exact (below_size (by repeat (first | (with_reducible first | exact HB.out | apply below_alloc | apply pw_below_drewN | apply below_drew1) | exact HB.out))) : w.heap.size ≤ gb206)); have n3_ := Aside0.mk ((by rw [hg]; exact (below_size (by repeat (first | (with_reducible first | exact HB.out | apply below_alloc | apply pw_below_drewN | apply below_drew1) | exact HB.out))) : w.heap.size ≤ gb206)); clear HB; have HB := n0_; have BK206 := n1_; have GW206 := n2_; have GE206 := n3_; clear n0_ n1_ n2_ n3_; clear hb hbox hg; have p6 : 0 ≤ (0 : Int) := (by omega); have q6 : 0 < (a0.extract (a1 : Int).toNat a0.size).size := (by have : (0 : Int) < ((a0.extract (a1 : Int).toNat a0.size).size : Int) := of_decide_eq_true (by first | (with_reducible assumption) | assumption); omega); have hx6 : ∀ h : 0 < (a0.extract (a1 : Int).toNat a0.size).size, (((a0.extract (a1 : Int).toNat a0.size)[0]'h).toNat : Int) = bt (a0.extract (a1 : Int).toNat a0.size) 0 := bt_at (a0.extract (a1 : Int).toNat a0.size) 0; clear p6; have qi6 : (0 < ((a0.extract (a1 : Int).toNat a0.size).size : Int)) = True := eq_true (of_decide_eq_true (by first | (with_reducible assumption) | assumption)); replace q6 := eq_true q6) | ((with_reducible refine gate_callee (f := 56) rfl ?_); refine goesL_ (some 23) rfl rfl Tryd.func56 (by kernel_rfl) rfl #[.string (⟨#[123, 125, 91, 93, 58, 44]⟩ : ByteArray), .int .u8 (bt (a0.extract (a1 : Int).toNat a0.size) 0)] rfl (by (try simp only [List.map_toArray, List.map_cons, List.map_nil]); first | done | rfl | (simp only [List.length_drop, List.length_take]; rfl)) ?_; (with_reducible refine (strings_IndexByte.calls (⟨#[123, 125, 91, 93, 58, 44]⟩ : ByteArray) (bt (a0.extract (a1 : Int).toNat a0.size) 0) t207 _ A7.out).mono ?_); rintro e w' ⟨rfl, ⟨nd, rfl⟩⟩; refine ⟨_, rfl, ?_⟩; (try (rw [drewN_self w16]; generalize hq_ : World.drewN w16 _ = w16; have n0_ : Aside0 (w16.heap[gb206]? = some (.cells #[.int .i64 0, .string (⟨#[]⟩ : ByteArray), .int .i64 0] 30 (0, 0))) := ⟨by rw [← hq_]; exact (by (with_reducible repeat (first | refine blk_drewN ?_ _ | refine blk_drew ?_ | refine blk_alloc ?_ _)); exact BK206.out)⟩; have n1_ : Aside0 (Below w.heap.size w w16) := ⟨by rw [← hq_]; exact (by repeat (first | (with_reducible first | exact HB.out | apply below_alloc | apply pw_below_drewN | apply below_drew1 | refine below_set ?_ GE206.out) | exact HB.out))⟩; clear BK206 HB hq_; have BK206 := n0_; have HB := n1_; clear n0_ n1_))) | ((with_reducible refine gate_callee (f := 16) rfl ?_); refine goesL_ (some 37) rfl rfl Tryd.func16 (by kernel_rfl) rfl #[.string a0, .int .i64 a1] rfl (by (try simp only [List.map_toArray, List.map_cons, List.map_nil]); first | done | rfl | (simp only [List.length_drop, List.length_take]; rfl)) ?_; (with_reducible refine (esc_Unquote.calls a0 a1 t208 t209 t210 _ A14.out).mono ?_); rintro e w17 ⟨rfl, hb⟩; refine ⟨_, rfl, ?_⟩; have n0_ := Aside0.mk (blk_below (g := gb206) (o := .cells #[.int .i64 0, .string (⟨#[]⟩ : ByteArray), .int .i64 0] 30 (0, 0)) (by (with_reducible repeat (first | refine blk_drewN ?_ _ | refine blk_drew ?_ | refine blk_alloc ?_ _)); exact BK206.out) hb); have n1_ := Aside0.mk (below_step (by repeat (first | (with_reducible first | exact HB.out | apply below_alloc | apply pw_below_drewN | apply below_drew1 | refine below_set ?_ GE206.out) | exact HB.out)) hb); clear BK206; clear HB; have BK206 := n0_; have HB := n1_; clear n0_ n1_; (try clear hb); (try clear hb2); (try clear hk); (try clear hi); have hcz18_0 : w17.cell? ⟨gb206, 0, none⟩ = some (.int .i64 0) := (blk_cell BK206.out 0).trans rfl; have hcz18_1 : w17.cell? ⟨gb206, 1, none⟩ = some (.string (⟨#[]⟩ : ByteArray)) := (blk_cell BK206.out 1).trans rfl; have hcz18_2 : w17.cell? ⟨gb206, 2, none⟩ = some (.int .i64 0) := (blk_cell BK206.out 2).trans rfl; have hfz18_0 := blk_frozen BK206.out 0; have hfz18_1 := blk_frozen BK206.out 1; have hfz18_2 := blk_frozen BK206.out 2))
              refine bodyPost_ret (results_list (rs := [.cell 4 30, .tmp 5, .tmp 6, .tmp 7]) rfl (by simp) (.cell gb206 30 #[.int .i64 0, .string (⟨#[]⟩ : ByteArray), .int .i64 0] (0, 0) _ rfl (by (with_reducible repeat (first | refine blk_drewN ?_ _ | refine blk_drew ?_ | refine blk_alloc ?_ _)); refine blk_put (cs := #[.int .i64 0, .string (⟨#[]⟩ : ByteArray), .int .i64 0]) ?_ 2 _ rfl; (with_reducible repeat (first | refine blk_drewN ?_ _ | refine blk_drew ?_ | refine blk_alloc ?_ _)); refine blk_put (cs := #[.int .i64 0, .string (⟨#[]⟩ : ByteArray), .int .i64 0]) ?_ 1 _ rfl; (with_reducible repeat (first | refine blk_drewN ?_ _ | refine blk_drew ?_ | refine blk_alloc ?_ _)); refine blk_put (cs := #[.int .i64 0, .string (⟨#[]⟩ : ByteArray), .int .i64 0]) ?_ 0 _ rfl; (with_reducible repeat (first | refine blk_drewN ?_ _ | refine blk_drew ?_ | refine blk_alloc ?_ _)); exact BK206.out) Tryd.underlying30 rfl (by kernel_rfl) (.tmp (.tmp (.tmp .nil))))) rfl ?_
              exact ⟨by first | rfl | (simp [errW_none, errW_some] <;> rfl) | (simp [*, errW_none, errW_some, bne]; done) | (simp [*, errW_none, errW_some] <;> rfl), by repeat (first | (with_reducible first | exact HB.out | apply below_alloc | apply pw_below_drewN | apply below_drew1 | refine below_set ?_ GE206.out) | exact HB.out)⟩
            · rw [if_neg c15] at H
              have c15b0 : decide (0 ≤ t210) = false := decide_eq_false c15
              clear c15
              by_cases c19 : (t208.size : Int) > 4096
              · rw [if_pos c19] at H
                have c19b0 : decide (4096 < (t208.size : Int)) = true := decide_eq_true c19
                have c19b1 : decide (4096 < t208.size) = true := decide_eq_true (by omega)
                clear c19
                simp only [Option.some.injEq, Prod.mk.injEq] at H
                obtain ⟨rfl, rfl, rfl, rfl, rfl, rfl⟩ := H
                go_enter Tryd.func33, Tryd.ntmps33
                go_wp2_with (first | ((with_reducible refine gate_dst (N := 4) rfl ?_); refine box_event ?hg (N := 4) ?hd (cs := #[.int .i64 0, .string (⟨#[]⟩ : ByteArray), .int .i64 0]) (t := 30) ?hr ?_; (case hd => rfl); (case hg => rfl); (case hr => first | (go_simp; done) | (go_simp; rfl)); intro gb206 hg w20 hbox hb; have n0_ := Aside0.mk (below_step (by repeat (first | (with_reducible first | exact HB.out | apply below_alloc | apply pw_below_drewN | apply below_drew1) | exact HB.out)) hb); have n1_ := Aside0.mk (hbox); have n2_ := Aside0.mk ((by rw [hg]; exact (below_size (by repeat (first | (with_reducible first | exact HB.out | apply below_alloc | apply pw_below_drewN | apply below_drew1) | exact HB.out))) : w.heap.size ≤ gb206)); have n3_ := Aside0.mk ((by rw [hg]; exact (below_size (by repeat (first | (with_reducible first | exact HB.out | apply below_alloc | apply pw_below_drewN | apply below_drew1) | exact HB.out))) : w.heap.size ≤ gb206)); clear HB; have HB := n0_; have BK206 := n1_; have GW206 := n2_; have GE206 := n3_; clear n0_ n1_ n2_ n3_; clear hb hbox hg; have p6 : 0 ≤ (0 : Int) := (by omega); have q6 : 0 < (a0.extract (a1 : Int).toNat a0.size).size := (by have : (0 : Int) < ((a0.extract (a1 : Int).toNat a0.size).size : Int) := of_decide_eq_true (by first | (with_reducible assumption) | assumption); omega); have hx6 : ∀ h : 0 < (a0.extract (a1 : Int).toNat a0.size).size, (((a0.extract (a1 : Int).toNat a0.size)[0]'h).toNat : Int) = bt (a0.extract (a1 : Int).toNat a0.size) 0 := bt_at (a0.extract (a1 : Int).toNat a0.size) 0; clear p6; have qi6 : (0 < ((a0.extract (a1 : Int).toNat a0.size).size : Int)) = True := eq_true (of_decide_eq_true (by first | (with_reducible assumption) | assumption)); replace q6 := eq_true q6) | ((with_reducible refine gate_callee (f := 56) rfl ?_); refine goesL_ (some 23) rfl rfl Tryd.func56 (by kernel_rfl) rfl #[.string (⟨#[123, 125, 91, 93, 58, 44]⟩ : ByteArray), .int .u8 (bt (a0.extract (a1 : Int).toNat a0.size) 0)] rfl (by (try simp only [List.map_toArray, List.map_cons, List.map_nil]); first | done | rfl | (simp only [List.length_drop, List.length_take]; rfl)) ?_; (with_reducible refine (strings_IndexByte.calls (⟨#[123, 125, 91, 93, 58, 44]⟩ : ByteArray) (bt (a0.extract (a1 : Int).toNat a0.size) 0) t207 _ A7.out).mono ?_); rintro e w' ⟨rfl, ⟨nd, rfl⟩⟩; refine ⟨_, rfl, ?_⟩; (try (rw [drewN_self w20]; generalize hq_ : World.drewN w20 _ = w20; have n0_ : Aside0 (w20.heap[gb206]? = some (.cells #[.int .i64 0, .string (⟨#[]⟩ : ByteArray), .int .i64 0] 30 (0, 0))) := ⟨by rw [← hq_]; exact (by (with_reducible repeat (first | refine blk_drewN ?_ _ | refine blk_drew ?_ | refine blk_alloc ?_ _)); exact BK206.out)⟩; have n1_ : Aside0 (Below w.heap.size w w20) := ⟨by rw [← hq_]; exact (by repeat (first | (with_reducible first | exact HB.out | apply below_alloc | apply pw_below_drewN | apply below_drew1 | refine below_set ?_ GE206.out) | exact HB.out))⟩; clear BK206 HB hq_; have BK206 := n0_; have HB := n1_; clear n0_ n1_))) | ((with_reducible refine gate_callee (f := 16) rfl ?_); refine goesL_ (some 37) rfl rfl Tryd.func16 (by kernel_rfl) rfl #[.string a0, .int .i64 a1] rfl (by (try simp only [List.map_toArray, List.map_cons, List.map_nil]); first | done | rfl | (simp only [List.length_drop, List.length_take]; rfl)) ?_; (with_reducible refine (esc_Unquote.calls a0 a1 t208 t209 t210 _ A14.out).mono ?_); rintro e w21 ⟨rfl, hb⟩; refine ⟨_, rfl, ?_⟩; have n0_ := Aside0.mk (blk_below (g := gb206) (o := .cells #[.int .i64 0, .string (⟨#[]⟩ : ByteArray), .int .i64 0] 30 (0, 0)) (by (with_reducible repeat (first | refine blk_drewN ?_ _ | refine blk_drew ?_ | refine blk_alloc ?_ _)); exact BK206.out) hb); have n1_ := Aside0.mk (below_step (by repeat (first | (with_reducible first | exact HB.out | apply below_alloc | apply pw_below_drewN | apply below_drew1 | refine below_set ?_ GE206.out) | exact HB.out)) hb); clear BK206; clear HB; have BK206 := n0_; have HB := n1_; clear n0_ n1_; (try clear hb); (try clear hb2); (try clear hk); (try clear hi); have hcz22_0 : w21.cell? ⟨gb206, 0, none⟩ = some (.int .i64 0) := (blk_cell BK206.out 0).trans rfl; have hcz22_1 : w21.cell? ⟨gb206, 1, none⟩ = some (.string (⟨#[]⟩ : ByteArray)) := (blk_cell BK206.out 1).trans rfl; have hcz22_2 : w21.cell? ⟨gb206, 2, none⟩ = some (.int .i64 0) := (blk_cell BK206.out 2).trans rfl; have hfz22_0 := blk_frozen BK206.out 0; have hfz22_1 := blk_frozen BK206.out 1; have hfz22_2 := blk_frozen BK206.out 2))
                refine bodyPost_ret (results_list (rs := [.cell 4 30, .tmp 5, .tmp 6, .tmp 7]) rfl (by simp) (.cell gb206 30 #[.int .i64 0, .string (⟨#[]⟩ : ByteArray), .int .i64 0] (0, 0) _ rfl (by (with_reducible repeat (first | refine blk_drewN ?_ _ | refine blk_drew ?_ | refine blk_alloc ?_ _)); refine blk_put (cs := #[.int .i64 0, .string (⟨#[]⟩ : ByteArray), .int .i64 0]) ?_ 2 _ rfl; (with_reducible repeat (first | refine blk_drewN ?_ _ | refine blk_drew ?_ | refine blk_alloc ?_ _)); refine blk_put (cs := #[.int .i64 0, .string (⟨#[]⟩ : ByteArray), .int .i64 0]) ?_ 1 _ rfl; (with_reducible repeat (first | refine blk_drewN ?_ _ | refine blk_drew ?_ | refine blk_alloc ?_ _)); refine blk_put (cs := #[.int .i64 0, .string (⟨#[]⟩ : ByteArray), .int .i64 0]) ?_ 0 _ rfl; (with_reducible repeat (first | refine blk_drewN ?_ _ | refine blk_drew ?_ | refine blk_alloc ?_ _)); exact BK206.out) Tryd.underlying30 rfl (by kernel_rfl) (.tmp (.tmp (.tmp .nil))))) rfl ?_
                exact ⟨by first | rfl | (simp [errW_none, errW_some] <;> rfl) | (simp [*, errW_none, errW_some, bne]; done) | (simp [*, errW_none, errW_some] <;> rfl), by repeat (first | (with_reducible first | exact HB.out | apply below_alloc | apply pw_below_drewN | apply below_drew1 | refine below_set ?_ GE206.out) | exact HB.out)⟩
              · rw [if_neg c19] at H
                have c19b0 : decide (4096 < (t208.size : Int)) = false := decide_eq_false c19
                have c19b1 : decide (4096 < t208.size) = false := decide_eq_false (by omega)
                clear c19
                simp only [Option.some.injEq, Prod.mk.injEq] at H
                obtain ⟨rfl, rfl, rfl, rfl, rfl, rfl⟩ := H
                go_enter Tryd.func33, Tryd.ntmps33
                go_wp2_with (first | ((with_reducible refine gate_dst (N := 4) rfl ?_); refine box_event ?hg (N := 4) ?hd (cs := #[.int .i64 0, .string (⟨#[]⟩ : ByteArray), .int .i64 0]) (t := 30) ?hr ?_; (case hd => rfl); (case hg => rfl); (case hr => first | (go_simp; done) | (go_simp; rfl)); intro gb206 hg w23 hbox hb; have n0_ := Aside0.mk (below_step (by repeat (first | (with_reducible first | exact HB.out | apply below_alloc | apply pw_below_drewN | apply below_drew1) | exact HB.out)) hb); have n1_ := Aside0.mk (hbox); have n2_ := Aside0.mk ((by rw [hg]; exact (below_size (by repeat (first | (with_reducible first | exact HB.out | apply below_alloc | apply pw_below_drewN | apply below_drew1) | exact HB.out))) : w.heap.size ≤ gb206)); have n3_ := Aside0.mk ((by rw [hg]; exact (below_size (by repeat (first | (with_reducible first | exact HB.out | apply below_alloc | apply pw_below_drewN | apply below_drew1) | exact HB.out))) : w.heap.size ≤ gb206)); clear HB; have HB := n0_; have BK206 := n1_; have GW206 := n2_; have GE206 := n3_; clear n0_ n1_ n2_ n3_; clear hb hbox hg; have p6 : 0 ≤ (0 : Int) := (by omega); have q6 : 0 < (a0.extract (a1 : Int).toNat a0.size).size := (by have : (0 : Int) < ((a0.extract (a1 : Int).toNat a0.size).size : Int) := of_decide_eq_true (by first | (with_reducible assumption) | assumption); omega); have hx6 : ∀ h : 0 < (a0.extract (a1 : Int).toNat a0.size).size, (((a0.extract (a1 : Int).toNat a0.size)[0]'h).toNat : Int) = bt (a0.extract (a1 : Int).toNat a0.size) 0 := bt_at (a0.extract (a1 : Int).toNat a0.size) 0; clear p6; have qi6 : (0 < ((a0.extract (a1 : Int).toNat a0.size).size : Int)) = True := eq_true (of_decide_eq_true (by first | (with_reducible assumption) | assumption)); replace q6 := eq_true q6) | ((with_reducible refine gate_callee (f := 56) rfl ?_); refine goesL_ (some 23) rfl rfl Tryd.func56 (by kernel_rfl) rfl #[.string (⟨#[123, 125, 91, 93, 58, 44]⟩ : ByteArray), .int .u8 (bt (a0.extract (a1 : Int).toNat a0.size) 0)] rfl (by (try simp only [List.map_toArray, List.map_cons, List.map_nil]); first | done | rfl | (simp only [List.length_drop, List.length_take]; rfl)) ?_; (with_reducible refine (strings_IndexByte.calls (⟨#[123, 125, 91, 93, 58, 44]⟩ : ByteArray) (bt (a0.extract (a1 : Int).toNat a0.size) 0) t207 _ A7.out).mono ?_); rintro e w' ⟨rfl, ⟨nd, rfl⟩⟩; refine ⟨_, rfl, ?_⟩; (try (rw [drewN_self w23]; generalize hq_ : World.drewN w23 _ = w23; have n0_ : Aside0 (w23.heap[gb206]? = some (.cells #[.int .i64 0, .string (⟨#[]⟩ : ByteArray), .int .i64 0] 30 (0, 0))) := ⟨by rw [← hq_]; exact (by (with_reducible repeat (first | refine blk_drewN ?_ _ | refine blk_drew ?_ | refine blk_alloc ?_ _)); exact BK206.out)⟩; have n1_ : Aside0 (Below w.heap.size w w23) := ⟨by rw [← hq_]; exact (by repeat (first | (with_reducible first | exact HB.out | apply below_alloc | apply pw_below_drewN | apply below_drew1 | refine below_set ?_ GE206.out) | exact HB.out))⟩; clear BK206 HB hq_; have BK206 := n0_; have HB := n1_; clear n0_ n1_))) | ((with_reducible refine gate_callee (f := 16) rfl ?_); refine goesL_ (some 37) rfl rfl Tryd.func16 (by kernel_rfl) rfl #[.string a0, .int .i64 a1] rfl (by (try simp only [List.map_toArray, List.map_cons, List.map_nil]); first | done | rfl | (simp only [List.length_drop, List.length_take]; rfl)) ?_; (with_reducible refine (esc_Unquote.calls a0 a1 t208 t209 t210 _ A14.out).mono ?_); rintro e w24 ⟨rfl, hb⟩; refine ⟨_, rfl, ?_⟩; have n0_ := Aside0.mk (blk_below (g := gb206) (o := .cells #[.int .i64 0, .string (⟨#[]⟩ : ByteArray), .int .i64 0] 30 (0, 0)) (by (with_reducible repeat (first | refine blk_drewN ?_ _ | refine blk_drew ?_ | refine blk_alloc ?_ _)); exact BK206.out) hb); have n1_ := Aside0.mk (below_step (by repeat (first | (with_reducible first | exact HB.out | apply below_alloc | apply pw_below_drewN | apply below_drew1 | refine below_set ?_ GE206.out) | exact HB.out)) hb); clear BK206; clear HB; have BK206 := n0_; have HB := n1_; clear n0_ n1_; (try clear hb); (try clear hb2); (try clear hk); (try clear hi); have hcz25_0 : w24.cell? ⟨gb206, 0, none⟩ = some (.int .i64 0) := (blk_cell BK206.out 0).trans rfl; have hcz25_1 : w24.cell? ⟨gb206, 1, none⟩ = some (.string (⟨#[]⟩ : ByteArray)) := (blk_cell BK206.out 1).trans rfl; have hcz25_2 : w24.cell? ⟨gb206, 2, none⟩ = some (.int .i64 0) := (blk_cell BK206.out 2).trans rfl; have hfz25_0 := blk_frozen BK206.out 0; have hfz25_1 := blk_frozen BK206.out 1; have hfz25_2 := blk_frozen BK206.out 2))
                refine bodyPost_ret (results_list (rs := [.cell 4 30, .tmp 5, .tmp 6, .tmp 7]) rfl (by simp) (.cell gb206 30 #[.int .i64 2, .string t208, .int .i64 a1] (0, 0) _ rfl (by (with_reducible repeat (first | refine blk_drewN ?_ _ | refine blk_drew ?_ | refine blk_alloc ?_ _)); refine blk_put (cs := #[.int .i64 2, .string t208, .int .i64 0]) ?_ 2 _ rfl; (with_reducible repeat (first | refine blk_drewN ?_ _ | refine blk_drew ?_ | refine blk_alloc ?_ _)); refine blk_put (cs := #[.int .i64 2, .string (⟨#[]⟩ : ByteArray), .int .i64 0]) ?_ 1 _ rfl; (with_reducible repeat (first | refine blk_drewN ?_ _ | refine blk_drew ?_ | refine blk_alloc ?_ _)); refine blk_put (cs := #[.int .i64 0, .string (⟨#[]⟩ : ByteArray), .int .i64 0]) ?_ 0 _ rfl; (with_reducible repeat (first | refine blk_drewN ?_ _ | refine blk_drew ?_ | refine blk_alloc ?_ _)); exact BK206.out) Tryd.underlying30 rfl (by kernel_rfl) (.tmp (.tmp (.tmp .nil))))) rfl ?_
                exact ⟨by first | rfl | (simp [errW_none, errW_some] <;> rfl) | (simp [*, errW_none, errW_some, bne]; done) | (simp [*, errW_none, errW_some] <;> rfl), by repeat (first | (with_reducible first | exact HB.out | apply below_alloc | apply pw_below_drewN | apply below_drew1 | refine below_set ?_ GE206.out) | exact HB.out)⟩
          · rw [if_neg c13] at H
            have c13b0 : ((bt (a0.extract (a1 : Int).toNat a0.size) 0) == 34) = false := beq_eq_false_iff_ne.mpr c13
            have c13b1 : ((bt (a0.extract (a1 : Int).toNat a0.size) 0) != 34) = true := bne_iff_ne.mpr c13
            have HC26 := Aside0.mk H
            clear H
            go_enter Tryd.func33, Tryd.ntmps33
            go_upto_region 12 with (first | ((with_reducible refine gate_dst (N := 4) rfl ?_); refine box_event ?hg (N := 4) ?hd (cs := #[.int .i64 0, .string (⟨#[]⟩ : ByteArray), .int .i64 0]) (t := 30) ?hr ?_; (case hd => rfl); (case hg => rfl); (case hr => first | (go_simp; done) | (go_simp; rfl)); intro gb206 hg w27 hbox hb; have n0_ := Aside0.mk (below_step (by repeat (first | (with_reducible first | exact HB.out | apply below_alloc | apply pw_below_drewN | apply below_drew1) | exact HB.out)) hb); have n1_ := Aside0.mk (hbox); have n2_ := Aside0.mk ((by rw [hg]; exact (below_size (by repeat (first | (with_reducible first | exact HB.out | apply below_alloc | apply pw_below_drewN | apply below_drew1) | exact HB.out))) : w.heap.size ≤ gb206)); have n3_ := Aside0.mk ((by rw [hg]; exact (below_size (by repeat (first | (with_reducible first | exact HB.out | apply below_alloc | apply pw_below_drewN | apply below_drew1) | exact HB.out))) : w.heap.size ≤ gb206)); clear HB; have HB := n0_; have BK206 := n1_; have GW206 := n2_; have GE206 := n3_; clear n0_ n1_ n2_ n3_; clear hb hbox hg; have p6 : 0 ≤ (0 : Int) := (by omega); have q6 : 0 < (a0.extract (a1 : Int).toNat a0.size).size := (by have : (0 : Int) < ((a0.extract (a1 : Int).toNat a0.size).size : Int) := of_decide_eq_true (by first | (with_reducible assumption) | assumption); omega); have hx6 : ∀ h : 0 < (a0.extract (a1 : Int).toNat a0.size).size, (((a0.extract (a1 : Int).toNat a0.size)[0]'h).toNat : Int) = bt (a0.extract (a1 : Int).toNat a0.size) 0 := bt_at (a0.extract (a1 : Int).toNat a0.size) 0; clear p6; have qi6 : (0 < ((a0.extract (a1 : Int).toNat a0.size).size : Int)) = True := eq_true (of_decide_eq_true (by first | (with_reducible assumption) | assumption)); replace q6 := eq_true q6) | ((with_reducible refine gate_callee (f := 56) rfl ?_); refine goesL_ (some 23) rfl rfl Tryd.func56 (by kernel_rfl) rfl #[.string (⟨#[123, 125, 91, 93, 58, 44]⟩ : ByteArray), .int .u8 (bt (a0.extract (a1 : Int).toNat a0.size) 0)] rfl (by (try simp only [List.map_toArray, List.map_cons, List.map_nil]); first | done | rfl | (simp only [List.length_drop, List.length_take]; rfl)) ?_; (with_reducible refine (strings_IndexByte.calls (⟨#[123, 125, 91, 93, 58, 44]⟩ : ByteArray) (bt (a0.extract (a1 : Int).toNat a0.size) 0) t207 _ A7.out).mono ?_); rintro e w' ⟨rfl, ⟨nd, rfl⟩⟩; refine ⟨_, rfl, ?_⟩))
            (try simp only [Act.put, List.setIfInBounds_toArray, List.set_cons_zero, List.set_cons_succ])
            go_cut [54] (fun v54 wc => ∃ (kq : Nat) (x54_25 : Bool), v54 = .bool x54_25 ∧ Aside0 (jlex_word.j0 kq a1 (a0.extract (a1 : Int).toNat a0.size) x54_25 = some (r1, r2, r3, r4, r5, r6)) ∧ Aside0 (kq ≤ k) ∧ Aside0 (wc.heap[gb206]? = some (.cells #[.int .i64 0, .string (⟨#[]⟩ : ByteArray), .int .i64 0] 30 (0, 0))) ∧ Aside0 (Below w.heap.size w wc))
            case first =>
              have H := HC26.out
              clear HC26
              by_cases c28 : (bt (a0.extract (a1 : Int).toNat a0.size) 0) ≥ 97
              · rw [if_pos c28] at H
                have c28b0 : decide (97 ≤ (bt (a0.extract (a1 : Int).toNat a0.size) 0)) = true := decide_eq_true c28
                clear c28
                (first | rw [c28b0] | (simp only [i64_w, i32_w]; rw [c28b0]) | skip)
                have H' := Aside0.mk H
                clear H
                go_wp2
                go_meet
                case rel => exact ⟨_, (decide ((bt (a0.extract (a1 : Int).toNat a0.size) 0) ≤ 122)), (by first | rfl | (simp; done) | (simp [*]; done)), H', ⟨by first | omega | exact Nat.le_refl _⟩, ⟨by (with_reducible repeat (first | refine blk_drewN ?_ _ | refine blk_drew ?_ | refine blk_alloc ?_ _)); exact BK206.out⟩, ⟨by repeat (first | (with_reducible first | exact HB.out | apply below_alloc | apply pw_below_drewN | apply below_drew1 | refine below_set ?_ GE206.out) | exact HB.out)⟩⟩
              · rw [if_neg c28] at H
                have c28b0 : decide (97 ≤ (bt (a0.extract (a1 : Int).toNat a0.size) 0)) = false := decide_eq_false c28
                clear c28
                (first | rw [c28b0] | (simp only [i64_w, i32_w]; rw [c28b0]) | skip)
                have H' := Aside0.mk H
                clear H
                go_wp2
                go_meet
                case rel => exact ⟨_, (false), (by first | rfl | (simp; done) | (simp [*]; done)), H', ⟨by first | omega | exact Nat.le_refl _⟩, ⟨by (with_reducible repeat (first | refine blk_drewN ?_ _ | refine blk_drew ?_ | refine blk_alloc ?_ _)); exact BK206.out⟩, ⟨by repeat (first | (with_reducible first | exact HB.out | apply below_alloc | apply pw_below_drewN | apply below_drew1 | refine below_set ?_ GE206.out) | exact HB.out)⟩⟩
            case rest =>
              clear HC26
              try clear c1
              try clear c2
              try clear p2
              try clear c3
              try clear c3b0
              try clear c3b1
              try clear c4
              try clear c4b0
              try clear c4b1
              try clear c5
              try clear c5b0
              try clear c5b1
              try clear p6
              try clear q6
              try clear hx6
              try clear qi6
              try clear c8
              try clear c8b0
              try clear c9
              try clear c9b0
              try clear c9b1
              try clear c10
              try clear c10b0
              try clear c10b1
              try clear c13
              try clear c13b0
              try clear c13b1
              try clear c15
              try clear c15b0
              try clear c16
              try clear c19
              try clear c19b0
              try clear c19b1
              try clear c28
              try clear c28b0
              try clear hcz12_0
              try clear hcz12_1
              try clear hcz12_2
              try clear hcz18_0
              try clear hcz18_1
              try clear hcz18_2
              try clear hcz22_0
              try clear hcz22_1
              try clear hcz22_2
              try clear hcz25_0
              try clear hcz25_1
              try clear hcz25_2
              try clear hfz12_0
              try clear hfz12_1
              try clear hfz12_2
              try clear hfz18_0
              try clear hfz18_1
              try clear hfz18_2
              try clear hfz22_0
              try clear hfz22_1
              try clear hfz22_2
              try clear hfz25_0
              try clear hfz25_1
              try clear hfz25_2
              try clear p6
              try clear q6
              obtain ⟨kq, x54_25, rfl, HA, HJ25, BK206, HB⟩ := hcut
              cases kq with
              | zero => exact absurd HA.out (by simp [jlex_word.j0])
              | succ kj25 =>
                have H := HA.out
                clear HA
                simp only [jlex_word.j0] at H
                by_cases c29 : x54_25 = true
                · subst c29
                  have H1 : ((jlex_while.f (a0.extract (a1 : Int).toNat a0.size) (⟨#[97, 98, 99, 100, 101, 102, 103, 104, 105, 106, 107, 108, 109, 110, 111, 112, 113, 114, 115, 116, 117, 118, 119, 120, 121, 122]⟩ : ByteArray)).bind fun t211 => (if 0 ≤ t211 then (if t211 ≤ ((a0.extract (a1 : Int).toNat a0.size).size : Int) then (if ((a0.extract (a1 : Int).toNat a0.size).extract 0 (t211 : Int).toNat).toList = ([116, 114, 117, 101] : List UInt8) then (some (4, (a0.extract (a1 : Int).toNat a0.size).extract 0 (t211 : Int).toNat, a1, wrap64 (a1 + (((a0.extract (a1 : Int).toNat a0.size).extract 0 (t211 : Int).toNat).size : Int)), 0, 0)) else (if ((a0.extract (a1 : Int).toNat a0.size).extract 0 (t211 : Int).toNat).toList = ([102, 97, 108, 115, 101] : List UInt8) then (some (4, (a0.extract (a1 : Int).toNat a0.size).extract 0 (t211 : Int).toNat, a1, wrap64 (a1 + (((a0.extract (a1 : Int).toNat a0.size).extract 0 (t211 : Int).toNat).size : Int)), 0, 0)) else (if ((a0.extract (a1 : Int).toNat a0.size).extract 0 (t211 : Int).toNat).toList = ([110, 117, 108, 108] : List UInt8) then (some (4, (a0.extract (a1 : Int).toNat a0.size).extract 0 (t211 : Int).toNat, a1, wrap64 (a1 + (((a0.extract (a1 : Int).toNat a0.size).extract 0 (t211 : Int).toNat).size : Int)), 0, 0)) else (some (0, (⟨#[]⟩ : ByteArray), 0, 0, 4, a1))))) else (none)) else (none))) = some (r1, r2, r3, r4, r5, r6) := by rw [if_pos rfl] at H; exact H
                  clear H
                  have H := H1
                  clear H1
                  replace H := Option.bind_eq_some_iff.mp H
                  obtain ⟨t211, A300, H⟩ := H
                  replace H : (if 0 ≤ t211 then (if t211 ≤ ((a0.extract (a1 : Int).toNat a0.size).size : Int) then (if ((a0.extract (a1 : Int).toNat a0.size).extract 0 (t211 : Int).toNat).toList = ([116, 114, 117, 101] : List UInt8) then (some (4, (a0.extract (a1 : Int).toNat a0.size).extract 0 (t211 : Int).toNat, a1, wrap64 (a1 + (((a0.extract (a1 : Int).toNat a0.size).extract 0 (t211 : Int).toNat).size : Int)), 0, 0)) else (if ((a0.extract (a1 : Int).toNat a0.size).extract 0 (t211 : Int).toNat).toList = ([102, 97, 108, 115, 101] : List UInt8) then (some (4, (a0.extract (a1 : Int).toNat a0.size).extract 0 (t211 : Int).toNat, a1, wrap64 (a1 + (((a0.extract (a1 : Int).toNat a0.size).extract 0 (t211 : Int).toNat).size : Int)), 0, 0)) else (if ((a0.extract (a1 : Int).toNat a0.size).extract 0 (t211 : Int).toNat).toList = ([110, 117, 108, 108] : List UInt8) then (some (4, (a0.extract (a1 : Int).toNat a0.size).extract 0 (t211 : Int).toNat, a1, wrap64 (a1 + (((a0.extract (a1 : Int).toNat a0.size).extract 0 (t211 : Int).toNat).size : Int)), 0, 0)) else (some (0, (⟨#[]⟩ : ByteArray), 0, 0, 4, a1))))) else (none)) else (none)) = some (r1, r2, r3, r4, r5, r6) := H
                  have A30 := Aside0.mk A300
                  clear A300
                  by_cases c31 : 0 ≤ t211
                  · rw [if_pos c31] at H
                    have c31b0 := eq_true c31
                    have c31b1 : decide (0 ≤ t211) = true := decide_eq_true c31
                    clear c31
                    by_cases c32 : t211 ≤ ((a0.extract (a1 : Int).toNat a0.size).size : Int)
                    · rw [if_pos c32] at H
                      have c32b0 := eq_true c32
                      have c32b1 : decide (t211 ≤ ((a0.extract (a1 : Int).toNat a0.size).size : Int)) = true := decide_eq_true c32
                      clear c32
                      by_cases c33 : ((a0.extract (a1 : Int).toNat a0.size).extract 0 (t211 : Int).toNat).toList = ([116, 114, 117, 101] : List UInt8)
                      · rw [if_pos c33] at H
                        have c33b0 : (((a0.extract (a1 : Int).toNat a0.size).extract 0 (t211 : Int).toNat).toList == ([116, 114, 117, 101] : List UInt8)) = true := beq_iff_eq.mpr c33
                        have c33b1 : (((a0.extract (a1 : Int).toNat a0.size).extract 0 (t211 : Int).toNat).toList != ([116, 114, 117, 101] : List UInt8)) = false := bne_eq_false_iff_eq.mpr c33
                        clear c33
                        simp only [Option.some.injEq, Prod.mk.injEq] at H
                        obtain ⟨rfl, rfl, rfl, rfl, rfl, rfl⟩ := H
                        go_wp2_with (first | ((with_reducible refine gate_callee (f := 32) rfl ?_); refine goesL_ (some 63) rfl rfl Tryd.func32 (by kernel_rfl) rfl #[.string (a0.extract (a1 : Int).toNat a0.size), .string (⟨#[97, 98, 99, 100, 101, 102, 103, 104, 105, 106, 107, 108, 109, 110, 111, 112, 113, 114, 115, 116, 117, 118, 119, 120, 121, 122]⟩ : ByteArray)] rfl (by (try simp only [List.map_toArray, List.map_cons, List.map_nil]); first | done | rfl | (simp only [List.length_drop, List.length_take]; rfl)) ?_; (with_reducible refine (jlex_while.calls (a0.extract (a1 : Int).toNat a0.size) (⟨#[97, 98, 99, 100, 101, 102, 103, 104, 105, 106, 107, 108, 109, 110, 111, 112, 113, 114, 115, 116, 117, 118, 119, 120, 121, 122]⟩ : ByteArray) t211 _ A30.out).mono ?_); rintro e w34 ⟨rfl, hb⟩; refine ⟨_, rfl, ?_⟩; have n0_ := Aside0.mk (blk_below (g := gb206) (o := .cells #[.int .i64 0, .string (⟨#[]⟩ : ByteArray), .int .i64 0] 30 (0, 0)) (by (with_reducible repeat (first | refine blk_drewN ?_ _ | refine blk_drew ?_ | refine blk_alloc ?_ _)); exact BK206.out) hb); have n1_ := Aside0.mk (below_step (by repeat (first | (with_reducible first | exact HB.out | apply below_alloc | apply pw_below_drewN | apply below_drew1 | refine below_set ?_ GE206.out) | exact HB.out)) hb); clear BK206; clear HB; have BK206 := n0_; have HB := n1_; clear n0_ n1_; (try clear hb); (try clear hb2); (try clear hk); (try clear hi); have hcz35_0 : w34.cell? ⟨gb206, 0, none⟩ = some (.int .i64 0) := (blk_cell BK206.out 0).trans rfl; have hcz35_1 : w34.cell? ⟨gb206, 1, none⟩ = some (.string (⟨#[]⟩ : ByteArray)) := (blk_cell BK206.out 1).trans rfl; have hcz35_2 : w34.cell? ⟨gb206, 2, none⟩ = some (.int .i64 0) := (blk_cell BK206.out 2).trans rfl; have hfz35_0 := blk_frozen BK206.out 0; have hfz35_1 := blk_frozen BK206.out 1; have hfz35_2 := blk_frozen BK206.out 2))
                        refine bodyPost_ret (results_list (rs := [.cell 4 30, .tmp 5, .tmp 6, .tmp 7]) rfl (by simp) (.cell gb206 30 #[.int .i64 4, .string ((a0.extract (a1 : Int).toNat a0.size).extract 0 (t211 : Int).toNat), .int .i64 a1] (0, 0) _ rfl (by (with_reducible repeat (first | refine blk_drewN ?_ _ | refine blk_drew ?_ | refine blk_alloc ?_ _)); refine blk_put (cs := #[.int .i64 4, .string ((a0.extract (a1 : Int).toNat a0.size).extract 0 (t211 : Int).toNat), .int .i64 0]) ?_ 2 _ rfl; (with_reducible repeat (first | refine blk_drewN ?_ _ | refine blk_drew ?_ | refine blk_alloc ?_ _)); refine blk_put (cs := #[.int .i64 4, .string (⟨#[]⟩ : ByteArray), .int .i64 0]) ?_ 1 _ rfl; (with_reducible repeat (first | refine blk_drewN ?_ _ | refine blk_drew ?_ | refine blk_alloc ?_ _)); refine blk_put (cs := #[.int .i64 0, .string (⟨#[]⟩ : ByteArray), .int .i64 0]) ?_ 0 _ rfl; (with_reducible repeat (first | refine blk_drewN ?_ _ | refine blk_drew ?_ | refine blk_alloc ?_ _)); exact BK206.out) Tryd.underlying30 rfl (by kernel_rfl) (.tmp (.tmp (.tmp .nil))))) rfl ?_
                        exact ⟨by first | rfl | (simp [errW_none, errW_some] <;> rfl) | (simp [*, errW_none, errW_some, bne]; done) | (simp [*, errW_none, errW_some] <;> rfl), by repeat (first | (with_reducible first | exact HB.out | apply below_alloc | apply pw_below_drewN | apply below_drew1 | refine below_set ?_ GE206.out) | exact HB.out)⟩
                      · rw [if_neg c33] at H
                        have c33b0 : (((a0.extract (a1 : Int).toNat a0.size).extract 0 (t211 : Int).toNat).toList == ([116, 114, 117, 101] : List UInt8)) = false := beq_eq_false_iff_ne.mpr c33
                        have c33b1 : (((a0.extract (a1 : Int).toNat a0.size).extract 0 (t211 : Int).toNat).toList != ([116, 114, 117, 101] : List UInt8)) = true := bne_iff_ne.mpr c33
                        by_cases c36 : ((a0.extract (a1 : Int).toNat a0.size).extract 0 (t211 : Int).toNat).toList = ([102, 97, 108, 115, 101] : List UInt8)
                        · rw [if_pos c36] at H
                          have c36b0 : (((a0.extract (a1 : Int).toNat a0.size).extract 0 (t211 : Int).toNat).toList == ([102, 97, 108, 115, 101] : List UInt8)) = true := beq_iff_eq.mpr c36
                          have c36b1 : (((a0.extract (a1 : Int).toNat a0.size).extract 0 (t211 : Int).toNat).toList != ([102, 97, 108, 115, 101] : List UInt8)) = false := bne_eq_false_iff_eq.mpr c36
                          clear c36
                          simp only [Option.some.injEq, Prod.mk.injEq] at H
                          obtain ⟨rfl, rfl, rfl, rfl, rfl, rfl⟩ := H
                          go_wp2_with (first | ((with_reducible refine gate_callee (f := 32) rfl ?_); refine goesL_ (some 63) rfl rfl Tryd.func32 (by kernel_rfl) rfl #[.string (a0.extract (a1 : Int).toNat a0.size), .string (⟨#[97, 98, 99, 100, 101, 102, 103, 104, 105, 106, 107, 108, 109, 110, 111, 112, 113, 114, 115, 116, 117, 118, 119, 120, 121, 122]⟩ : ByteArray)] rfl (by (try simp only [List.map_toArray, List.map_cons, List.map_nil]); first | done | rfl | (simp only [List.length_drop, List.length_take]; rfl)) ?_; (with_reducible refine (jlex_while.calls (a0.extract (a1 : Int).toNat a0.size) (⟨#[97, 98, 99, 100, 101, 102, 103, 104, 105, 106, 107, 108, 109, 110, 111, 112, 113, 114, 115, 116, 117, 118, 119, 120, 121, 122]⟩ : ByteArray) t211 _ A30.out).mono ?_); rintro e w37 ⟨rfl, hb⟩; refine ⟨_, rfl, ?_⟩; have n0_ := Aside0.mk (blk_below (g := gb206) (o := .cells #[.int .i64 0, .string (⟨#[]⟩ : ByteArray), .int .i64 0] 30 (0, 0)) (by (with_reducible repeat (first | refine blk_drewN ?_ _ | refine blk_drew ?_ | refine blk_alloc ?_ _)); exact BK206.out) hb); have n1_ := Aside0.mk (below_step (by repeat (first | (with_reducible first | exact HB.out | apply below_alloc | apply pw_below_drewN | apply below_drew1 | refine below_set ?_ GE206.out) | exact HB.out)) hb); clear BK206; clear HB; have BK206 := n0_; have HB := n1_; clear n0_ n1_; (try clear hb); (try clear hb2); (try clear hk); (try clear hi); have hcz38_0 : w37.cell? ⟨gb206, 0, none⟩ = some (.int .i64 0) := (blk_cell BK206.out 0).trans rfl; have hcz38_1 : w37.cell? ⟨gb206, 1, none⟩ = some (.string (⟨#[]⟩ : ByteArray)) := (blk_cell BK206.out 1).trans rfl; have hcz38_2 : w37.cell? ⟨gb206, 2, none⟩ = some (.int .i64 0) := (blk_cell BK206.out 2).trans rfl; have hfz38_0 := blk_frozen BK206.out 0; have hfz38_1 := blk_frozen BK206.out 1; have hfz38_2 := blk_frozen BK206.out 2))
                          refine bodyPost_ret (results_list (rs := [.cell 4 30, .tmp 5, .tmp 6, .tmp 7]) rfl (by simp) (.cell gb206 30 #[.int .i64 4, .string ((a0.extract (a1 : Int).toNat a0.size).extract 0 (t211 : Int).toNat), .int .i64 a1] (0, 0) _ rfl (by (with_reducible repeat (first | refine blk_drewN ?_ _ | refine blk_drew ?_ | refine blk_alloc ?_ _)); refine blk_put (cs := #[.int .i64 4, .string ((a0.extract (a1 : Int).toNat a0.size).extract 0 (t211 : Int).toNat), .int .i64 0]) ?_ 2 _ rfl; (with_reducible repeat (first | refine blk_drewN ?_ _ | refine blk_drew ?_ | refine blk_alloc ?_ _)); refine blk_put (cs := #[.int .i64 4, .string (⟨#[]⟩ : ByteArray), .int .i64 0]) ?_ 1 _ rfl; (with_reducible repeat (first | refine blk_drewN ?_ _ | refine blk_drew ?_ | refine blk_alloc ?_ _)); refine blk_put (cs := #[.int .i64 0, .string (⟨#[]⟩ : ByteArray), .int .i64 0]) ?_ 0 _ rfl; (with_reducible repeat (first | refine blk_drewN ?_ _ | refine blk_drew ?_ | refine blk_alloc ?_ _)); exact BK206.out) Tryd.underlying30 rfl (by kernel_rfl) (.tmp (.tmp (.tmp .nil))))) rfl ?_
                          exact ⟨by first | rfl | (simp [errW_none, errW_some] <;> rfl) | (simp [*, errW_none, errW_some, bne]; done) | (simp [*, errW_none, errW_some] <;> rfl), by repeat (first | (with_reducible first | exact HB.out | apply below_alloc | apply pw_below_drewN | apply below_drew1 | refine below_set ?_ GE206.out) | exact HB.out)⟩
                        · rw [if_neg c36] at H
                          have c36b0 : (((a0.extract (a1 : Int).toNat a0.size).extract 0 (t211 : Int).toNat).toList == ([102, 97, 108, 115, 101] : List UInt8)) = false := beq_eq_false_iff_ne.mpr c36
                          have c36b1 : (((a0.extract (a1 : Int).toNat a0.size).extract 0 (t211 : Int).toNat).toList != ([102, 97, 108, 115, 101] : List UInt8)) = true := bne_iff_ne.mpr c36
                          by_cases c39 : ((a0.extract (a1 : Int).toNat a0.size).extract 0 (t211 : Int).toNat).toList = ([110, 117, 108, 108] : List UInt8)
                          · rw [if_pos c39] at H
                            have c39b0 : (((a0.extract (a1 : Int).toNat a0.size).extract 0 (t211 : Int).toNat).toList == ([110, 117, 108, 108] : List UInt8)) = true := beq_iff_eq.mpr c39
                            have c39b1 : (((a0.extract (a1 : Int).toNat a0.size).extract 0 (t211 : Int).toNat).toList != ([110, 117, 108, 108] : List UInt8)) = false := bne_eq_false_iff_eq.mpr c39
                            clear c39
                            simp only [Option.some.injEq, Prod.mk.injEq] at H
                            obtain ⟨rfl, rfl, rfl, rfl, rfl, rfl⟩ := H
                            go_wp2_with (first | ((with_reducible refine gate_callee (f := 32) rfl ?_); refine goesL_ (some 63) rfl rfl Tryd.func32 (by kernel_rfl) rfl #[.string (a0.extract (a1 : Int).toNat a0.size), .string (⟨#[97, 98, 99, 100, 101, 102, 103, 104, 105, 106, 107, 108, 109, 110, 111, 112, 113, 114, 115, 116, 117, 118, 119, 120, 121, 122]⟩ : ByteArray)] rfl (by (try simp only [List.map_toArray, List.map_cons, List.map_nil]); first | done | rfl | (simp only [List.length_drop, List.length_take]; rfl)) ?_; (with_reducible refine (jlex_while.calls (a0.extract (a1 : Int).toNat a0.size) (⟨#[97, 98, 99, 100, 101, 102, 103, 104, 105, 106, 107, 108, 109, 110, 111, 112, 113, 114, 115, 116, 117, 118, 119, 120, 121, 122]⟩ : ByteArray) t211 _ A30.out).mono ?_); rintro e w40 ⟨rfl, hb⟩; refine ⟨_, rfl, ?_⟩; have n0_ := Aside0.mk (blk_below (g := gb206) (o := .cells #[.int .i64 0, .string (⟨#[]⟩ : ByteArray), .int .i64 0] 30 (0, 0)) (by (with_reducible repeat (first | refine blk_drewN ?_ _ | refine blk_drew ?_ | refine blk_alloc ?_ _)); exact BK206.out) hb); have n1_ := Aside0.mk (below_step (by repeat (first | (with_reducible first | exact HB.out | apply below_alloc | apply pw_below_drewN | apply below_drew1 | refine below_set ?_ GE206.out) | exact HB.out)) hb); clear BK206; clear HB; have BK206 := n0_; have HB := n1_; clear n0_ n1_; (try clear hb); (try clear hb2); (try clear hk); (try clear hi); have hcz41_0 : w40.cell? ⟨gb206, 0, none⟩ = some (.int .i64 0) := (blk_cell BK206.out 0).trans rfl; have hcz41_1 : w40.cell? ⟨gb206, 1, none⟩ = some (.string (⟨#[]⟩ : ByteArray)) := (blk_cell BK206.out 1).trans rfl; have hcz41_2 : w40.cell? ⟨gb206, 2, none⟩ = some (.int .i64 0) := (blk_cell BK206.out 2).trans rfl; have hfz41_0 := blk_frozen BK206.out 0; have hfz41_1 := blk_frozen BK206.out 1; have hfz41_2 := blk_frozen BK206.out 2))
                            refine bodyPost_ret (results_list (rs := [.cell 4 30, .tmp 5, .tmp 6, .tmp 7]) rfl (by simp) (.cell gb206 30 #[.int .i64 4, .string ((a0.extract (a1 : Int).toNat a0.size).extract 0 (t211 : Int).toNat), .int .i64 a1] (0, 0) _ rfl (by (with_reducible repeat (first | refine blk_drewN ?_ _ | refine blk_drew ?_ | refine blk_alloc ?_ _)); refine blk_put (cs := #[.int .i64 4, .string ((a0.extract (a1 : Int).toNat a0.size).extract 0 (t211 : Int).toNat), .int .i64 0]) ?_ 2 _ rfl; (with_reducible repeat (first | refine blk_drewN ?_ _ | refine blk_drew ?_ | refine blk_alloc ?_ _)); refine blk_put (cs := #[.int .i64 4, .string (⟨#[]⟩ : ByteArray), .int .i64 0]) ?_ 1 _ rfl; (with_reducible repeat (first | refine blk_drewN ?_ _ | refine blk_drew ?_ | refine blk_alloc ?_ _)); refine blk_put (cs := #[.int .i64 0, .string (⟨#[]⟩ : ByteArray), .int .i64 0]) ?_ 0 _ rfl; (with_reducible repeat (first | refine blk_drewN ?_ _ | refine blk_drew ?_ | refine blk_alloc ?_ _)); exact BK206.out) Tryd.underlying30 rfl (by kernel_rfl) (.tmp (.tmp (.tmp .nil))))) rfl ?_
                            exact ⟨by first | rfl | (simp [errW_none, errW_some] <;> rfl) | (simp [*, errW_none, errW_some, bne]; done) | (simp [*, errW_none, errW_some] <;> rfl), by repeat (first | (with_reducible first | exact HB.out | apply below_alloc | apply pw_below_drewN | apply below_drew1 | refine below_set ?_ GE206.out) | exact HB.out)⟩
                          · rw [if_neg c39] at H
                            have c39b0 : (((a0.extract (a1 : Int).toNat a0.size).extract 0 (t211 : Int).toNat).toList == ([110, 117, 108, 108] : List UInt8)) = false := beq_eq_false_iff_ne.mpr c39
                            have c39b1 : (((a0.extract (a1 : Int).toNat a0.size).extract 0 (t211 : Int).toNat).toList != ([110, 117, 108, 108] : List UInt8)) = true := bne_iff_ne.mpr c39
                            simp only [Option.some.injEq, Prod.mk.injEq] at H
                            obtain ⟨rfl, rfl, rfl, rfl, rfl, rfl⟩ := H
                            go_wp2_with (first | ((with_reducible refine gate_callee (f := 32) rfl ?_); refine goesL_ (some 63) rfl rfl Tryd.func32 (by kernel_rfl) rfl #[.string (a0.extract (a1 : Int).toNat a0.size), .string (⟨#[97, 98, 99, 100, 101, 102, 103, 104, 105, 106, 107, 108, 109, 110, 111, 112, 113, 114, 115, 116, 117, 118, 119, 120, 121, 122]⟩ : ByteArray)] rfl (by (try simp only [List.map_toArray, List.map_cons, List.map_nil]); first | done | rfl | (simp only [List.length_drop, List.length_take]; rfl)) ?_; (with_reducible refine (jlex_while.calls (a0.extract (a1 : Int).toNat a0.size) (⟨#[97, 98, 99, 100, 101, 102, 103, 104, 105, 106, 107, 108, 109, 110, 111, 112, 113, 114, 115, 116, 117, 118, 119, 120, 121, 122]⟩ : ByteArray) t211 _ A30.out).mono ?_); rintro e w42 ⟨rfl, hb⟩; refine ⟨_, rfl, ?_⟩; have n0_ := Aside0.mk (blk_below (g := gb206) (o := .cells #[.int .i64 0, .string (⟨#[]⟩ : ByteArray), .int .i64 0] 30 (0, 0)) (by (with_reducible repeat (first | refine blk_drewN ?_ _ | refine blk_drew ?_ | refine blk_alloc ?_ _)); exact BK206.out) hb); have n1_ := Aside0.mk (below_step (by repeat (first | (with_reducible first | exact HB.out | apply below_alloc | apply pw_below_drewN | apply below_drew1 | refine below_set ?_ GE206.out) | exact HB.out)) hb); clear BK206; clear HB; have BK206 := n0_; have HB := n1_; clear n0_ n1_; (try clear hb); (try clear hb2); (try clear hk); (try clear hi); have hcz43_0 : w42.cell? ⟨gb206, 0, none⟩ = some (.int .i64 0) := (blk_cell BK206.out 0).trans rfl; have hcz43_1 : w42.cell? ⟨gb206, 1, none⟩ = some (.string (⟨#[]⟩ : ByteArray)) := (blk_cell BK206.out 1).trans rfl; have hcz43_2 : w42.cell? ⟨gb206, 2, none⟩ = some (.int .i64 0) := (blk_cell BK206.out 2).trans rfl; have hfz43_0 := blk_frozen BK206.out 0; have hfz43_1 := blk_frozen BK206.out 1; have hfz43_2 := blk_frozen BK206.out 2))
                            refine bodyPost_ret (results_list (rs := [.cell 4 30, .tmp 5, .tmp 6, .tmp 7]) rfl (by simp) (.cell gb206 30 #[.int .i64 0, .string (⟨#[]⟩ : ByteArray), .int .i64 0] (0, 0) _ rfl (by (with_reducible repeat (first | refine blk_drewN ?_ _ | refine blk_drew ?_ | refine blk_alloc ?_ _)); refine blk_put (cs := #[.int .i64 0, .string (⟨#[]⟩ : ByteArray), .int .i64 0]) ?_ 2 _ rfl; (with_reducible repeat (first | refine blk_drewN ?_ _ | refine blk_drew ?_ | refine blk_alloc ?_ _)); refine blk_put (cs := #[.int .i64 0, .string (⟨#[]⟩ : ByteArray), .int .i64 0]) ?_ 1 _ rfl; (with_reducible repeat (first | refine blk_drewN ?_ _ | refine blk_drew ?_ | refine blk_alloc ?_ _)); refine blk_put (cs := #[.int .i64 0, .string (⟨#[]⟩ : ByteArray), .int .i64 0]) ?_ 0 _ rfl; (with_reducible repeat (first | refine blk_drewN ?_ _ | refine blk_drew ?_ | refine blk_alloc ?_ _)); exact BK206.out) Tryd.underlying30 rfl (by kernel_rfl) (.tmp (.tmp (.tmp .nil))))) rfl ?_
                            exact ⟨by first | rfl | (simp [errW_none, errW_some] <;> rfl) | (simp [*, errW_none, errW_some, bne]; done) | (simp [*, errW_none, errW_some] <;> rfl), by repeat (first | (with_reducible first | exact HB.out | apply below_alloc | apply pw_below_drewN | apply below_drew1 | refine below_set ?_ GE206.out) | exact HB.out)⟩
                    · rw [if_neg c32] at H
                      exact absurd H (by simp)
                  · rw [if_neg c31] at H
                    exact absurd H (by simp)
                · replace c29 := Bool.eq_false_iff.mpr c29
                  subst c29
                  have H1 : ((jlex_while.f (a0.extract (a1 : Int).toNat a0.size) (⟨#[48, 49, 50, 51, 52, 53, 54, 55, 56, 57, 43, 45, 46, 101, 69]⟩ : ByteArray)).bind fun t212 => (if 0 ≤ t212 then (if t212 ≤ ((a0.extract (a1 : Int).toNat a0.size).size : Int) then (if ((a0.extract (a1 : Int).toNat a0.size).extract 0 (t212 : Int).toNat).toList = ([] : List UInt8) then (some (0, (⟨#[]⟩ : ByteArray), 0, 0, 4, a1)) else ((jlex_number.f kj25 ((a0.extract (a1 : Int).toNat a0.size).extract 0 (t212 : Int).toNat)).bind fun t213 => (if t213 = 0 then (some (3, (a0.extract (a1 : Int).toNat a0.size).extract 0 (t212 : Int).toNat, a1, wrap64 (a1 + (((a0.extract (a1 : Int).toNat a0.size).extract 0 (t212 : Int).toNat).size : Int)), 0, 0)) else (some (0, (⟨#[]⟩ : ByteArray), 0, 0, t213, a1))))) else (none)) else (none))) = some (r1, r2, r3, r4, r5, r6) := by rw [if_neg (show ¬ (false = true) by decide)] at H; exact H
                  clear H
                  have H := H1
                  clear H1
                  replace H := Option.bind_eq_some_iff.mp H
                  obtain ⟨t212, A440, H⟩ := H
                  replace H : (if 0 ≤ t212 then (if t212 ≤ ((a0.extract (a1 : Int).toNat a0.size).size : Int) then (if ((a0.extract (a1 : Int).toNat a0.size).extract 0 (t212 : Int).toNat).toList = ([] : List UInt8) then (some (0, (⟨#[]⟩ : ByteArray), 0, 0, 4, a1)) else ((jlex_number.f kj25 ((a0.extract (a1 : Int).toNat a0.size).extract 0 (t212 : Int).toNat)).bind fun t213 => (if t213 = 0 then (some (3, (a0.extract (a1 : Int).toNat a0.size).extract 0 (t212 : Int).toNat, a1, wrap64 (a1 + (((a0.extract (a1 : Int).toNat a0.size).extract 0 (t212 : Int).toNat).size : Int)), 0, 0)) else (some (0, (⟨#[]⟩ : ByteArray), 0, 0, t213, a1))))) else (none)) else (none)) = some (r1, r2, r3, r4, r5, r6) := H
                  have A44 := Aside0.mk A440
                  clear A440
                  by_cases c45 : 0 ≤ t212
                  · rw [if_pos c45] at H
                    have c45b0 := eq_true c45
                    have c45b1 : decide (0 ≤ t212) = true := decide_eq_true c45
                    clear c45
                    by_cases c46 : t212 ≤ ((a0.extract (a1 : Int).toNat a0.size).size : Int)
                    · rw [if_pos c46] at H
                      have c46b0 := eq_true c46
                      have c46b1 : decide (t212 ≤ ((a0.extract (a1 : Int).toNat a0.size).size : Int)) = true := decide_eq_true c46
                      clear c46
                      by_cases c47 : ((a0.extract (a1 : Int).toNat a0.size).extract 0 (t212 : Int).toNat).toList = ([] : List UInt8)
                      · rw [if_pos c47] at H
                        have c47b0 : (((a0.extract (a1 : Int).toNat a0.size).extract 0 (t212 : Int).toNat).toList == ([] : List UInt8)) = true := beq_iff_eq.mpr c47
                        have c47b1 : (((a0.extract (a1 : Int).toNat a0.size).extract 0 (t212 : Int).toNat).toList != ([] : List UInt8)) = false := bne_eq_false_iff_eq.mpr c47
                        have c47b2 : ((a0.extract (a1 : Int).toNat a0.size).extract 0 (t212 : Int).toNat).toList.isEmpty = true := List.isEmpty_iff.mpr c47
                        (try simp only [c47b2, Bool.not_true, Bool.not_false])
                        clear c47
                        simp only [Option.some.injEq, Prod.mk.injEq] at H
                        obtain ⟨rfl, rfl, rfl, rfl, rfl, rfl⟩ := H
                        go_wp2_with (first | ((with_reducible refine gate_callee (f := 32) rfl ?_); refine goesL_ (some 86) rfl rfl Tryd.func32 (by kernel_rfl) rfl #[.string (a0.extract (a1 : Int).toNat a0.size), .string (⟨#[48, 49, 50, 51, 52, 53, 54, 55, 56, 57, 43, 45, 46, 101, 69]⟩ : ByteArray)] rfl (by (try simp only [List.map_toArray, List.map_cons, List.map_nil]); first | done | rfl | (simp only [List.length_drop, List.length_take]; rfl)) ?_; (with_reducible refine (jlex_while.calls (a0.extract (a1 : Int).toNat a0.size) (⟨#[48, 49, 50, 51, 52, 53, 54, 55, 56, 57, 43, 45, 46, 101, 69]⟩ : ByteArray) t212 _ A44.out).mono ?_); rintro e w48 ⟨rfl, hb⟩; refine ⟨_, rfl, ?_⟩; have n0_ := Aside0.mk (blk_below (g := gb206) (o := .cells #[.int .i64 0, .string (⟨#[]⟩ : ByteArray), .int .i64 0] 30 (0, 0)) (by (with_reducible repeat (first | refine blk_drewN ?_ _ | refine blk_drew ?_ | refine blk_alloc ?_ _)); exact BK206.out) hb); have n1_ := Aside0.mk (below_step (by repeat (first | (with_reducible first | exact HB.out | apply below_alloc | apply pw_below_drewN | apply below_drew1 | refine below_set ?_ GE206.out) | exact HB.out)) hb); clear BK206; clear HB; have BK206 := n0_; have HB := n1_; clear n0_ n1_; (try clear hb); (try clear hb2); (try clear hk); (try clear hi); have hcz49_0 : w48.cell? ⟨gb206, 0, none⟩ = some (.int .i64 0) := (blk_cell BK206.out 0).trans rfl; have hcz49_1 : w48.cell? ⟨gb206, 1, none⟩ = some (.string (⟨#[]⟩ : ByteArray)) := (blk_cell BK206.out 1).trans rfl; have hcz49_2 : w48.cell? ⟨gb206, 2, none⟩ = some (.int .i64 0) := (blk_cell BK206.out 2).trans rfl; have hfz49_0 := blk_frozen BK206.out 0; have hfz49_1 := blk_frozen BK206.out 1; have hfz49_2 := blk_frozen BK206.out 2))
                        refine bodyPost_ret (results_list (rs := [.cell 4 30, .tmp 5, .tmp 6, .tmp 7]) rfl (by simp) (.cell gb206 30 #[.int .i64 0, .string (⟨#[]⟩ : ByteArray), .int .i64 0] (0, 0) _ rfl (by (with_reducible repeat (first | refine blk_drewN ?_ _ | refine blk_drew ?_ | refine blk_alloc ?_ _)); refine blk_put (cs := #[.int .i64 0, .string (⟨#[]⟩ : ByteArray), .int .i64 0]) ?_ 2 _ rfl; (with_reducible repeat (first | refine blk_drewN ?_ _ | refine blk_drew ?_ | refine blk_alloc ?_ _)); refine blk_put (cs := #[.int .i64 0, .string (⟨#[]⟩ : ByteArray), .int .i64 0]) ?_ 1 _ rfl; (with_reducible repeat (first | refine blk_drewN ?_ _ | refine blk_drew ?_ | refine blk_alloc ?_ _)); refine blk_put (cs := #[.int .i64 0, .string (⟨#[]⟩ : ByteArray), .int .i64 0]) ?_ 0 _ rfl; (with_reducible repeat (first | refine blk_drewN ?_ _ | refine blk_drew ?_ | refine blk_alloc ?_ _)); exact BK206.out) Tryd.underlying30 rfl (by kernel_rfl) (.tmp (.tmp (.tmp .nil))))) rfl ?_
                        exact ⟨by first | rfl | (simp [errW_none, errW_some] <;> rfl) | (simp [*, errW_none, errW_some, bne]; done) | (simp [*, errW_none, errW_some] <;> rfl), by repeat (first | (with_reducible first | exact HB.out | apply below_alloc | apply pw_below_drewN | apply below_drew1 | refine below_set ?_ GE206.out) | exact HB.out)⟩
                      · rw [if_neg c47] at H
                        have c47b0 : (((a0.extract (a1 : Int).toNat a0.size).extract 0 (t212 : Int).toNat).toList == ([] : List UInt8)) = false := beq_eq_false_iff_ne.mpr c47
                        have c47b1 : (((a0.extract (a1 : Int).toNat a0.size).extract 0 (t212 : Int).toNat).toList != ([] : List UInt8)) = true := bne_iff_ne.mpr c47
                        have c47b2 : ((a0.extract (a1 : Int).toNat a0.size).extract 0 (t212 : Int).toNat).toList.isEmpty = false := List.isEmpty_eq_false_iff.mpr c47
                        (try simp only [c47b2, Bool.not_true, Bool.not_false])
                        replace H := Option.bind_eq_some_iff.mp H
                        obtain ⟨t213, A500, H⟩ := H
                        replace H : (if t213 = 0 then (some (3, (a0.extract (a1 : Int).toNat a0.size).extract 0 (t212 : Int).toNat, a1, wrap64 (a1 + (((a0.extract (a1 : Int).toNat a0.size).extract 0 (t212 : Int).toNat).size : Int)), 0, 0)) else (some (0, (⟨#[]⟩ : ByteArray), 0, 0, t213, a1))) = some (r1, r2, r3, r4, r5, r6) := H
                        have A50 := Aside0.mk A500
                        clear A500
                        by_cases c51 : t213 = 0
                        · rw [if_pos c51] at H
                          have c51b0 : (t213 == 0) = true := beq_iff_eq.mpr c51
                          have c51b1 : (t213 != 0) = false := bne_eq_false_iff_eq.mpr c51
                          clear c51
                          simp only [Option.some.injEq, Prod.mk.injEq] at H
                          obtain ⟨rfl, rfl, rfl, rfl, rfl, rfl⟩ := H
                          go_wp2_with (first | ((with_reducible refine gate_callee (f := 32) rfl ?_); refine goesL_ (some 86) rfl rfl Tryd.func32 (by kernel_rfl) rfl #[.string (a0.extract (a1 : Int).toNat a0.size), .string (⟨#[48, 49, 50, 51, 52, 53, 54, 55, 56, 57, 43, 45, 46, 101, 69]⟩ : ByteArray)] rfl (by (try simp only [List.map_toArray, List.map_cons, List.map_nil]); first | done | rfl | (simp only [List.length_drop, List.length_take]; rfl)) ?_; (with_reducible refine (jlex_while.calls (a0.extract (a1 : Int).toNat a0.size) (⟨#[48, 49, 50, 51, 52, 53, 54, 55, 56, 57, 43, 45, 46, 101, 69]⟩ : ByteArray) t212 _ A44.out).mono ?_); rintro e w52 ⟨rfl, hb⟩; refine ⟨_, rfl, ?_⟩; have n0_ := Aside0.mk (blk_below (g := gb206) (o := .cells #[.int .i64 0, .string (⟨#[]⟩ : ByteArray), .int .i64 0] 30 (0, 0)) (by (with_reducible repeat (first | refine blk_drewN ?_ _ | refine blk_drew ?_ | refine blk_alloc ?_ _)); exact BK206.out) hb); have n1_ := Aside0.mk (below_step (by repeat (first | (with_reducible first | exact HB.out | apply below_alloc | apply pw_below_drewN | apply below_drew1 | refine below_set ?_ GE206.out) | exact HB.out)) hb); clear BK206; clear HB; have BK206 := n0_; have HB := n1_; clear n0_ n1_; (try clear hb); (try clear hb2); (try clear hk); (try clear hi)) | ((with_reducible refine gate_callee (f := 57) rfl ?_); refine goesL_ (some 93) rfl rfl Tryd.func57 (by kernel_rfl) rfl #[.string ((a0.extract (a1 : Int).toNat a0.size).extract 0 (t212 : Int).toNat)] rfl (by (try simp only [List.map_toArray, List.map_cons, List.map_nil]); first | done | rfl | (simp only [List.length_drop, List.length_take]; rfl)) ?_; (with_reducible refine (jlex_number.calls kj25 ((a0.extract (a1 : Int).toNat a0.size).extract 0 (t212 : Int).toNat) t213 _ A50.out).mono ?_); rintro e w53 ⟨rfl, hb⟩; refine ⟨_, rfl, ?_⟩; have n0_ := Aside0.mk (blk_below (g := gb206) (o := .cells #[.int .i64 0, .string (⟨#[]⟩ : ByteArray), .int .i64 0] 30 (0, 0)) (by (with_reducible repeat (first | refine blk_drewN ?_ _ | refine blk_drew ?_ | refine blk_alloc ?_ _)); exact BK206.out) hb); have n1_ := Aside0.mk (below_step (by repeat (first | (with_reducible first | exact HB.out | apply below_alloc | apply pw_below_drewN | apply below_drew1 | refine below_set ?_ GE206.out) | exact HB.out)) hb); clear BK206; clear HB; have BK206 := n0_; have HB := n1_; clear n0_ n1_; (try clear hb); (try clear hb2); (try clear hk); (try clear hi); have hcz54_0 : w53.cell? ⟨gb206, 0, none⟩ = some (.int .i64 0) := (blk_cell BK206.out 0).trans rfl; have hcz54_1 : w53.cell? ⟨gb206, 1, none⟩ = some (.string (⟨#[]⟩ : ByteArray)) := (blk_cell BK206.out 1).trans rfl; have hcz54_2 : w53.cell? ⟨gb206, 2, none⟩ = some (.int .i64 0) := (blk_cell BK206.out 2).trans rfl; have hfz54_0 := blk_frozen BK206.out 0; have hfz54_1 := blk_frozen BK206.out 1; have hfz54_2 := blk_frozen BK206.out 2))
                          refine bodyPost_ret (results_list (rs := [.cell 4 30, .tmp 5, .tmp 6, .tmp 7]) rfl (by simp) (.cell gb206 30 #[.int .i64 3, .string ((a0.extract (a1 : Int).toNat a0.size).extract 0 (t212 : Int).toNat), .int .i64 a1] (0, 0) _ rfl (by (with_reducible repeat (first | refine blk_drewN ?_ _ | refine blk_drew ?_ | refine blk_alloc ?_ _)); refine blk_put (cs := #[.int .i64 3, .string ((a0.extract (a1 : Int).toNat a0.size).extract 0 (t212 : Int).toNat), .int .i64 0]) ?_ 2 _ rfl; (with_reducible repeat (first | refine blk_drewN ?_ _ | refine blk_drew ?_ | refine blk_alloc ?_ _)); refine blk_put (cs := #[.int .i64 3, .string (⟨#[]⟩ : ByteArray), .int .i64 0]) ?_ 1 _ rfl; (with_reducible repeat (first | refine blk_drewN ?_ _ | refine blk_drew ?_ | refine blk_alloc ?_ _)); refine blk_put (cs := #[.int .i64 0, .string (⟨#[]⟩ : ByteArray), .int .i64 0]) ?_ 0 _ rfl; (with_reducible repeat (first | refine blk_drewN ?_ _ | refine blk_drew ?_ | refine blk_alloc ?_ _)); exact BK206.out) Tryd.underlying30 rfl (by kernel_rfl) (.tmp (.tmp (.tmp .nil))))) rfl ?_
                          exact ⟨by first | rfl | (simp [errW_none, errW_some] <;> rfl) | (simp [*, errW_none, errW_some, bne]; done) | (simp [*, errW_none, errW_some] <;> rfl), by repeat (first | (with_reducible first | exact HB.out | apply below_alloc | apply pw_below_drewN | apply below_drew1 | refine below_set ?_ GE206.out) | exact HB.out)⟩
                        · rw [if_neg c51] at H
                          have c51b0 : (t213 == 0) = false := beq_eq_false_iff_ne.mpr c51
                          have c51b1 : (t213 != 0) = true := bne_iff_ne.mpr c51
                          simp only [Option.some.injEq, Prod.mk.injEq] at H
                          obtain ⟨rfl, rfl, rfl, rfl, rfl, rfl⟩ := H
                          go_wp2_with (first | ((with_reducible refine gate_callee (f := 32) rfl ?_); refine goesL_ (some 86) rfl rfl Tryd.func32 (by kernel_rfl) rfl #[.string (a0.extract (a1 : Int).toNat a0.size), .string (⟨#[48, 49, 50, 51, 52, 53, 54, 55, 56, 57, 43, 45, 46, 101, 69]⟩ : ByteArray)] rfl (by (try simp only [List.map_toArray, List.map_cons, List.map_nil]); first | done | rfl | (simp only [List.length_drop, List.length_take]; rfl)) ?_; (with_reducible refine (jlex_while.calls (a0.extract (a1 : Int).toNat a0.size) (⟨#[48, 49, 50, 51, 52, 53, 54, 55, 56, 57, 43, 45, 46, 101, 69]⟩ : ByteArray) t212 _ A44.out).mono ?_); rintro e w55 ⟨rfl, hb⟩; refine ⟨_, rfl, ?_⟩; have n0_ := Aside0.mk (blk_below (g := gb206) (o := .cells #[.int .i64 0, .string (⟨#[]⟩ : ByteArray), .int .i64 0] 30 (0, 0)) (by (with_reducible repeat (first | refine blk_drewN ?_ _ | refine blk_drew ?_ | refine blk_alloc ?_ _)); exact BK206.out) hb); have n1_ := Aside0.mk (below_step (by repeat (first | (with_reducible first | exact HB.out | apply below_alloc | apply pw_below_drewN | apply below_drew1 | refine below_set ?_ GE206.out) | exact HB.out)) hb); clear BK206; clear HB; have BK206 := n0_; have HB := n1_; clear n0_ n1_; (try clear hb); (try clear hb2); (try clear hk); (try clear hi)) | ((with_reducible refine gate_callee (f := 57) rfl ?_); refine goesL_ (some 93) rfl rfl Tryd.func57 (by kernel_rfl) rfl #[.string ((a0.extract (a1 : Int).toNat a0.size).extract 0 (t212 : Int).toNat)] rfl (by (try simp only [List.map_toArray, List.map_cons, List.map_nil]); first | done | rfl | (simp only [List.length_drop, List.length_take]; rfl)) ?_; (with_reducible refine (jlex_number.calls kj25 ((a0.extract (a1 : Int).toNat a0.size).extract 0 (t212 : Int).toNat) t213 _ A50.out).mono ?_); rintro e w56 ⟨rfl, hb⟩; refine ⟨_, rfl, ?_⟩; have n0_ := Aside0.mk (blk_below (g := gb206) (o := .cells #[.int .i64 0, .string (⟨#[]⟩ : ByteArray), .int .i64 0] 30 (0, 0)) (by (with_reducible repeat (first | refine blk_drewN ?_ _ | refine blk_drew ?_ | refine blk_alloc ?_ _)); exact BK206.out) hb); have n1_ := Aside0.mk (below_step (by repeat (first | (with_reducible first | exact HB.out | apply below_alloc | apply pw_below_drewN | apply below_drew1 | refine below_set ?_ GE206.out) | exact HB.out)) hb); clear BK206; clear HB; have BK206 := n0_; have HB := n1_; clear n0_ n1_; (try clear hb); (try clear hb2); (try clear hk); (try clear hi); have hcz57_0 : w56.cell? ⟨gb206, 0, none⟩ = some (.int .i64 0) := (blk_cell BK206.out 0).trans rfl; have hcz57_1 : w56.cell? ⟨gb206, 1, none⟩ = some (.string (⟨#[]⟩ : ByteArray)) := (blk_cell BK206.out 1).trans rfl; have hcz57_2 : w56.cell? ⟨gb206, 2, none⟩ = some (.int .i64 0) := (blk_cell BK206.out 2).trans rfl; have hfz57_0 := blk_frozen BK206.out 0; have hfz57_1 := blk_frozen BK206.out 1; have hfz57_2 := blk_frozen BK206.out 2))
                          refine bodyPost_ret (results_list (rs := [.cell 4 30, .tmp 5, .tmp 6, .tmp 7]) rfl (by simp) (.cell gb206 30 #[.int .i64 0, .string (⟨#[]⟩ : ByteArray), .int .i64 0] (0, 0) _ rfl (by (with_reducible repeat (first | refine blk_drewN ?_ _ | refine blk_drew ?_ | refine blk_alloc ?_ _)); refine blk_put (cs := #[.int .i64 0, .string (⟨#[]⟩ : ByteArray), .int .i64 0]) ?_ 2 _ rfl; (with_reducible repeat (first | refine blk_drewN ?_ _ | refine blk_drew ?_ | refine blk_alloc ?_ _)); refine blk_put (cs := #[.int .i64 0, .string (⟨#[]⟩ : ByteArray), .int .i64 0]) ?_ 1 _ rfl; (with_reducible repeat (first | refine blk_drewN ?_ _ | refine blk_drew ?_ | refine blk_alloc ?_ _)); refine blk_put (cs := #[.int .i64 0, .string (⟨#[]⟩ : ByteArray), .int .i64 0]) ?_ 0 _ rfl; (with_reducible repeat (first | refine blk_drewN ?_ _ | refine blk_drew ?_ | refine blk_alloc ?_ _)); exact BK206.out) Tryd.underlying30 rfl (by kernel_rfl) (.tmp (.tmp (.tmp .nil))))) rfl ?_
                          exact ⟨by first | rfl | (simp [errW_none, errW_some] <;> rfl) | (simp [*, errW_none, errW_some, bne]; done) | (simp [*, errW_none, errW_some] <;> rfl), by repeat (first | (with_reducible first | exact HB.out | apply below_alloc | apply pw_below_drewN | apply below_drew1 | refine below_set ?_ GE206.out) | exact HB.out)⟩
                    · rw [if_neg c46] at H
                      exact absurd H (by simp)
                  · rw [if_neg c45] at H
                    exact absurd H (by simp)
      · rw [if_neg c5] at H
        exact absurd H (by simp)
    · rw [if_neg c4] at H
      exact absurd H (by simp)
  · rw [if_neg c3] at H
    exact absurd H (by simp)
end Go.Proofs.YtoanbmggffkmgaaDoor.P
end
section
namespace Go.Proofs.YtoanbmggffkmgaaDoor.P
open Go.RowKit Go.Proofs.YtoanbmggffkmgaaDoorW.PrintWords Go.Proofs.YtoanbmggffkmgaaDoorW.PrintLast Go.Proofs.YtoanbmggffkmgaaDoorW.PrintMore
attribute [local go_sem] max2_int min2_int max_two min_two max_three min_three max_four min_four   -- for this text's walks alone
attribute [-simp] ByteArray.size_extract
set_option linter.unusedVariables false
set_option linter.unusedSimpArgs false
/-! ### jlex_Cut: function 13 -/
def jlex_Cut.l0 : Nat → ByteArray → List (S30) → Int → Option ((List (S30)) × Int × Int × Int × Int)
  | 0, _, _, _ => none
  | k + 1, x0, x5, x6 => if x6 < (x0.size : Int) then ((jlex_word.f k x0 x6).bind fun bt224 => (if bt224.2.2.2.2.1 = 0 then (if x5.length < 4398046511104 then (if 0 ≤ bt224.2.2.2.1 then (if bt224.2.2.2.1 ≤ (x0.size : Int) then ((jlex_while.f (x0.extract (bt224.2.2.2.1 : Int).toNat x0.size) (⟨#[32, 9, 10, 13]⟩ : ByteArray)).bind fun t234 => (jlex_Cut.l0 k x0 (x5 ++ [(⟨bt224.1, bt224.2.1, bt224.2.2.1⟩ : S30)]) (wrap64 (bt224.2.2.2.1 + t234)))) else (none)) else (none)) else (none)) else ((place_Fault.f k x0 bt224.2.2.2.2.2 bt224.2.2.2.2.1).bind fun bt235 => (some (([] : List (S30)), bt235.1, bt235.2.1, bt235.2.2.1, bt235.2.2.2))))) else (if x5.length < 4398046511104 then (some ((x5 ++ [(⟨0, (⟨#[]⟩ : ByteArray), (x0.size : Int)⟩ : S30)]), 0, 0, 0, 0)) else (none))
def jlex_Cut.f (k : Nat) (a0 : ByteArray) : Option ((List (S30)) × Int × Int × Int × Int) := (jlex_Judge.f k a0).bind fun bt215 => (if bt215.1 = 0 then ((jlex_while.f a0 (⟨#[32, 9, 10, 13]⟩ : ByteArray)).bind fun t220 => (jlex_Cut.l0 k a0 ([] : List (S30)) t220)) else (some (([] : List (S30)), bt215.1, bt215.2.1, bt215.2.2.1, bt215.2.2.2)))
theorem jlex_Cut.mono_l : ∀ k, (∀ y0 y1 y2, LeO (jlex_Cut.l0 k y0 y1 y2) (jlex_Cut.l0 (k + 1) y0 y1 y2))
  | 0 => fun _ _ _ r h => by simp [jlex_Cut.l0] at h
  | k + 1 => by
    have ih0 := jlex_Cut.mono_l k
    · intro y0 y1 y2
      unfold jlex_Cut.l0
      repeat' first
      | (with_reducible exact ih0 _ _ _)
      | (with_reducible exact jlex_Judge.mono _ _)
      | (with_reducible exact jlex_word.mono _ _ _)
      | (with_reducible exact place_Fault.mono _ _ _ _)
      | (with_reducible exact LeO.refl _)
      | (with_reducible exact LeO.none _)
      | (with_reducible refine LeO.ite ?_ ?_)
      | (with_reducible refine LeO.bind ?_ (fun _ => ?_))
      | exact ih0 _ _ _
      | exact jlex_Judge.mono _ _
      | exact jlex_word.mono _ _ _
      | exact place_Fault.mono _ _ _ _
      | exact LeO.none _
      | refine LeO.ite ?_ ?_
      | refine LeO.bind ?_ (fun _ => ?_)
theorem jlex_Cut.mono : ∀ a0 k, LeO (jlex_Cut.f k a0) (jlex_Cut.f (k + 1) a0) := by
  intro a0 k
  have ih0 := jlex_Cut.mono_l k
  unfold jlex_Cut.f
  repeat' first
      | (with_reducible exact ih0 _ _ _)
      | (with_reducible exact jlex_Judge.mono _ _)
      | (with_reducible exact jlex_word.mono _ _ _)
      | (with_reducible exact place_Fault.mono _ _ _ _)
      | (with_reducible exact LeO.refl _)
      | (with_reducible exact LeO.none _)
      | (with_reducible refine LeO.ite ?_ ?_)
      | (with_reducible refine LeO.bind ?_ (fun _ => ?_))
      | exact ih0 _ _ _
      | exact jlex_Judge.mono _ _
      | exact jlex_word.mono _ _ _
      | exact place_Fault.mono _ _ _ _
      | exact LeO.none _
      | refine LeO.ite ?_ ?_
      | refine LeO.bind ?_ (fun _ => ?_)
set_option maxHeartbeats 8000000 in
set_option maxRecDepth 100000 in
theorem jlex_Cut.calls (k : Nat) (a0 : ByteArray) (r1 : List (S30)) (r2 : Int) (r3 : Int) (r4 : Int) (r5 : Int) (w : World) (h : jlex_Cut.f k a0 = some (r1, r2, r3, r4, r5)) :
    Calls Tryd.prog 13 #[.string a0] w fun e w' => ∃ v0_ : Value, e = .returned (.tuple #[v0_, .agg #[.int .i64 r2, .int .i64 r3, .int .i64 r4, .int .i64 r5]]) ∧ Kd.R k30 30 w' w.heap.size (fun _ => True) v0_ r1 ∧ Below w.heap.size w w' := by
  have hu26 := Tryd.underlying26
  have hu30 := Tryd.underlying30
  have HB := Aside0.mk (Below.refl w.heap.size w)
  have H : ((jlex_Judge.f k a0).bind fun bt215 => (if bt215.1 = 0 then ((jlex_while.f a0 (⟨#[32, 9, 10, 13]⟩ : ByteArray)).bind fun t220 => (jlex_Cut.l0 k a0 ([] : List (S30)) t220)) else (some (([] : List (S30)), bt215.1, bt215.2.1, bt215.2.2.1, bt215.2.2.2)))) = some (r1, r2, r3, r4, r5) := h
  clear h
  replace H := Option.bind_eq_some_iff.mp H
  obtain ⟨⟨t215, t216, t217, t218⟩, A20, H⟩ := H
  replace H : (if t215 = 0 then ((jlex_while.f a0 (⟨#[32, 9, 10, 13]⟩ : ByteArray)).bind fun t220 => (jlex_Cut.l0 k a0 ([] : List (S30)) t220)) else (some (([] : List (S30)), t215, t216, t217, t218))) = some (r1, r2, r3, r4, r5) := H
  have A2 := Aside0.mk A20
  clear A20
  by_cases c3 : t215 = 0
  · rw [if_pos c3] at H
    have c3b0 : (t215 == 0) = true := beq_iff_eq.mpr c3
    have c3b1 : (t215 != 0) = false := bne_eq_false_iff_eq.mpr c3
    clear c3
    replace H := Option.bind_eq_some_iff.mp H
    obtain ⟨t220, A40, H⟩ := H
    replace H : (jlex_Cut.l0 k a0 ([] : List (S30)) t220) = some (r1, r2, r3, r4, r5) := H
    have A4 := Aside0.mk A40
    clear A40
    have H' := Aside0.mk H
    clear H
    go_enter Tryd.func13, Tryd.ntmps13
    go_wp2_with (first | ((with_reducible refine gate_dst (N := 3) rfl ?_); refine box_event ?hg (N := 3) ?hd (cs := #[.int .i64 0, .int .i64 0, .int .i64 0, .int .i64 0]) (t := 26) ?hr ?_; (case hd => rfl); (case hg => rfl); (case hr => first | (go_simp; done) | (go_simp; rfl)); intro gb214 hg w5 hbox hb; have n0_ := Aside0.mk (below_step (by repeat (first | (with_reducible first | exact HB.out | apply below_alloc | apply pw_below_drewN | apply below_drew1) | exact HB.out)) hb); have n1_ := Aside0.mk (hbox); have n2_ := Aside0.mk ((by rw [hg]; exact (below_size (by repeat (first | (with_reducible first | exact HB.out | apply below_alloc | apply pw_below_drewN | apply below_drew1) | exact HB.out))) : w.heap.size ≤ gb214)); have n3_ := Aside0.mk ((by rw [hg]; exact (below_size (by repeat (first | (with_reducible first | exact HB.out | apply below_alloc | apply pw_below_drewN | apply below_drew1) | exact HB.out))) : w.heap.size ≤ gb214)); clear HB; have HB := n0_; have BK214 := n1_; have GW214 := n2_; have GE214 := n3_; clear n0_ n1_ n2_ n3_; clear hb hbox hg) | ((with_reducible refine gate_callee (f := 31) rfl ?_); refine goesL_ (some 12) rfl rfl Tryd.func31 (by kernel_rfl) rfl #[.string a0] rfl (by (try simp only [List.map_toArray, List.map_cons, List.map_nil]); first | done | rfl | (simp only [List.length_drop, List.length_take]; rfl)) ?_; (with_reducible refine (jlex_Judge.calls k a0 t215 t216 t217 t218 _ A2.out).mono ?_); rintro e w6 ⟨rfl, hb⟩; refine ⟨_, rfl, ?_⟩; have n0_ := Aside0.mk (blk_below (g := gb214) (o := .cells #[.int .i64 0, .int .i64 0, .int .i64 0, .int .i64 0] 26 (0, 0)) (by (with_reducible repeat (first | refine blk_drewN ?_ _ | refine blk_drew ?_ | refine blk_alloc ?_ _)); exact BK214.out) hb); have n1_ := Aside0.mk (below_step (by repeat (first | (with_reducible first | exact HB.out | apply below_alloc | apply pw_below_drewN | apply below_drew1 | refine below_set ?_ GE214.out) | exact HB.out)) hb); clear BK214; clear HB; have BK214 := n0_; have HB := n1_; clear n0_ n1_; (try clear hb); (try clear hb2); (try clear hk); (try clear hi)) | ((with_reducible refine gate_dst (N := 4) rfl ?_); refine box_event ?hg (N := 4) ?hd (cs := #[.int .i64 0, .int .i64 0, .int .i64 0, .int .i64 0]) (t := 26) ?hr ?_; (case hd => rfl); (case hg => rfl); (case hr => first | (go_simp; done) | (go_simp; rfl)); intro gb219 hg w7 hbox hb; have n0_ := Aside0.mk (blk_below (g := gb214) (o := .cells #[.int .i64 0, .int .i64 0, .int .i64 0, .int .i64 0] 26 (0, 0)) (by (with_reducible repeat (first | refine blk_drewN ?_ _ | refine blk_drew ?_ | refine blk_alloc ?_ _)); exact BK214.out) hb); have n1_ := Aside0.mk (below_step (by repeat (first | (with_reducible first | exact HB.out | apply below_alloc | apply pw_below_drewN | apply below_drew1 | refine below_set ?_ GE214.out) | exact HB.out)) hb); have n2_ := Aside0.mk (hbox); have n3_ := Aside0.mk ((by rw [hg]; exact (below_size (by repeat (first | (with_reducible first | exact HB.out | apply below_alloc | apply pw_below_drewN | apply below_drew1 | refine below_set ?_ GE214.out) | exact HB.out))) : w.heap.size ≤ gb219)); have n4_ := Aside0.mk ((by rw [hg]; exact (below_size (by repeat (first | (with_reducible first | exact HB.out | apply below_alloc | apply pw_below_drewN | apply below_drew1 | refine below_set ?_ GE214.out) | exact HB.out))) : w.heap.size ≤ gb219)); have n5_ := Aside0.mk ((by rw [hg]; exact Nat.ne_of_lt (blk_lt (g := gb214) (o := .cells #[.int .i64 0, .int .i64 0, .int .i64 0, .int .i64 0] 26 (0, 0)) (by (with_reducible repeat (first | refine blk_drewN ?_ _ | refine blk_drew ?_ | refine blk_alloc ?_ _)); exact BK214.out)) : gb214 ≠ gb219)); have n6_ := Aside0.mk ((by rw [hg]; exact Nat.ne_of_gt (blk_lt (g := gb214) (o := .cells #[.int .i64 0, .int .i64 0, .int .i64 0, .int .i64 0] 26 (0, 0)) (by (with_reducible repeat (first | refine blk_drewN ?_ _ | refine blk_drew ?_ | refine blk_alloc ?_ _)); exact BK214.out)) : gb219 ≠ gb214)); clear BK214; clear HB; have BK214 := n0_; have HB := n1_; have BK219 := n2_; have GW219 := n3_; have GE219 := n4_; have NB214_219 := n5_; have NB219_214 := n6_; clear n0_ n1_ n2_ n3_ n4_ n5_ n6_; clear hb hbox hg; have hnb8 := NB219_214.out; have hnc8 := NB214_219.out; have hcz9_0 : w7.cell? ⟨gb219, 0, none⟩ = some (.int .i64 0) := (blk_cell BK219.out 0).trans rfl; have hcz9_1 : w7.cell? ⟨gb219, 1, none⟩ = some (.int .i64 0) := (blk_cell BK219.out 1).trans rfl; have hcz9_2 : w7.cell? ⟨gb219, 2, none⟩ = some (.int .i64 0) := (blk_cell BK219.out 2).trans rfl; have hcz9_3 : w7.cell? ⟨gb219, 3, none⟩ = some (.int .i64 0) := (blk_cell BK219.out 3).trans rfl; have hfz9_0 := blk_frozen BK219.out 0; have hfz9_1 := blk_frozen BK219.out 1; have hfz9_2 := blk_frozen BK219.out 2; have hfz9_3 := blk_frozen BK219.out 3) | ((with_reducible refine gate_callee (f := 32) rfl ?_); refine goesL_ (some 18) rfl rfl Tryd.func32 (by kernel_rfl) rfl #[.string a0, .string (⟨#[32, 9, 10, 13]⟩ : ByteArray)] rfl (by (try simp only [List.map_toArray, List.map_cons, List.map_nil]); first | done | rfl | (simp only [List.length_drop, List.length_take]; rfl)) ?_; (with_reducible refine (jlex_while.calls a0 (⟨#[32, 9, 10, 13]⟩ : ByteArray) t220 _ A4.out).mono ?_); rintro e w10 ⟨rfl, hb⟩; refine ⟨_, rfl, ?_⟩; have n0_ := Aside0.mk (blk_below (g := gb214) (o := .cells #[.int .i64 0, .int .i64 0, .int .i64 0, .int .i64 0] 26 (0, 0)) (by (with_reducible repeat (first | refine blk_drewN ?_ _ | refine blk_drew ?_ | refine blk_alloc ?_ _)); refine blk_far ?_ NB214_219.out _; (with_reducible repeat (first | refine blk_drewN ?_ _ | refine blk_drew ?_ | refine blk_alloc ?_ _)); refine blk_far ?_ NB214_219.out _; (with_reducible repeat (first | refine blk_drewN ?_ _ | refine blk_drew ?_ | refine blk_alloc ?_ _)); refine blk_far ?_ NB214_219.out _; (with_reducible repeat (first | refine blk_drewN ?_ _ | refine blk_drew ?_ | refine blk_alloc ?_ _)); refine blk_far ?_ NB214_219.out _; (with_reducible repeat (first | refine blk_drewN ?_ _ | refine blk_drew ?_ | refine blk_alloc ?_ _)); exact BK214.out) hb); have n1_ := Aside0.mk (blk_below (g := gb219) (o := .cells #[.int .i64 t215, .int .i64 t216, .int .i64 t217, .int .i64 t218] 26 (0, 0)) (by (with_reducible repeat (first | refine blk_drewN ?_ _ | refine blk_drew ?_ | refine blk_alloc ?_ _)); refine blk_put (cs := #[.int .i64 t215, .int .i64 t216, .int .i64 t217, .int .i64 0]) ?_ 3 _ rfl; (with_reducible repeat (first | refine blk_drewN ?_ _ | refine blk_drew ?_ | refine blk_alloc ?_ _)); refine blk_put (cs := #[.int .i64 t215, .int .i64 t216, .int .i64 0, .int .i64 0]) ?_ 2 _ rfl; (with_reducible repeat (first | refine blk_drewN ?_ _ | refine blk_drew ?_ | refine blk_alloc ?_ _)); refine blk_put (cs := #[.int .i64 t215, .int .i64 0, .int .i64 0, .int .i64 0]) ?_ 1 _ rfl; (with_reducible repeat (first | refine blk_drewN ?_ _ | refine blk_drew ?_ | refine blk_alloc ?_ _)); refine blk_put (cs := #[.int .i64 0, .int .i64 0, .int .i64 0, .int .i64 0]) ?_ 0 _ rfl; (with_reducible repeat (first | refine blk_drewN ?_ _ | refine blk_drew ?_ | refine blk_alloc ?_ _)); exact BK219.out) hb); have n2_ := Aside0.mk (below_step (by repeat (first | (with_reducible first | exact HB.out | apply below_alloc | apply pw_below_drewN | apply below_drew1 | refine below_set ?_ GE214.out | refine below_set ?_ GE219.out) | exact HB.out)) hb); clear BK214; clear BK219; clear HB; have BK214 := n0_; have BK219 := n1_; have HB := n2_; clear n0_ n1_ n2_; (try clear hb); (try clear hb2); (try clear hk); (try clear hi)))
    go_loopg [5, 6] k (fun kq v5 v6 w' => ∃ (x5_1 : List (S30)) (x6_1 : Int) (x215000_1 : Int) (x215001_1 : Int) (x215002_1 : Int) (x215003_1 : Int), v6 = .int .i64 x6_1 ∧ Aside0 (jlex_Cut.l0 kq a0 x5_1 x6_1 = some (r1, r2, r3, r4, r5)) ∧ Aside0 (kq ≤ k) ∧ Aside0 (Kd.R k30 30 w' w.heap.size (fun _ => True) v5 x5_1) ∧ Aside0 (w'.heap[gb214]? = some (.cells #[.int .i64 x215000_1, .int .i64 x215001_1, .int .i64 x215002_1, .int .i64 x215003_1] 26 (0, 0))) ∧ Aside0 (w'.heap[gb219]? = some (.cells #[.int .i64 t215, .int .i64 t216, .int .i64 t217, .int .i64 t218] 26 (0, 0))) ∧ Aside0 (Below w.heap.size w w'))
    case atStart => exact ⟨(([] : List (S30))), (t220), (0), (0), (0), (0), (by first | rfl | (simp; done) | (simp [*]; done)), H', ⟨Nat.le_refl _⟩, ⟨by first | exact Kd.R_nil _ _ _ _ _ | exact Kd.N_nil _ _ _ _ _ | exact Kd.V_nil _ _ _ _ _ | exact Kd.Q_nil _ _ _ _ _ | exact Kd.S_nil _ _ _ _ _⟩, ⟨by (with_reducible repeat (first | refine blk_drewN ?_ _ | refine blk_drew ?_ | refine blk_alloc ?_ _)); exact BK214.out⟩, ⟨by (with_reducible repeat (first | refine blk_drewN ?_ _ | refine blk_drew ?_ | refine blk_alloc ?_ _)); exact BK219.out⟩, ⟨by repeat (first | (with_reducible first | exact HB.out | apply below_alloc | apply pw_below_drewN | apply below_drew1 | refine below_set ?_ GE214.out | refine below_set ?_ GE219.out) | exact HB.out)⟩⟩
    case round =>
      clear H'
      try clear c1
      try clear p2
      try clear c3
      try clear c3b0
      try clear c3b1
      try clear c8
      try clear hcz9_0
      try clear hcz9_1
      try clear hcz9_2
      try clear hcz9_3
      try clear hfz9_0
      try clear hfz9_1
      try clear hfz9_2
      try clear hfz9_3
      obtain ⟨x5_1, x6_1, x215000_1, x215001_1, x215002_1, x215003_1, rfl, HA, HK1, HO_5, BK214, BK219, HB⟩ := hrel
      cases gk with
      | zero => exact absurd HA.out (by simp [jlex_Cut.l0])
      | succ k1 =>
        have H := HA.out
        clear HA
        simp only [jlex_Cut.l0] at H
        by_cases c11 : x6_1 < (a0.size : Int)
        · rw [if_pos c11] at H
          have c11b0 : decide (x6_1 < (a0.size : Int)) = true := decide_eq_true c11
          clear c11
          replace H := Option.bind_eq_some_iff.mp H
          obtain ⟨⟨t224, t225, t226, t227, t228, t229⟩, A120, H⟩ := H
          replace H : (if t228 = 0 then (if x5_1.length < 4398046511104 then (if 0 ≤ t227 then (if t227 ≤ (a0.size : Int) then ((jlex_while.f (a0.extract (t227 : Int).toNat a0.size) (⟨#[32, 9, 10, 13]⟩ : ByteArray)).bind fun t234 => (jlex_Cut.l0 k1 a0 (x5_1 ++ [(⟨t224, t225, t226⟩ : S30)]) (wrap64 (t227 + t234)))) else (none)) else (none)) else (none)) else ((place_Fault.f k1 a0 t229 t228).bind fun bt235 => (some (([] : List (S30)), bt235.1, bt235.2.1, bt235.2.2.1, bt235.2.2.2)))) = some (r1, r2, r3, r4, r5) := H
          have A12 := Aside0.mk A120
          clear A120
          by_cases c13 : t228 = 0
          · rw [if_pos c13] at H
            have c13b0 : (t228 == 0) = true := beq_iff_eq.mpr c13
            have c13b1 : (t228 != 0) = false := bne_eq_false_iff_eq.mpr c13
            clear c13
            by_cases c14 : x5_1.length < 4398046511104
            · rw [if_pos c14] at H
              have LMc14 := Aside0.mk c14
              clear c14
              obtain ⟨y231, hy231⟩ : ∃ y_ : List (S30), y_ = (x5_1 ++ [(⟨t224, t225, t226⟩ : S30)]) := ⟨_, rfl⟩
              replace H : (if 0 ≤ t227 then (if t227 ≤ (a0.size : Int) then ((jlex_while.f (a0.extract (t227 : Int).toNat a0.size) (⟨#[32, 9, 10, 13]⟩ : ByteArray)).bind fun t234 => (jlex_Cut.l0 k1 a0 y231 (wrap64 (t227 + t234)))) else (none)) else (none)) = some (r1, r2, r3, r4, r5) := by first | (rw [hy231]; with_reducible exact H) | (have H2_ := (Option.bind_some _ _).symm.trans H; rw [hy231]; with_reducible exact H2_) | (have H2_ := (Option.bind_some _ _).symm.trans H; with_reducible exact H2_) | with_reducible exact H | (rw [hy231]; exact H) | exact H
              have Ny231 := Aside0.mk hy231
              clear hy231
              by_cases c15 : 0 ≤ t227
              · rw [if_pos c15] at H
                have c15b0 := eq_true c15
                have c15b1 : decide (0 ≤ t227) = true := decide_eq_true c15
                clear c15
                by_cases c16 : t227 ≤ (a0.size : Int)
                · rw [if_pos c16] at H
                  have c16b0 := eq_true c16
                  have c16b1 : decide (t227 ≤ (a0.size : Int)) = true := decide_eq_true c16
                  clear c16
                  replace H := Option.bind_eq_some_iff.mp H
                  obtain ⟨t234, A170, H⟩ := H
                  replace H : (jlex_Cut.l0 k1 a0 y231 (wrap64 (t227 + t234))) = some (r1, r2, r3, r4, r5) := H
                  have A17 := Aside0.mk A170
                  clear A170
                  have H' := Aside0.mk H
                  clear H
                  go_wp2_with (first | ((with_reducible refine gate_callee (f := 33) rfl ?_); refine goesL_ (some 26) rfl rfl Tryd.func33 (by kernel_rfl) rfl #[.string a0, .int .i64 x6_1] rfl (by (try simp only [List.map_toArray, List.map_cons, List.map_nil]); first | done | rfl | (simp only [List.length_drop, List.length_take]; rfl)) ?_; (with_reducible refine (jlex_word.calls k1 a0 x6_1 t224 t225 t226 t227 t228 t229 _ A12.out).mono ?_); rintro e w18 ⟨rfl, hb⟩; refine ⟨_, rfl, ?_⟩; have n0_ := Aside0.mk (Kd.R_below (by (with_reducible repeat (first | apply Kd.R_alloc | apply Kd.R_drewN | apply Kd.R_drew)); exact HO_5.out) hb); have n1_ := Aside0.mk (blk_below (g := gb214) (o := .cells #[.int .i64 x215000_1, .int .i64 x215001_1, .int .i64 x215002_1, .int .i64 x215003_1] 26 (0, 0)) (by (with_reducible repeat (first | refine blk_drewN ?_ _ | refine blk_drew ?_ | refine blk_alloc ?_ _)); exact BK214.out) hb); have n2_ := Aside0.mk (blk_below (g := gb219) (o := .cells #[.int .i64 t215, .int .i64 t216, .int .i64 t217, .int .i64 t218] 26 (0, 0)) (by (with_reducible repeat (first | refine blk_drewN ?_ _ | refine blk_drew ?_ | refine blk_alloc ?_ _)); exact BK219.out) hb); have n3_ := Aside0.mk (below_step (by repeat (first | (with_reducible first | exact HB.out | apply below_alloc | apply pw_below_drewN | apply below_drew1 | refine below_set ?_ GE214.out | refine below_set ?_ GE219.out) | exact HB.out)) hb); clear HO_5; clear BK214; clear BK219; clear HB; have HO_5 := n0_; have BK214 := n1_; have BK219 := n2_; have HB := n3_; clear n0_ n1_ n2_ n3_; (try clear hb); (try clear hb2); (try clear hk); (try clear hi)) | ((with_reducible refine gate_dst (N := 7) rfl ?_); refine box_event ?hg (N := 7) ?hd (cs := #[.int .i64 0, .string (⟨#[]⟩ : ByteArray), .int .i64 0]) (t := 30) ?hr ?_; (case hd => rfl); (case hg => rfl); (case hr => first | (go_simp; done) | (go_simp; rfl)); intro gb230 hg w19 hbox hb; have n0_ := Aside0.mk (Kd.R_below (Kd.R_elderB (by (with_reducible repeat (first | apply Kd.R_alloc | apply Kd.R_drewN | apply Kd.R_drew)); exact HO_5.out) gb230 (Nat.le_of_eq hg.symm)) hb); have n1_ := Aside0.mk (blk_below (g := gb214) (o := .cells #[.int .i64 x215000_1, .int .i64 x215001_1, .int .i64 x215002_1, .int .i64 x215003_1] 26 (0, 0)) (by (with_reducible repeat (first | refine blk_drewN ?_ _ | refine blk_drew ?_ | refine blk_alloc ?_ _)); exact BK214.out) hb); have n2_ := Aside0.mk (blk_below (g := gb219) (o := .cells #[.int .i64 t215, .int .i64 t216, .int .i64 t217, .int .i64 t218] 26 (0, 0)) (by (with_reducible repeat (first | refine blk_drewN ?_ _ | refine blk_drew ?_ | refine blk_alloc ?_ _)); exact BK219.out) hb); have n3_ := Aside0.mk (below_step (by repeat (first | (with_reducible first | exact HB.out | apply below_alloc | apply pw_below_drewN | apply below_drew1 | refine below_set ?_ GE214.out | refine below_set ?_ GE219.out) | exact HB.out)) hb); have n4_ := Aside0.mk (hbox); have n5_ := Aside0.mk ((by rw [hg]; exact (below_size (by repeat (first | (with_reducible first | exact HB.out | apply below_alloc | apply pw_below_drewN | apply below_drew1 | refine below_set ?_ GE214.out | refine below_set ?_ GE219.out) | exact HB.out))) : w.heap.size ≤ gb230)); have n6_ := Aside0.mk ((by rw [hg]; exact (below_size (by repeat (first | (with_reducible first | exact HB.out | apply below_alloc | apply pw_below_drewN | apply below_drew1 | refine below_set ?_ GE214.out | refine below_set ?_ GE219.out) | exact HB.out))) : w.heap.size ≤ gb230)); have n7_ := Aside0.mk ((by rw [hg]; exact Nat.ne_of_lt (blk_lt (g := gb214) (o := .cells #[.int .i64 x215000_1, .int .i64 x215001_1, .int .i64 x215002_1, .int .i64 x215003_1] 26 (0, 0)) (by (with_reducible repeat (first | refine blk_drewN ?_ _ | refine blk_drew ?_ | refine blk_alloc ?_ _)); exact BK214.out)) : gb214 ≠ gb230)); have n8_ := Aside0.mk ((by rw [hg]; exact Nat.ne_of_gt (blk_lt (g := gb214) (o := .cells #[.int .i64 x215000_1, .int .i64 x215001_1, .int .i64 x215002_1, .int .i64 x215003_1] 26 (0, 0)) (by (with_reducible repeat (first | refine blk_drewN ?_ _ | refine blk_drew ?_ | refine blk_alloc ?_ _)); exact BK214.out)) : gb230 ≠ gb214)); have n9_ := Aside0.mk ((by rw [hg]; exact Nat.ne_of_lt (blk_lt (g := gb219) (o := .cells #[.int .i64 t215, .int .i64 t216, .int .i64 t217, .int .i64 t218] 26 (0, 0)) (by (with_reducible repeat (first | refine blk_drewN ?_ _ | refine blk_drew ?_ | refine blk_alloc ?_ _)); exact BK219.out)) : gb219 ≠ gb230)); have n10_ := Aside0.mk ((by rw [hg]; exact Nat.ne_of_gt (blk_lt (g := gb219) (o := .cells #[.int .i64 t215, .int .i64 t216, .int .i64 t217, .int .i64 t218] 26 (0, 0)) (by (with_reducible repeat (first | refine blk_drewN ?_ _ | refine blk_drew ?_ | refine blk_alloc ?_ _)); exact BK219.out)) : gb230 ≠ gb219)); clear HO_5; clear BK214; clear BK219; clear HB; have HO_5 := n0_; have BK214 := n1_; have BK219 := n2_; have HB := n3_; have BK230 := n4_; have GW230 := n5_; have GE230 := n6_; have NB214_230 := n7_; have NB230_214 := n8_; have NB219_230 := n9_; have NB230_219 := n10_; clear n0_ n1_ n2_ n3_ n4_ n5_ n6_ n7_ n8_ n9_ n10_; clear hb hbox hg; have hnb20 := NB230_214.out; have hnc20 := NB214_230.out; have hnb21 := NB230_219.out; have hnc21 := NB219_230.out; have hcz22_0 : w19.cell? ⟨gb230, 0, none⟩ = some (.int .i64 0) := (blk_cell BK230.out 0).trans rfl; have hcz22_1 : w19.cell? ⟨gb230, 1, none⟩ = some (.string (⟨#[]⟩ : ByteArray)) := (blk_cell BK230.out 1).trans rfl; have hcz22_2 : w19.cell? ⟨gb230, 2, none⟩ = some (.int .i64 0) := (blk_cell BK230.out 2).trans rfl; have hfz22_0 := blk_frozen BK230.out 0; have hfz22_1 := blk_frozen BK230.out 1; have hfz22_2 := blk_frozen BK230.out 2) | ((with_reducible refine gate_builtin (b := .append) (xs := #[.tmp 37, .tmp 39]) rfl ?_); at_builtin; refine Kd.R_append k30 (w0 := w) w.heap.size rfl (.tmp 37) (.tmp 39) 23 30 (.agg #[(.int .i64 0), (.string ⟨#[]⟩), (.int .i64 0)]) 32 rfl Tryd.underlying23 info30 rfl (by decide) (by omega) u5 x5_1 (⟨t224, t225, t226⟩ : S30) [.int .i64 t224, .string t225, .int .i64 t226] (fun k_ => k_ ≠ gb230) (fun _ => False) rfl (by first | (go_simp; done) | (go_simp; rfl)) ?aP (fun _ hk => hk.elim) ?aF ?aO ?aB ?aS ?aL ?_; (case aP => exact k30_mkM _ _ _ (⟨t224, t225, t226⟩ : S30)); (case aB => exact (by repeat (first | (with_reducible first | exact HB.out | apply below_alloc | apply pw_below_drewN | apply below_drew1 | refine below_set ?_ GE214.out | refine below_set ?_ GE219.out | refine below_set ?_ GE230.out) | exact HB.out))); (case aF => exact (fun k_ hk => Kd.freshB (g := gb230) (o := .cells #[.int .i64 t224, .string t225, .int .i64 t226] 30 (0, 0)) (by (with_reducible repeat (first | refine blk_drewN ?_ _ | refine blk_drew ?_ | refine blk_alloc ?_ _)); refine blk_put (cs := #[.int .i64 t224, .string t225, .int .i64 0]) ?_ 2 _ rfl; (with_reducible repeat (first | refine blk_drewN ?_ _ | refine blk_drew ?_ | refine blk_alloc ?_ _)); refine blk_put (cs := #[.int .i64 t224, .string (⟨#[]⟩ : ByteArray), .int .i64 0]) ?_ 1 _ rfl; (with_reducible repeat (first | refine blk_drewN ?_ _ | refine blk_drew ?_ | refine blk_alloc ?_ _)); refine blk_put (cs := #[.int .i64 0, .string (⟨#[]⟩ : ByteArray), .int .i64 0]) ?_ 0 _ rfl; (with_reducible repeat (first | refine blk_drewN ?_ _ | refine blk_drew ?_ | refine blk_alloc ?_ _)); exact BK230.out) k_ hk)); (case aO => exact (by (with_reducible repeat (first | apply Kd.R_alloc | apply Kd.R_drewN | apply Kd.R_drew)); exact Kd.R_mono (Kd.R_far (p := ⟨gb230, 2, none⟩) (Kd.R_far (p := ⟨gb230, 1, none⟩) (Kd.R_far (p := ⟨gb230, 0, none⟩) (Kd.R_mono HO_5.out (fun k_ hk => (⟨hk, hk.2⟩ : _ ∧ k_ ≠ gb230))) (fun _ hk => hk.2) (.int .i64 t224)) (fun _ hk => hk.2) (.string t225)) (fun _ hk => hk.2) (.int .i64 t226)) (fun _ hk => hk.1.2))); (case aS => exact (below_size (by repeat (first | (with_reducible first | exact HB.out | apply below_alloc | apply pw_below_drewN | apply below_drew1 | refine below_set ?_ GE214.out | refine below_set ?_ GE219.out | refine below_set ?_ GE230.out) | exact HB.out)))); (case aL => have := LMc14.out; omega); intro v232 w23 ho hb hg hat; rw [← Ny231.out] at ho; have n0_ := Aside0.mk (blk_grown (g := gb214) (o := .cells #[.int .i64 x215000_1, .int .i64 x215001_1, .int .i64 x215002_1, .int .i64 x215003_1] 26 (0, 0)) (by (with_reducible repeat (first | refine blk_drewN ?_ _ | refine blk_drew ?_ | refine blk_alloc ?_ _)); refine blk_far ?_ NB214_230.out _; (with_reducible repeat (first | refine blk_drewN ?_ _ | refine blk_drew ?_ | refine blk_alloc ?_ _)); refine blk_far ?_ NB214_230.out _; (with_reducible repeat (first | refine blk_drewN ?_ _ | refine blk_drew ?_ | refine blk_alloc ?_ _)); refine blk_far ?_ NB214_230.out _; (with_reducible repeat (first | refine blk_drewN ?_ _ | refine blk_drew ?_ | refine blk_alloc ?_ _)); exact BK214.out) hg (Kd.R_ne HO_5.out BK214.out (by decide))); have n1_ := Aside0.mk (blk_grown (g := gb219) (o := .cells #[.int .i64 t215, .int .i64 t216, .int .i64 t217, .int .i64 t218] 26 (0, 0)) (by (with_reducible repeat (first | refine blk_drewN ?_ _ | refine blk_drew ?_ | refine blk_alloc ?_ _)); refine blk_far ?_ NB219_230.out _; (with_reducible repeat (first | refine blk_drewN ?_ _ | refine blk_drew ?_ | refine blk_alloc ?_ _)); refine blk_far ?_ NB219_230.out _; (with_reducible repeat (first | refine blk_drewN ?_ _ | refine blk_drew ?_ | refine blk_alloc ?_ _)); refine blk_far ?_ NB219_230.out _; (with_reducible repeat (first | refine blk_drewN ?_ _ | refine blk_drew ?_ | refine blk_alloc ?_ _)); exact BK219.out) hg (Kd.R_ne HO_5.out BK219.out (by decide))); have n2_ := Aside0.mk (blk_grown (g := gb230) (o := .cells #[.int .i64 t224, .string t225, .int .i64 t226] 30 (0, 0)) (by (with_reducible repeat (first | refine blk_drewN ?_ _ | refine blk_drew ?_ | refine blk_alloc ?_ _)); refine blk_put (cs := #[.int .i64 t224, .string t225, .int .i64 0]) ?_ 2 _ rfl; (with_reducible repeat (first | refine blk_drewN ?_ _ | refine blk_drew ?_ | refine blk_alloc ?_ _)); refine blk_put (cs := #[.int .i64 t224, .string (⟨#[]⟩ : ByteArray), .int .i64 0]) ?_ 1 _ rfl; (with_reducible repeat (first | refine blk_drewN ?_ _ | refine blk_drew ?_ | refine blk_alloc ?_ _)); refine blk_put (cs := #[.int .i64 0, .string (⟨#[]⟩ : ByteArray), .int .i64 0]) ?_ 0 _ rfl; (with_reducible repeat (first | refine blk_drewN ?_ _ | refine blk_drew ?_ | refine blk_alloc ?_ _)); exact BK230.out) hg (Kd.R_away HO_5.out (fun _ hk => hk.2))); have n3_ := Aside0.mk (hb); have n4_ := Aside0.mk (ho); clear BK214; clear BK219; clear BK230; clear HB; clear HO_5; have BK214 := n0_; have BK219 := n1_; have BK230 := n2_; have HB := n3_; have HO233 := n4_; clear n0_ n1_ n2_ n3_ n4_; clear ho hb hg hat) | ((with_reducible refine gate_callee (f := 32) rfl ?_); refine goesL_ (some 45) rfl rfl Tryd.func32 (by kernel_rfl) rfl #[.string (a0.extract (t227 : Int).toNat a0.size), .string (⟨#[32, 9, 10, 13]⟩ : ByteArray)] rfl (by (try simp only [List.map_toArray, List.map_cons, List.map_nil]); first | done | rfl | (simp only [List.length_drop, List.length_take]; rfl)) ?_; (with_reducible refine (jlex_while.calls (a0.extract (t227 : Int).toNat a0.size) (⟨#[32, 9, 10, 13]⟩ : ByteArray) t234 _ A17.out).mono ?_); rintro e w24 ⟨rfl, hb⟩; refine ⟨_, rfl, ?_⟩; have n0_ := Aside0.mk (Kd.R_below (by (with_reducible repeat (first | apply Kd.R_alloc | apply Kd.R_drewN | apply Kd.R_drew)); exact HO233.out) hb); have n1_ := Aside0.mk (blk_below (g := gb214) (o := .cells #[.int .i64 x215000_1, .int .i64 x215001_1, .int .i64 x215002_1, .int .i64 x215003_1] 26 (0, 0)) (by (with_reducible repeat (first | refine blk_drewN ?_ _ | refine blk_drew ?_ | refine blk_alloc ?_ _)); exact BK214.out) hb); have n2_ := Aside0.mk (blk_below (g := gb219) (o := .cells #[.int .i64 t215, .int .i64 t216, .int .i64 t217, .int .i64 t218] 26 (0, 0)) (by (with_reducible repeat (first | refine blk_drewN ?_ _ | refine blk_drew ?_ | refine blk_alloc ?_ _)); exact BK219.out) hb); have n3_ := Aside0.mk (blk_below (g := gb230) (o := .cells #[.int .i64 t224, .string t225, .int .i64 t226] 30 (0, 0)) (by (with_reducible repeat (first | refine blk_drewN ?_ _ | refine blk_drew ?_ | refine blk_alloc ?_ _)); exact BK230.out) hb); have n4_ := Aside0.mk (below_step (by repeat (first | (with_reducible first | exact HB.out | apply below_alloc | apply pw_below_drewN | apply below_drew1 | refine below_set ?_ GE214.out | refine below_set ?_ GE219.out | refine below_set ?_ GE230.out) | exact HB.out)) hb); clear HO233; clear BK214; clear BK219; clear BK230; clear HB; have HO233 := n0_; have BK214 := n1_; have BK219 := n2_; have BK230 := n3_; have HB := n4_; clear n0_ n1_ n2_ n3_ n4_; (try clear hb); (try clear hb2); (try clear hk); (try clear hi)))
                  go_roundg k1
                  case measure => have := HK1.out; omega
                  case rel => exact ⟨(y231), (wrap64 (t227 + t234)), (x215000_1), (x215001_1), (x215002_1), (x215003_1), (by first | rfl | (simp; done) | (simp [*]; done)), H', ⟨by have := HK1.out; omega⟩, ⟨by (with_reducible repeat (first | apply Kd.R_alloc | apply Kd.R_drewN | apply Kd.R_drew)); exact Kd.R_mono HO233.out (fun _ hk => trivial)⟩, ⟨by (with_reducible repeat (first | refine blk_drewN ?_ _ | refine blk_drew ?_ | refine blk_alloc ?_ _)); exact BK214.out⟩, ⟨by (with_reducible repeat (first | refine blk_drewN ?_ _ | refine blk_drew ?_ | refine blk_alloc ?_ _)); exact BK219.out⟩, ⟨by repeat (first | (with_reducible first | exact HB.out | apply below_alloc | apply pw_below_drewN | apply below_drew1 | refine below_set ?_ GE214.out | refine below_set ?_ GE219.out | refine below_set ?_ GE230.out) | exact HB.out)⟩⟩
                · rw [if_neg c16] at H
                  exact absurd H (by simp)
              · rw [if_neg c15] at H
                exact absurd H (by simp)
            · rw [if_neg c14] at H
              exact absurd H (by simp)
          · rw [if_neg c13] at H
            have c13b0 : (t228 == 0) = false := beq_eq_false_iff_ne.mpr c13
            have c13b1 : (t228 != 0) = true := bne_iff_ne.mpr c13
            replace H := Option.bind_eq_some_iff.mp H
            obtain ⟨⟨t235, t236, t237, t238⟩, A250, H⟩ := H
            replace H : (some (([] : List (S30)), t235, t236, t237, t238)) = some (r1, r2, r3, r4, r5) := H
            have A25 := Aside0.mk A250
            clear A250
            simp only [Option.some.injEq, Prod.mk.injEq] at H
            obtain ⟨rfl, rfl, rfl, rfl, rfl⟩ := H
            go_wp2_with (first | ((with_reducible refine gate_callee (f := 33) rfl ?_); refine goesL_ (some 26) rfl rfl Tryd.func33 (by kernel_rfl) rfl #[.string a0, .int .i64 x6_1] rfl (by (try simp only [List.map_toArray, List.map_cons, List.map_nil]); first | done | rfl | (simp only [List.length_drop, List.length_take]; rfl)) ?_; (with_reducible refine (jlex_word.calls k1 a0 x6_1 t224 t225 t226 t227 t228 t229 _ A12.out).mono ?_); rintro e w26 ⟨rfl, hb⟩; refine ⟨_, rfl, ?_⟩; have n0_ := Aside0.mk (Kd.R_below (by (with_reducible repeat (first | apply Kd.R_alloc | apply Kd.R_drewN | apply Kd.R_drew)); exact HO_5.out) hb); have n1_ := Aside0.mk (blk_below (g := gb214) (o := .cells #[.int .i64 x215000_1, .int .i64 x215001_1, .int .i64 x215002_1, .int .i64 x215003_1] 26 (0, 0)) (by (with_reducible repeat (first | refine blk_drewN ?_ _ | refine blk_drew ?_ | refine blk_alloc ?_ _)); exact BK214.out) hb); have n2_ := Aside0.mk (blk_below (g := gb219) (o := .cells #[.int .i64 t215, .int .i64 t216, .int .i64 t217, .int .i64 t218] 26 (0, 0)) (by (with_reducible repeat (first | refine blk_drewN ?_ _ | refine blk_drew ?_ | refine blk_alloc ?_ _)); exact BK219.out) hb); have n3_ := Aside0.mk (below_step (by repeat (first | (with_reducible first | exact HB.out | apply below_alloc | apply pw_below_drewN | apply below_drew1 | refine below_set ?_ GE214.out | refine below_set ?_ GE219.out) | exact HB.out)) hb); clear HO_5; clear BK214; clear BK219; clear HB; have HO_5 := n0_; have BK214 := n1_; have BK219 := n2_; have HB := n3_; clear n0_ n1_ n2_ n3_; (try clear hb); (try clear hb2); (try clear hk); (try clear hi)) | ((with_reducible refine gate_dst (N := 7) rfl ?_); refine box_event ?hg (N := 7) ?hd (cs := #[.int .i64 0, .string (⟨#[]⟩ : ByteArray), .int .i64 0]) (t := 30) ?hr ?_; (case hd => rfl); (case hg => rfl); (case hr => first | (go_simp; done) | (go_simp; rfl)); intro gb230 hg w27 hbox hb; have n0_ := Aside0.mk (Kd.R_below (Kd.R_elderB (by (with_reducible repeat (first | apply Kd.R_alloc | apply Kd.R_drewN | apply Kd.R_drew)); exact HO_5.out) gb230 (Nat.le_of_eq hg.symm)) hb); have n1_ := Aside0.mk (blk_below (g := gb214) (o := .cells #[.int .i64 x215000_1, .int .i64 x215001_1, .int .i64 x215002_1, .int .i64 x215003_1] 26 (0, 0)) (by (with_reducible repeat (first | refine blk_drewN ?_ _ | refine blk_drew ?_ | refine blk_alloc ?_ _)); exact BK214.out) hb); have n2_ := Aside0.mk (blk_below (g := gb219) (o := .cells #[.int .i64 t215, .int .i64 t216, .int .i64 t217, .int .i64 t218] 26 (0, 0)) (by (with_reducible repeat (first | refine blk_drewN ?_ _ | refine blk_drew ?_ | refine blk_alloc ?_ _)); exact BK219.out) hb); have n3_ := Aside0.mk (below_step (by repeat (first | (with_reducible first | exact HB.out | apply below_alloc | apply pw_below_drewN | apply below_drew1 | refine below_set ?_ GE214.out | refine below_set ?_ GE219.out) | exact HB.out)) hb); have n4_ := Aside0.mk (hbox); have n5_ := Aside0.mk ((by rw [hg]; exact (below_size (by repeat (first | (with_reducible first | exact HB.out | apply below_alloc | apply pw_below_drewN | apply below_drew1 | refine below_set ?_ GE214.out | refine below_set ?_ GE219.out) | exact HB.out))) : w.heap.size ≤ gb230)); have n6_ := Aside0.mk ((by rw [hg]; exact (below_size (by repeat (first | (with_reducible first | exact HB.out | apply below_alloc | apply pw_below_drewN | apply below_drew1 | refine below_set ?_ GE214.out | refine below_set ?_ GE219.out) | exact HB.out))) : w.heap.size ≤ gb230)); have n7_ := Aside0.mk ((by rw [hg]; exact Nat.ne_of_lt (blk_lt (g := gb214) (o := .cells #[.int .i64 x215000_1, .int .i64 x215001_1, .int .i64 x215002_1, .int .i64 x215003_1] 26 (0, 0)) (by (with_reducible repeat (first | refine blk_drewN ?_ _ | refine blk_drew ?_ | refine blk_alloc ?_ _)); exact BK214.out)) : gb214 ≠ gb230)); have n8_ := Aside0.mk ((by rw [hg]; exact Nat.ne_of_gt (blk_lt (g := gb214) (o := .cells #[.int .i64 x215000_1, .int .i64 x215001_1, .int .i64 x215002_1, .int .i64 x215003_1] 26 (0, 0)) (by (with_reducible repeat (first | refine blk_drewN ?_ _ | refine blk_drew ?_ | refine blk_alloc ?_ _)); exact BK214.out)) : gb230 ≠ gb214)); have n9_ := Aside0.mk ((by rw [hg]; exact Nat.ne_of_lt (blk_lt (g := gb219) (o := .cells #[.int .i64 t215, .int .i64 t216, .int .i64 t217, .int .i64 t218] 26 (0, 0)) (by (with_reducible repeat (first | refine blk_drewN ?_ _ | refine blk_drew ?_ | refine blk_alloc ?_ _)); exact BK219.out)) : gb219 ≠ gb230)); have n10_ := Aside0.mk ((by rw [hg]; exact Nat.ne_of_gt (blk_lt (g := gb219) (o := .cells #[.int .i64 t215, .int .i64 t216, .int .i64 t217, .int .i64 t218] 26 (0, 0)) (by (with_reducible repeat (first | refine blk_drewN ?_ _ | refine blk_drew ?_ | refine blk_alloc ?_ _)); exact BK219.out)) : gb230 ≠ gb219)); clear HO_5; clear BK214; clear BK219; clear HB; have HO_5 := n0_; have BK214 := n1_; have BK219 := n2_; have HB := n3_; have BK230 := n4_; have GW230 := n5_; have GE230 := n6_; have NB214_230 := n7_; have NB230_214 := n8_; have NB219_230 := n9_; have NB230_219 := n10_; clear n0_ n1_ n2_ n3_ n4_ n5_ n6_ n7_ n8_ n9_ n10_; clear hb hbox hg; have hnb28 := NB230_214.out; have hnc28 := NB214_230.out; have hnb29 := NB230_219.out; have hnc29 := NB219_230.out; have hcz30_0 : w27.cell? ⟨gb230, 0, none⟩ = some (.int .i64 0) := (blk_cell BK230.out 0).trans rfl; have hcz30_1 : w27.cell? ⟨gb230, 1, none⟩ = some (.string (⟨#[]⟩ : ByteArray)) := (blk_cell BK230.out 1).trans rfl; have hcz30_2 : w27.cell? ⟨gb230, 2, none⟩ = some (.int .i64 0) := (blk_cell BK230.out 2).trans rfl; have hfz30_0 := blk_frozen BK230.out 0; have hfz30_1 := blk_frozen BK230.out 1; have hfz30_2 := blk_frozen BK230.out 2) | ((with_reducible refine gate_callee (f := 34) rfl ?_); refine goesL_ (some 36) rfl rfl Tryd.func34 (by kernel_rfl) rfl #[.string a0, .int .i64 t229, .int .i64 t228] rfl (by (try simp only [List.map_toArray, List.map_cons, List.map_nil]); first | done | rfl | (simp only [List.length_drop, List.length_take]; rfl)) ?_; (with_reducible refine (place_Fault.calls k1 a0 t229 t228 t235 t236 t237 t238 _ A25.out).mono ?_); rintro e w31 ⟨rfl, hb⟩; refine ⟨_, rfl, ?_⟩; have n0_ := Aside0.mk (Kd.R_below (by (with_reducible repeat (first | apply Kd.R_alloc | apply Kd.R_drewN | apply Kd.R_drew)); exact (Kd.R_mono (Kd.R_far (p := ⟨gb230, 2, none⟩) (Kd.R_far (p := ⟨gb230, 1, none⟩) (Kd.R_far (p := ⟨gb230, 0, none⟩) (Kd.R_mono HO_5.out (fun k_ hk => (⟨hk, hk.2⟩ : _ ∧ k_ ≠ gb230))) (fun _ hk => hk.2) (.int .i64 t224)) (fun _ hk => hk.2) (.string t225)) (fun _ hk => hk.2) (.int .i64 t226)) (fun _ h_ => h_.1))) hb); have n1_ := Aside0.mk (blk_below (g := gb214) (o := .cells #[.int .i64 x215000_1, .int .i64 x215001_1, .int .i64 x215002_1, .int .i64 x215003_1] 26 (0, 0)) (by (with_reducible repeat (first | refine blk_drewN ?_ _ | refine blk_drew ?_ | refine blk_alloc ?_ _)); refine blk_far ?_ NB214_230.out _; (with_reducible repeat (first | refine blk_drewN ?_ _ | refine blk_drew ?_ | refine blk_alloc ?_ _)); refine blk_far ?_ NB214_230.out _; (with_reducible repeat (first | refine blk_drewN ?_ _ | refine blk_drew ?_ | refine blk_alloc ?_ _)); refine blk_far ?_ NB214_230.out _; (with_reducible repeat (first | refine blk_drewN ?_ _ | refine blk_drew ?_ | refine blk_alloc ?_ _)); exact BK214.out) hb); have n2_ := Aside0.mk (blk_below (g := gb219) (o := .cells #[.int .i64 t215, .int .i64 t216, .int .i64 t217, .int .i64 t218] 26 (0, 0)) (by (with_reducible repeat (first | refine blk_drewN ?_ _ | refine blk_drew ?_ | refine blk_alloc ?_ _)); refine blk_far ?_ NB219_230.out _; (with_reducible repeat (first | refine blk_drewN ?_ _ | refine blk_drew ?_ | refine blk_alloc ?_ _)); refine blk_far ?_ NB219_230.out _; (with_reducible repeat (first | refine blk_drewN ?_ _ | refine blk_drew ?_ | refine blk_alloc ?_ _)); refine blk_far ?_ NB219_230.out _; (with_reducible repeat (first | refine blk_drewN ?_ _ | refine blk_drew ?_ | refine blk_alloc ?_ _)); exact BK219.out) hb); have n3_ := Aside0.mk (blk_below (g := gb230) (o := .cells #[.int .i64 t224, .string t225, .int .i64 t226] 30 (0, 0)) (by (with_reducible repeat (first | refine blk_drewN ?_ _ | refine blk_drew ?_ | refine blk_alloc ?_ _)); refine blk_put (cs := #[.int .i64 t224, .string t225, .int .i64 0]) ?_ 2 _ rfl; (with_reducible repeat (first | refine blk_drewN ?_ _ | refine blk_drew ?_ | refine blk_alloc ?_ _)); refine blk_put (cs := #[.int .i64 t224, .string (⟨#[]⟩ : ByteArray), .int .i64 0]) ?_ 1 _ rfl; (with_reducible repeat (first | refine blk_drewN ?_ _ | refine blk_drew ?_ | refine blk_alloc ?_ _)); refine blk_put (cs := #[.int .i64 0, .string (⟨#[]⟩ : ByteArray), .int .i64 0]) ?_ 0 _ rfl; (with_reducible repeat (first | refine blk_drewN ?_ _ | refine blk_drew ?_ | refine blk_alloc ?_ _)); exact BK230.out) hb); have n4_ := Aside0.mk (below_step (by repeat (first | (with_reducible first | exact HB.out | apply below_alloc | apply pw_below_drewN | apply below_drew1 | refine below_set ?_ GE214.out | refine below_set ?_ GE219.out | refine below_set ?_ GE230.out) | exact HB.out)) hb); clear HO_5; clear BK214; clear BK219; clear BK230; clear HB; have HO_5 := n0_; have BK214 := n1_; have BK219 := n2_; have BK230 := n3_; have HB := n4_; clear n0_ n1_ n2_ n3_ n4_; (try clear hb); (try clear hb2); (try clear hk); (try clear hi); have hnb32 := NB214_219.out; have hnc32 := NB219_214.out; have hcz33_0 : w31.cell? ⟨gb214, 0, none⟩ = some (.int .i64 x215000_1) := (blk_cell BK214.out 0).trans rfl; have hcz33_1 : w31.cell? ⟨gb214, 1, none⟩ = some (.int .i64 x215001_1) := (blk_cell BK214.out 1).trans rfl; have hcz33_2 : w31.cell? ⟨gb214, 2, none⟩ = some (.int .i64 x215002_1) := (blk_cell BK214.out 2).trans rfl; have hcz33_3 : w31.cell? ⟨gb214, 3, none⟩ = some (.int .i64 x215003_1) := (blk_cell BK214.out 3).trans rfl; have hfz33_0 := blk_frozen BK214.out 0; have hfz33_1 := blk_frozen BK214.out 1; have hfz33_2 := blk_frozen BK214.out 2; have hfz33_3 := blk_frozen BK214.out 3))
            refine bodyPost_ret (results_tc rfl _ _ gb214 26 #[.int .i64 t235, .int .i64 t236, .int .i64 t237, .int .i64 t238] (0, 0) _ rfl (by (with_reducible repeat (first | refine blk_drewN ?_ _ | refine blk_drew ?_ | refine blk_alloc ?_ _)); refine blk_put (cs := #[.int .i64 t235, .int .i64 t236, .int .i64 t237, .int .i64 x215003_1]) ?_ 3 _ rfl; (with_reducible repeat (first | refine blk_drewN ?_ _ | refine blk_drew ?_ | refine blk_alloc ?_ _)); refine blk_put (cs := #[.int .i64 t235, .int .i64 t236, .int .i64 x215002_1, .int .i64 x215003_1]) ?_ 2 _ rfl; (with_reducible repeat (first | refine blk_drewN ?_ _ | refine blk_drew ?_ | refine blk_alloc ?_ _)); refine blk_put (cs := #[.int .i64 t235, .int .i64 x215001_1, .int .i64 x215002_1, .int .i64 x215003_1]) ?_ 1 _ rfl; (with_reducible repeat (first | refine blk_drewN ?_ _ | refine blk_drew ?_ | refine blk_alloc ?_ _)); refine blk_put (cs := #[.int .i64 x215000_1, .int .i64 x215001_1, .int .i64 x215002_1, .int .i64 x215003_1]) ?_ 0 _ rfl; (with_reducible repeat (first | refine blk_drewN ?_ _ | refine blk_drew ?_ | refine blk_alloc ?_ _)); exact BK214.out) Tryd.underlying26 rfl (by kernel_rfl)) rfl ?_
            exact ⟨_, by first | rfl | (simp [errW_none, errW_some] <;> rfl) | (simp [*, errW_none, errW_some, bne]; done) | (simp [*, errW_none, errW_some] <;> rfl), by first | exact Kd.R_nil _ _ _ _ _ | exact Kd.N_nil _ _ _ _ _ | exact Kd.V_nil _ _ _ _ _ | exact Kd.Q_nil _ _ _ _ _ | exact Kd.S_nil _ _ _ _ _, by repeat (first | (with_reducible first | exact HB.out | apply below_alloc | apply pw_below_drewN | apply below_drew1 | refine below_set ?_ GE214.out | refine below_set ?_ GE219.out | refine below_set ?_ GE230.out) | exact HB.out)⟩
        · rw [if_neg c11] at H
          have c11b0 : decide (x6_1 < (a0.size : Int)) = false := decide_eq_false c11
          clear c11
          by_cases c34 : x5_1.length < 4398046511104
          · rw [if_pos c34] at H
            have LMc34 := Aside0.mk c34
            clear c34
            obtain ⟨y221, hy221⟩ : ∃ y_ : List (S30), y_ = (x5_1 ++ [(⟨0, (⟨#[]⟩ : ByteArray), (a0.size : Int)⟩ : S30)]) := ⟨_, rfl⟩
            replace H : (some (y221, 0, 0, 0, 0)) = some (r1, r2, r3, r4, r5) := by first | (rw [hy221]; with_reducible exact H) | (have H2_ := (Option.bind_some _ _).symm.trans H; rw [hy221]; with_reducible exact H2_) | (have H2_ := (Option.bind_some _ _).symm.trans H; with_reducible exact H2_) | with_reducible exact H | (rw [hy221]; exact H) | exact H
            have Ny221 := Aside0.mk hy221
            clear hy221
            simp only [Option.some.injEq, Prod.mk.injEq] at H
            obtain ⟨rfl, rfl, rfl, rfl, rfl⟩ := H
            go_wp2_with (first | ((with_reducible refine gate_builtin (b := .append) (xs := #[.tmp 47, .tmp 51]) rfl ?_); at_builtin; refine Kd.R_append k30 (w0 := w) w.heap.size rfl (.tmp 47) (.tmp 51) 23 30 (.agg #[(.int .i64 0), (.string ⟨#[]⟩), (.int .i64 0)]) 32 rfl Tryd.underlying23 info30 rfl (by decide) (by omega) u5 x5_1 (⟨0, (⟨#[]⟩ : ByteArray), (a0.size : Int)⟩ : S30) [.int .i64 0, .string (⟨#[]⟩ : ByteArray), .int .i64 (a0.size : Int)] (fun _ => True) (fun _ => False) rfl rfl ?aP (fun _ hk => hk.elim) ?aF ?aO ?aB ?aS ?aL ?_; (case aP => exact k30_mkM _ _ _ (⟨0, (⟨#[]⟩ : ByteArray), (a0.size : Int)⟩ : S30)); (case aB => exact (by repeat (first | (with_reducible first | exact HB.out | apply below_alloc | apply pw_below_drewN | apply below_drew1 | refine below_set ?_ GE214.out | refine below_set ?_ GE219.out) | exact HB.out))); (case aF => exact (fun _ _ => trivial)); (case aO => exact (by (with_reducible repeat (first | apply Kd.R_alloc | apply Kd.R_drewN | apply Kd.R_drew)); exact HO_5.out)); (case aS => exact (below_size (by repeat (first | (with_reducible first | exact HB.out | apply below_alloc | apply pw_below_drewN | apply below_drew1 | refine below_set ?_ GE214.out | refine below_set ?_ GE219.out) | exact HB.out)))); (case aL => have := LMc34.out; omega); intro v222 w35 ho hb hg hat; rw [← Ny221.out] at ho; have n0_ := Aside0.mk (blk_grown (g := gb214) (o := .cells #[.int .i64 x215000_1, .int .i64 x215001_1, .int .i64 x215002_1, .int .i64 x215003_1] 26 (0, 0)) (by (with_reducible repeat (first | refine blk_drewN ?_ _ | refine blk_drew ?_ | refine blk_alloc ?_ _)); exact BK214.out) hg (Kd.R_ne HO_5.out BK214.out (by decide))); have n1_ := Aside0.mk (blk_grown (g := gb219) (o := .cells #[.int .i64 t215, .int .i64 t216, .int .i64 t217, .int .i64 t218] 26 (0, 0)) (by (with_reducible repeat (first | refine blk_drewN ?_ _ | refine blk_drew ?_ | refine blk_alloc ?_ _)); exact BK219.out) hg (Kd.R_ne HO_5.out BK219.out (by decide))); have n2_ := Aside0.mk (hb); have n3_ := Aside0.mk (ho); clear BK214; clear BK219; clear HB; clear HO_5; have BK214 := n0_; have BK219 := n1_; have HB := n2_; have HO223 := n3_; clear n0_ n1_ n2_ n3_; clear ho hb hg hat; have hnb36 := NB214_219.out; have hnc36 := NB219_214.out; have hcz37_0 : w35.cell? ⟨gb214, 0, none⟩ = some (.int .i64 x215000_1) := (blk_cell BK214.out 0).trans rfl; have hcz37_1 : w35.cell? ⟨gb214, 1, none⟩ = some (.int .i64 x215001_1) := (blk_cell BK214.out 1).trans rfl; have hcz37_2 : w35.cell? ⟨gb214, 2, none⟩ = some (.int .i64 x215002_1) := (blk_cell BK214.out 2).trans rfl; have hcz37_3 : w35.cell? ⟨gb214, 3, none⟩ = some (.int .i64 x215003_1) := (blk_cell BK214.out 3).trans rfl; have hfz37_0 := blk_frozen BK214.out 0; have hfz37_1 := blk_frozen BK214.out 1; have hfz37_2 := blk_frozen BK214.out 2; have hfz37_3 := blk_frozen BK214.out 3))
            refine bodyPost_ret (results_tc rfl _ _ gb214 26 #[.int .i64 0, .int .i64 0, .int .i64 0, .int .i64 0] (0, 0) _ rfl (by (with_reducible repeat (first | refine blk_drewN ?_ _ | refine blk_drew ?_ | refine blk_alloc ?_ _)); refine blk_put (cs := #[.int .i64 0, .int .i64 0, .int .i64 0, .int .i64 x215003_1]) ?_ 3 _ rfl; (with_reducible repeat (first | refine blk_drewN ?_ _ | refine blk_drew ?_ | refine blk_alloc ?_ _)); refine blk_put (cs := #[.int .i64 0, .int .i64 0, .int .i64 x215002_1, .int .i64 x215003_1]) ?_ 2 _ rfl; (with_reducible repeat (first | refine blk_drewN ?_ _ | refine blk_drew ?_ | refine blk_alloc ?_ _)); refine blk_put (cs := #[.int .i64 0, .int .i64 x215001_1, .int .i64 x215002_1, .int .i64 x215003_1]) ?_ 1 _ rfl; (with_reducible repeat (first | refine blk_drewN ?_ _ | refine blk_drew ?_ | refine blk_alloc ?_ _)); refine blk_put (cs := #[.int .i64 x215000_1, .int .i64 x215001_1, .int .i64 x215002_1, .int .i64 x215003_1]) ?_ 0 _ rfl; (with_reducible repeat (first | refine blk_drewN ?_ _ | refine blk_drew ?_ | refine blk_alloc ?_ _)); exact BK214.out) Tryd.underlying26 rfl (by kernel_rfl)) rfl ?_
            exact ⟨_, by first | rfl | (simp [errW_none, errW_some] <;> rfl) | (simp [*, errW_none, errW_some, bne]; done) | (simp [*, errW_none, errW_some] <;> rfl), by (with_reducible repeat (first | apply Kd.R_alloc | apply Kd.R_drewN | apply Kd.R_drew)); exact Kd.R_mono (Kd.R_far (p := ⟨gb214, 3, none⟩) (Kd.R_far (p := ⟨gb214, 2, none⟩) (Kd.R_far (p := ⟨gb214, 1, none⟩) (Kd.R_far (p := ⟨gb214, 0, none⟩) (Kd.R_types HO223.out BK214.out (by decide)) (fun _ hk => hk.2) (.int .i64 0)) (fun _ hk => hk.2) (.int .i64 0)) (fun _ hk => hk.2) (.int .i64 0)) (fun _ hk => hk.2) (.int .i64 0)) (fun _ hk => trivial), by repeat (first | (with_reducible first | exact HB.out | apply below_alloc | apply pw_below_drewN | apply below_drew1 | refine below_set ?_ GE214.out | refine below_set ?_ GE219.out) | exact HB.out)⟩
          · rw [if_neg c34] at H
            exact absurd H (by simp)
  · rw [if_neg c3] at H
    have c3b0 : (t215 == 0) = false := beq_eq_false_iff_ne.mpr c3
    have c3b1 : (t215 != 0) = true := bne_iff_ne.mpr c3
    simp only [Option.some.injEq, Prod.mk.injEq] at H
    obtain ⟨rfl, rfl, rfl, rfl, rfl⟩ := H
    go_enter Tryd.func13, Tryd.ntmps13
    try go_wp2_with (first | ((with_reducible refine gate_dst (N := 3) rfl ?_); refine box_event ?hg (N := 3) ?hd (cs := #[.int .i64 0, .int .i64 0, .int .i64 0, .int .i64 0]) (t := 26) ?hr ?_; (case hd => rfl); (case hg => rfl); (case hr => first | (go_simp; done) | (go_simp; rfl)); intro gb214 hg w38 hbox hb; have n0_ := Aside0.mk (below_step (by repeat (first | (with_reducible first | exact HB.out | apply below_alloc | apply pw_below_drewN | apply below_drew1) | exact HB.out)) hb); have n1_ := Aside0.mk (hbox); have n2_ := Aside0.mk ((by rw [hg]; exact (below_size (by repeat (first | (with_reducible first | exact HB.out | apply below_alloc | apply pw_below_drewN | apply below_drew1) | exact HB.out))) : w.heap.size ≤ gb214)); have n3_ := Aside0.mk ((by rw [hg]; exact (below_size (by repeat (first | (with_reducible first | exact HB.out | apply below_alloc | apply pw_below_drewN | apply below_drew1) | exact HB.out))) : w.heap.size ≤ gb214)); clear HB; have HB := n0_; have BK214 := n1_; have GW214 := n2_; have GE214 := n3_; clear n0_ n1_ n2_ n3_; clear hb hbox hg) | ((with_reducible refine gate_callee (f := 31) rfl ?_); refine goesL_ (some 12) rfl rfl Tryd.func31 (by kernel_rfl) rfl #[.string a0] rfl (by (try simp only [List.map_toArray, List.map_cons, List.map_nil]); first | done | rfl | (simp only [List.length_drop, List.length_take]; rfl)) ?_; (with_reducible refine (jlex_Judge.calls k a0 t215 t216 t217 t218 _ A2.out).mono ?_); rintro e w39 ⟨rfl, hb⟩; refine ⟨_, rfl, ?_⟩; have n0_ := Aside0.mk (blk_below (g := gb214) (o := .cells #[.int .i64 0, .int .i64 0, .int .i64 0, .int .i64 0] 26 (0, 0)) (by (with_reducible repeat (first | refine blk_drewN ?_ _ | refine blk_drew ?_ | refine blk_alloc ?_ _)); exact BK214.out) hb); have n1_ := Aside0.mk (below_step (by repeat (first | (with_reducible first | exact HB.out | apply below_alloc | apply pw_below_drewN | apply below_drew1 | refine below_set ?_ GE214.out) | exact HB.out)) hb); clear BK214; clear HB; have BK214 := n0_; have HB := n1_; clear n0_ n1_; (try clear hb); (try clear hb2); (try clear hk); (try clear hi)) | ((with_reducible refine gate_dst (N := 4) rfl ?_); refine box_event ?hg (N := 4) ?hd (cs := #[.int .i64 0, .int .i64 0, .int .i64 0, .int .i64 0]) (t := 26) ?hr ?_; (case hd => rfl); (case hg => rfl); (case hr => first | (go_simp; done) | (go_simp; rfl)); intro gb219 hg w40 hbox hb; have n0_ := Aside0.mk (blk_below (g := gb214) (o := .cells #[.int .i64 0, .int .i64 0, .int .i64 0, .int .i64 0] 26 (0, 0)) (by (with_reducible repeat (first | refine blk_drewN ?_ _ | refine blk_drew ?_ | refine blk_alloc ?_ _)); exact BK214.out) hb); have n1_ := Aside0.mk (below_step (by repeat (first | (with_reducible first | exact HB.out | apply below_alloc | apply pw_below_drewN | apply below_drew1 | refine below_set ?_ GE214.out) | exact HB.out)) hb); have n2_ := Aside0.mk (hbox); have n3_ := Aside0.mk ((by rw [hg]; exact (below_size (by repeat (first | (with_reducible first | exact HB.out | apply below_alloc | apply pw_below_drewN | apply below_drew1 | refine below_set ?_ GE214.out) | exact HB.out))) : w.heap.size ≤ gb219)); have n4_ := Aside0.mk ((by rw [hg]; exact (below_size (by repeat (first | (with_reducible first | exact HB.out | apply below_alloc | apply pw_below_drewN | apply below_drew1 | refine below_set ?_ GE214.out) | exact HB.out))) : w.heap.size ≤ gb219)); have n5_ := Aside0.mk ((by rw [hg]; exact Nat.ne_of_lt (blk_lt (g := gb214) (o := .cells #[.int .i64 0, .int .i64 0, .int .i64 0, .int .i64 0] 26 (0, 0)) (by (with_reducible repeat (first | refine blk_drewN ?_ _ | refine blk_drew ?_ | refine blk_alloc ?_ _)); exact BK214.out)) : gb214 ≠ gb219)); have n6_ := Aside0.mk ((by rw [hg]; exact Nat.ne_of_gt (blk_lt (g := gb214) (o := .cells #[.int .i64 0, .int .i64 0, .int .i64 0, .int .i64 0] 26 (0, 0)) (by (with_reducible repeat (first | refine blk_drewN ?_ _ | refine blk_drew ?_ | refine blk_alloc ?_ _)); exact BK214.out)) : gb219 ≠ gb214)); clear BK214; clear HB; have BK214 := n0_; have HB := n1_; have BK219 := n2_; have GW219 := n3_; have GE219 := n4_; have NB214_219 := n5_; have NB219_214 := n6_; clear n0_ n1_ n2_ n3_ n4_ n5_ n6_; clear hb hbox hg; have hnb41 := NB219_214.out; have hnc41 := NB214_219.out; have hcz42_0 : w40.cell? ⟨gb219, 0, none⟩ = some (.int .i64 0) := (blk_cell BK219.out 0).trans rfl; have hcz42_1 : w40.cell? ⟨gb219, 1, none⟩ = some (.int .i64 0) := (blk_cell BK219.out 1).trans rfl; have hcz42_2 : w40.cell? ⟨gb219, 2, none⟩ = some (.int .i64 0) := (blk_cell BK219.out 2).trans rfl; have hcz42_3 : w40.cell? ⟨gb219, 3, none⟩ = some (.int .i64 0) := (blk_cell BK219.out 3).trans rfl; have hfz42_0 := blk_frozen BK219.out 0; have hfz42_1 := blk_frozen BK219.out 1; have hfz42_2 := blk_frozen BK219.out 2; have hfz42_3 := blk_frozen BK219.out 3))
    have n0_ : Aside0 (((((w40.setCell ⟨gb219, 0, none⟩ (.int .i64 t215)).setCell ⟨gb219, 1, none⟩ (.int .i64 t216)).setCell ⟨gb219, 2, none⟩ (.int .i64 t217)).setCell ⟨gb219, 3, none⟩ (.int .i64 t218)).heap[gb214]? = some (.cells #[.int .i64 0, .int .i64 0, .int .i64 0, .int .i64 0] 26 (0, 0))) := ⟨by (with_reducible repeat (first | refine blk_drewN ?_ _ | refine blk_drew ?_ | refine blk_alloc ?_ _)); refine blk_far ?_ NB214_219.out _; (with_reducible repeat (first | refine blk_drewN ?_ _ | refine blk_drew ?_ | refine blk_alloc ?_ _)); refine blk_far ?_ NB214_219.out _; (with_reducible repeat (first | refine blk_drewN ?_ _ | refine blk_drew ?_ | refine blk_alloc ?_ _)); refine blk_far ?_ NB214_219.out _; (with_reducible repeat (first | refine blk_drewN ?_ _ | refine blk_drew ?_ | refine blk_alloc ?_ _)); refine blk_far ?_ NB214_219.out _; (with_reducible repeat (first | refine blk_drewN ?_ _ | refine blk_drew ?_ | refine blk_alloc ?_ _)); exact BK214.out⟩
    have n1_ : Aside0 (((((w40.setCell ⟨gb219, 0, none⟩ (.int .i64 t215)).setCell ⟨gb219, 1, none⟩ (.int .i64 t216)).setCell ⟨gb219, 2, none⟩ (.int .i64 t217)).setCell ⟨gb219, 3, none⟩ (.int .i64 t218)).heap[gb219]? = some (.cells #[.int .i64 t215, .int .i64 t216, .int .i64 t217, .int .i64 t218] 26 (0, 0))) := ⟨by (with_reducible repeat (first | refine blk_drewN ?_ _ | refine blk_drew ?_ | refine blk_alloc ?_ _)); refine blk_put (cs := #[.int .i64 t215, .int .i64 t216, .int .i64 t217, .int .i64 0]) ?_ 3 _ rfl; (with_reducible repeat (first | refine blk_drewN ?_ _ | refine blk_drew ?_ | refine blk_alloc ?_ _)); refine blk_put (cs := #[.int .i64 t215, .int .i64 t216, .int .i64 0, .int .i64 0]) ?_ 2 _ rfl; (with_reducible repeat (first | refine blk_drewN ?_ _ | refine blk_drew ?_ | refine blk_alloc ?_ _)); refine blk_put (cs := #[.int .i64 t215, .int .i64 0, .int .i64 0, .int .i64 0]) ?_ 1 _ rfl; (with_reducible repeat (first | refine blk_drewN ?_ _ | refine blk_drew ?_ | refine blk_alloc ?_ _)); refine blk_put (cs := #[.int .i64 0, .int .i64 0, .int .i64 0, .int .i64 0]) ?_ 0 _ rfl; (with_reducible repeat (first | refine blk_drewN ?_ _ | refine blk_drew ?_ | refine blk_alloc ?_ _)); exact BK219.out⟩
    have n2_ : Aside0 (Below w.heap.size w ((((w40.setCell ⟨gb219, 0, none⟩ (.int .i64 t215)).setCell ⟨gb219, 1, none⟩ (.int .i64 t216)).setCell ⟨gb219, 2, none⟩ (.int .i64 t217)).setCell ⟨gb219, 3, none⟩ (.int .i64 t218))) := ⟨by repeat (first | (with_reducible first | exact HB.out | apply below_alloc | apply pw_below_drewN | apply below_drew1 | refine below_set ?_ GE214.out | refine below_set ?_ GE219.out) | exact HB.out)⟩
    (try clear BK214)
    (try clear BK219)
    (try clear HB)
    generalize ((((w40.setCell ⟨gb219, 0, none⟩ (.int .i64 t215)).setCell ⟨gb219, 1, none⟩ (.int .i64 t216)).setCell ⟨gb219, 2, none⟩ (.int .i64 t217)).setCell ⟨gb219, 3, none⟩ (.int .i64 t218)) = w43 at n0_ n1_ n2_ ⊢
    have BK214 := n0_
    have BK219 := n1_
    have HB := n2_
    clear n0_ n1_ n2_
    have n0_ := Aside0.mk (blk_drew BK214.out)
    have n1_ := Aside0.mk (blk_drew BK219.out)
    have n2_ := Aside0.mk (below_drew1 HB.out)
    clear BK214
    clear BK219
    clear HB
    have BK214 := n0_
    have BK219 := n1_
    have HB := n2_
    clear n0_ n1_ n2_
    refine start_ (n := 3) (S := fun w' => w'.cell? ⟨gb219, 0, none⟩ = some (.int .i64 t215) ∧ w'.cell? ⟨gb219, 1, none⟩ = some (.int .i64 t216) ∧ w'.cell? ⟨gb219, 2, none⟩ = some (.int .i64 t217) ∧ w'.cell? ⟨gb219, 3, none⟩ = some (.int .i64 t218)) (ds := []) #[false, false, false] (by kernel_rfl) rfl rfl ⟨(blk_cell BK219.out 0).trans rfl, (blk_cell BK219.out 1).trans rfl, (blk_cell BK219.out 2).trans rfl, (blk_cell BK219.out 3).trans rfl⟩ (fun hHeld => ?_)
    generalize w43.drew = w44 at BK214 BK219 HB hHeld ⊢
    refine pure_ (i := 1) (N := some 2) (v := ?_) (a' := ?_) #[false, true, false] rfl rfl (by kernel_rfl) (fun _ _ _ h => h) (Or.inl ⟨by rfl, ?_⟩) ?_ ?_
    rotate_left
    · intro w'
      go_simp
      with_reducible rfl
    rotate_left
    · simp only [Act.put, List.setIfInBounds_toArray, List.set_cons_zero, List.set_cons_succ, i64_w, i32_w]
      rfl
    refine take_ (i := 0) (N := some 16) (v := ?_) (a' := ?_) #[true, true, false] rfl rfl (by kernel_rfl) (fun _ _ _ h => h) (Or.inl ⟨by rfl, ?_⟩) hHeld ?_ ?_
    rotate_left
    · rintro w' ⟨s0, s1, s2, s3⟩
      go_simp
      with_reducible rfl
    rotate_left
    · simp only [Act.put, List.setIfInBounds_toArray, List.set_cons_zero, List.set_cons_succ, i64_w, i32_w]
      rfl
    refine one_ (i := 2) (N := none) #[true, true, true] rfl rfl (by kernel_rfl) (by decide) (fun K hK => ?_)
    have hs45 : w44.cell? ⟨gb214, 0, none⟩ = some (.int .i64 0) := (blk_cell BK214.out 0).trans rfl
    have hfs45 := blk_frozen BK214.out 0
    have hns45_1 := NB219_214.out
    have hms45_1 := NB214_219.out
    have hs46 : w44.cell? ⟨gb214, 1, none⟩ = some (.int .i64 0) := (blk_cell BK214.out 1).trans rfl
    have hfs46 := blk_frozen BK214.out 1
    have hns46_1 := NB219_214.out
    have hms46_1 := NB214_219.out
    have hs47 : w44.cell? ⟨gb214, 2, none⟩ = some (.int .i64 0) := (blk_cell BK214.out 2).trans rfl
    have hfs47 := blk_frozen BK214.out 2
    have hns47_1 := NB219_214.out
    have hms47_1 := NB214_219.out
    have hs48 : w44.cell? ⟨gb214, 3, none⟩ = some (.int .i64 0) := (blk_cell BK214.out 3).trans rfl
    have hfs48 := blk_frozen BK214.out 3
    have hns48_1 := NB219_214.out
    have hms48_1 := NB214_219.out
    refine skip_ (w1 := ?_) (by rfl) rfl ?_ ?_
    rotate_left
    · go_simp
      rfl
    refine hK.out _ _ ⟨((cell_far (p := ⟨gb214, _, none⟩) NB219_214.out _).trans (((cell_far (p := ⟨gb214, _, none⟩) NB219_214.out _).trans (((cell_far (p := ⟨gb214, _, none⟩) NB219_214.out _).trans (((cell_far (p := ⟨gb214, _, none⟩) NB219_214.out _).trans (hHeld.1)))))))), ((cell_far (p := ⟨gb214, _, none⟩) NB219_214.out _).trans (((cell_far (p := ⟨gb214, _, none⟩) NB219_214.out _).trans (((cell_far (p := ⟨gb214, _, none⟩) NB219_214.out _).trans (((cell_far (p := ⟨gb214, _, none⟩) NB219_214.out _).trans (hHeld.2.1)))))))), ((cell_far (p := ⟨gb214, _, none⟩) NB219_214.out _).trans (((cell_far (p := ⟨gb214, _, none⟩) NB219_214.out _).trans (((cell_far (p := ⟨gb214, _, none⟩) NB219_214.out _).trans (((cell_far (p := ⟨gb214, _, none⟩) NB219_214.out _).trans (hHeld.2.2.1)))))))), ((cell_far (p := ⟨gb214, _, none⟩) NB219_214.out _).trans (((cell_far (p := ⟨gb214, _, none⟩) NB219_214.out _).trans (((cell_far (p := ⟨gb214, _, none⟩) NB219_214.out _).trans (((cell_far (p := ⟨gb214, _, none⟩) NB219_214.out _).trans (hHeld.2.2.2))))))))⟩ (fun hHeld => ?_)
    clear hK K
    refine done_ (by kernel_rfl) ?_
    try go_wp2
    refine bodyPost_ret (results_tc rfl _ _ gb214 26 #[.int .i64 t215, .int .i64 t216, .int .i64 t217, .int .i64 t218] (0, 0) _ rfl (by (with_reducible repeat (first | refine blk_drewN ?_ _ | refine blk_drew ?_ | refine blk_alloc ?_ _)); refine blk_put (cs := #[.int .i64 t215, .int .i64 t216, .int .i64 t217, .int .i64 0]) ?_ 3 _ rfl; (with_reducible repeat (first | refine blk_drewN ?_ _ | refine blk_drew ?_ | refine blk_alloc ?_ _)); refine blk_put (cs := #[.int .i64 t215, .int .i64 t216, .int .i64 0, .int .i64 0]) ?_ 2 _ rfl; (with_reducible repeat (first | refine blk_drewN ?_ _ | refine blk_drew ?_ | refine blk_alloc ?_ _)); refine blk_put (cs := #[.int .i64 t215, .int .i64 0, .int .i64 0, .int .i64 0]) ?_ 1 _ rfl; (with_reducible repeat (first | refine blk_drewN ?_ _ | refine blk_drew ?_ | refine blk_alloc ?_ _)); refine blk_put (cs := #[.int .i64 0, .int .i64 0, .int .i64 0, .int .i64 0]) ?_ 0 _ rfl; (with_reducible repeat (first | refine blk_drewN ?_ _ | refine blk_drew ?_ | refine blk_alloc ?_ _)); exact BK214.out) Tryd.underlying26 rfl (by kernel_rfl)) rfl ?_
    exact ⟨_, by first | rfl | (simp [errW_none, errW_some] <;> rfl) | (simp [*, errW_none, errW_some, bne]; done) | (simp [*, errW_none, errW_some] <;> rfl), by first | exact Kd.R_nil _ _ _ _ _ | exact Kd.N_nil _ _ _ _ _ | exact Kd.V_nil _ _ _ _ _ | exact Kd.Q_nil _ _ _ _ _ | exact Kd.S_nil _ _ _ _ _, by repeat (first | (with_reducible first | exact HB.out | apply below_alloc | apply pw_below_drewN | apply below_drew1 | refine below_set ?_ GE214.out | refine below_set ?_ GE219.out) | exact HB.out)⟩
end Go.Proofs.YtoanbmggffkmgaaDoor.P
end
section
namespace Go.Proofs.YtoanbmggffkmgaaDoor.P
open Go.RowKit Go.Proofs.YtoanbmggffkmgaaDoorW.PrintWords Go.Proofs.YtoanbmggffkmgaaDoorW.PrintLast Go.Proofs.YtoanbmggffkmgaaDoorW.PrintMore
attribute [local go_sem] max2_int min2_int max_two min_two max_three min_three max_four min_four   -- for this text's walks alone
set_option linter.unusedVariables false
set_option linter.unusedSimpArgs false
theorem eqA26 (d : Nat) (w : World) (x0 y0 : Int) (x1 y1 : Int) (x2 y2 : Int) (x3 y3 : Int) :
    (Op.equalIn (d + 2) 26 (.agg #[.int .i64 x0, .int .i64 x1, .int .i64 x2, .int .i64 x3]) (.agg #[.int .i64 y0, .int .i64 y1, .int .i64 y2, .int .i64 y3])).run Tryd.prog w = .ok (x0 == y0 && (x1 == y1 && (x2 == y2 && (x3 == y3)))) w := by
  refine eqA_of Tryd.underlying26 (by kernel_rfl) ?_
  refine eqf_cons (by rfl) (by go_simp; rfl) (by go_simp; rfl) (by go_simp) ?_
  refine eqf_cons (by rfl) (by go_simp; rfl) (by go_simp; rfl) (by go_simp) ?_
  refine eqf_cons (by rfl) (by go_simp; rfl) (by go_simp; rfl) (by go_simp) ?_
  exact eqf_last (by rfl) (by go_simp; rfl) (by go_simp; rfl) (by go_simp)
end Go.Proofs.YtoanbmggffkmgaaDoor.P
end
section
namespace Go.Proofs.YtoanbmggffkmgaaDoor.P
open Go.RowKit Go.Proofs.YtoanbmggffkmgaaDoorW.PrintWords Go.Proofs.YtoanbmggffkmgaaDoorW.PrintLast Go.Proofs.YtoanbmggffkmgaaDoorW.PrintMore
attribute [local go_sem] max2_int min2_int max_two min_two max_three min_three max_four min_four   -- for this text's walks alone
set_option linter.unusedVariables false
set_option linter.unusedSimpArgs false
theorem eqA30 (d : Nat) (w : World) (x0 y0 : Int) (x1 y1 : ByteArray) (x2 y2 : Int) :
    (Op.equalIn (d + 2) 30 (.agg #[.int .i64 x0, .string x1, .int .i64 x2]) (.agg #[.int .i64 y0, .string y1, .int .i64 y2])).run Tryd.prog w = .ok (x0 == y0 && (x1.toList == y1.toList && (x2 == y2))) w := by
  refine eqA_of Tryd.underlying30 (by kernel_rfl) ?_
  refine eqf_cons (by rfl) (by go_simp; rfl) (by go_simp; rfl) (by go_simp) ?_
  refine eqf_cons (by rfl) (by go_simp; rfl) (by go_simp; rfl) (by go_simp) ?_
  exact eqf_last (by rfl) (by go_simp; rfl) (by go_simp; rfl) (by go_simp)
end Go.Proofs.YtoanbmggffkmgaaDoor.P
end
section
namespace Go.Proofs.YtoanbmggffkmgaaDoor.P
open Go.RowKit Go.Proofs.YtoanbmggffkmgaaDoorW.PrintWords Go.Proofs.YtoanbmggffkmgaaDoorW.PrintLast Go.Proofs.YtoanbmggffkmgaaDoorW.PrintMore
attribute [local go_sem high] eqA26 eqA30
theorem awake7_1 : jlex_Cut.f 20 (⟨#[91, 49, 93]⟩ : ByteArray) = some ([⟨1, ⟨#[91]⟩, 0⟩, ⟨3, ⟨#[49]⟩, 1⟩, ⟨1, ⟨#[93]⟩, 2⟩, ⟨0, ⟨#[]⟩, 3⟩], 0, 0, 0, 0) := by kernel_rfl
theorem awake7_2 : jlex_Cut.f 20 (⟨#[32, 64]⟩ : ByteArray) = some ([], 4, 1, 1, 2) := by kernel_rfl
set_option maxHeartbeats 4000000 in
theorem awake7_walk (w : World) : Calls Tryd.prog 12 #[] w fun e w' => e = .returned (.bool true) ∧ Below w.heap.size w w' := by
  go_enter Tryd.func12, Tryd.ntmps12
  go_wp2_with fail
  refine (jlex_Cut.calls 20 _ _ _ _ _ _ _ awake7_1).mono ?_
  rintro e w1 ⟨v1, rfl, hR1, hb1⟩
  go_wp2_with fail
  refine (jlex_Cut.calls 20 _ _ _ _ _ _ _ awake7_2).mono ?_
  rintro e w2 ⟨v2, rfl, hR2, hb2⟩
  have hbk := hb2.block w1.heap.size (by simp)
  rw [show (w1.alloc (.cells #[.int .i64 0, .int .i64 0, .int .i64 0, .int .i64 0] 26)).heap[w1.heap.size]? = some (.cells #[.int .i64 0, .int .i64 0, .int .i64 0, .int .i64 0] 26 (0, 0)) from by simpa using heap_alloc_new w1 _] at hbk
  have hB2 : Below w1.heap.size w1 w2 := below_step (below_alloc (Below.refl _ _) _) hb2
  have hR3 := Kd.R_below hR1 hB2
  have hlt : w1.heap.size < w2.heap.size := by have := hb2.size; simp at this; omega
  have z0 : w2.cell? ⟨w1.heap.size, 0, none⟩ = some (.int .i64 0) := (blk_cell hbk 0).trans rfl
  have z1 : w2.cell? ⟨w1.heap.size, 1, none⟩ = some (.int .i64 0) := (blk_cell hbk 1).trans rfl
  have z2 : w2.cell? ⟨w1.heap.size, 2, none⟩ = some (.int .i64 0) := (blk_cell hbk 2).trans rfl
  have z3 : w2.cell? ⟨w1.heap.size, 3, none⟩ = some (.int .i64 0) := (blk_cell hbk 3).trans rfl
  have hR4 := Kd.R_below hR3 (below_alloc (Below.refl w2.heap.size w2) (.cells #[.int .i64 4, .int .i64 1, .int .i64 1, .int .i64 2] 26))
  obtain ⟨A, c, rfl, hl, hC⟩ := Kd.R_reads hR4
  obtain ⟨ad, rfl, x0, x1, x2⟩ := at_T30 hC 1 (by decide) (by decide)
  obtain ⟨ad', e', y0, y1, y2⟩ := at_T30 hC 3 (by decide) (by decide)
  obtain rfl := Option.some.inj e'
  have hB4 := below_alloc (below_step hb1 hB2) (.cells #[.int .i64 4, .int .i64 1, .int .i64 1, .int .i64 2] 26)
  generalize hW : w2.alloc (.cells #[.int .i64 4, .int .i64 1, .int .i64 1, .int .i64 2] 26) = W at x0 x1 x2 y0 y1 y2 hB4
  replace x0 : W.cell? ⟨ad.block, ad.off + 3, none⟩ = some (.int .i64 3) := x0
  replace x1 : W.cell? ⟨ad.block, ad.off + 3 + 1, none⟩ = some (.string ⟨#[49]⟩) := x1
  replace x2 : W.cell? ⟨ad.block, ad.off + 3 + 2, none⟩ = some (.int .i64 1) := x2
  replace y0 : W.cell? ⟨ad.block, ad.off + 9, none⟩ = some (.int .i64 0) := y0
  replace y1 : W.cell? ⟨ad.block, ad.off + 9 + 1, none⟩ = some (.string ⟨#[]⟩) := y1
  replace y2 : W.cell? ⟨ad.block, ad.off + 9 + 2, none⟩ = some (.int .i64 3) := y2
  rw [← hW] at x0 x1 x2 y0 y1 y2 hB4
  clear hW hR1 hR2 hR3 hR4 hC hbk hb2 hb1 hB2
  go_wp2
  go_ret
  exact ⟨rfl, by first | exact hB4 | exact pw_below_drewN hB4 _⟩
def dragomanlaw7_awake.f : Option Bool := some true
theorem dragomanlaw7_awake.calls (r : Bool) (w : World) (h : dragomanlaw7_awake.f = some r) : Calls Tryd.prog 12 #[] w fun e w' => e = .returned (.bool r) ∧ Below w.heap.size w w' := by
  obtain rfl : true = r := Option.some.inj h
  exact awake7_walk w
end Go.Proofs.YtoanbmggffkmgaaDoor.P
end
