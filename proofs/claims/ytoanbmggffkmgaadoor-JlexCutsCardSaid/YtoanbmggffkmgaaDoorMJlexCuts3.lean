/- The parts of this claim's proof, in one text: what each Go function answers and that its call comes to it; plain facts of lists of numbers. The lemmas in the namespaces of the words (PrintWords, PrintLast, PrintMore) come of the texts that the kit's printer lays for the seat; those that are reached. Conditions as each theorem names them. -/
import Derived.ArgAppend
import Derived.Below
import Derived.BigQuiet
import Derived.Deep.AppendLies
import Derived.Deep.CutBlock
import Derived.Deep.DeepCutAuto
import Derived.Deep.Draws
import Derived.Deep.LoopGhost
import Derived.Deep.OwnRows
import Derived.Deep.QuietTactic
import Derived.Deep.RegionHeld3
import Derived.KernelRfl
import Derived.Laws.BitsLemmas
import Derived.Laws.BytesArg
import Derived.Laws.IdiomCopy
import Derived.Laws.MakeOwn
import Derived.Laws.OwnMore
import Derived.Laws.Rows
import Derived.Laws.Slices
import Derived.Laws.StructEq
import Derived.Lib.AppendStr
import Derived.Lib.Bytealg
import Derived.Lib.Bytes
import Derived.Lib.ConvBytes
import Derived.Lib.Hide
import Derived.Maps.AppendAt
import Derived.OrdersHeld
import Derived.Outline
import Derived.OwnWalk
import Derived.RowKit
import Derived.RowKit3
import Derived.Shelf.Bits.Mul64
import Derived.Shelf.LaysM
import Derived.Shelf.Small.Strs
import Derived.Shelf.Small.Utf8
import Derived.Shelf.Strings.AsciiSet
import Derived.Shelf.Strings.Builder1
import Derived.Shelf.Strings.Builder2
import Derived.Shelf.Strings.Builder2Cap
import Derived.Shelf.Strings.BuilderF
import Derived.Shelf.Strings.BuilderK
import Derived.Shelf.Strings.Count
import Derived.Shelf.Strings.IndexAny
import Derived.Shelf.Strings.IndexAnyAll
import Derived.Shelf.Strings.LastIndex
import Derived.Shelf.Strings.Prefix
import Derived.Shelf.Strings.Repeat
import Derived.Shelf.Strings.RuneCount
import Derived.Shelf.Strings.Runes
import Derived.Shelf.Strings.Search1
import Derived.Shelf.Strings.Search2
import Derived.Shelf.Strings.Search3
import Derived.Shelf.Strings.Shaped
import Derived.Shelf.Strings.SlTrimAscii
import Derived.Shelf.Strings.Split
import Derived.Shelf.Strings.Trim
import Derived.Shelf.Unicode.Decode
import Derived.Shelf.Unicode.DecodeAny
import Derived.Shelf.Unicode.DecodeSlow
import Derived.Shelf.Utf8.RuneCount
import Derived.Tactics
import Derived.WalkKit
import Derived.WideLaws
import Derived.Test.YtoanbmggffkmgaaDoorProg
import Derived.Test.YtoanbmggffkmgaaDoorMJlexCuts1
import Derived.Test.YtoanbmggffkmgaaDoorMJlexCuts2
section
namespace Go.Proofs.YtoanbmggffkmgaaDoor.P
open Go.RowKit Go.Proofs.YtoanbmggffkmgaaDoorW.PrintWords Go.Proofs.YtoanbmggffkmgaaDoorW.PrintLast Go.Proofs.YtoanbmggffkmgaaDoorW.PrintMore
attribute [local go_sem] max2_int min2_int max_two min_two max_three min_three max_four min_four   -- for this text's walks alone
attribute [-simp] ByteArray.size_extract
set_option linter.unusedVariables false
set_option linter.unusedSimpArgs false
/-! ### dec_parse: function 100 -/
mutual
def dec_parse.j0 : Nat → ByteArray → Bool → Int → Bool → Option (Bool × ByteArray × Int × Bool)
 | 0, _, _, _, _ => none
 | k + 1, x4, x5, x6, x35 => if x35 = true then (some (false, (⟨#[]⟩ : ByteArray), 0, false)) else (if 0 ≤ x6 then (if x6 ≤ (x4.size : Int) then ((strings_HasPrefix.f (x4.extract (x6 : Int).toNat x4.size) (⟨#[46]⟩ : ByteArray)).bind fun t188 => (if t188 = true then (if 1 ≤ ((x4.extract (x6 : Int).toNat x4.size).size : Int) then ((dec_digits.f k ((x4.extract (x6 : Int).toNat x4.size).extract 1 (x4.extract (x6 : Int).toNat x4.size).size)).bind fun t189 => (if t189 = 0 then (some (false, (⟨#[]⟩ : ByteArray), 0, false)) else (if 1 ≤ (wrap64 (t189 + 1)) then (if (wrap64 (t189 + 1)) ≤ ((x4.extract (x6 : Int).toNat x4.size).size : Int) then (if 0 ≤ (wrap64 (t189 + 1)) then (dec_parse.j1 k ((x4.extract (x6 : Int).toNat x4.size).extract ((wrap64 (t189 + 1)) : Int).toNat (x4.extract (x6 : Int).toNat x4.size).size) x5 (x4.extract 0 (x6 : Int).toNat) ((x4.extract (x6 : Int).toNat x4.size).extract 1 ((wrap64 (t189 + 1)) : Int).toNat) 0) else (none)) else (none)) else (none)))) else (none)) else (dec_parse.j1 k (x4.extract (x6 : Int).toNat x4.size) x5 (x4.extract 0 (x6 : Int).toNat) (⟨#[]⟩ : ByteArray) 0))) else (none)) else (none))
def dec_parse.j1 : Nat → ByteArray → Bool → ByteArray → ByteArray → Int → Option (Bool × ByteArray × Int × Bool)
 | 0, _, _, _, _, _ => none
 | k + 1, x4, x5, x7, x8, x9 => if x4.toList = ([] : List UInt8) then (dec_parse.j3 k x5 x7 x8 x9) else (if 0 < (x4.size : Int) then (if (bt x4 0) = 101 then (dec_parse.j2 k x4 x5 x7 x8 false) else (dec_parse.j2 k x4 x5 x7 x8 ((bt x4 0) != 69))) else (none))
def dec_parse.j3 : Nat → Bool → ByteArray → ByteArray → Int → Option (Bool × ByteArray × Int × Bool)
 | 0, _, _, _, _ => none
 | k + 1, x5, x7, x8, x9 => if x7.size + x8.size ≤ 9223372036854775807 then ((strings_TrimLeft.f (x7 ++ x8) (⟨#[48]⟩ : ByteArray)).bind fun t192 => (if t192.toList = ([] : List UInt8) then (some (false, (⟨#[]⟩ : ByteArray), 0, true)) else ((strings_TrimRight.f t192 (⟨#[48]⟩ : ByteArray)).bind fun t193 => (some (x5, t193, wrap64 (x9 + (wrap64 (((x7.size : Int) - 1) - (wrap64 (((x7.size : Int) + (x8.size : Int)) - (t192.size : Int)))))), true))))) else (none)
def dec_parse.j2 : Nat → ByteArray → Bool → ByteArray → ByteArray → Bool → Option (Bool × ByteArray × Int × Bool)
 | 0, _, _, _, _, _ => none
 | k + 1, x4, x5, x7, x8, x68 => if x68 = true then (some (false, (⟨#[]⟩ : ByteArray), 0, false)) else (if 1 ≤ (x4.size : Int) then ((dec_power.f (x4.extract 1 x4.size)).bind fun bt190 => (if bt190.2 = true then (dec_parse.j3 k x5 x7 x8 bt190.1) else (some (false, (⟨#[]⟩ : ByteArray), 0, false)))) else (none))
end
def dec_parse.f (k : Nat) (a0 : ByteArray) : Option (Bool × ByteArray × Int × Bool) := if (a0.size : Int) > 400 then (some (false, (⟨#[]⟩ : ByteArray), 0, false)) else ((strings_CutPrefix.f a0 (⟨#[45]⟩ : ByteArray)).bind fun bt185 => ((dec_digits.f k bt185.1).bind fun t187 => (if t187 = 0 then (dec_parse.j0 k bt185.1 bt185.2 t187 true) else (if t187 > 1 then (if 0 < (bt185.1.size : Int) then (dec_parse.j0 k bt185.1 bt185.2 t187 ((bt bt185.1 0) == 48)) else (none)) else (dec_parse.j0 k bt185.1 bt185.2 t187 false)))))
set_option maxHeartbeats 8000000 in
set_option maxRecDepth 100000 in
theorem dec_parse.calls (k : Nat) (a0 : ByteArray) (r1 : Bool) (r2 : ByteArray) (r3 : Int) (r4 : Bool) (w : World) (h : dec_parse.f k a0 = some (r1, r2, r3, r4)) :
  Calls Tryd.prog 100 #[.string a0] w fun e w' => e = .returned (.tuple #[.agg #[.bool r1, .string r2, .int .i64 r3], .bool r4]) ∧ Below w.heap.size w w' := by
 have hu121 := Tryd.underlying121
 have HB := Aside0.mk (Below.refl w.heap.size w)
 have H : (if (a0.size : Int) > 400 then (some (false, (⟨#[]⟩ : ByteArray), 0, false)) else ((strings_CutPrefix.f a0 (⟨#[45]⟩ : ByteArray)).bind fun bt185 => ((dec_digits.f k bt185.1).bind fun t187 => (if t187 = 0 then (dec_parse.j0 k bt185.1 bt185.2 t187 true) else (if t187 > 1 then (if 0 < (bt185.1.size : Int) then (dec_parse.j0 k bt185.1 bt185.2 t187 ((bt bt185.1 0) == 48)) else (none)) else (dec_parse.j0 k bt185.1 bt185.2 t187 false)))))) = some (r1, r2, r3, r4) := h
 clear h
 by_cases c2 : (a0.size : Int) > 400
 ·rw [if_pos c2] at H
  have c2b0 : decide (400 < (a0.size : Int)) = true := decide_eq_true c2
  have c2b1 : decide (400 < a0.size) = true := decide_eq_true (by omega)
  clear c2
  simp only [Option.some.injEq, Prod.mk.injEq] at H
  obtain ⟨rfl, rfl, rfl, rfl⟩ := H
  go_enter Tryd.func100, Tryd.ntmps100
  go_wp2_with (first | ((with_reducible refine gate_dst (N := 2) rfl ?_); refine box_event ?hg (N := 2) ?hd (cs := #[.bool false, .string (⟨#[]⟩ : ByteArray), .int .i64 0]) (t := 121) ?hr ?_; (case hd => rfl); (case hg => rfl); (case hr => first | (go_simp; done) | (go_simp; rfl)); intro gb184 hg w3 hbox hb; have n0_ := Aside0.mk (below_step (by repeat (first | (with_reducible first | exact HB.out | apply below_alloc | apply pw_below_drewN | apply below_drew1) | exact HB.out)) hb); have n1_ := Aside0.mk (hbox); have n2_ := Aside0.mk ((by rw [hg]; exact (below_size (by repeat (first | (with_reducible first | exact HB.out | apply below_alloc | apply pw_below_drewN | apply below_drew1) | exact HB.out))) : w.heap.size ≤ gb184)); have n3_ := Aside0.mk ((by rw [hg]; exact (below_size (by repeat (first | (with_reducible first | exact HB.out | apply below_alloc | apply pw_below_drewN | apply below_drew1) | exact HB.out))) : w.heap.size ≤ gb184)); clear HB; have HB := n0_; have BK184 := n1_; have GW184 := n2_; have GE184 := n3_; clear n0_ n1_ n2_ n3_; clear hb hbox hg; have hcz4_0 : w3.cell? ⟨gb184, 0, none⟩ = some (.bool false) := (blk_cell BK184.out 0).trans rfl; have hcz4_1 : w3.cell? ⟨gb184, 1, none⟩ = some (.string (⟨#[]⟩ : ByteArray)) := (blk_cell BK184.out 1).trans rfl; have hcz4_2 : w3.cell? ⟨gb184, 2, none⟩ = some (.int .i64 0) := (blk_cell BK184.out 2).trans rfl; have hfz4_0 := blk_frozen BK184.out 0; have hfz4_1 := blk_frozen BK184.out 1; have hfz4_2 := blk_frozen BK184.out 2))
  repeat (go_quiet (first | ((with_reducible refine gate_dst (N := 2) rfl ?_); refine box_event ?hg (N := 2) ?hd (cs := #[.bool false, .string (⟨#[]⟩ : ByteArray), .int .i64 0]) (t := 121) ?hr ?_; (case hd => rfl); (case hg => rfl); (case hr => first | (go_simp; done) | (go_simp; rfl)); intro gb184 hg w3 hbox hb; have n0_ := Aside0.mk (below_step (by repeat (first | (with_reducible first | exact HB.out | apply below_alloc | apply pw_below_drewN | apply below_drew1) | exact HB.out)) hb); have n1_ := Aside0.mk (hbox); have n2_ := Aside0.mk ((by rw [hg]; exact (below_size (by repeat (first | (with_reducible first | exact HB.out | apply below_alloc | apply pw_below_drewN | apply below_drew1) | exact HB.out))) : w.heap.size ≤ gb184)); have n3_ := Aside0.mk ((by rw [hg]; exact (below_size (by repeat (first | (with_reducible first | exact HB.out | apply below_alloc | apply pw_below_drewN | apply below_drew1) | exact HB.out))) : w.heap.size ≤ gb184)); clear HB; have HB := n0_; have BK184 := n1_; have GW184 := n2_; have GE184 := n3_; clear n0_ n1_ n2_ n3_; clear hb hbox hg; have hcz4_0 : w3.cell? ⟨gb184, 0, none⟩ = some (.bool false) := (blk_cell BK184.out 0).trans rfl; have hcz4_1 : w3.cell? ⟨gb184, 1, none⟩ = some (.string (⟨#[]⟩ : ByteArray)) := (blk_cell BK184.out 1).trans rfl; have hcz4_2 : w3.cell? ⟨gb184, 2, none⟩ = some (.int .i64 0) := (blk_cell BK184.out 2).trans rfl; have hfz4_0 := blk_frozen BK184.out 0; have hfz4_1 := blk_frozen BK184.out 1; have hfz4_2 := blk_frozen BK184.out 2)); try go_wp2_with (first | ((with_reducible refine gate_dst (N := 2) rfl ?_); refine box_event ?hg (N := 2) ?hd (cs := #[.bool false, .string (⟨#[]⟩ : ByteArray), .int .i64 0]) (t := 121) ?hr ?_; (case hd => rfl); (case hg => rfl); (case hr => first | (go_simp; done) | (go_simp; rfl)); intro gb184 hg w3 hbox hb; have n0_ := Aside0.mk (below_step (by repeat (first | (with_reducible first | exact HB.out | apply below_alloc | apply pw_below_drewN | apply below_drew1) | exact HB.out)) hb); have n1_ := Aside0.mk (hbox); have n2_ := Aside0.mk ((by rw [hg]; exact (below_size (by repeat (first | (with_reducible first | exact HB.out | apply below_alloc | apply pw_below_drewN | apply below_drew1) | exact HB.out))) : w.heap.size ≤ gb184)); have n3_ := Aside0.mk ((by rw [hg]; exact (below_size (by repeat (first | (with_reducible first | exact HB.out | apply below_alloc | apply pw_below_drewN | apply below_drew1) | exact HB.out))) : w.heap.size ≤ gb184)); clear HB; have HB := n0_; have BK184 := n1_; have GW184 := n2_; have GE184 := n3_; clear n0_ n1_ n2_ n3_; clear hb hbox hg; have hcz4_0 : w3.cell? ⟨gb184, 0, none⟩ = some (.bool false) := (blk_cell BK184.out 0).trans rfl; have hcz4_1 : w3.cell? ⟨gb184, 1, none⟩ = some (.string (⟨#[]⟩ : ByteArray)) := (blk_cell BK184.out 1).trans rfl; have hcz4_2 : w3.cell? ⟨gb184, 2, none⟩ = some (.int .i64 0) := (blk_cell BK184.out 2).trans rfl; have hfz4_0 := blk_frozen BK184.out 0; have hfz4_1 := blk_frozen BK184.out 1; have hfz4_2 := blk_frozen BK184.out 2)))
  refine bodyPost_ret (results_ct rfl _ _ gb184 121 #[.bool false, .string (⟨#[]⟩ : ByteArray), .int .i64 0] (0, 0) _ rfl (by (with_reducible repeat (first | refine blk_drewN ?_ _ | refine blk_drew ?_ | refine blk_alloc ?_ _)); refine blk_put (cs := #[.bool false, .string (⟨#[]⟩ : ByteArray), .int .i64 0]) ?_ 2 _ rfl; (with_reducible repeat (first | refine blk_drewN ?_ _ | refine blk_drew ?_ | refine blk_alloc ?_ _)); refine blk_put (cs := #[.bool false, .string (⟨#[]⟩ : ByteArray), .int .i64 0]) ?_ 1 _ rfl; (with_reducible repeat (first | refine blk_drewN ?_ _ | refine blk_drew ?_ | refine blk_alloc ?_ _)); refine blk_put (cs := #[.bool false, .string (⟨#[]⟩ : ByteArray), .int .i64 0]) ?_ 0 _ rfl; (with_reducible repeat (first | refine blk_drewN ?_ _ | refine blk_drew ?_ | refine blk_alloc ?_ _)); exact BK184.out) Tryd.underlying121 rfl (by kernel_rfl)) rfl ?_
  exact ⟨by first | rfl | (simp [errW_none, errW_some] <;> rfl) | (simp [*, errW_none, errW_some, bne]; done) | (simp [*, errW_none, errW_some] <;> rfl), by repeat (first | (with_reducible first | exact HB.out | apply below_alloc | apply pw_below_drewN | apply below_drew1 | refine below_set ?_ GE184.out) | exact HB.out)⟩
 ·rw [if_neg c2] at H
  have c2b0 : decide (400 < (a0.size : Int)) = false := decide_eq_false c2
  have c2b1 : decide (400 < a0.size) = false := decide_eq_false (by omega)
  clear c2
  replace H := Option.bind_eq_some_iff.mp H
  obtain ⟨⟨t185, t186⟩, A50, H⟩ := H
  replace H : ((dec_digits.f k t185).bind fun t187 => (if t187 = 0 then (dec_parse.j0 k t185 t186 t187 true) else (if t187 > 1 then (if 0 < (t185.size : Int) then (dec_parse.j0 k t185 t186 t187 ((bt t185 0) == 48)) else (none)) else (dec_parse.j0 k t185 t186 t187 false)))) = some (r1, r2, r3, r4) := H
  have A5 := Aside0.mk A50
  clear A50
  replace H := Option.bind_eq_some_iff.mp H
  obtain ⟨t187, A60, H⟩ := H
  replace H : (if t187 = 0 then (dec_parse.j0 k t185 t186 t187 true) else (if t187 > 1 then (if 0 < (t185.size : Int) then (dec_parse.j0 k t185 t186 t187 ((bt t185 0) == 48)) else (none)) else (dec_parse.j0 k t185 t186 t187 false))) = some (r1, r2, r3, r4) := H
  have A6 := Aside0.mk A60
  clear A60
  have HC7 := Aside0.mk H
  clear H
  go_enter Tryd.func100, Tryd.ntmps100
  go_upto_region 5 with (first | ((with_reducible refine gate_dst (N := 2) rfl ?_); refine box_event ?hg (N := 2) ?hd (cs := #[.bool false, .string (⟨#[]⟩ : ByteArray), .int .i64 0]) (t := 121) ?hr ?_; (case hd => rfl); (case hg => rfl); (case hr => first | (go_simp; done) | (go_simp; rfl)); intro gb184 hg w8 hbox hb; have n0_ := Aside0.mk (below_step (by repeat (first | (with_reducible first | exact HB.out | apply below_alloc | apply pw_below_drewN | apply below_drew1) | exact HB.out)) hb); have n1_ := Aside0.mk (hbox); have n2_ := Aside0.mk ((by rw [hg]; exact (below_size (by repeat (first | (with_reducible first | exact HB.out | apply below_alloc | apply pw_below_drewN | apply below_drew1) | exact HB.out))) : w.heap.size ≤ gb184)); have n3_ := Aside0.mk ((by rw [hg]; exact (below_size (by repeat (first | (with_reducible first | exact HB.out | apply below_alloc | apply pw_below_drewN | apply below_drew1) | exact HB.out))) : w.heap.size ≤ gb184)); clear HB; have HB := n0_; have BK184 := n1_; have GW184 := n2_; have GE184 := n3_; clear n0_ n1_ n2_ n3_; clear hb hbox hg) | (go_at_call 111; (with_reducible refine (strings_CutPrefix.calls a0 (⟨#[45]⟩ : ByteArray) t185 t186 _ A5.out).mono ?_); rintro e w' ⟨rfl, ⟨nd, rfl⟩⟩; (try first | exact ⟨rfl, _, World.drewN_drewN _ _ _⟩ | exact ⟨rfl, _, Eq.trans (World.drewN_drewN _ _ _) (congrArg (World.drewN _) (Nat.add_assoc _ _ _))⟩)) | (go_at_call 112; (with_reducible refine (dec_digits.calls k t185 t187 _ A6.out).mono ?_); rintro e w' ⟨rfl, ⟨nd, rfl⟩⟩; (try first | exact ⟨rfl, _, World.drewN_drewN _ _ _⟩ | exact ⟨rfl, _, Eq.trans (World.drewN_drewN _ _ _) (congrArg (World.drewN _) (Nat.add_assoc _ _ _))⟩)))
  repeat (go_quiet (first | ((with_reducible refine gate_dst (N := 2) rfl ?_); refine box_event ?hg (N := 2) ?hd (cs := #[.bool false, .string (⟨#[]⟩ : ByteArray), .int .i64 0]) (t := 121) ?hr ?_; (case hd => rfl); (case hg => rfl); (case hr => first | (go_simp; done) | (go_simp; rfl)); intro gb184 hg w8 hbox hb; have n0_ := Aside0.mk (below_step (by repeat (first | (with_reducible first | exact HB.out | apply below_alloc | apply pw_below_drewN | apply below_drew1) | exact HB.out)) hb); have n1_ := Aside0.mk (hbox); have n2_ := Aside0.mk ((by rw [hg]; exact (below_size (by repeat (first | (with_reducible first | exact HB.out | apply below_alloc | apply pw_below_drewN | apply below_drew1) | exact HB.out))) : w.heap.size ≤ gb184)); have n3_ := Aside0.mk ((by rw [hg]; exact (below_size (by repeat (first | (with_reducible first | exact HB.out | apply below_alloc | apply pw_below_drewN | apply below_drew1) | exact HB.out))) : w.heap.size ≤ gb184)); clear HB; have HB := n0_; have BK184 := n1_; have GW184 := n2_; have GE184 := n3_; clear n0_ n1_ n2_ n3_; clear hb hbox hg) | (go_at_call 111; (with_reducible refine (strings_CutPrefix.calls a0 (⟨#[45]⟩ : ByteArray) t185 t186 _ A5.out).mono ?_); rintro e w' ⟨rfl, ⟨nd, rfl⟩⟩; (try first | exact ⟨rfl, _, World.drewN_drewN _ _ _⟩ | exact ⟨rfl, _, Eq.trans (World.drewN_drewN _ _ _) (congrArg (World.drewN _) (Nat.add_assoc _ _ _))⟩)) | (go_at_call 112; (with_reducible refine (dec_digits.calls k t185 t187 _ A6.out).mono ?_); rintro e w' ⟨rfl, ⟨nd, rfl⟩⟩; (try first | exact ⟨rfl, _, World.drewN_drewN _ _ _⟩ | exact ⟨rfl, _, Eq.trans (World.drewN_drewN _ _ _) (congrArg (World.drewN _) (Nat.add_assoc _ _ _))⟩))); go_upto_region 5 with (first | ((with_reducible refine gate_dst (N := 2) rfl ?_); refine box_event ?hg (N := 2) ?hd (cs := #[.bool false, .string (⟨#[]⟩ : ByteArray), .int .i64 0]) (t := 121) ?hr ?_; (case hd => rfl); (case hg => rfl); (case hr => first | (go_simp; done) | (go_simp; rfl)); intro gb184 hg w8 hbox hb; have n0_ := Aside0.mk (below_step (by repeat (first | (with_reducible first | exact HB.out | apply below_alloc | apply pw_below_drewN | apply below_drew1) | exact HB.out)) hb); have n1_ := Aside0.mk (hbox); have n2_ := Aside0.mk ((by rw [hg]; exact (below_size (by repeat (first | (with_reducible first | exact HB.out | apply below_alloc | apply pw_below_drewN | apply below_drew1) | exact HB.out))) : w.heap.size ≤ gb184)); have n3_ := Aside0.mk ((by rw [hg]; exact (below_size (by repeat (first | (with_reducible first | exact HB.out | apply below_alloc | apply pw_below_drewN | apply below_drew1) | exact HB.out))) : w.heap.size ≤ gb184)); clear HB; have HB := n0_; have BK184 := n1_; have GW184 := n2_; have GE184 := n3_; clear n0_ n1_ n2_ n3_; clear hb hbox hg) | (go_at_call 111; (with_reducible refine (strings_CutPrefix.calls a0 (⟨#[45]⟩ : ByteArray) t185 t186 _ A5.out).mono ?_); rintro e w' ⟨rfl, ⟨nd, rfl⟩⟩; (try first | exact ⟨rfl, _, World.drewN_drewN _ _ _⟩ | exact ⟨rfl, _, Eq.trans (World.drewN_drewN _ _ _) (congrArg (World.drewN _) (Nat.add_assoc _ _ _))⟩)) | (go_at_call 112; (with_reducible refine (dec_digits.calls k t185 t187 _ A6.out).mono ?_); rintro e w' ⟨rfl, ⟨nd, rfl⟩⟩; (try first | exact ⟨rfl, _, World.drewN_drewN _ _ _⟩ | exact ⟨rfl, _, Eq.trans (World.drewN_drewN _ _ _) (congrArg (World.drewN _) (Nat.add_assoc _ _ _))⟩))))
  (try simp only [Act.put, List.setIfInBounds_toArray, List.set_cons_zero, List.set_cons_succ])
  go_cut [35] (fun v35 wc => ∃ (kq : Nat) (x35_6 : Bool), v35 = .bool x35_6 ∧ Aside0 (dec_parse.j0 kq t185 t186 t187 x35_6 = some (r1, r2, r3, r4)) ∧ Aside0 (kq ≤ k) ∧ Aside0 (wc.heap[gb184]? = some (.cells #[.bool false, .string (⟨#[]⟩ : ByteArray), .int .i64 0] 121 (0, 0))) ∧ Aside0 (Below w.heap.size w wc))
  case first =>
   have H := HC7.out
   clear HC7
   by_cases c9 : t187 = 0
   ·rw [if_pos c9] at H
    have c9b0 : (t187 == 0) = true := beq_iff_eq.mpr c9
    have c9b1 : (t187 != 0) = false := bne_eq_false_iff_eq.mpr c9
    clear c9
    (first | rw [c9b0] | (simp only [i64_w, i32_w]; rw [c9b0]) | skip)
    have H' := Aside0.mk H
    clear H
    go_wp2
    repeat (go_quiet (fail); try go_wp2)
    go_meet
    case rel => exact ⟨_, (true), (by first | rfl | (simp; done) | (simp [*]; done)), H', ⟨by first | omega | exact Nat.le_refl _⟩, ⟨by (with_reducible repeat (first | refine blk_drewN ?_ _ | refine blk_drew ?_ | refine blk_alloc ?_ _)); exact BK184.out⟩, ⟨by repeat (first | (with_reducible first | exact HB.out | apply below_alloc | apply pw_below_drewN | apply below_drew1 | refine below_set ?_ GE184.out) | exact HB.out)⟩⟩
   ·rw [if_neg c9] at H
    have c9b0 : (t187 == 0) = false := beq_eq_false_iff_ne.mpr c9
    have c9b1 : (t187 != 0) = true := bne_iff_ne.mpr c9
    (first | rw [c9b0] | (simp only [i64_w, i32_w]; rw [c9b0]) | skip)
    by_cases c10 : t187 > 1
    ·rw [if_pos c10] at H
     have c10b0 : decide (1 < t187) = true := decide_eq_true c10
     clear c10
     by_cases c11 : 0 < (t185.size : Int)
     ·rw [if_pos c11] at H
      have c11b0 : decide (0 < (t185.size : Int)) = true := decide_eq_true c11
      have c11b1 : decide (0 < t185.size) = true := decide_eq_true (by omega)
      clear c11
      have H' := Aside0.mk H
      clear H
      have p12 : 0 ≤ (0 : Int) := (by omega)
      have q12 : 0 < t185.size := (by have : (0 : Int) < (t185.size : Int) := of_decide_eq_true (by first | (with_reducible assumption) | assumption); omega)
      have hx12 : ∀ h : 0 < t185.size, ((t185[0]'h).toNat : Int) = bt t185 0 := bt_at t185 0
      clear p12
      have qi12 : (0 < (t185.size : Int)) = True := eq_true (of_decide_eq_true (by first | (with_reducible assumption) | assumption))
      replace q12 := eq_true q12
      go_wp2
      repeat (go_quiet (fail); try go_wp2)
      go_meet
      case rel => exact ⟨_, (((bt t185 0) == 48)), (by first | rfl | (simp; done) | (simp [*]; done)), H', ⟨by first | omega | exact Nat.le_refl _⟩, ⟨by (with_reducible repeat (first | refine blk_drewN ?_ _ | refine blk_drew ?_ | refine blk_alloc ?_ _)); exact BK184.out⟩, ⟨by repeat (first | (with_reducible first | exact HB.out | apply below_alloc | apply pw_below_drewN | apply below_drew1 | refine below_set ?_ GE184.out) | exact HB.out)⟩⟩
     ·rw [if_neg c11] at H
      exact absurd H (by simp)
    ·rw [if_neg c10] at H
     have c10b0 : decide (1 < t187) = false := decide_eq_false c10
     clear c10
     have H' := Aside0.mk H
     clear H
     go_wp2
     repeat (go_quiet (fail); try go_wp2)
     go_meet
     case rel => exact ⟨_, (false), (by first | rfl | (simp; done) | (simp [*]; done)), H', ⟨by first | omega | exact Nat.le_refl _⟩, ⟨by (with_reducible repeat (first | refine blk_drewN ?_ _ | refine blk_drew ?_ | refine blk_alloc ?_ _)); exact BK184.out⟩, ⟨by repeat (first | (with_reducible first | exact HB.out | apply below_alloc | apply pw_below_drewN | apply below_drew1 | refine below_set ?_ GE184.out) | exact HB.out)⟩⟩
  case rest =>
   clear HC7
   try clear c1
   try clear p1
   try clear q1
   try clear hx1
   try clear qi1
   try clear c2
   try clear c2b0
   try clear c2b1
   try clear p2
   try clear c9
   try clear c9b0
   try clear c9b1
   try clear c10
   try clear c10b0
   try clear c11
   try clear c11b0
   try clear c11b1
   try clear p12
   try clear q12
   try clear hx12
   try clear qi12
   try clear hcz4_0
   try clear hcz4_1
   try clear hcz4_2
   try clear hfz4_0
   try clear hfz4_1
   try clear hfz4_2
   try clear p12
   try clear q12
   obtain ⟨kq, x35_6, rfl, HA, HJ6, BK184, HB⟩ := hcut
   cases kq with
   | zero => exact absurd HA.out (by simp [dec_parse.j0])
   | succ kj6 =>
    have H := HA.out
    clear HA
    simp only [dec_parse.j0] at H
    by_cases c13 : x35_6 = true
    ·subst c13
     have H1 : (some (false, (⟨#[]⟩ : ByteArray), 0, false)) = some (r1, r2, r3, r4) := by rw [if_pos rfl] at H; exact H
     clear H
     have H := H1
     clear H1
     simp only [Option.some.injEq, Prod.mk.injEq] at H
     obtain ⟨rfl, rfl, rfl, rfl⟩ := H
     have hcz14_0 : wc.cell? ⟨gb184, 0, none⟩ = some (.bool false) := (blk_cell BK184.out 0).trans rfl
     have hcz14_1 : wc.cell? ⟨gb184, 1, none⟩ = some (.string (⟨#[]⟩ : ByteArray)) := (blk_cell BK184.out 1).trans rfl
     have hcz14_2 : wc.cell? ⟨gb184, 2, none⟩ = some (.int .i64 0) := (blk_cell BK184.out 2).trans rfl
     have hfz14_0 := blk_frozen BK184.out 0
     have hfz14_1 := blk_frozen BK184.out 1
     have hfz14_2 := blk_frozen BK184.out 2
     go_wp2
     repeat (go_quiet (fail); try go_wp2)
     refine bodyPost_ret (results_ct rfl _ _ gb184 121 #[.bool false, .string (⟨#[]⟩ : ByteArray), .int .i64 0] (0, 0) _ rfl (by (with_reducible repeat (first | refine blk_drewN ?_ _ | refine blk_drew ?_ | refine blk_alloc ?_ _)); refine blk_put (cs := #[.bool false, .string (⟨#[]⟩ : ByteArray), .int .i64 0]) ?_ 2 _ rfl; (with_reducible repeat (first | refine blk_drewN ?_ _ | refine blk_drew ?_ | refine blk_alloc ?_ _)); refine blk_put (cs := #[.bool false, .string (⟨#[]⟩ : ByteArray), .int .i64 0]) ?_ 1 _ rfl; (with_reducible repeat (first | refine blk_drewN ?_ _ | refine blk_drew ?_ | refine blk_alloc ?_ _)); refine blk_put (cs := #[.bool false, .string (⟨#[]⟩ : ByteArray), .int .i64 0]) ?_ 0 _ rfl; (with_reducible repeat (first | refine blk_drewN ?_ _ | refine blk_drew ?_ | refine blk_alloc ?_ _)); exact BK184.out) Tryd.underlying121 rfl (by kernel_rfl)) rfl ?_
     exact ⟨by first | rfl | (simp [errW_none, errW_some] <;> rfl) | (simp [*, errW_none, errW_some, bne]; done) | (simp [*, errW_none, errW_some] <;> rfl), by repeat (first | (with_reducible first | exact HB.out | apply below_alloc | apply pw_below_drewN | apply below_drew1 | refine below_set ?_ GE184.out) | exact HB.out)⟩
    ·replace c13 := Bool.eq_false_iff.mpr c13
     subst c13
     have H1 : (if 0 ≤ t187 then (if t187 ≤ (t185.size : Int) then ((strings_HasPrefix.f (t185.extract (t187 : Int).toNat t185.size) (⟨#[46]⟩ : ByteArray)).bind fun t188 => (if t188 = true then (if 1 ≤ ((t185.extract (t187 : Int).toNat t185.size).size : Int) then ((dec_digits.f kj6 ((t185.extract (t187 : Int).toNat t185.size).extract 1 (t185.extract (t187 : Int).toNat t185.size).size)).bind fun t189 => (if t189 = 0 then (some (false, (⟨#[]⟩ : ByteArray), 0, false)) else (if 1 ≤ (wrap64 (t189 + 1)) then (if (wrap64 (t189 + 1)) ≤ ((t185.extract (t187 : Int).toNat t185.size).size : Int) then (if 0 ≤ (wrap64 (t189 + 1)) then (dec_parse.j1 kj6 ((t185.extract (t187 : Int).toNat t185.size).extract ((wrap64 (t189 + 1)) : Int).toNat (t185.extract (t187 : Int).toNat t185.size).size) t186 (t185.extract 0 (t187 : Int).toNat) ((t185.extract (t187 : Int).toNat t185.size).extract 1 ((wrap64 (t189 + 1)) : Int).toNat) 0) else (none)) else (none)) else (none)))) else (none)) else (dec_parse.j1 kj6 (t185.extract (t187 : Int).toNat t185.size) t186 (t185.extract 0 (t187 : Int).toNat) (⟨#[]⟩ : ByteArray) 0))) else (none)) else (none)) = some (r1, r2, r3, r4) := by rw [if_neg (show ¬ (false = true) by decide)] at H; exact H
     clear H
     have H := H1
     clear H1
     by_cases c15 : 0 ≤ t187
     ·rw [if_pos c15] at H
      have c15b0 := eq_true c15
      have c15b1 : decide (0 ≤ t187) = true := decide_eq_true c15
      clear c15
      by_cases c16 : t187 ≤ (t185.size : Int)
      ·rw [if_pos c16] at H
       have c16b0 := eq_true c16
       have c16b1 : decide (t187 ≤ (t185.size : Int)) = true := decide_eq_true c16
       clear c16
       have c17b0 := eq_true (of_decide_eq_true (by first | (with_reducible assumption) | assumption) : 0 ≤ t187)
       have c18b0 := eq_true (of_decide_eq_true (by first | (with_reducible assumption) | assumption) : t187 ≤ (t185.size : Int))
       replace H := Option.bind_eq_some_iff.mp H
       obtain ⟨t188, A190, H⟩ := H
       replace H : (if t188 = true then (if 1 ≤ ((t185.extract (t187 : Int).toNat t185.size).size : Int) then ((dec_digits.f kj6 ((t185.extract (t187 : Int).toNat t185.size).extract 1 (t185.extract (t187 : Int).toNat t185.size).size)).bind fun t189 => (if t189 = 0 then (some (false, (⟨#[]⟩ : ByteArray), 0, false)) else (if 1 ≤ (wrap64 (t189 + 1)) then (if (wrap64 (t189 + 1)) ≤ ((t185.extract (t187 : Int).toNat t185.size).size : Int) then (if 0 ≤ (wrap64 (t189 + 1)) then (dec_parse.j1 kj6 ((t185.extract (t187 : Int).toNat t185.size).extract ((wrap64 (t189 + 1)) : Int).toNat (t185.extract (t187 : Int).toNat t185.size).size) t186 (t185.extract 0 (t187 : Int).toNat) ((t185.extract (t187 : Int).toNat t185.size).extract 1 ((wrap64 (t189 + 1)) : Int).toNat) 0) else (none)) else (none)) else (none)))) else (none)) else (dec_parse.j1 kj6 (t185.extract (t187 : Int).toNat t185.size) t186 (t185.extract 0 (t187 : Int).toNat) (⟨#[]⟩ : ByteArray) 0)) = some (r1, r2, r3, r4) := H
       have A19 := Aside0.mk A190
       clear A190
       have HC20 := Aside0.mk H
       clear H
       go_upto_if 44 with (first | (go_at_call 62; (with_reducible refine (strings_HasPrefix.calls (t185.extract (t187 : Int).toNat t185.size) (⟨#[46]⟩ : ByteArray) t188 _ A19.out).mono ?_); rintro e w' ⟨rfl, ⟨nd, rfl⟩⟩; (try first | exact ⟨rfl, _, World.drewN_drewN _ _ _⟩ | exact ⟨rfl, _, Eq.trans (World.drewN_drewN _ _ _) (congrArg (World.drewN _) (Nat.add_assoc _ _ _))⟩)))
       repeat (go_quiet (first | (go_at_call 62; (with_reducible refine (strings_HasPrefix.calls (t185.extract (t187 : Int).toNat t185.size) (⟨#[46]⟩ : ByteArray) t188 _ A19.out).mono ?_); rintro e w' ⟨rfl, ⟨nd, rfl⟩⟩; (try first | exact ⟨rfl, _, World.drewN_drewN _ _ _⟩ | exact ⟨rfl, _, Eq.trans (World.drewN_drewN _ _ _) (congrArg (World.drewN _) (Nat.add_assoc _ _ _))⟩))); go_upto_if 44 with (first | (go_at_call 62; (with_reducible refine (strings_HasPrefix.calls (t185.extract (t187 : Int).toNat t185.size) (⟨#[46]⟩ : ByteArray) t188 _ A19.out).mono ?_); rintro e w' ⟨rfl, ⟨nd, rfl⟩⟩; (try first | exact ⟨rfl, _, World.drewN_drewN _ _ _⟩ | exact ⟨rfl, _, Eq.trans (World.drewN_drewN _ _ _) (congrArg (World.drewN _) (Nat.add_assoc _ _ _))⟩))))
       (try simp only [Act.put, List.setIfInBounds_toArray, List.set_cons_zero, List.set_cons_succ])
       go_cut [4, 8] (fun v4 v8 wc => ∃ (kq : Nat) (x4_19 : ByteArray) (x8_19 : ByteArray) (x185000_19 : Bool) (x185001_19 : ByteArray) (x185002_19 : Int), v4 = .string x4_19 ∧ v8 = .string x8_19 ∧ Aside0 (dec_parse.j1 kq x4_19 t186 (t185.extract 0 (t187 : Int).toNat) x8_19 0 = some (r1, r2, r3, r4)) ∧ Aside0 (kq ≤ kj6) ∧ Aside0 (wc.heap[gb184]? = some (.cells #[.bool x185000_19, .string x185001_19, .int .i64 x185002_19] 121 (0, 0))) ∧ Aside0 (Below w.heap.size w wc))
       case first =>
        have H := HC20.out
        clear HC20
        by_cases c21 : t188 = true
        ·subst c21
         have H1 : (if 1 ≤ ((t185.extract (t187 : Int).toNat t185.size).size : Int) then ((dec_digits.f kj6 ((t185.extract (t187 : Int).toNat t185.size).extract 1 (t185.extract (t187 : Int).toNat t185.size).size)).bind fun t189 => (if t189 = 0 then (some (false, (⟨#[]⟩ : ByteArray), 0, false)) else (if 1 ≤ (wrap64 (t189 + 1)) then (if (wrap64 (t189 + 1)) ≤ ((t185.extract (t187 : Int).toNat t185.size).size : Int) then (if 0 ≤ (wrap64 (t189 + 1)) then (dec_parse.j1 kj6 ((t185.extract (t187 : Int).toNat t185.size).extract ((wrap64 (t189 + 1)) : Int).toNat (t185.extract (t187 : Int).toNat t185.size).size) t186 (t185.extract 0 (t187 : Int).toNat) ((t185.extract (t187 : Int).toNat t185.size).extract 1 ((wrap64 (t189 + 1)) : Int).toNat) 0) else (none)) else (none)) else (none)))) else (none)) = some (r1, r2, r3, r4) := by rw [if_pos rfl] at H; exact H
         clear H
         have H := H1
         clear H1
         by_cases c22 : 1 ≤ ((t185.extract (t187 : Int).toNat t185.size).size : Int)
         ·rw [if_pos c22] at H
          have c22b0 := eq_true c22
          have c22b1 : decide (1 ≤ ((t185.extract (t187 : Int).toNat t185.size).size : Int)) = true := decide_eq_true c22
          clear c22
          replace H := Option.bind_eq_some_iff.mp H
          obtain ⟨t189, A230, H⟩ := H
          replace H : (if t189 = 0 then (some (false, (⟨#[]⟩ : ByteArray), 0, false)) else (if 1 ≤ (wrap64 (t189 + 1)) then (if (wrap64 (t189 + 1)) ≤ ((t185.extract (t187 : Int).toNat t185.size).size : Int) then (if 0 ≤ (wrap64 (t189 + 1)) then (dec_parse.j1 kj6 ((t185.extract (t187 : Int).toNat t185.size).extract ((wrap64 (t189 + 1)) : Int).toNat (t185.extract (t187 : Int).toNat t185.size).size) t186 (t185.extract 0 (t187 : Int).toNat) ((t185.extract (t187 : Int).toNat t185.size).extract 1 ((wrap64 (t189 + 1)) : Int).toNat) 0) else (none)) else (none)) else (none))) = some (r1, r2, r3, r4) := H
          have A23 := Aside0.mk A230
          clear A230
          by_cases c24 : t189 = 0
          ·rw [if_pos c24] at H
           have c24b0 : (t189 == 0) = true := beq_iff_eq.mpr c24
           have c24b1 : (t189 != 0) = false := bne_eq_false_iff_eq.mpr c24
           clear c24
           (first | rw [c24b0] | (simp only [i64_w, i32_w]; rw [c24b0]) | skip)
           simp only [Option.some.injEq, Prod.mk.injEq] at H
           obtain ⟨rfl, rfl, rfl, rfl⟩ := H
           go_wp2_with (first | (go_at_call 112; (with_reducible refine (dec_digits.calls kj6 ((t185.extract (t187 : Int).toNat t185.size).extract 1 (t185.extract (t187 : Int).toNat t185.size).size) t189 _ A23.out).mono ?_); rintro e w' ⟨rfl, ⟨nd, rfl⟩⟩; (try first | exact ⟨rfl, _, World.drewN_drewN _ _ _⟩ | exact ⟨rfl, _, Eq.trans (World.drewN_drewN _ _ _) (congrArg (World.drewN _) (Nat.add_assoc _ _ _))⟩); have hcz25_0 : wc.cell? ⟨gb184, 0, none⟩ = some (.bool false) := (blk_cell BK184.out 0).trans rfl; have hcz25_1 : wc.cell? ⟨gb184, 1, none⟩ = some (.string (⟨#[]⟩ : ByteArray)) := (blk_cell BK184.out 1).trans rfl; have hcz25_2 : wc.cell? ⟨gb184, 2, none⟩ = some (.int .i64 0) := (blk_cell BK184.out 2).trans rfl; have hfz25_0 := blk_frozen BK184.out 0; have hfz25_1 := blk_frozen BK184.out 1; have hfz25_2 := blk_frozen BK184.out 2))
           repeat (go_quiet (first | (go_at_call 112; (with_reducible refine (dec_digits.calls kj6 ((t185.extract (t187 : Int).toNat t185.size).extract 1 (t185.extract (t187 : Int).toNat t185.size).size) t189 _ A23.out).mono ?_); rintro e w' ⟨rfl, ⟨nd, rfl⟩⟩; (try first | exact ⟨rfl, _, World.drewN_drewN _ _ _⟩ | exact ⟨rfl, _, Eq.trans (World.drewN_drewN _ _ _) (congrArg (World.drewN _) (Nat.add_assoc _ _ _))⟩); have hcz25_0 : wc.cell? ⟨gb184, 0, none⟩ = some (.bool false) := (blk_cell BK184.out 0).trans rfl; have hcz25_1 : wc.cell? ⟨gb184, 1, none⟩ = some (.string (⟨#[]⟩ : ByteArray)) := (blk_cell BK184.out 1).trans rfl; have hcz25_2 : wc.cell? ⟨gb184, 2, none⟩ = some (.int .i64 0) := (blk_cell BK184.out 2).trans rfl; have hfz25_0 := blk_frozen BK184.out 0; have hfz25_1 := blk_frozen BK184.out 1; have hfz25_2 := blk_frozen BK184.out 2)); try go_wp2_with (first | (go_at_call 112; (with_reducible refine (dec_digits.calls kj6 ((t185.extract (t187 : Int).toNat t185.size).extract 1 (t185.extract (t187 : Int).toNat t185.size).size) t189 _ A23.out).mono ?_); rintro e w' ⟨rfl, ⟨nd, rfl⟩⟩; (try first | exact ⟨rfl, _, World.drewN_drewN _ _ _⟩ | exact ⟨rfl, _, Eq.trans (World.drewN_drewN _ _ _) (congrArg (World.drewN _) (Nat.add_assoc _ _ _))⟩); have hcz25_0 : wc.cell? ⟨gb184, 0, none⟩ = some (.bool false) := (blk_cell BK184.out 0).trans rfl; have hcz25_1 : wc.cell? ⟨gb184, 1, none⟩ = some (.string (⟨#[]⟩ : ByteArray)) := (blk_cell BK184.out 1).trans rfl; have hcz25_2 : wc.cell? ⟨gb184, 2, none⟩ = some (.int .i64 0) := (blk_cell BK184.out 2).trans rfl; have hfz25_0 := blk_frozen BK184.out 0; have hfz25_1 := blk_frozen BK184.out 1; have hfz25_2 := blk_frozen BK184.out 2)))
           refine bodyPost_ret (results_ct rfl _ _ gb184 121 #[.bool false, .string (⟨#[]⟩ : ByteArray), .int .i64 0] (0, 0) _ rfl (by (with_reducible repeat (first | refine blk_drewN ?_ _ | refine blk_drew ?_ | refine blk_alloc ?_ _)); refine blk_put (cs := #[.bool false, .string (⟨#[]⟩ : ByteArray), .int .i64 0]) ?_ 2 _ rfl; (with_reducible repeat (first | refine blk_drewN ?_ _ | refine blk_drew ?_ | refine blk_alloc ?_ _)); refine blk_put (cs := #[.bool false, .string (⟨#[]⟩ : ByteArray), .int .i64 0]) ?_ 1 _ rfl; (with_reducible repeat (first | refine blk_drewN ?_ _ | refine blk_drew ?_ | refine blk_alloc ?_ _)); refine blk_put (cs := #[.bool false, .string (⟨#[]⟩ : ByteArray), .int .i64 0]) ?_ 0 _ rfl; (with_reducible repeat (first | refine blk_drewN ?_ _ | refine blk_drew ?_ | refine blk_alloc ?_ _)); exact BK184.out) Tryd.underlying121 rfl (by kernel_rfl)) rfl ?_
           exact ⟨by first | rfl | (simp [errW_none, errW_some] <;> rfl) | (simp [*, errW_none, errW_some, bne]; done) | (simp [*, errW_none, errW_some] <;> rfl), by repeat (first | (with_reducible first | exact HB.out | apply below_alloc | apply pw_below_drewN | apply below_drew1 | refine below_set ?_ GE184.out) | exact HB.out)⟩
          ·rw [if_neg c24] at H
           have c24b0 : (t189 == 0) = false := beq_eq_false_iff_ne.mpr c24
           have c24b1 : (t189 != 0) = true := bne_iff_ne.mpr c24
           (first | rw [c24b0] | (simp only [i64_w, i32_w]; rw [c24b0]) | skip)
           by_cases c26 : 1 ≤ (wrap64 (t189 + 1))
           ·rw [if_pos c26] at H
            have c26b0 := eq_true c26
            have c26b1 : decide (1 ≤ (wrap64 (t189 + 1))) = true := decide_eq_true c26
            by_cases c27 : (wrap64 (t189 + 1)) ≤ ((t185.extract (t187 : Int).toNat t185.size).size : Int)
            ·rw [if_pos c27] at H
             have c27b0 := eq_true c27
             have c27b1 : decide ((wrap64 (t189 + 1)) ≤ ((t185.extract (t187 : Int).toNat t185.size).size : Int)) = true := decide_eq_true c27
             obtain ⟨ji28, hji28⟩ : ∃ j_ : Int, (wrap64 (t189 + 1)) = j_ := ⟨_, rfl⟩
             replace H : (if 0 ≤ (ji28) then (dec_parse.j1 kj6 ((t185.extract (t187 : Int).toNat t185.size).extract ((ji28) : Int).toNat (t185.extract (t187 : Int).toNat t185.size).size) t186 (t185.extract 0 (t187 : Int).toNat) ((t185.extract (t187 : Int).toNat t185.size).extract 1 ((ji28) : Int).toNat) 0) else (none)) = some (r1, r2, r3, r4) := by first | (rw [hji28] at H; exact H) | (simp only [hji28] at H ⊢; exact H)
             (try rw [hji28] at c26b0)
             (try rw [hji28] at c26b1)
             (try rw [hji28] at c26)
             (try rw [hji28] at c27b0)
             (try rw [hji28] at c27b1)
             (try rw [hji28] at c27)
             (try rw [hji28] at A23)
             have hji28w : (IntKind.i64.wrap (t189 + 1)) = ji28 := (i64_w _).trans hji28
             by_cases c29 : 0 ≤ (ji28)
             ·rw [if_pos c29] at H
              have c29b0 := eq_true c29
              have c29b1 : decide (0 ≤ (ji28)) = true := decide_eq_true c29
              clear c29
              have c30b0 := eq_true (of_decide_eq_true (by first | (with_reducible assumption) | assumption) : (ji28) ≤ ((t185.extract (t187 : Int).toNat t185.size).size : Int))
              have H' := Aside0.mk H
              clear H
              go_wp2_with (first | (go_at_call 112; (with_reducible refine (dec_digits.calls kj6 ((t185.extract (t187 : Int).toNat t185.size).extract 1 (t185.extract (t187 : Int).toNat t185.size).size) t189 _ A23.out).mono ?_); rintro e w' ⟨rfl, ⟨nd, rfl⟩⟩; (try first | exact ⟨rfl, _, World.drewN_drewN _ _ _⟩ | exact ⟨rfl, _, Eq.trans (World.drewN_drewN _ _ _) (congrArg (World.drewN _) (Nat.add_assoc _ _ _))⟩)))
              repeat (go_quiet (first | (go_at_call 112; (with_reducible refine (dec_digits.calls kj6 ((t185.extract (t187 : Int).toNat t185.size).extract 1 (t185.extract (t187 : Int).toNat t185.size).size) t189 _ A23.out).mono ?_); rintro e w' ⟨rfl, ⟨nd, rfl⟩⟩; (try first | exact ⟨rfl, _, World.drewN_drewN _ _ _⟩ | exact ⟨rfl, _, Eq.trans (World.drewN_drewN _ _ _) (congrArg (World.drewN _) (Nat.add_assoc _ _ _))⟩))); try go_wp2_with (first | (go_at_call 112; (with_reducible refine (dec_digits.calls kj6 ((t185.extract (t187 : Int).toNat t185.size).extract 1 (t185.extract (t187 : Int).toNat t185.size).size) t189 _ A23.out).mono ?_); rintro e w' ⟨rfl, ⟨nd, rfl⟩⟩; (try first | exact ⟨rfl, _, World.drewN_drewN _ _ _⟩ | exact ⟨rfl, _, Eq.trans (World.drewN_drewN _ _ _) (congrArg (World.drewN _) (Nat.add_assoc _ _ _))⟩))))
              go_meet
              case rel => exact ⟨_, ((t185.extract (t187 : Int).toNat t185.size).extract ((ji28) : Int).toNat (t185.extract (t187 : Int).toNat t185.size).size), ((t185.extract (t187 : Int).toNat t185.size).extract 1 ((ji28) : Int).toNat), (false), ((⟨#[]⟩ : ByteArray)), (0), (by first | rfl | (simp; done) | (simp only [← hji28] <;> (first | rfl | simp)) | (simp [*]; done)), (by first | rfl | (simp; done) | (simp only [← hji28] <;> (first | rfl | simp)) | (simp [*]; done)), H', ⟨by have := HJ6.out; first | omega | exact Nat.le_refl _⟩, ⟨by (with_reducible repeat (first | refine blk_drewN ?_ _ | refine blk_drew ?_ | refine blk_alloc ?_ _)); exact BK184.out⟩, ⟨by repeat (first | (with_reducible first | exact HB.out | apply below_alloc | apply pw_below_drewN | apply below_drew1 | refine below_set ?_ GE184.out) | exact HB.out)⟩⟩
             ·rw [if_neg c29] at H
              exact absurd H (by simp)
            ·rw [if_neg c27] at H
             exact absurd H (by simp)
           ·rw [if_neg c26] at H
            exact absurd H (by simp)
         ·rw [if_neg c22] at H
          exact absurd H (by simp)
        ·replace c21 := Bool.eq_false_iff.mpr c21
         subst c21
         have H1 : (dec_parse.j1 kj6 (t185.extract (t187 : Int).toNat t185.size) t186 (t185.extract 0 (t187 : Int).toNat) (⟨#[]⟩ : ByteArray) 0) = some (r1, r2, r3, r4) := by rw [if_neg (show ¬ (false = true) by decide)] at H; exact H
         clear H
         have H := H1
         clear H1
         have H' := Aside0.mk H
         clear H
         go_wp2
         repeat (go_quiet (fail); try go_wp2)
         go_meet
         case rel => exact ⟨_, (t185.extract (t187 : Int).toNat t185.size), ((⟨#[]⟩ : ByteArray)), (false), ((⟨#[]⟩ : ByteArray)), (0), (by first | rfl | (simp; done) | (simp [*]; done)), (by first | rfl | (simp; done) | (simp [*]; done)), H', ⟨by have := HJ6.out; first | omega | exact Nat.le_refl _⟩, ⟨by (with_reducible repeat (first | refine blk_drewN ?_ _ | refine blk_drew ?_ | refine blk_alloc ?_ _)); exact BK184.out⟩, ⟨by repeat (first | (with_reducible first | exact HB.out | apply below_alloc | apply pw_below_drewN | apply below_drew1 | refine below_set ?_ GE184.out) | exact HB.out)⟩⟩
       case rest =>
        clear HC20
        try clear c1
        try clear p1
        try clear q1
        try clear hx1
        try clear qi1
        try clear c2
        try clear c2b0
        try clear c2b1
        try clear p2
        try clear c3
        try clear p6
        try clear c9
        try clear c9b0
        try clear c9b1
        try clear c10
        try clear c10b0
        try clear c11
        try clear c11b0
        try clear c11b1
        try clear p12
        try clear q12
        try clear hx12
        try clear qi12
        try clear c13
        try clear c15
        try clear c15b0
        try clear c15b1
        try clear c16
        try clear c16b0
        try clear c16b1
        try clear c17
        try clear c17b0
        try clear c18
        try clear c18b0
        try clear c21
        try clear c22
        try clear c22b0
        try clear c22b1
        try clear c24
        try clear c24b0
        try clear c24b1
        try clear c26
        try clear c26b0
        try clear c26b1
        try clear c27
        try clear c27b0
        try clear c27b1
        try clear c29
        try clear c29b0
        try clear c29b1
        try clear c30
        try clear c30b0
        try clear hcz14_0
        try clear hcz14_1
        try clear hcz14_2
        try clear hcz25_0
        try clear hcz25_1
        try clear hcz25_2
        try clear hcz4_0
        try clear hcz4_1
        try clear hcz4_2
        try clear hfz14_0
        try clear hfz14_1
        try clear hfz14_2
        try clear hfz25_0
        try clear hfz25_1
        try clear hfz25_2
        try clear hfz4_0
        try clear hfz4_1
        try clear hfz4_2
        try clear p1
        try clear p12
        try clear p2
        try clear q1
        try clear q12
        obtain ⟨kq, x4_19, x8_19, x185000_19, x185001_19, x185002_19, rfl, rfl, HA, HJ19, BK184, HB⟩ := hcut
        cases kq with
        | zero => exact absurd HA.out (by simp [dec_parse.j1])
        | succ kj19 =>
         have H := HA.out
         clear HA
         simp only [dec_parse.j1] at H
         have HC31 := Aside0.mk H
         clear H
         go_upto_if 60 with (fail)
         repeat (go_quiet (fail); go_upto_if 60 with (fail))
         go_cut [9] (fun v9 wc => ∃ (kq : Nat) (x9_30 : Int) (x185000_30 : Bool) (x185001_30 : ByteArray) (x185002_30 : Int), v9 = .int .i64 x9_30 ∧ Aside0 (dec_parse.j3 kq t186 (t185.extract 0 (t187 : Int).toNat) x8_19 x9_30 = some (r1, r2, r3, r4)) ∧ Aside0 (kq ≤ kj19) ∧ Aside0 (wc.heap[gb184]? = some (.cells #[.bool x185000_30, .string x185001_30, .int .i64 x185002_30] 121 (0, 0))) ∧ Aside0 (Below w.heap.size w wc))
         case first =>
          have H := HC31.out
          clear HC31
          by_cases c32 : x4_19.toList = ([] : List UInt8)
          ·rw [if_pos c32] at H
           have c32b0 : (x4_19.toList == ([] : List UInt8)) = true := beq_iff_eq.mpr c32
           have c32b1 : (x4_19.toList != ([] : List UInt8)) = false := bne_eq_false_iff_eq.mpr c32
           have c32b2 : x4_19.toList.isEmpty = true := List.isEmpty_iff.mpr c32
           (try simp only [c32b2, Bool.not_true, Bool.not_false])
           clear c32
           (first | rw [c32b0] | (simp only [i64_w, i32_w]; rw [c32b0]) | skip)
           have H' := Aside0.mk H
           clear H
           go_wp2
           repeat (go_quiet (fail); try go_wp2)
           go_meet
           case rel => exact ⟨_, (0), (x185000_19), (x185001_19), (x185002_19), (by first | rfl | (simp; done) | (simp [*]; done)), H', ⟨by have := HJ6.out; have := HJ19.out; first | omega | exact Nat.le_refl _⟩, ⟨by (with_reducible repeat (first | refine blk_drewN ?_ _ | refine blk_drew ?_ | refine blk_alloc ?_ _)); exact BK184.out⟩, ⟨by repeat (first | (with_reducible first | exact HB.out | apply below_alloc | apply pw_below_drewN | apply below_drew1 | refine below_set ?_ GE184.out) | exact HB.out)⟩⟩
          ·rw [if_neg c32] at H
           have c32b0 : (x4_19.toList == ([] : List UInt8)) = false := beq_eq_false_iff_ne.mpr c32
           have c32b1 : (x4_19.toList != ([] : List UInt8)) = true := bne_iff_ne.mpr c32
           have c32b2 : x4_19.toList.isEmpty = false := List.isEmpty_eq_false_iff.mpr c32
           (try simp only [c32b2, Bool.not_true, Bool.not_false])
           (first | rw [c32b0] | (simp only [i64_w, i32_w]; rw [c32b0]) | skip)
           have HC33 := Aside0.mk H
           clear H
           go_upto_region 15 with (fail)
           repeat (go_quiet (fail); go_upto_region 15 with (fail))
           go_cut [68] (fun v68 wc => ∃ (kq : Nat) (x68_32 : Bool), v68 = .bool x68_32 ∧ Aside0 (dec_parse.j2 kq x4_19 t186 (t185.extract 0 (t187 : Int).toNat) x8_19 x68_32 = some (r1, r2, r3, r4)) ∧ Aside0 (kq ≤ kj19) ∧ Aside0 (wc.heap[gb184]? = some (.cells #[.bool x185000_19, .string x185001_19, .int .i64 x185002_19] 121 (0, 0))) ∧ Aside0 (Below w.heap.size w wc))
           case first =>
            have H := HC33.out
            clear HC33
            by_cases c34 : 0 < (x4_19.size : Int)
            ·rw [if_pos c34] at H
             have c34b0 : decide (0 < (x4_19.size : Int)) = true := decide_eq_true c34
             have c34b1 : decide (0 < x4_19.size) = true := decide_eq_true (by omega)
             clear c34
             (first | rw [c34b0] | (simp only [i64_w, i32_w]; rw [c34b0]) | skip)
             by_cases c36 : (bt x4_19 0) = 101
             ·rw [if_pos c36] at H
              have c36b0 : ((bt x4_19 0) == 101) = true := beq_iff_eq.mpr c36
              have c36b1 : ((bt x4_19 0) != 101) = false := bne_eq_false_iff_eq.mpr c36
              clear c36
              have H' := Aside0.mk H
              clear H
              have p35 : 0 ≤ (0 : Int) := (by omega)
              have q35 : 0 < x4_19.size := (by have : (0 : Int) < (x4_19.size : Int) := of_decide_eq_true (by first | (with_reducible assumption) | assumption); omega)
              have hx35 : ∀ h : 0 < x4_19.size, ((x4_19[0]'h).toNat : Int) = bt x4_19 0 := bt_at x4_19 0
              clear p35
              have qi35 : (0 < (x4_19.size : Int)) = True := eq_true (of_decide_eq_true (by first | (with_reducible assumption) | assumption))
              replace q35 := eq_true q35
              go_wp2
              repeat (go_quiet (fail); try go_wp2)
              go_meet
              case rel => exact ⟨_, (false), (by first | rfl | (simp; done) | (simp [*]; done)), H', ⟨by have := HJ6.out; have := HJ19.out; first | omega | exact Nat.le_refl _⟩, ⟨by (with_reducible repeat (first | refine blk_drewN ?_ _ | refine blk_drew ?_ | refine blk_alloc ?_ _)); exact BK184.out⟩, ⟨by repeat (first | (with_reducible first | exact HB.out | apply below_alloc | apply pw_below_drewN | apply below_drew1 | refine below_set ?_ GE184.out) | exact HB.out)⟩⟩
             ·rw [if_neg c36] at H
              have c36b0 : ((bt x4_19 0) == 101) = false := beq_eq_false_iff_ne.mpr c36
              have c36b1 : ((bt x4_19 0) != 101) = true := bne_iff_ne.mpr c36
              have H' := Aside0.mk H
              clear H
              have p35 : 0 ≤ (0 : Int) := (by omega)
              have q35 : 0 < x4_19.size := (by have : (0 : Int) < (x4_19.size : Int) := of_decide_eq_true (by first | (with_reducible assumption) | assumption); omega)
              have hx35 : ∀ h : 0 < x4_19.size, ((x4_19[0]'h).toNat : Int) = bt x4_19 0 := bt_at x4_19 0
              clear p35
              have qi35 : (0 < (x4_19.size : Int)) = True := eq_true (of_decide_eq_true (by first | (with_reducible assumption) | assumption))
              replace q35 := eq_true q35
              have p37 : 0 ≤ (0 : Int) := (by omega)
              have q37 : 0 < x4_19.size := (by have : (0 : Int) < (x4_19.size : Int) := of_decide_eq_true (by first | (with_reducible assumption) | assumption); omega)
              have hx37 : ∀ h : 0 < x4_19.size, ((x4_19[0]'h).toNat : Int) = bt x4_19 0 := bt_at x4_19 0
              clear p37
              have qi37 : (0 < (x4_19.size : Int)) = True := eq_true (of_decide_eq_true (by first | (with_reducible assumption) | assumption))
              replace q37 := eq_true q37
              go_wp2
              repeat (go_quiet (fail); try go_wp2)
              go_meet
              case rel => exact ⟨_, (((bt x4_19 0) != 69)), (by first | rfl | (simp; done) | (simp [*]; done)), H', ⟨by have := HJ6.out; have := HJ19.out; first | omega | exact Nat.le_refl _⟩, ⟨by (with_reducible repeat (first | refine blk_drewN ?_ _ | refine blk_drew ?_ | refine blk_alloc ?_ _)); exact BK184.out⟩, ⟨by repeat (first | (with_reducible first | exact HB.out | apply below_alloc | apply pw_below_drewN | apply below_drew1 | refine below_set ?_ GE184.out) | exact HB.out)⟩⟩
            ·rw [if_neg c34] at H
             exact absurd H (by simp)
           case rest =>
            clear HC33
            try clear c1
            try clear p1
            try clear q1
            try clear hx1
            try clear qi1
            try clear c2
            try clear c2b0
            try clear c2b1
            try clear p2
            try clear c3
            try clear p3
            try clear q3
            try clear hx3
            try clear qi3
            try clear p6
            try clear c9
            try clear c9b0
            try clear c9b1
            try clear c10
            try clear c10b0
            try clear c11
            try clear c11b0
            try clear c11b1
            try clear p12
            try clear q12
            try clear hx12
            try clear qi12
            try clear c13
            try clear c15
            try clear c15b0
            try clear c15b1
            try clear c16
            try clear c16b0
            try clear c16b1
            try clear c17
            try clear c17b0
            try clear c18
            try clear c18b0
            try clear c21
            try clear c22
            try clear c22b0
            try clear c22b1
            try clear c24
            try clear c24b0
            try clear c24b1
            try clear c26
            try clear c26b0
            try clear c26b1
            try clear c27
            try clear c27b0
            try clear c27b1
            try clear c29
            try clear c29b0
            try clear c29b1
            try clear c30
            try clear c30b0
            try clear c32
            try clear c32b0
            try clear c32b1
            try clear c34
            try clear c34b0
            try clear c34b1
            try clear p35
            try clear q35
            try clear hx35
            try clear qi35
            try clear c36
            try clear c36b0
            try clear c36b1
            try clear p37
            try clear q37
            try clear hx37
            try clear qi37
            try clear hcz14_0
            try clear hcz14_1
            try clear hcz14_2
            try clear hcz25_0
            try clear hcz25_1
            try clear hcz25_2
            try clear hcz4_0
            try clear hcz4_1
            try clear hcz4_2
            try clear hfz14_0
            try clear hfz14_1
            try clear hfz14_2
            try clear hfz25_0
            try clear hfz25_1
            try clear hfz25_2
            try clear hfz4_0
            try clear hfz4_1
            try clear hfz4_2
            try clear p1
            try clear p12
            try clear p2
            try clear p35
            try clear p37
            try clear p6
            try clear q1
            try clear q12
            try clear q35
            try clear q37
            obtain ⟨kq, x68_32, rfl, HA, HJ32, BK184, HB⟩ := hcut
            cases kq with
            | zero => exact absurd HA.out (by simp [dec_parse.j2])
            | succ kj32 =>
             have H := HA.out
             clear HA
             simp only [dec_parse.j2] at H
             by_cases c38 : x68_32 = true
             ·subst c38
              have H1 : (some (false, (⟨#[]⟩ : ByteArray), 0, false)) = some (r1, r2, r3, r4) := by rw [if_pos rfl] at H; exact H
              clear H
              have H := H1
              clear H1
              simp only [Option.some.injEq, Prod.mk.injEq] at H
              obtain ⟨rfl, rfl, rfl, rfl⟩ := H
              have hcz39_0 : wc.cell? ⟨gb184, 0, none⟩ = some (.bool x185000_19) := (blk_cell BK184.out 0).trans rfl
              have hcz39_1 : wc.cell? ⟨gb184, 1, none⟩ = some (.string x185001_19) := (blk_cell BK184.out 1).trans rfl
              have hcz39_2 : wc.cell? ⟨gb184, 2, none⟩ = some (.int .i64 x185002_19) := (blk_cell BK184.out 2).trans rfl
              have hfz39_0 := blk_frozen BK184.out 0
              have hfz39_1 := blk_frozen BK184.out 1
              have hfz39_2 := blk_frozen BK184.out 2
              go_wp2
              repeat (go_quiet (fail); try go_wp2)
              refine bodyPost_ret (results_ct rfl _ _ gb184 121 #[.bool false, .string (⟨#[]⟩ : ByteArray), .int .i64 0] (0, 0) _ rfl (by (with_reducible repeat (first | refine blk_drewN ?_ _ | refine blk_drew ?_ | refine blk_alloc ?_ _)); refine blk_put (cs := #[.bool false, .string (⟨#[]⟩ : ByteArray), .int .i64 x185002_19]) ?_ 2 _ rfl; (with_reducible repeat (first | refine blk_drewN ?_ _ | refine blk_drew ?_ | refine blk_alloc ?_ _)); refine blk_put (cs := #[.bool false, .string x185001_19, .int .i64 x185002_19]) ?_ 1 _ rfl; (with_reducible repeat (first | refine blk_drewN ?_ _ | refine blk_drew ?_ | refine blk_alloc ?_ _)); refine blk_put (cs := #[.bool x185000_19, .string x185001_19, .int .i64 x185002_19]) ?_ 0 _ rfl; (with_reducible repeat (first | refine blk_drewN ?_ _ | refine blk_drew ?_ | refine blk_alloc ?_ _)); exact BK184.out) Tryd.underlying121 rfl (by kernel_rfl)) rfl ?_
              exact ⟨by first | rfl | (simp [errW_none, errW_some] <;> rfl) | (simp [*, errW_none, errW_some, bne]; done) | (simp [*, errW_none, errW_some] <;> rfl), by repeat (first | (with_reducible first | exact HB.out | apply below_alloc | apply pw_below_drewN | apply below_drew1 | refine below_set ?_ GE184.out) | exact HB.out)⟩
             ·replace c38 := Bool.eq_false_iff.mpr c38
              subst c38
              have H1 : (if 1 ≤ (x4_19.size : Int) then ((dec_power.f (x4_19.extract 1 x4_19.size)).bind fun bt190 => (if bt190.2 = true then (dec_parse.j3 kj32 t186 (t185.extract 0 (t187 : Int).toNat) x8_19 bt190.1) else (some (false, (⟨#[]⟩ : ByteArray), 0, false)))) else (none)) = some (r1, r2, r3, r4) := by rw [if_neg (show ¬ (false = true) by decide)] at H; exact H
              clear H
              have H := H1
              clear H1
              by_cases c40 : 1 ≤ (x4_19.size : Int)
              ·rw [if_pos c40] at H
               have c40b0 := eq_true c40
               have c40b1 : decide (1 ≤ (x4_19.size : Int)) = true := decide_eq_true c40
               clear c40
               replace H := Option.bind_eq_some_iff.mp H
               obtain ⟨⟨t190, t191⟩, A410, H⟩ := H
               replace H : (if t191 = true then (dec_parse.j3 kj32 t186 (t185.extract 0 (t187 : Int).toNat) x8_19 t190) else (some (false, (⟨#[]⟩ : ByteArray), 0, false))) = some (r1, r2, r3, r4) := H
               have A41 := Aside0.mk A410
               clear A410
               by_cases c42 : t191 = true
               ·subst c42
                have H1 : (dec_parse.j3 kj32 t186 (t185.extract 0 (t187 : Int).toNat) x8_19 t190) = some (r1, r2, r3, r4) := by rw [if_pos rfl] at H; exact H
                clear H
                have H := H1
                clear H1
                have H' := Aside0.mk H
                clear H
                go_wp2_with (first | (go_at_call 113; (with_reducible refine (dec_power.calls (x4_19.extract 1 x4_19.size) t190 true _ A41.out).mono ?_); rintro e w43 ⟨rfl, hb⟩; have n0_ := Aside0.mk (blk_below (g := gb184) (o := .cells #[.bool x185000_19, .string x185001_19, .int .i64 x185002_19] 121 (0, 0)) (by (with_reducible repeat (first | refine blk_drewN ?_ _ | refine blk_drew ?_ | refine blk_alloc ?_ _)); exact BK184.out) hb); have n1_ := Aside0.mk (below_step (by repeat (first | (with_reducible first | exact HB.out | apply below_alloc | apply pw_below_drewN | apply below_drew1 | refine below_set ?_ GE184.out) | exact HB.out)) hb); clear BK184; clear HB; have BK184 := n0_; have HB := n1_; clear n0_ n1_; (try clear hb); (try clear hb2); (try clear hk); (try clear hi)))
                repeat (go_quiet (first | (go_at_call 113; (with_reducible refine (dec_power.calls (x4_19.extract 1 x4_19.size) t190 true _ A41.out).mono ?_); rintro e w43 ⟨rfl, hb⟩; have n0_ := Aside0.mk (blk_below (g := gb184) (o := .cells #[.bool x185000_19, .string x185001_19, .int .i64 x185002_19] 121 (0, 0)) (by (with_reducible repeat (first | refine blk_drewN ?_ _ | refine blk_drew ?_ | refine blk_alloc ?_ _)); exact BK184.out) hb); have n1_ := Aside0.mk (below_step (by repeat (first | (with_reducible first | exact HB.out | apply below_alloc | apply pw_below_drewN | apply below_drew1 | refine below_set ?_ GE184.out) | exact HB.out)) hb); clear BK184; clear HB; have BK184 := n0_; have HB := n1_; clear n0_ n1_; (try clear hb); (try clear hb2); (try clear hk); (try clear hi))); try go_wp2_with (first | (go_at_call 113; (with_reducible refine (dec_power.calls (x4_19.extract 1 x4_19.size) t190 true _ A41.out).mono ?_); rintro e w43 ⟨rfl, hb⟩; have n0_ := Aside0.mk (blk_below (g := gb184) (o := .cells #[.bool x185000_19, .string x185001_19, .int .i64 x185002_19] 121 (0, 0)) (by (with_reducible repeat (first | refine blk_drewN ?_ _ | refine blk_drew ?_ | refine blk_alloc ?_ _)); exact BK184.out) hb); have n1_ := Aside0.mk (below_step (by repeat (first | (with_reducible first | exact HB.out | apply below_alloc | apply pw_below_drewN | apply below_drew1 | refine below_set ?_ GE184.out) | exact HB.out)) hb); clear BK184; clear HB; have BK184 := n0_; have HB := n1_; clear n0_ n1_; (try clear hb); (try clear hb2); (try clear hk); (try clear hi))))
                go_meet
                case rel => exact ⟨_, (t190), (x185000_19), (x185001_19), (x185002_19), (by first | rfl | (simp; done) | (simp [*]; done)), H', ⟨by have := HJ6.out; have := HJ19.out; have := HJ32.out; first | omega | exact Nat.le_refl _⟩, ⟨by (with_reducible repeat (first | refine blk_drewN ?_ _ | refine blk_drew ?_ | refine blk_alloc ?_ _)); exact BK184.out⟩, ⟨by repeat (first | (with_reducible first | exact HB.out | apply below_alloc | apply pw_below_drewN | apply below_drew1 | refine below_set ?_ GE184.out) | exact HB.out)⟩⟩
               ·replace c42 := Bool.eq_false_iff.mpr c42
                subst c42
                have H1 : (some (false, (⟨#[]⟩ : ByteArray), 0, false)) = some (r1, r2, r3, r4) := by rw [if_neg (show ¬ (false = true) by decide)] at H; exact H
                clear H
                have H := H1
                clear H1
                simp only [Option.some.injEq, Prod.mk.injEq] at H
                obtain ⟨rfl, rfl, rfl, rfl⟩ := H
                go_wp2_with (first | (go_at_call 113; (with_reducible refine (dec_power.calls (x4_19.extract 1 x4_19.size) t190 false _ A41.out).mono ?_); rintro e w44 ⟨rfl, hb⟩; have n0_ := Aside0.mk (blk_below (g := gb184) (o := .cells #[.bool x185000_19, .string x185001_19, .int .i64 x185002_19] 121 (0, 0)) (by (with_reducible repeat (first | refine blk_drewN ?_ _ | refine blk_drew ?_ | refine blk_alloc ?_ _)); exact BK184.out) hb); have n1_ := Aside0.mk (below_step (by repeat (first | (with_reducible first | exact HB.out | apply below_alloc | apply pw_below_drewN | apply below_drew1 | refine below_set ?_ GE184.out) | exact HB.out)) hb); clear BK184; clear HB; have BK184 := n0_; have HB := n1_; clear n0_ n1_; (try clear hb); (try clear hb2); (try clear hk); (try clear hi); have hcz45_0 : w44.cell? ⟨gb184, 0, none⟩ = some (.bool x185000_19) := (blk_cell BK184.out 0).trans rfl; have hcz45_1 : w44.cell? ⟨gb184, 1, none⟩ = some (.string x185001_19) := (blk_cell BK184.out 1).trans rfl; have hcz45_2 : w44.cell? ⟨gb184, 2, none⟩ = some (.int .i64 x185002_19) := (blk_cell BK184.out 2).trans rfl; have hfz45_0 := blk_frozen BK184.out 0; have hfz45_1 := blk_frozen BK184.out 1; have hfz45_2 := blk_frozen BK184.out 2))
                repeat (go_quiet (first | (go_at_call 113; (with_reducible refine (dec_power.calls (x4_19.extract 1 x4_19.size) t190 false _ A41.out).mono ?_); rintro e w44 ⟨rfl, hb⟩; have n0_ := Aside0.mk (blk_below (g := gb184) (o := .cells #[.bool x185000_19, .string x185001_19, .int .i64 x185002_19] 121 (0, 0)) (by (with_reducible repeat (first | refine blk_drewN ?_ _ | refine blk_drew ?_ | refine blk_alloc ?_ _)); exact BK184.out) hb); have n1_ := Aside0.mk (below_step (by repeat (first | (with_reducible first | exact HB.out | apply below_alloc | apply pw_below_drewN | apply below_drew1 | refine below_set ?_ GE184.out) | exact HB.out)) hb); clear BK184; clear HB; have BK184 := n0_; have HB := n1_; clear n0_ n1_; (try clear hb); (try clear hb2); (try clear hk); (try clear hi); have hcz45_0 : w44.cell? ⟨gb184, 0, none⟩ = some (.bool x185000_19) := (blk_cell BK184.out 0).trans rfl; have hcz45_1 : w44.cell? ⟨gb184, 1, none⟩ = some (.string x185001_19) := (blk_cell BK184.out 1).trans rfl; have hcz45_2 : w44.cell? ⟨gb184, 2, none⟩ = some (.int .i64 x185002_19) := (blk_cell BK184.out 2).trans rfl; have hfz45_0 := blk_frozen BK184.out 0; have hfz45_1 := blk_frozen BK184.out 1; have hfz45_2 := blk_frozen BK184.out 2)); try go_wp2_with (first | (go_at_call 113; (with_reducible refine (dec_power.calls (x4_19.extract 1 x4_19.size) t190 false _ A41.out).mono ?_); rintro e w44 ⟨rfl, hb⟩; have n0_ := Aside0.mk (blk_below (g := gb184) (o := .cells #[.bool x185000_19, .string x185001_19, .int .i64 x185002_19] 121 (0, 0)) (by (with_reducible repeat (first | refine blk_drewN ?_ _ | refine blk_drew ?_ | refine blk_alloc ?_ _)); exact BK184.out) hb); have n1_ := Aside0.mk (below_step (by repeat (first | (with_reducible first | exact HB.out | apply below_alloc | apply pw_below_drewN | apply below_drew1 | refine below_set ?_ GE184.out) | exact HB.out)) hb); clear BK184; clear HB; have BK184 := n0_; have HB := n1_; clear n0_ n1_; (try clear hb); (try clear hb2); (try clear hk); (try clear hi); have hcz45_0 : w44.cell? ⟨gb184, 0, none⟩ = some (.bool x185000_19) := (blk_cell BK184.out 0).trans rfl; have hcz45_1 : w44.cell? ⟨gb184, 1, none⟩ = some (.string x185001_19) := (blk_cell BK184.out 1).trans rfl; have hcz45_2 : w44.cell? ⟨gb184, 2, none⟩ = some (.int .i64 x185002_19) := (blk_cell BK184.out 2).trans rfl; have hfz45_0 := blk_frozen BK184.out 0; have hfz45_1 := blk_frozen BK184.out 1; have hfz45_2 := blk_frozen BK184.out 2)))
                refine bodyPost_ret (results_ct rfl _ _ gb184 121 #[.bool false, .string (⟨#[]⟩ : ByteArray), .int .i64 0] (0, 0) _ rfl (by (with_reducible repeat (first | refine blk_drewN ?_ _ | refine blk_drew ?_ | refine blk_alloc ?_ _)); refine blk_put (cs := #[.bool false, .string (⟨#[]⟩ : ByteArray), .int .i64 x185002_19]) ?_ 2 _ rfl; (with_reducible repeat (first | refine blk_drewN ?_ _ | refine blk_drew ?_ | refine blk_alloc ?_ _)); refine blk_put (cs := #[.bool false, .string x185001_19, .int .i64 x185002_19]) ?_ 1 _ rfl; (with_reducible repeat (first | refine blk_drewN ?_ _ | refine blk_drew ?_ | refine blk_alloc ?_ _)); refine blk_put (cs := #[.bool x185000_19, .string x185001_19, .int .i64 x185002_19]) ?_ 0 _ rfl; (with_reducible repeat (first | refine blk_drewN ?_ _ | refine blk_drew ?_ | refine blk_alloc ?_ _)); exact BK184.out) Tryd.underlying121 rfl (by kernel_rfl)) rfl ?_
                exact ⟨by first | rfl | (simp [errW_none, errW_some] <;> rfl) | (simp [*, errW_none, errW_some, bne]; done) | (simp [*, errW_none, errW_some] <;> rfl), by repeat (first | (with_reducible first | exact HB.out | apply below_alloc | apply pw_below_drewN | apply below_drew1 | refine below_set ?_ GE184.out) | exact HB.out)⟩
              ·rw [if_neg c40] at H
               exact absurd H (by simp)
         case rest =>
          clear HC31
          try clear c1
          try clear p1
          try clear q1
          try clear hx1
          try clear qi1
          try clear c2
          try clear c2b0
          try clear c2b1
          try clear p2
          try clear c3
          try clear p3
          try clear q3
          try clear hx3
          try clear qi3
          try clear c4
          try clear p6
          try clear c9
          try clear c9b0
          try clear c9b1
          try clear c10
          try clear c10b0
          try clear c11
          try clear c11b0
          try clear c11b1
          try clear p12
          try clear q12
          try clear hx12
          try clear qi12
          try clear c13
          try clear c15
          try clear c15b0
          try clear c15b1
          try clear c16
          try clear c16b0
          try clear c16b1
          try clear c17
          try clear c17b0
          try clear c18
          try clear c18b0
          try clear c21
          try clear c22
          try clear c22b0
          try clear c22b1
          try clear c24
          try clear c24b0
          try clear c24b1
          try clear c26
          try clear c26b0
          try clear c26b1
          try clear c27
          try clear c27b0
          try clear c27b1
          try clear c29
          try clear c29b0
          try clear c29b1
          try clear c30
          try clear c30b0
          try clear c32
          try clear c32b0
          try clear c32b1
          try clear c34
          try clear c34b0
          try clear c34b1
          try clear p35
          try clear q35
          try clear hx35
          try clear qi35
          try clear c36
          try clear c36b0
          try clear c36b1
          try clear p37
          try clear q37
          try clear hx37
          try clear qi37
          try clear c38
          try clear c40
          try clear c40b0
          try clear c40b1
          try clear c42
          try clear hcz14_0
          try clear hcz14_1
          try clear hcz14_2
          try clear hcz25_0
          try clear hcz25_1
          try clear hcz25_2
          try clear hcz39_0
          try clear hcz39_1
          try clear hcz39_2
          try clear hcz45_0
          try clear hcz45_1
          try clear hcz45_2
          try clear hcz4_0
          try clear hcz4_1
          try clear hcz4_2
          try clear hfz14_0
          try clear hfz14_1
          try clear hfz14_2
          try clear hfz25_0
          try clear hfz25_1
          try clear hfz25_2
          try clear hfz39_0
          try clear hfz39_1
          try clear hfz39_2
          try clear hfz45_0
          try clear hfz45_1
          try clear hfz45_2
          try clear hfz4_0
          try clear hfz4_1
          try clear hfz4_2
          try clear p1
          try clear p12
          try clear p2
          try clear p3
          try clear p35
          try clear p37
          try clear p6
          try clear q1
          try clear q12
          try clear q3
          try clear q35
          try clear q37
          obtain ⟨kq, x9_30, x185000_30, x185001_30, x185002_30, rfl, HA, HJ30, BK184, HB⟩ := hcut
          cases kq with
          | zero => exact absurd HA.out (by simp [dec_parse.j3])
          | succ kj30 =>
           have H := HA.out
           clear HA
           simp only [dec_parse.j3] at H
           by_cases c46 : (t185.extract 0 (t187 : Int).toNat).size + x8_19.size ≤ 9223372036854775807
           ·rw [if_pos c46] at H
            have c46b0 := eq_true c46
            have c46b1 : decide ((t185.extract 0 (t187 : Int).toNat).size + x8_19.size ≤ 9223372036854775807) = true := decide_eq_true c46
            try have c46b2 : (9223372036854775807 < (t185.extract 0 (t187 : Int).toNat).size + x8_19.size) = False := eq_false (Nat.not_lt.2 c46)
            replace H := Option.bind_eq_some_iff.mp H
            obtain ⟨t192, A470, H⟩ := H
            replace H : (if t192.toList = ([] : List UInt8) then (some (false, (⟨#[]⟩ : ByteArray), 0, true)) else ((strings_TrimRight.f t192 (⟨#[48]⟩ : ByteArray)).bind fun t193 => (some (t186, t193, wrap64 (x9_30 + (wrap64 ((((t185.extract 0 (t187 : Int).toNat).size : Int) - 1) - (wrap64 ((((t185.extract 0 (t187 : Int).toNat).size : Int) + (x8_19.size : Int)) - (t192.size : Int)))))), true)))) = some (r1, r2, r3, r4) := H
            have A47 := Aside0.mk A470
            clear A470
            by_cases c48 : t192.toList = ([] : List UInt8)
            ·rw [if_pos c48] at H
             have c48b0 : (t192.toList == ([] : List UInt8)) = true := beq_iff_eq.mpr c48
             have c48b1 : (t192.toList != ([] : List UInt8)) = false := bne_eq_false_iff_eq.mpr c48
             have c48b2 : t192.toList.isEmpty = true := List.isEmpty_iff.mpr c48
             (try simp only [c48b2, Bool.not_true, Bool.not_false])
             clear c48
             simp only [Option.some.injEq, Prod.mk.injEq] at H
             obtain ⟨rfl, rfl, rfl, rfl⟩ := H
             go_wp2_with (first | (go_at_call 55; (with_reducible refine (strings_TrimLeft.calls ((t185.extract 0 (t187 : Int).toNat) ++ x8_19) (⟨#[48]⟩ : ByteArray) t192 _ A47.out).mono ?_); rintro e w49 ⟨rfl, hb⟩; have n0_ := Aside0.mk (blk_below (g := gb184) (o := .cells #[.bool x185000_30, .string x185001_30, .int .i64 x185002_30] 121 (0, 0)) (by (with_reducible repeat (first | refine blk_drewN ?_ _ | refine blk_drew ?_ | refine blk_alloc ?_ _)); exact BK184.out) hb); have n1_ := Aside0.mk (below_step (by repeat (first | (with_reducible first | exact HB.out | apply below_alloc | apply pw_below_drewN | apply below_drew1 | refine below_set ?_ GE184.out) | exact HB.out)) hb); clear BK184; clear HB; have BK184 := n0_; have HB := n1_; clear n0_ n1_; (try clear hb); (try clear hb2); (try clear hk); (try clear hi); have hcz50_0 : w49.cell? ⟨gb184, 0, none⟩ = some (.bool x185000_30) := (blk_cell BK184.out 0).trans rfl; have hcz50_1 : w49.cell? ⟨gb184, 1, none⟩ = some (.string x185001_30) := (blk_cell BK184.out 1).trans rfl; have hcz50_2 : w49.cell? ⟨gb184, 2, none⟩ = some (.int .i64 x185002_30) := (blk_cell BK184.out 2).trans rfl; have hfz50_0 := blk_frozen BK184.out 0; have hfz50_1 := blk_frozen BK184.out 1; have hfz50_2 := blk_frozen BK184.out 2))
             repeat (go_quiet (first | (go_at_call 55; (with_reducible refine (strings_TrimLeft.calls ((t185.extract 0 (t187 : Int).toNat) ++ x8_19) (⟨#[48]⟩ : ByteArray) t192 _ A47.out).mono ?_); rintro e w49 ⟨rfl, hb⟩; have n0_ := Aside0.mk (blk_below (g := gb184) (o := .cells #[.bool x185000_30, .string x185001_30, .int .i64 x185002_30] 121 (0, 0)) (by (with_reducible repeat (first | refine blk_drewN ?_ _ | refine blk_drew ?_ | refine blk_alloc ?_ _)); exact BK184.out) hb); have n1_ := Aside0.mk (below_step (by repeat (first | (with_reducible first | exact HB.out | apply below_alloc | apply pw_below_drewN | apply below_drew1 | refine below_set ?_ GE184.out) | exact HB.out)) hb); clear BK184; clear HB; have BK184 := n0_; have HB := n1_; clear n0_ n1_; (try clear hb); (try clear hb2); (try clear hk); (try clear hi); have hcz50_0 : w49.cell? ⟨gb184, 0, none⟩ = some (.bool x185000_30) := (blk_cell BK184.out 0).trans rfl; have hcz50_1 : w49.cell? ⟨gb184, 1, none⟩ = some (.string x185001_30) := (blk_cell BK184.out 1).trans rfl; have hcz50_2 : w49.cell? ⟨gb184, 2, none⟩ = some (.int .i64 x185002_30) := (blk_cell BK184.out 2).trans rfl; have hfz50_0 := blk_frozen BK184.out 0; have hfz50_1 := blk_frozen BK184.out 1; have hfz50_2 := blk_frozen BK184.out 2)); try go_wp2_with (first | (go_at_call 55; (with_reducible refine (strings_TrimLeft.calls ((t185.extract 0 (t187 : Int).toNat) ++ x8_19) (⟨#[48]⟩ : ByteArray) t192 _ A47.out).mono ?_); rintro e w49 ⟨rfl, hb⟩; have n0_ := Aside0.mk (blk_below (g := gb184) (o := .cells #[.bool x185000_30, .string x185001_30, .int .i64 x185002_30] 121 (0, 0)) (by (with_reducible repeat (first | refine blk_drewN ?_ _ | refine blk_drew ?_ | refine blk_alloc ?_ _)); exact BK184.out) hb); have n1_ := Aside0.mk (below_step (by repeat (first | (with_reducible first | exact HB.out | apply below_alloc | apply pw_below_drewN | apply below_drew1 | refine below_set ?_ GE184.out) | exact HB.out)) hb); clear BK184; clear HB; have BK184 := n0_; have HB := n1_; clear n0_ n1_; (try clear hb); (try clear hb2); (try clear hk); (try clear hi); have hcz50_0 : w49.cell? ⟨gb184, 0, none⟩ = some (.bool x185000_30) := (blk_cell BK184.out 0).trans rfl; have hcz50_1 : w49.cell? ⟨gb184, 1, none⟩ = some (.string x185001_30) := (blk_cell BK184.out 1).trans rfl; have hcz50_2 : w49.cell? ⟨gb184, 2, none⟩ = some (.int .i64 x185002_30) := (blk_cell BK184.out 2).trans rfl; have hfz50_0 := blk_frozen BK184.out 0; have hfz50_1 := blk_frozen BK184.out 1; have hfz50_2 := blk_frozen BK184.out 2)))
             refine bodyPost_ret (results_ct rfl _ _ gb184 121 #[.bool false, .string (⟨#[]⟩ : ByteArray), .int .i64 0] (0, 0) _ rfl (by (with_reducible repeat (first | refine blk_drewN ?_ _ | refine blk_drew ?_ | refine blk_alloc ?_ _)); refine blk_put (cs := #[.bool false, .string (⟨#[]⟩ : ByteArray), .int .i64 x185002_30]) ?_ 2 _ rfl; (with_reducible repeat (first | refine blk_drewN ?_ _ | refine blk_drew ?_ | refine blk_alloc ?_ _)); refine blk_put (cs := #[.bool false, .string x185001_30, .int .i64 x185002_30]) ?_ 1 _ rfl; (with_reducible repeat (first | refine blk_drewN ?_ _ | refine blk_drew ?_ | refine blk_alloc ?_ _)); refine blk_put (cs := #[.bool x185000_30, .string x185001_30, .int .i64 x185002_30]) ?_ 0 _ rfl; (with_reducible repeat (first | refine blk_drewN ?_ _ | refine blk_drew ?_ | refine blk_alloc ?_ _)); exact BK184.out) Tryd.underlying121 rfl (by kernel_rfl)) rfl ?_
             exact ⟨by first | rfl | (simp [errW_none, errW_some] <;> rfl) | (simp [*, errW_none, errW_some, bne]; done) | (simp [*, errW_none, errW_some] <;> rfl), by repeat (first | (with_reducible first | exact HB.out | apply below_alloc | apply pw_below_drewN | apply below_drew1 | refine below_set ?_ GE184.out) | exact HB.out)⟩
            ·rw [if_neg c48] at H
             have c48b0 : (t192.toList == ([] : List UInt8)) = false := beq_eq_false_iff_ne.mpr c48
             have c48b1 : (t192.toList != ([] : List UInt8)) = true := bne_iff_ne.mpr c48
             have c48b2 : t192.toList.isEmpty = false := List.isEmpty_eq_false_iff.mpr c48
             (try simp only [c48b2, Bool.not_true, Bool.not_false])
             replace H := Option.bind_eq_some_iff.mp H
             obtain ⟨t193, A510, H⟩ := H
             replace H : (some (t186, t193, wrap64 (x9_30 + (wrap64 ((((t185.extract 0 (t187 : Int).toNat).size : Int) - 1) - (wrap64 ((((t185.extract 0 (t187 : Int).toNat).size : Int) + (x8_19.size : Int)) - (t192.size : Int)))))), true)) = some (r1, r2, r3, r4) := H
             have A51 := Aside0.mk A510
             clear A510
             simp only [Option.some.injEq, Prod.mk.injEq] at H
             obtain ⟨rfl, rfl, rfl, rfl⟩ := H
             go_wp2_with (first | (go_at_call 55; (with_reducible refine (strings_TrimLeft.calls ((t185.extract 0 (t187 : Int).toNat) ++ x8_19) (⟨#[48]⟩ : ByteArray) t192 _ A47.out).mono ?_); rintro e w52 ⟨rfl, hb⟩; have n0_ := Aside0.mk (blk_below (g := gb184) (o := .cells #[.bool x185000_30, .string x185001_30, .int .i64 x185002_30] 121 (0, 0)) (by (with_reducible repeat (first | refine blk_drewN ?_ _ | refine blk_drew ?_ | refine blk_alloc ?_ _)); exact BK184.out) hb); have n1_ := Aside0.mk (below_step (by repeat (first | (with_reducible first | exact HB.out | apply below_alloc | apply pw_below_drewN | apply below_drew1 | refine below_set ?_ GE184.out) | exact HB.out)) hb); clear BK184; clear HB; have BK184 := n0_; have HB := n1_; clear n0_ n1_; (try clear hb); (try clear hb2); (try clear hk); (try clear hi)) | (go_at_call 114; (with_reducible refine (strings_TrimRight.calls t192 (⟨#[48]⟩ : ByteArray) t193 _ A51.out).mono ?_); rintro e w53 ⟨rfl, hb⟩; have n0_ := Aside0.mk (blk_below (g := gb184) (o := .cells #[.bool x185000_30, .string x185001_30, .int .i64 x185002_30] 121 (0, 0)) (by (with_reducible repeat (first | refine blk_drewN ?_ _ | refine blk_drew ?_ | refine blk_alloc ?_ _)); exact BK184.out) hb); have n1_ := Aside0.mk (below_step (by repeat (first | (with_reducible first | exact HB.out | apply below_alloc | apply pw_below_drewN | apply below_drew1 | refine below_set ?_ GE184.out) | exact HB.out)) hb); clear BK184; clear HB; have BK184 := n0_; have HB := n1_; clear n0_ n1_; (try clear hb); (try clear hb2); (try clear hk); (try clear hi); have hcz54_0 : w53.cell? ⟨gb184, 0, none⟩ = some (.bool x185000_30) := (blk_cell BK184.out 0).trans rfl; have hcz54_1 : w53.cell? ⟨gb184, 1, none⟩ = some (.string x185001_30) := (blk_cell BK184.out 1).trans rfl; have hcz54_2 : w53.cell? ⟨gb184, 2, none⟩ = some (.int .i64 x185002_30) := (blk_cell BK184.out 2).trans rfl; have hfz54_0 := blk_frozen BK184.out 0; have hfz54_1 := blk_frozen BK184.out 1; have hfz54_2 := blk_frozen BK184.out 2))
             repeat (go_quiet (first | (go_at_call 55; (with_reducible refine (strings_TrimLeft.calls ((t185.extract 0 (t187 : Int).toNat) ++ x8_19) (⟨#[48]⟩ : ByteArray) t192 _ A47.out).mono ?_); rintro e w52 ⟨rfl, hb⟩; have n0_ := Aside0.mk (blk_below (g := gb184) (o := .cells #[.bool x185000_30, .string x185001_30, .int .i64 x185002_30] 121 (0, 0)) (by (with_reducible repeat (first | refine blk_drewN ?_ _ | refine blk_drew ?_ | refine blk_alloc ?_ _)); exact BK184.out) hb); have n1_ := Aside0.mk (below_step (by repeat (first | (with_reducible first | exact HB.out | apply below_alloc | apply pw_below_drewN | apply below_drew1 | refine below_set ?_ GE184.out) | exact HB.out)) hb); clear BK184; clear HB; have BK184 := n0_; have HB := n1_; clear n0_ n1_; (try clear hb); (try clear hb2); (try clear hk); (try clear hi)) | (go_at_call 114; (with_reducible refine (strings_TrimRight.calls t192 (⟨#[48]⟩ : ByteArray) t193 _ A51.out).mono ?_); rintro e w53 ⟨rfl, hb⟩; have n0_ := Aside0.mk (blk_below (g := gb184) (o := .cells #[.bool x185000_30, .string x185001_30, .int .i64 x185002_30] 121 (0, 0)) (by (with_reducible repeat (first | refine blk_drewN ?_ _ | refine blk_drew ?_ | refine blk_alloc ?_ _)); exact BK184.out) hb); have n1_ := Aside0.mk (below_step (by repeat (first | (with_reducible first | exact HB.out | apply below_alloc | apply pw_below_drewN | apply below_drew1 | refine below_set ?_ GE184.out) | exact HB.out)) hb); clear BK184; clear HB; have BK184 := n0_; have HB := n1_; clear n0_ n1_; (try clear hb); (try clear hb2); (try clear hk); (try clear hi); have hcz54_0 : w53.cell? ⟨gb184, 0, none⟩ = some (.bool x185000_30) := (blk_cell BK184.out 0).trans rfl; have hcz54_1 : w53.cell? ⟨gb184, 1, none⟩ = some (.string x185001_30) := (blk_cell BK184.out 1).trans rfl; have hcz54_2 : w53.cell? ⟨gb184, 2, none⟩ = some (.int .i64 x185002_30) := (blk_cell BK184.out 2).trans rfl; have hfz54_0 := blk_frozen BK184.out 0; have hfz54_1 := blk_frozen BK184.out 1; have hfz54_2 := blk_frozen BK184.out 2)); try go_wp2_with (first | (go_at_call 55; (with_reducible refine (strings_TrimLeft.calls ((t185.extract 0 (t187 : Int).toNat) ++ x8_19) (⟨#[48]⟩ : ByteArray) t192 _ A47.out).mono ?_); rintro e w52 ⟨rfl, hb⟩; have n0_ := Aside0.mk (blk_below (g := gb184) (o := .cells #[.bool x185000_30, .string x185001_30, .int .i64 x185002_30] 121 (0, 0)) (by (with_reducible repeat (first | refine blk_drewN ?_ _ | refine blk_drew ?_ | refine blk_alloc ?_ _)); exact BK184.out) hb); have n1_ := Aside0.mk (below_step (by repeat (first | (with_reducible first | exact HB.out | apply below_alloc | apply pw_below_drewN | apply below_drew1 | refine below_set ?_ GE184.out) | exact HB.out)) hb); clear BK184; clear HB; have BK184 := n0_; have HB := n1_; clear n0_ n1_; (try clear hb); (try clear hb2); (try clear hk); (try clear hi)) | (go_at_call 114; (with_reducible refine (strings_TrimRight.calls t192 (⟨#[48]⟩ : ByteArray) t193 _ A51.out).mono ?_); rintro e w53 ⟨rfl, hb⟩; have n0_ := Aside0.mk (blk_below (g := gb184) (o := .cells #[.bool x185000_30, .string x185001_30, .int .i64 x185002_30] 121 (0, 0)) (by (with_reducible repeat (first | refine blk_drewN ?_ _ | refine blk_drew ?_ | refine blk_alloc ?_ _)); exact BK184.out) hb); have n1_ := Aside0.mk (below_step (by repeat (first | (with_reducible first | exact HB.out | apply below_alloc | apply pw_below_drewN | apply below_drew1 | refine below_set ?_ GE184.out) | exact HB.out)) hb); clear BK184; clear HB; have BK184 := n0_; have HB := n1_; clear n0_ n1_; (try clear hb); (try clear hb2); (try clear hk); (try clear hi); have hcz54_0 : w53.cell? ⟨gb184, 0, none⟩ = some (.bool x185000_30) := (blk_cell BK184.out 0).trans rfl; have hcz54_1 : w53.cell? ⟨gb184, 1, none⟩ = some (.string x185001_30) := (blk_cell BK184.out 1).trans rfl; have hcz54_2 : w53.cell? ⟨gb184, 2, none⟩ = some (.int .i64 x185002_30) := (blk_cell BK184.out 2).trans rfl; have hfz54_0 := blk_frozen BK184.out 0; have hfz54_1 := blk_frozen BK184.out 1; have hfz54_2 := blk_frozen BK184.out 2)))
             refine bodyPost_ret (results_ct rfl _ _ gb184 121 #[.bool t186, .string t193, .int .i64 (wrap64 (x9_30 + (wrap64 ((((t185.extract 0 (t187 : Int).toNat).size : Int) - 1) - (wrap64 ((((t185.extract 0 (t187 : Int).toNat).size : Int) + (x8_19.size : Int)) - (t192.size : Int)))))))] (0, 0) _ rfl (by (with_reducible repeat (first | refine blk_drewN ?_ _ | refine blk_drew ?_ | refine blk_alloc ?_ _)); refine blk_put (cs := #[.bool t186, .string t193, .int .i64 x185002_30]) ?_ 2 _ rfl; (with_reducible repeat (first | refine blk_drewN ?_ _ | refine blk_drew ?_ | refine blk_alloc ?_ _)); refine blk_put (cs := #[.bool t186, .string x185001_30, .int .i64 x185002_30]) ?_ 1 _ rfl; (with_reducible repeat (first | refine blk_drewN ?_ _ | refine blk_drew ?_ | refine blk_alloc ?_ _)); refine blk_put (cs := #[.bool x185000_30, .string x185001_30, .int .i64 x185002_30]) ?_ 0 _ rfl; (with_reducible repeat (first | refine blk_drewN ?_ _ | refine blk_drew ?_ | refine blk_alloc ?_ _)); exact BK184.out) Tryd.underlying121 rfl (by kernel_rfl)) rfl ?_
             exact ⟨by first | rfl | (simp [errW_none, errW_some] <;> rfl) | (simp [*, errW_none, errW_some, bne]; done) | (simp [*, errW_none, errW_some] <;> rfl), by repeat (first | (with_reducible first | exact HB.out | apply below_alloc | apply pw_below_drewN | apply below_drew1 | refine below_set ?_ GE184.out) | exact HB.out)⟩
           ·rw [if_neg c46] at H
            exact absurd H (by simp)
      ·rw [if_neg c16] at H
       exact absurd H (by simp)
     ·rw [if_neg c15] at H
      exact absurd H (by simp)
end Go.Proofs.YtoanbmggffkmgaaDoor.P
end
section
namespace Go.Proofs.YtoanbmggffkmgaaDoor.P
open Go.RowKit Go.Proofs.YtoanbmggffkmgaaDoorW.PrintWords Go.Proofs.YtoanbmggffkmgaaDoorW.PrintLast Go.Proofs.YtoanbmggffkmgaaDoorW.PrintMore
attribute [local go_sem] max2_int min2_int max_two min_two max_three min_three max_four min_four   -- for this text's walks alone
set_option linter.unusedVariables false
set_option linter.unusedSimpArgs false
/-! ### dec_Good: function 81 -/
def dec_Good.f (k : Nat) (a0 : ByteArray) : Option (Bool) := (dec_parse.f k a0).bind fun bt194 => (some bt194.2.2.2)
set_option maxHeartbeats 8000000 in
set_option maxRecDepth 100000 in
theorem dec_Good.calls (k : Nat) (a0 : ByteArray) (r : Bool) (w : World) (h : dec_Good.f k a0 = some r) :
  Calls Tryd.prog 81 #[.string a0] w fun e w' => e = .returned (.bool r) ∧ Below w.heap.size w w' := by
 have hu121 := Tryd.underlying121
 have HB := Aside0.mk (Below.refl w.heap.size w)
 have H : ((dec_parse.f k a0).bind fun bt194 => (some bt194.2.2.2)) = some r := h
 clear h
 replace H := Option.bind_eq_some_iff.mp H
 obtain ⟨⟨t194, t195, t196, t197⟩, A20, H⟩ := H
 replace H : (some t197) = some r := H
 have A2 := Aside0.mk A20
 clear A20
 obtain rfl := Option.some.inj H
 go_enter Tryd.func81, Tryd.ntmps81
 go_wp2_with (first | ((with_reducible refine gate_callee (f := 100) rfl ?_); refine goesL_ (some 7) rfl rfl Tryd.func100 (by kernel_rfl) rfl #[.string a0] rfl (by (try simp only [List.map_toArray, List.map_cons, List.map_nil]); first | done | rfl | (simp only [List.length_drop, List.length_take]; rfl)) ?_; (with_reducible refine (dec_parse.calls k a0 t194 t195 t196 t197 _ A2.out).mono ?_); rintro e w3 ⟨rfl, hb⟩; refine ⟨_, rfl, ?_⟩; have n0_ := Aside0.mk (below_step (by repeat (first | (with_reducible first | exact HB.out | apply below_alloc | apply pw_below_drewN | apply below_drew1) | exact HB.out)) hb); clear HB; have HB := n0_; clear n0_; (try clear hb); (try clear hb2); (try clear hk); (try clear hi)) | ((with_reducible refine gate_dst (N := 3) rfl ?_); refine box_event ?hg (N := 3) ?hd (cs := #[.bool false, .string (⟨#[]⟩ : ByteArray), .int .i64 0]) (t := 121) ?hr ?_; (case hd => rfl); (case hg => rfl); (case hr => first | (go_simp; done) | (go_simp; rfl)); intro gb198 hg w4 hbox hb; have n0_ := Aside0.mk (below_step (by repeat (first | (with_reducible first | exact HB.out | apply below_alloc | apply pw_below_drewN | apply below_drew1) | exact HB.out)) hb); have n1_ := Aside0.mk (hbox); have n2_ := Aside0.mk ((by rw [hg]; exact (below_size (by repeat (first | (with_reducible first | exact HB.out | apply below_alloc | apply pw_below_drewN | apply below_drew1) | exact HB.out))) : w.heap.size ≤ gb198)); have n3_ := Aside0.mk ((by rw [hg]; exact (below_size (by repeat (first | (with_reducible first | exact HB.out | apply below_alloc | apply pw_below_drewN | apply below_drew1) | exact HB.out))) : w.heap.size ≤ gb198)); clear HB; have HB := n0_; have BK198 := n1_; have GW198 := n2_; have GE198 := n3_; clear n0_ n1_ n2_ n3_; clear hb hbox hg; have hcz5_0 : w4.cell? ⟨gb198, 0, none⟩ = some (.bool false) := (blk_cell BK198.out 0).trans rfl; have hcz5_1 : w4.cell? ⟨gb198, 1, none⟩ = some (.string (⟨#[]⟩ : ByteArray)) := (blk_cell BK198.out 1).trans rfl; have hcz5_2 : w4.cell? ⟨gb198, 2, none⟩ = some (.int .i64 0) := (blk_cell BK198.out 2).trans rfl; have hfz5_0 := blk_frozen BK198.out 0; have hfz5_1 := blk_frozen BK198.out 1; have hfz5_2 := blk_frozen BK198.out 2))
 go_ret
 exact ⟨by first | rfl | (simp [errW_none, errW_some] <;> rfl) | (simp [*, errW_none, errW_some, bne]; done) | (simp [*, errW_none, errW_some] <;> rfl), by repeat (first | (with_reducible first | exact HB.out | apply below_alloc | apply pw_below_drewN | apply below_drew1 | refine below_set ?_ GE198.out) | exact HB.out)⟩
end Go.Proofs.YtoanbmggffkmgaaDoor.P
end
section
namespace Go.Proofs.YtoanbmggffkmgaaDoor.P
open Go.RowKit Go.Proofs.YtoanbmggffkmgaaDoorW.PrintWords Go.Proofs.YtoanbmggffkmgaaDoorW.PrintLast Go.Proofs.YtoanbmggffkmgaaDoorW.PrintMore
attribute [local go_sem] max2_int min2_int max_two min_two max_three min_three max_four min_four   -- for this text's walks alone
attribute [-simp] ByteArray.size_extract
set_option linter.unusedVariables false
set_option linter.unusedSimpArgs false
/-! ### jlex_great: function 82 -/
def jlex_great.j0 : Nat → ByteArray → Int → ByteArray → Bool → Option (Bool)
 | 0, _, _, _, _ => none
 | k + 1, x0, x3, x4, x35 => if x35 = true then (if 1 ≤ (x4.size : Int) then (if (x4.extract 1 x4.size).toList = ([] : List UInt8) then (some false) else ((jlex_while.f (x4.extract 1 x4.size) (⟨#[48, 49, 50, 51, 52, 53, 54, 55, 56, 57]⟩ : ByteArray)).bind fun t201 => (if t201 = ((x4.extract 1 x4.size).size : Int) then (if 0 ≤ x3 then (if x3 ≤ (x0.size : Int) then ((dec_Good.f k (x0.extract 0 (x3 : Int).toNat)).bind fun t202 => (some t202)) else (none)) else (none)) else (some false)))) else (none)) else (if x4.toList = ([] : List UInt8) then (if (wrap64 (x3 + 1)) < (x0.size : Int) then (if 0 ≤ x3 then (if x3 ≤ (x0.size : Int) then ((dec_Good.f k (x0.extract 0 (x3 : Int).toNat)).bind fun t203 => (some t203)) else (none)) else (none)) else (some false)) else (some false))
def jlex_great.f (k : Nat) (a0 : ByteArray) : Option (Bool) := (strings_IndexAny.f a0 (⟨#[101, 69]⟩ : ByteArray)).bind fun t199 => (if t199 < 0 then (some false) else (if 0 ≤ (wrap64 (t199 + 1)) then (if (wrap64 (t199 + 1)) ≤ (a0.size : Int) then ((strings_TrimLeft.f (a0.extract ((wrap64 (t199 + 1)) : Int).toNat a0.size) (⟨#[48, 49, 50, 51, 52, 53, 54, 55, 56, 57]⟩ : ByteArray)).bind fun t200 => (if t200.toList = (a0.extract ((wrap64 (t199 + 1)) : Int).toNat a0.size).toList then (if (t200.size : Int) > 0 then (if 0 < (t200.size : Int) then (if (bt t200 0) = 43 then (jlex_great.j0 k a0 t199 t200 true) else (jlex_great.j0 k a0 t199 t200 ((bt t200 0) == 45))) else (none)) else (jlex_great.j0 k a0 t199 t200 false)) else (jlex_great.j0 k a0 t199 t200 false))) else (none)) else (none)))
set_option maxHeartbeats 8000000 in
set_option maxRecDepth 100000 in
theorem jlex_great.calls (k : Nat) (a0 : ByteArray) (r : Bool) (w : World) (h : jlex_great.f k a0 = some r) :
  Calls Tryd.prog 82 #[.string a0] w fun e w' => e = .returned (.bool r) ∧ Below w.heap.size w w' := by
 have HB := Aside0.mk (Below.refl w.heap.size w)
 have H : ((strings_IndexAny.f a0 (⟨#[101, 69]⟩ : ByteArray)).bind fun t199 => (if t199 < 0 then (some false) else (if 0 ≤ (wrap64 (t199 + 1)) then (if (wrap64 (t199 + 1)) ≤ (a0.size : Int) then ((strings_TrimLeft.f (a0.extract ((wrap64 (t199 + 1)) : Int).toNat a0.size) (⟨#[48, 49, 50, 51, 52, 53, 54, 55, 56, 57]⟩ : ByteArray)).bind fun t200 => (if t200.toList = (a0.extract ((wrap64 (t199 + 1)) : Int).toNat a0.size).toList then (if (t200.size : Int) > 0 then (if 0 < (t200.size : Int) then (if (bt t200 0) = 43 then (jlex_great.j0 k a0 t199 t200 true) else (jlex_great.j0 k a0 t199 t200 ((bt t200 0) == 45))) else (none)) else (jlex_great.j0 k a0 t199 t200 false)) else (jlex_great.j0 k a0 t199 t200 false))) else (none)) else (none)))) = some r := h
 clear h
 replace H := Option.bind_eq_some_iff.mp H
 obtain ⟨t199, A20, H⟩ := H
 replace H : (if t199 < 0 then (some false) else (if 0 ≤ (wrap64 (t199 + 1)) then (if (wrap64 (t199 + 1)) ≤ (a0.size : Int) then ((strings_TrimLeft.f (a0.extract ((wrap64 (t199 + 1)) : Int).toNat a0.size) (⟨#[48, 49, 50, 51, 52, 53, 54, 55, 56, 57]⟩ : ByteArray)).bind fun t200 => (if t200.toList = (a0.extract ((wrap64 (t199 + 1)) : Int).toNat a0.size).toList then (if (t200.size : Int) > 0 then (if 0 < (t200.size : Int) then (if (bt t200 0) = 43 then (jlex_great.j0 k a0 t199 t200 true) else (jlex_great.j0 k a0 t199 t200 ((bt t200 0) == 45))) else (none)) else (jlex_great.j0 k a0 t199 t200 false)) else (jlex_great.j0 k a0 t199 t200 false))) else (none)) else (none))) = some r := H
 have A2 := Aside0.mk A20
 clear A20
 by_cases c3 : t199 < 0
 ·rw [if_pos c3] at H
  have c3b0 : decide (t199 < 0) = true := decide_eq_true c3
  clear c3
  obtain rfl := Option.some.inj H
  go_enter Tryd.func82, Tryd.ntmps82
  go_wp2_with (first | ((with_reducible refine gate_callee (f := 101) rfl ?_); refine goesL_ (some 7) rfl rfl Tryd.func101 (by kernel_rfl) rfl #[.string a0, .string (⟨#[101, 69]⟩ : ByteArray)] rfl (by (try simp only [List.map_toArray, List.map_cons, List.map_nil]); first | done | rfl | (simp only [List.length_drop, List.length_take]; rfl)) ?_; (with_reducible refine (strings_IndexAny.calls a0 (⟨#[101, 69]⟩ : ByteArray) t199 _ A2.out).mono ?_); rintro e w4 ⟨rfl, hb⟩; refine ⟨_, rfl, ?_⟩; have n0_ := Aside0.mk (below_step (by repeat (first | (with_reducible first | exact HB.out | apply below_alloc | apply pw_below_drewN | apply below_drew1) | exact HB.out)) hb); clear HB; have HB := n0_; clear n0_; (try clear hb); (try clear hb2); (try clear hk); (try clear hi)))
  go_ret
  exact ⟨by first | rfl | (simp [errW_none, errW_some] <;> rfl) | (simp [*, errW_none, errW_some, bne]; done) | (simp [*, errW_none, errW_some] <;> rfl), by repeat (first | (with_reducible first | exact HB.out | apply below_alloc | apply pw_below_drewN | apply below_drew1) | exact HB.out)⟩
 ·rw [if_neg c3] at H
  have c3b0 : decide (t199 < 0) = false := decide_eq_false c3
  clear c3
  obtain ⟨ji5, hji5⟩ : ∃ j_ : Int, (wrap64 (t199 + 1)) = j_ := ⟨_, rfl⟩
  replace H : (if 0 ≤ (ji5) then (if (ji5) ≤ (a0.size : Int) then ((strings_TrimLeft.f (a0.extract ((ji5) : Int).toNat a0.size) (⟨#[48, 49, 50, 51, 52, 53, 54, 55, 56, 57]⟩ : ByteArray)).bind fun t200 => (if t200.toList = (a0.extract ((ji5) : Int).toNat a0.size).toList then (if (t200.size : Int) > 0 then (if 0 < (t200.size : Int) then (if (bt t200 0) = 43 then (jlex_great.j0 k a0 t199 t200 true) else (jlex_great.j0 k a0 t199 t200 ((bt t200 0) == 45))) else (none)) else (jlex_great.j0 k a0 t199 t200 false)) else (jlex_great.j0 k a0 t199 t200 false))) else (none)) else (none)) = some r := by first | (rw [hji5] at H; exact H) | (simp only [hji5] at H ⊢; exact H)
  (try rw [hji5] at A2)
  have hji5w : (IntKind.i64.wrap (t199 + 1)) = ji5 := (i64_w _).trans hji5
  by_cases c6 : 0 ≤ (ji5)
  ·rw [if_pos c6] at H
   have c6b0 := eq_true c6
   have c6b1 : decide (0 ≤ (ji5)) = true := decide_eq_true c6
   clear c6
   by_cases c7 : (ji5) ≤ (a0.size : Int)
   ·rw [if_pos c7] at H
    have c7b0 := eq_true c7
    have c7b1 : decide ((ji5) ≤ (a0.size : Int)) = true := decide_eq_true c7
    clear c7
    replace H := Option.bind_eq_some_iff.mp H
    obtain ⟨t200, A80, H⟩ := H
    replace H : (if t200.toList = (a0.extract ((ji5) : Int).toNat a0.size).toList then (if (t200.size : Int) > 0 then (if 0 < (t200.size : Int) then (if (bt t200 0) = 43 then (jlex_great.j0 k a0 t199 t200 true) else (jlex_great.j0 k a0 t199 t200 ((bt t200 0) == 45))) else (none)) else (jlex_great.j0 k a0 t199 t200 false)) else (jlex_great.j0 k a0 t199 t200 false)) = some r := H
    have A8 := Aside0.mk A80
    clear A80
    have HC9 := Aside0.mk H
    clear H
    go_enter Tryd.func82, Tryd.ntmps82
    go_upto_region 5 with (first | ((with_reducible refine gate_callee (f := 101) rfl ?_); refine goesL_ (some 7) rfl rfl Tryd.func101 (by kernel_rfl) rfl #[.string a0, .string (⟨#[101, 69]⟩ : ByteArray)] rfl (by (try simp only [List.map_toArray, List.map_cons, List.map_nil]); first | done | rfl | (simp only [List.length_drop, List.length_take]; rfl)) ?_; (with_reducible refine (strings_IndexAny.calls a0 (⟨#[101, 69]⟩ : ByteArray) t199 _ A2.out).mono ?_); rintro e w10 ⟨rfl, hb⟩; refine ⟨_, rfl, ?_⟩; have n0_ := Aside0.mk (below_step (by repeat (first | (with_reducible first | exact HB.out | apply below_alloc | apply pw_below_drewN | apply below_drew1) | exact HB.out)) hb); clear HB; have HB := n0_; clear n0_; (try clear hb); (try clear hb2); (try clear hk); (try clear hi)) | ((with_reducible refine gate_callee (f := 55) rfl ?_); refine goesL_ (some 14) rfl rfl Tryd.func55 (by kernel_rfl) rfl #[.string (a0.extract ((ji5) : Int).toNat a0.size), .string (⟨#[48, 49, 50, 51, 52, 53, 54, 55, 56, 57]⟩ : ByteArray)] rfl (by (try simp only [List.map_toArray, List.map_cons, List.map_nil]); first | done | (simp only [hji5]; rfl) | rfl | (simp only [List.length_drop, List.length_take]; rfl)) ?_; (with_reducible refine (strings_TrimLeft.calls (a0.extract ((ji5) : Int).toNat a0.size) (⟨#[48, 49, 50, 51, 52, 53, 54, 55, 56, 57]⟩ : ByteArray) t200 _ A8.out).mono ?_); rintro e w11 ⟨rfl, hb⟩; refine ⟨_, rfl, ?_⟩; have n0_ := Aside0.mk (below_step (by repeat (first | (with_reducible first | exact HB.out | apply below_alloc | apply pw_below_drewN | apply below_drew1) | exact HB.out)) hb); clear HB; have HB := n0_; clear n0_; (try clear hb); (try clear hb2); (try clear hk); (try clear hi)))
    (try simp only [Act.put, List.setIfInBounds_toArray, List.set_cons_zero, List.set_cons_succ])
    go_cut [35] (fun v35 wc => ∃ (kq : Nat) (x35_8 : Bool), v35 = .bool x35_8 ∧ Aside0 (jlex_great.j0 kq a0 t199 t200 x35_8 = some r) ∧ Aside0 (kq ≤ k) ∧ Aside0 (Below w.heap.size w wc))
    case first =>
     have H := HC9.out
     clear HC9
     have c12b0 := eq_true (of_decide_eq_true (by first | (with_reducible assumption) | assumption) : 0 ≤ (ji5))
     have c13b0 := eq_true (of_decide_eq_true (by first | (with_reducible assumption) | assumption) : (ji5) ≤ (a0.size : Int))
     by_cases c14 : t200.toList = (a0.extract ((ji5) : Int).toNat a0.size).toList
     ·rw [if_pos c14] at H
      have c14b0 : (t200.toList == (a0.extract ((ji5) : Int).toNat a0.size).toList) = true := beq_iff_eq.mpr c14
      have c14b1 : (t200.toList != (a0.extract ((ji5) : Int).toNat a0.size).toList) = false := bne_eq_false_iff_eq.mpr c14
      clear c14
      (first | rw [c14b0] | (simp only [i64_w, i32_w]; rw [c14b0]) | skip)
      by_cases c15 : (t200.size : Int) > 0
      ·rw [if_pos c15] at H
       have c15b0 : decide (0 < (t200.size : Int)) = true := decide_eq_true c15
       have c15b1 : decide (0 < t200.size) = true := decide_eq_true (by omega)
       clear c15
       by_cases c16 : 0 < (t200.size : Int)
       ·rw [if_pos c16] at H
        have c16b0 : decide (0 < (t200.size : Int)) = true := decide_eq_true c16
        have c16b1 : decide (0 < t200.size) = true := decide_eq_true (by omega)
        clear c16
        by_cases c18 : (bt t200 0) = 43
        ·rw [if_pos c18] at H
         have c18b0 : ((bt t200 0) == 43) = true := beq_iff_eq.mpr c18
         have c18b1 : ((bt t200 0) != 43) = false := bne_eq_false_iff_eq.mpr c18
         clear c18
         have H' := Aside0.mk H
         clear H
         have p17 : 0 ≤ (0 : Int) := (by omega)
         have q17 : 0 < t200.size := (by have : (0 : Int) < (t200.size : Int) := of_decide_eq_true (by first | (with_reducible assumption) | assumption); omega)
         have hx17 : ∀ h : 0 < t200.size, ((t200[0]'h).toNat : Int) = bt t200 0 := bt_at t200 0
         clear p17
         have qi17 : (0 < (t200.size : Int)) = True := eq_true (of_decide_eq_true (by first | (with_reducible assumption) | assumption))
         replace q17 := eq_true q17
         go_wp2
         go_meet
         case rel => exact ⟨_, (true), (by first | rfl | (simp; done) | (simp [*]; done)), H', ⟨by first | omega | exact Nat.le_refl _⟩, ⟨by repeat (first | (with_reducible first | exact HB.out | apply below_alloc | apply pw_below_drewN | apply below_drew1) | exact HB.out)⟩⟩
        ·rw [if_neg c18] at H
         have c18b0 : ((bt t200 0) == 43) = false := beq_eq_false_iff_ne.mpr c18
         have c18b1 : ((bt t200 0) != 43) = true := bne_iff_ne.mpr c18
         have H' := Aside0.mk H
         clear H
         have p17 : 0 ≤ (0 : Int) := (by omega)
         have q17 : 0 < t200.size := (by have : (0 : Int) < (t200.size : Int) := of_decide_eq_true (by first | (with_reducible assumption) | assumption); omega)
         have hx17 : ∀ h : 0 < t200.size, ((t200[0]'h).toNat : Int) = bt t200 0 := bt_at t200 0
         clear p17
         have qi17 : (0 < (t200.size : Int)) = True := eq_true (of_decide_eq_true (by first | (with_reducible assumption) | assumption))
         replace q17 := eq_true q17
         have p19 : 0 ≤ (0 : Int) := (by omega)
         have q19 : 0 < t200.size := (by have : (0 : Int) < (t200.size : Int) := of_decide_eq_true (by first | (with_reducible assumption) | assumption); omega)
         have hx19 : ∀ h : 0 < t200.size, ((t200[0]'h).toNat : Int) = bt t200 0 := bt_at t200 0
         clear p19
         have qi19 : (0 < (t200.size : Int)) = True := eq_true (of_decide_eq_true (by first | (with_reducible assumption) | assumption))
         replace q19 := eq_true q19
         go_wp2
         go_meet
         case rel => exact ⟨_, (((bt t200 0) == 45)), (by first | rfl | (simp; done) | (simp [*]; done)), H', ⟨by first | omega | exact Nat.le_refl _⟩, ⟨by repeat (first | (with_reducible first | exact HB.out | apply below_alloc | apply pw_below_drewN | apply below_drew1) | exact HB.out)⟩⟩
       ·rw [if_neg c16] at H
        exact absurd H (by simp)
      ·rw [if_neg c15] at H
       have c15b0 : decide (0 < (t200.size : Int)) = false := decide_eq_false c15
       have c15b1 : decide (0 < t200.size) = false := decide_eq_false (by omega)
       clear c15
       have H' := Aside0.mk H
       clear H
       go_wp2
       go_meet
       case rel => exact ⟨_, (false), (by first | rfl | (simp; done) | (simp [*]; done)), H', ⟨by first | omega | exact Nat.le_refl _⟩, ⟨by repeat (first | (with_reducible first | exact HB.out | apply below_alloc | apply pw_below_drewN | apply below_drew1) | exact HB.out)⟩⟩
     ·rw [if_neg c14] at H
      have c14b0 : (t200.toList == (a0.extract ((ji5) : Int).toNat a0.size).toList) = false := beq_eq_false_iff_ne.mpr c14
      have c14b1 : (t200.toList != (a0.extract ((ji5) : Int).toNat a0.size).toList) = true := bne_iff_ne.mpr c14
      (first | rw [c14b0] | (simp only [i64_w, i32_w]; rw [c14b0]) | skip)
      have H' := Aside0.mk H
      clear H
      go_wp2
      go_meet
      case rel => exact ⟨_, (false), (by first | rfl | (simp; done) | (simp [*]; done)), H', ⟨by first | omega | exact Nat.le_refl _⟩, ⟨by repeat (first | (with_reducible first | exact HB.out | apply below_alloc | apply pw_below_drewN | apply below_drew1) | exact HB.out)⟩⟩
    case rest =>
     clear HC9
     try clear c1
     try clear p1
     try clear q1
     try clear hx1
     try clear qi1
     try clear p2
     try clear c3
     try clear c3b0
     try clear c5
     try clear c6
     try clear c6b0
     try clear c6b1
     try clear p6
     try clear c7
     try clear c7b0
     try clear c7b1
     try clear c8
     try clear c10
     try clear c12
     try clear c12b0
     try clear c13
     try clear c13b0
     try clear c14
     try clear c14b0
     try clear c14b1
     try clear c15
     try clear c15b0
     try clear c15b1
     try clear c16
     try clear c16b0
     try clear c16b1
     try clear p17
     try clear q17
     try clear hx17
     try clear qi17
     try clear c18
     try clear c18b0
     try clear c18b1
     try clear p19
     try clear q19
     try clear hx19
     try clear qi19
     try clear p17
     try clear p19
     try clear q17
     try clear q19
     obtain ⟨kq, x35_8, rfl, HA, HJ8, HB⟩ := hcut
     cases kq with
     | zero => exact absurd HA.out (by simp [jlex_great.j0])
     | succ kj8 =>
      have H := HA.out
      clear HA
      simp only [jlex_great.j0] at H
      by_cases c20 : x35_8 = true
      ·subst c20
       have H1 : (if 1 ≤ (t200.size : Int) then (if (t200.extract 1 t200.size).toList = ([] : List UInt8) then (some false) else ((jlex_while.f (t200.extract 1 t200.size) (⟨#[48, 49, 50, 51, 52, 53, 54, 55, 56, 57]⟩ : ByteArray)).bind fun t201 => (if t201 = ((t200.extract 1 t200.size).size : Int) then (if 0 ≤ t199 then (if t199 ≤ (a0.size : Int) then ((dec_Good.f kj8 (a0.extract 0 (t199 : Int).toNat)).bind fun t202 => (some t202)) else (none)) else (none)) else (some false)))) else (none)) = some r := by rw [if_pos rfl] at H; exact H
       clear H
       have H := H1
       clear H1
       by_cases c21 : 1 ≤ (t200.size : Int)
       ·rw [if_pos c21] at H
        have c21b0 := eq_true c21
        have c21b1 : decide (1 ≤ (t200.size : Int)) = true := decide_eq_true c21
        clear c21
        by_cases c22 : (t200.extract 1 t200.size).toList = ([] : List UInt8)
        ·rw [if_pos c22] at H
         have c22b0 : ((t200.extract 1 t200.size).toList == ([] : List UInt8)) = true := beq_iff_eq.mpr c22
         have c22b1 : ((t200.extract 1 t200.size).toList != ([] : List UInt8)) = false := bne_eq_false_iff_eq.mpr c22
         have c22b2 : (t200.extract 1 t200.size).toList.isEmpty = true := List.isEmpty_iff.mpr c22
         (try simp only [c22b2, Bool.not_true, Bool.not_false])
         clear c22
         obtain rfl := Option.some.inj H
         go_wp2
         go_ret
         exact ⟨by first | rfl | (simp [errW_none, errW_some] <;> rfl) | (simp [*, errW_none, errW_some, bne]; done) | (simp only [← hji5]; first | rfl | (simp [errW_none, errW_some] <;> rfl)) | (simp [*, errW_none, errW_some] <;> rfl), by repeat (first | (with_reducible first | exact HB.out | apply below_alloc | apply pw_below_drewN | apply below_drew1) | exact HB.out)⟩
        ·rw [if_neg c22] at H
         have c22b0 : ((t200.extract 1 t200.size).toList == ([] : List UInt8)) = false := beq_eq_false_iff_ne.mpr c22
         have c22b1 : ((t200.extract 1 t200.size).toList != ([] : List UInt8)) = true := bne_iff_ne.mpr c22
         have c22b2 : (t200.extract 1 t200.size).toList.isEmpty = false := List.isEmpty_eq_false_iff.mpr c22
         (try simp only [c22b2, Bool.not_true, Bool.not_false])
         replace H := Option.bind_eq_some_iff.mp H
         obtain ⟨t201, A230, H⟩ := H
         replace H : (if t201 = ((t200.extract 1 t200.size).size : Int) then (if 0 ≤ t199 then (if t199 ≤ (a0.size : Int) then ((dec_Good.f kj8 (a0.extract 0 (t199 : Int).toNat)).bind fun t202 => (some t202)) else (none)) else (none)) else (some false)) = some r := H
         have A23 := Aside0.mk A230
         clear A230
         by_cases c24 : t201 = ((t200.extract 1 t200.size).size : Int)
         ·rw [if_pos c24] at H
          have c24b0 : (t201 == ((t200.extract 1 t200.size).size : Int)) = true := beq_iff_eq.mpr c24
          have c24b1 : (t201 != ((t200.extract 1 t200.size).size : Int)) = false := bne_eq_false_iff_eq.mpr c24
          clear c24
          by_cases c25 : 0 ≤ t199
          ·rw [if_pos c25] at H
           have c25b0 := eq_true c25
           have c25b1 : decide (0 ≤ t199) = true := decide_eq_true c25
           clear c25
           by_cases c26 : t199 ≤ (a0.size : Int)
           ·rw [if_pos c26] at H
            have c26b0 := eq_true c26
            have c26b1 : decide (t199 ≤ (a0.size : Int)) = true := decide_eq_true c26
            clear c26
            replace H := Option.bind_eq_some_iff.mp H
            obtain ⟨t202, A270, H⟩ := H
            replace H : (some t202) = some r := H
            have A27 := Aside0.mk A270
            clear A270
            obtain rfl := Option.some.inj H
            go_wp2_with (first | (go_at_call 32; (with_reducible refine (jlex_while.calls (t200.extract 1 t200.size) (⟨#[48, 49, 50, 51, 52, 53, 54, 55, 56, 57]⟩ : ByteArray) t201 _ A23.out).mono ?_); rintro e w28 ⟨rfl, hb⟩; have n0_ := Aside0.mk (below_step (by repeat (first | (with_reducible first | exact HB.out | apply below_alloc | apply pw_below_drewN | apply below_drew1) | exact HB.out)) hb); clear HB; have HB := n0_; clear n0_; (try clear hb); (try clear hb2); (try clear hk); (try clear hi)) | (go_at_call 81; (with_reducible refine (dec_Good.calls kj8 (a0.extract 0 (t199 : Int).toNat) t202 _ A27.out).mono ?_); rintro e w29 ⟨rfl, hb⟩; have n0_ := Aside0.mk (below_step (by repeat (first | (with_reducible first | exact HB.out | apply below_alloc | apply pw_below_drewN | apply below_drew1) | exact HB.out)) hb); clear HB; have HB := n0_; clear n0_; (try clear hb); (try clear hb2); (try clear hk); (try clear hi)))
            go_ret
            exact ⟨by first | rfl | (simp [errW_none, errW_some] <;> rfl) | (simp [*, errW_none, errW_some, bne]; done) | (simp only [← hji5]; first | rfl | (simp [errW_none, errW_some] <;> rfl)) | (simp [*, errW_none, errW_some] <;> rfl), by repeat (first | (with_reducible first | exact HB.out | apply below_alloc | apply pw_below_drewN | apply below_drew1) | exact HB.out)⟩
           ·rw [if_neg c26] at H
            exact absurd H (by simp)
          ·rw [if_neg c25] at H
           exact absurd H (by simp)
         ·rw [if_neg c24] at H
          have c24b0 : (t201 == ((t200.extract 1 t200.size).size : Int)) = false := beq_eq_false_iff_ne.mpr c24
          have c24b1 : (t201 != ((t200.extract 1 t200.size).size : Int)) = true := bne_iff_ne.mpr c24
          obtain rfl := Option.some.inj H
          go_wp2_with (first | (go_at_call 32; (with_reducible refine (jlex_while.calls (t200.extract 1 t200.size) (⟨#[48, 49, 50, 51, 52, 53, 54, 55, 56, 57]⟩ : ByteArray) t201 _ A23.out).mono ?_); rintro e w30 ⟨rfl, hb⟩; have n0_ := Aside0.mk (below_step (by repeat (first | (with_reducible first | exact HB.out | apply below_alloc | apply pw_below_drewN | apply below_drew1) | exact HB.out)) hb); clear HB; have HB := n0_; clear n0_; (try clear hb); (try clear hb2); (try clear hk); (try clear hi)))
          go_ret
          exact ⟨by first | rfl | (simp [errW_none, errW_some] <;> rfl) | (simp [*, errW_none, errW_some, bne]; done) | (simp only [← hji5]; first | rfl | (simp [errW_none, errW_some] <;> rfl)) | (simp [*, errW_none, errW_some] <;> rfl), by repeat (first | (with_reducible first | exact HB.out | apply below_alloc | apply pw_below_drewN | apply below_drew1) | exact HB.out)⟩
       ·rw [if_neg c21] at H
        exact absurd H (by simp)
      ·replace c20 := Bool.eq_false_iff.mpr c20
       subst c20
       have H1 : (if t200.toList = ([] : List UInt8) then (if (wrap64 (t199 + 1)) < (a0.size : Int) then (if 0 ≤ t199 then (if t199 ≤ (a0.size : Int) then ((dec_Good.f kj8 (a0.extract 0 (t199 : Int).toNat)).bind fun t203 => (some t203)) else (none)) else (none)) else (some false)) else (some false)) = some r := by rw [if_neg (show ¬ (false = true) by decide)] at H; exact H
       clear H
       have H := H1
       clear H1
       by_cases c31 : t200.toList = ([] : List UInt8)
       ·rw [if_pos c31] at H
        have c31b0 : (t200.toList == ([] : List UInt8)) = true := beq_iff_eq.mpr c31
        have c31b1 : (t200.toList != ([] : List UInt8)) = false := bne_eq_false_iff_eq.mpr c31
        have c31b2 : t200.toList.isEmpty = true := List.isEmpty_iff.mpr c31
        (try simp only [c31b2, Bool.not_true, Bool.not_false])
        clear c31
        by_cases c32 : (wrap64 (t199 + 1)) < (a0.size : Int)
        ·rw [if_pos c32] at H
         have c32b0 : decide ((wrap64 (t199 + 1)) < (a0.size : Int)) = true := decide_eq_true c32
         (try rw [hji5] at c32b0)
         clear c32
         by_cases c33 : 0 ≤ t199
         ·rw [if_pos c33] at H
          have c33b0 := eq_true c33
          have c33b1 : decide (0 ≤ t199) = true := decide_eq_true c33
          clear c33
          by_cases c34 : t199 ≤ (a0.size : Int)
          ·rw [if_pos c34] at H
           have c34b0 := eq_true c34
           have c34b1 : decide (t199 ≤ (a0.size : Int)) = true := decide_eq_true c34
           clear c34
           replace H := Option.bind_eq_some_iff.mp H
           obtain ⟨t203, A350, H⟩ := H
           replace H : (some t203) = some r := H
           have A35 := Aside0.mk A350
           clear A350
           obtain rfl := Option.some.inj H
           go_wp2_with (first | (go_at_call 81; (with_reducible refine (dec_Good.calls kj8 (a0.extract 0 (t199 : Int).toNat) t203 _ A35.out).mono ?_); rintro e w36 ⟨rfl, hb⟩; have n0_ := Aside0.mk (below_step (by repeat (first | (with_reducible first | exact HB.out | apply below_alloc | apply pw_below_drewN | apply below_drew1) | exact HB.out)) hb); clear HB; have HB := n0_; clear n0_; (try clear hb); (try clear hb2); (try clear hk); (try clear hi)))
           go_ret
           exact ⟨by first | rfl | (simp [errW_none, errW_some] <;> rfl) | (simp [*, errW_none, errW_some, bne]; done) | (simp only [← hji5]; first | rfl | (simp [errW_none, errW_some] <;> rfl)) | (simp [*, errW_none, errW_some] <;> rfl), by repeat (first | (with_reducible first | exact HB.out | apply below_alloc | apply pw_below_drewN | apply below_drew1) | exact HB.out)⟩
          ·rw [if_neg c34] at H
           exact absurd H (by simp)
         ·rw [if_neg c33] at H
          exact absurd H (by simp)
        ·rw [if_neg c32] at H
         have c32b0 : decide ((wrap64 (t199 + 1)) < (a0.size : Int)) = false := decide_eq_false c32
         (try rw [hji5] at c32b0)
         clear c32
         obtain rfl := Option.some.inj H
         go_wp2
         go_ret
         exact ⟨by first | rfl | (simp [errW_none, errW_some] <;> rfl) | (simp [*, errW_none, errW_some, bne]; done) | (simp only [← hji5]; first | rfl | (simp [errW_none, errW_some] <;> rfl)) | (simp [*, errW_none, errW_some] <;> rfl), by repeat (first | (with_reducible first | exact HB.out | apply below_alloc | apply pw_below_drewN | apply below_drew1) | exact HB.out)⟩
       ·rw [if_neg c31] at H
        have c31b0 : (t200.toList == ([] : List UInt8)) = false := beq_eq_false_iff_ne.mpr c31
        have c31b1 : (t200.toList != ([] : List UInt8)) = true := bne_iff_ne.mpr c31
        have c31b2 : t200.toList.isEmpty = false := List.isEmpty_eq_false_iff.mpr c31
        (try simp only [c31b2, Bool.not_true, Bool.not_false])
        obtain rfl := Option.some.inj H
        go_wp2
        go_ret
        exact ⟨by first | rfl | (simp [errW_none, errW_some] <;> rfl) | (simp [*, errW_none, errW_some, bne]; done) | (simp only [← hji5]; first | rfl | (simp [errW_none, errW_some] <;> rfl)) | (simp [*, errW_none, errW_some] <;> rfl), by repeat (first | (with_reducible first | exact HB.out | apply below_alloc | apply pw_below_drewN | apply below_drew1) | exact HB.out)⟩
   ·rw [if_neg c7] at H
    exact absurd H (by simp)
  ·rw [if_neg c6] at H
   exact absurd H (by simp)
end Go.Proofs.YtoanbmggffkmgaaDoor.P
end
section
namespace Go.Proofs.YtoanbmggffkmgaaDoor.P
open Go.RowKit Go.Proofs.YtoanbmggffkmgaaDoorW.PrintWords Go.Proofs.YtoanbmggffkmgaaDoorW.PrintLast Go.Proofs.YtoanbmggffkmgaaDoorW.PrintMore
attribute [local go_sem] max2_int min2_int max_two min_two max_three min_three max_four min_four   -- for this text's walks alone
attribute [-simp] ByteArray.size_extract
set_option linter.unusedVariables false
set_option linter.unusedSimpArgs false
/-! ### jlex_number: function 57 -/
def jlex_number.f (k : Nat) (a0 : ByteArray) : Option (Int) := if (a0.size : Int) > 400 then (some 2) else ((dec_Good.f k a0).bind fun t204 => (if t204 = true then (some 0) else ((jlex_great.f k a0).bind fun t205 => (if t205 = true then (some 6) else (some 4)))))
set_option maxHeartbeats 8000000 in
set_option maxRecDepth 100000 in
theorem jlex_number.calls (k : Nat) (a0 : ByteArray) (r : Int) (w : World) (h : jlex_number.f k a0 = some r) :
  Calls Tryd.prog 57 #[.string a0] w fun e w' => e = .returned (.int .i64 r) ∧ Below w.heap.size w w' := by
 have HB := Aside0.mk (Below.refl w.heap.size w)
 have H : (if (a0.size : Int) > 400 then (some 2) else ((dec_Good.f k a0).bind fun t204 => (if t204 = true then (some 0) else ((jlex_great.f k a0).bind fun t205 => (if t205 = true then (some 6) else (some 4)))))) = some r := h
 clear h
 by_cases c2 : (a0.size : Int) > 400
 ·rw [if_pos c2] at H
  have c2b0 : decide (400 < (a0.size : Int)) = true := decide_eq_true c2
  have c2b1 : decide (400 < a0.size) = true := decide_eq_true (by omega)
  clear c2
  obtain rfl := Option.some.inj H
  go_enter Tryd.func57, Tryd.ntmps57
  go_wp2
  go_ret
  exact ⟨by first | rfl | (simp [errW_none, errW_some] <;> rfl) | (simp [*, errW_none, errW_some, bne]; done) | (simp [*, errW_none, errW_some] <;> rfl), by repeat (first | (with_reducible first | exact HB.out | apply below_alloc | apply pw_below_drewN | apply below_drew1) | exact HB.out)⟩
 ·rw [if_neg c2] at H
  have c2b0 : decide (400 < (a0.size : Int)) = false := decide_eq_false c2
  have c2b1 : decide (400 < a0.size) = false := decide_eq_false (by omega)
  clear c2
  replace H := Option.bind_eq_some_iff.mp H
  obtain ⟨t204, A30, H⟩ := H
  replace H : (if t204 = true then (some 0) else ((jlex_great.f k a0).bind fun t205 => (if t205 = true then (some 6) else (some 4)))) = some r := H
  have A3 := Aside0.mk A30
  clear A30
  by_cases c4 : t204 = true
  ·subst c4
   have H1 : (some 0) = some r := by rw [if_pos rfl] at H; exact H
   clear H
   have H := H1
   clear H1
   obtain rfl := Option.some.inj H
   go_enter Tryd.func57, Tryd.ntmps57
   go_wp2_with (first | ((with_reducible refine gate_callee (f := 81) rfl ?_); refine goesL_ (some 9) rfl rfl Tryd.func81 (by kernel_rfl) rfl #[.string a0] rfl (by (try simp only [List.map_toArray, List.map_cons, List.map_nil]); first | done | rfl | (simp only [List.length_drop, List.length_take]; rfl)) ?_; (with_reducible refine (dec_Good.calls k a0 true _ A3.out).mono ?_); rintro e w5 ⟨rfl, hb⟩; refine ⟨_, rfl, ?_⟩; have n0_ := Aside0.mk (below_step (by repeat (first | (with_reducible first | exact HB.out | apply below_alloc | apply pw_below_drewN | apply below_drew1) | exact HB.out)) hb); clear HB; have HB := n0_; clear n0_; (try clear hb); (try clear hb2); (try clear hk); (try clear hi)))
   go_ret
   exact ⟨by first | rfl | (simp [errW_none, errW_some] <;> rfl) | (simp [*, errW_none, errW_some, bne]; done) | (simp [*, errW_none, errW_some] <;> rfl), by repeat (first | (with_reducible first | exact HB.out | apply below_alloc | apply pw_below_drewN | apply below_drew1) | exact HB.out)⟩
  ·replace c4 := Bool.eq_false_iff.mpr c4
   subst c4
   have H1 : ((jlex_great.f k a0).bind fun t205 => (if t205 = true then (some 6) else (some 4))) = some r := by rw [if_neg (show ¬ (false = true) by decide)] at H; exact H
   clear H
   have H := H1
   clear H1
   replace H := Option.bind_eq_some_iff.mp H
   obtain ⟨t205, A60, H⟩ := H
   replace H : (if t205 = true then (some 6) else (some 4)) = some r := H
   have A6 := Aside0.mk A60
   clear A60
   by_cases c7 : t205 = true
   ·subst c7
    have H1 : (some 6) = some r := by rw [if_pos rfl] at H; exact H
    clear H
    have H := H1
    clear H1
    obtain rfl := Option.some.inj H
    go_enter Tryd.func57, Tryd.ntmps57
    go_wp2_with (first | ((with_reducible refine gate_callee (f := 81) rfl ?_); refine goesL_ (some 9) rfl rfl Tryd.func81 (by kernel_rfl) rfl #[.string a0] rfl (by (try simp only [List.map_toArray, List.map_cons, List.map_nil]); first | done | rfl | (simp only [List.length_drop, List.length_take]; rfl)) ?_; (with_reducible refine (dec_Good.calls k a0 false _ A3.out).mono ?_); rintro e w8 ⟨rfl, hb⟩; refine ⟨_, rfl, ?_⟩; have n0_ := Aside0.mk (below_step (by repeat (first | (with_reducible first | exact HB.out | apply below_alloc | apply pw_below_drewN | apply below_drew1) | exact HB.out)) hb); clear HB; have HB := n0_; clear n0_; (try clear hb); (try clear hb2); (try clear hk); (try clear hi)) | ((with_reducible refine gate_callee (f := 82) rfl ?_); refine goesL_ (some 12) rfl rfl Tryd.func82 (by kernel_rfl) rfl #[.string a0] rfl (by (try simp only [List.map_toArray, List.map_cons, List.map_nil]); first | done | rfl | (simp only [List.length_drop, List.length_take]; rfl)) ?_; (with_reducible refine (jlex_great.calls k a0 true _ A6.out).mono ?_); rintro e w9 ⟨rfl, hb⟩; refine ⟨_, rfl, ?_⟩; have n0_ := Aside0.mk (below_step (by repeat (first | (with_reducible first | exact HB.out | apply below_alloc | apply pw_below_drewN | apply below_drew1) | exact HB.out)) hb); clear HB; have HB := n0_; clear n0_; (try clear hb); (try clear hb2); (try clear hk); (try clear hi)))
    go_ret
    exact ⟨by first | rfl | (simp [errW_none, errW_some] <;> rfl) | (simp [*, errW_none, errW_some, bne]; done) | (simp [*, errW_none, errW_some] <;> rfl), by repeat (first | (with_reducible first | exact HB.out | apply below_alloc | apply pw_below_drewN | apply below_drew1) | exact HB.out)⟩
   ·replace c7 := Bool.eq_false_iff.mpr c7
    subst c7
    have H1 : (some 4) = some r := by rw [if_neg (show ¬ (false = true) by decide)] at H; exact H
    clear H
    have H := H1
    clear H1
    obtain rfl := Option.some.inj H
    go_enter Tryd.func57, Tryd.ntmps57
    go_wp2_with (first | ((with_reducible refine gate_callee (f := 81) rfl ?_); refine goesL_ (some 9) rfl rfl Tryd.func81 (by kernel_rfl) rfl #[.string a0] rfl (by (try simp only [List.map_toArray, List.map_cons, List.map_nil]); first | done | rfl | (simp only [List.length_drop, List.length_take]; rfl)) ?_; (with_reducible refine (dec_Good.calls k a0 false _ A3.out).mono ?_); rintro e w10 ⟨rfl, hb⟩; refine ⟨_, rfl, ?_⟩; have n0_ := Aside0.mk (below_step (by repeat (first | (with_reducible first | exact HB.out | apply below_alloc | apply pw_below_drewN | apply below_drew1) | exact HB.out)) hb); clear HB; have HB := n0_; clear n0_; (try clear hb); (try clear hb2); (try clear hk); (try clear hi)) | ((with_reducible refine gate_callee (f := 82) rfl ?_); refine goesL_ (some 12) rfl rfl Tryd.func82 (by kernel_rfl) rfl #[.string a0] rfl (by (try simp only [List.map_toArray, List.map_cons, List.map_nil]); first | done | rfl | (simp only [List.length_drop, List.length_take]; rfl)) ?_; (with_reducible refine (jlex_great.calls k a0 false _ A6.out).mono ?_); rintro e w11 ⟨rfl, hb⟩; refine ⟨_, rfl, ?_⟩; have n0_ := Aside0.mk (below_step (by repeat (first | (with_reducible first | exact HB.out | apply below_alloc | apply pw_below_drewN | apply below_drew1) | exact HB.out)) hb); clear HB; have HB := n0_; clear n0_; (try clear hb); (try clear hb2); (try clear hk); (try clear hi)))
    go_ret
    exact ⟨by first | rfl | (simp [errW_none, errW_some] <;> rfl) | (simp [*, errW_none, errW_some, bne]; done) | (simp [*, errW_none, errW_some] <;> rfl), by repeat (first | (with_reducible first | exact HB.out | apply below_alloc | apply pw_below_drewN | apply below_drew1) | exact HB.out)⟩
end Go.Proofs.YtoanbmggffkmgaaDoor.P
end
section
namespace Go.Proofs.YtoanbmggffkmgaaDoor.La
open Go.RowKit Go.Proofs.YtoanbmggffkmgaaDoor.P Go.Proofs.YtoanbmggffkmgaaDoorW.PrintWords Go.Proofs.YtoanbmggffkmgaaDoorW.PrintLast Go.Proofs.YtoanbmggffkmgaaDoorW.PrintMore
def badR (size at_ : Nat) : Option Nat → Int × Bool
 | none => ((size : Int), true)
 | some p => (((at_ + p : Nat) : Int), false)
theorem stp_int {l : List Int} (hl : Bytes l) (h : (tk l).2 ≠ 0) : (tk l).2 = (stp l : Int) := by
 have := tk_bound l hl
 unfold stp
 rw [if_neg h]
 omega
theorem valid_l0 (s : ByteArray) (hs : s.size ≤ 140737488355328) (n : Nat) : ∀ (i : Nat), i ≤ s.size → s.size - i = n → Ev (fun k => utf_Valid.l0 k s (i : Int)) (badR s.size i (bad ((bytesOf s).drop i))) := by
 induction n using Nat.strongRecOn with
 | _ n ih =>
 intro i hi hn
 have hL : ((bytesOf s).drop i).length = s.size - i := by rw [List.length_drop, size_of]
 have hBd : Bytes ((bytesOf s).drop i) := (bytes_of s).drop i
 refine Ev.step (fun k => by rw [utf_Valid.l0]) ?_
 by_cases h : i < s.size
 ·have h1 : (i : Int) < (s.size : Int) := by omega
  have h2 : (0 : Int) ≤ (i : Int) := by omega
  have h3 : (i : Int) ≤ (s.size : Int) := by omega
  have hne : (bytesOf s).drop i ≠ [] := fun e => by rw [e] at hL; simp at hL; omega
  simp only [if_pos h1, if_pos h2, if_pos h3, Int.toNat_natCast]
  refine Ev.bind (take_ev _) ?_
  rw [bytesOf_drop]
  by_cases h0 : (tk ((bytesOf s).drop i)).2 = 0
  ·simp only [if_pos h0, bad_none hne h0, badR]
   exact Ev.now _
  ·simp only [if_neg h0]
   have hb := tk_bound _ hBd
   have hp := stp_pos _ hBd
   have hst := stp_le hBd hne
   rw [stp_int hBd h0, wrap_id (by omega) (by omega), bad_step hne h0, List.drop_drop]
   have e : (i : Int) + (stp ((bytesOf s).drop i) : Int) = ((i + stp ((bytesOf s).drop i) : Nat) : Int) := by omega
   rw [e]
   have := ih (s.size - (i + stp ((bytesOf s).drop i))) (by omega) (i + stp ((bytesOf s).drop i)) (by omega) rfl
   generalize stp ((bytesOf s).drop i) = q at *
   cases hc : bad ((bytesOf s).drop (i + q)) with
   | none => rw [hc] at this; exact this
   | some p =>
    rw [hc] at this
    simp only [Option.map_some, badR] at this ⊢
    rw [show i + (p + q) = i + q + p by omega]
    exact this
 ·obtain rfl : i = s.size := by omega
  simp only [if_neg (show ¬ ((s.size : Int) < (s.size : Int)) by omega)]
  rw [List.drop_eq_nil_of_le (by rw [size_of]; omega), bad_nil]
  exact Ev.now _
theorem valid_ev (s : ByteArray) (hs : s.size ≤ 140737488355328) : Ev (fun k => utf_Valid.f k s) (badR s.size 0 (bad (bytesOf s))) :=
 valid_l0 s hs _ 0 (by omega) rfl
theorem mx_stp {l : List Int} (hl : Bytes l) : mx (tk l).2 1 = (stp l : Int) := by
 have := tk_bound l hl
 unfold mx stp
 split <;> split <;> omega
theorem step_ev (s : ByteArray) : Ev (fun k => utf_step.f k s) ((stp (bytesOf s) : Int)) := by
 refine Ev.congr (fun k => by rw [utf_step.f]) (Ev.bind (take_ev s) ?_)
 rw [mx_stp (bytes_of s)]
 exact Ev.now _
theorem count_l0 (s : ByteArray) (hs : s.size ≤ 140737488355328) (n : Nat) : ∀ (c i : Nat), i ≤ s.size → s.size - i = n → c ≤ i → Ev (fun k => utf_Count.l0 k s (c : Int) (i : Int)) (((c + cnt ((bytesOf s).drop i) : Nat) : Int)) := by
 induction n using Nat.strongRecOn with
 | _ n ih =>
 intro c i hi hn hc
 have hL : ((bytesOf s).drop i).length = s.size - i := by rw [List.length_drop, size_of]
 have hBd : Bytes ((bytesOf s).drop i) := (bytes_of s).drop i
 refine Ev.step (fun k => by rw [utf_Count.l0]) ?_
 by_cases h : i < s.size
 ·have h1 : (i : Int) < (s.size : Int) := by omega
  have h2 : (0 : Int) ≤ (i : Int) := by omega
  have h3 : (i : Int) ≤ (s.size : Int) := by omega
  have hne : (bytesOf s).drop i ≠ [] := fun e => by rw [e] at hL; simp at hL; omega
  simp only [if_pos h1, if_pos h2, if_pos h3, Int.toNat_natCast]
  refine Ev.bind (step_ev _) ?_
  rw [bytesOf_drop]
  have hp := stp_pos _ hBd
  have hst := stp_le hBd hne
  rw [wrap_id (by omega) (by omega), wrap_id (by omega) (by omega), cnt_step hne, List.drop_drop]
  have e : (i : Int) + (stp ((bytesOf s).drop i) : Int) = ((i + stp ((bytesOf s).drop i) : Nat) : Int) := by omega
  rw [e, show (c : Int) + 1 = ((c + 1 : Nat) : Int) by omega]
  have := ih (s.size - (i + stp ((bytesOf s).drop i))) (by omega) (c + 1) (i + stp ((bytesOf s).drop i)) (by omega) rfl (by omega)
  rw [show c + (cnt ((bytesOf s).drop (i + stp ((bytesOf s).drop i))) + 1) = c + 1 + cnt ((bytesOf s).drop (i + stp ((bytesOf s).drop i))) by omega]
  exact this
 ·obtain rfl : i = s.size := by omega
  simp only [if_neg (show ¬ ((s.size : Int) < (s.size : Int)) by omega)]
  rw [List.drop_eq_nil_of_le (by rw [size_of]; omega), cnt_nil]
  exact Ev.now _
theorem count_ev (s : ByteArray) (hs : s.size ≤ 140737488355328) : Ev (fun k => utf_Count.f k s) ((cnt (bytesOf s) : Int)) := by
 have := count_l0 s hs _ 0 0 (by omega) rfl (by omega)
 rw [Nat.zero_add] at this
 exact this
theorem put_eq (l : List Int) (r : Int) (hl : l.length ≤ 140737488355000) : utf_Put.f l r = some (if good r then l ++ enc r else l) := by
 unfold utf_Put.f
 have hw : wrap64 ((l.length : Int) + 4) = (l.length : Int) + 4 := wrap_id (by omega) (by omega)
 rw [hw, if_pos (by omega), if_pos (by omega)]
 simp only [Option.bind_some, List.length_nil, List.nil_append]
 rw [if_pos (by omega)]
 by_cases hg : good r
 ·have hg' := good_iff.1 hg
  rw [good_eq, Option.bind_some, if_pos (decide_eq_true hg), size_eq, Option.bind_some, if_pos hg]
  unfold enc
  by_cases c1 : r < 128
  ·rw [if_pos (siz1.2 c1), if_pos (by omega), if_pos c1, show r % 256 = r by omega]
  ·rw [if_neg (fun h => c1 (siz1.1 h)), if_neg c1]
   by_cases c2 : r < 2048
   ·rw [if_pos (siz2.2 (by omega)), if_pos c2]
    rw [if_pos (by simp; omega), i64_and63 (by omega) (by omega), i64_or128 (by omega) (by omega), i64_or192 (by omega) (by omega), show (192 + r / 64) % 256 = 192 + r / 64 by omega, show (128 + r % 64) % 256 = 128 + r % 64 by omega]
   ·rw [if_neg (fun h => by have := siz2.1 h; omega), if_neg c2]
    by_cases c3 : r < 65536
    ·rw [if_pos (siz3.2 (by omega)), if_pos c3]
     rw [if_pos (by simp; omega), i64_and63 (by omega) (by omega), i64_and63 (by omega) (by omega), i64_or128 (by omega) (by omega), i64_or128 (by omega) (by omega), i64_or224 (by omega) (by omega), show (224 + r / 4096) % 256 = 224 + r / 4096 by omega, show (128 + r / 64 % 64) % 256 = 128 + r / 64 % 64 by omega, show (128 + r % 64) % 256 = 128 + r % 64 by omega]
    ·rw [if_neg (fun h => by have := siz3.1 h; omega), if_neg c3]
     rw [if_pos (by simp; omega), i64_and63 (by omega) (by omega), i64_and63 (by omega) (by omega), i64_and63 (by omega) (by omega), i64_or128 (by omega) (by omega), i64_or128 (by omega) (by omega), i64_or128 (by omega) (by omega), i64_or240 (by omega) (by omega), show (240 + r / 262144) % 256 = 240 + r / 262144 by omega, show (128 + r / 4096 % 64) % 256 = 128 + r / 4096 % 64 by omega, show (128 + r / 64 % 64) % 256 = 128 + r / 64 % 64 by omega, show (128 + r % 64) % 256 = 128 + r % 64 by omega]
 ·rw [good_eq, Option.bind_some, if_neg (by simpa using hg), if_neg hg]
end Go.Proofs.YtoanbmggffkmgaaDoor.La
end
section
namespace Go.Proofs.YtoanbmggffkmgaaDoor.P
open Go.RowKit Go.Proofs.YtoanbmggffkmgaaDoor.La Go.Proofs.YtoanbmggffkmgaaDoorW.PrintWords Go.Proofs.YtoanbmggffkmgaaDoorW.PrintLast Go.Proofs.YtoanbmggffkmgaaDoorW.PrintMore
/-- Block g holds a reader: its text, its place, and a row of its own that reads as bs. -/
def Rdr (B : Nat) (w : World) (g : Nat) (text : ByteArray) (at_ : Int) (bs : List Int) : Prop :=
 B ≤ g ∧ ∃ bv, w.heap[g]? = some (.cells #[.string text, .int .i64 at_, bv] 63 (0, 0)) ∧ Kd.R (Kd.int .u8) 5 w B (fun k => k ≠ g) bv bs
theorem rblk_set {w : World} {g t : Nat} {cs : Array Value} (h : w.heap[g]? = some (.cells cs t (0, 0))) (i : Nat) (u : Value) : (w.setCell ⟨g, i, none⟩ u).heap[g]? = some (.cells (cs.setIfInBounds i u) t (0, 0)) := by
 simp [World.setCell, Array.getElem?_modify, h]
theorem rblk_far {w : World} {g k i : Nat} (hne : k ≠ g) (u : Value) : (w.setCell ⟨g, i, none⟩ u).heap[k]? = w.heap[k]? := by
 simp [World.setCell, Array.getElem?_modify, Ne.symm hne]
theorem rblk_lt {w : World} {g : Nat} {o : Obj} (h : w.heap[g]? = some o) : g < w.heap.size := by
 rcases Nat.lt_or_ge g w.heap.size with hlt | hge
 ·exact hlt
 ·rw [Array.getElem?_eq_none hge] at h; cases h
theorem rblk_cell {w : World} {g t : Nat} {cs : Array Value} (h : w.heap[g]? = some (.cells cs t (0, 0))) (i : Nat) : w.cell? ⟨g, i, none⟩ = cs[i]? := cell_of_row w g i cs t (0, 0) h
theorem rblk_free {w : World} {g t : Nat} {cs : Array Value} (h : w.heap[g]? = some (.cells cs t (0, 0))) (i : Nat) : w.frozen? ⟨g, i, none⟩ = false := by simp [World.frozen?, h]
theorem Rdr.open_ {B : Nat} {w : World} {g : Nat} {text : ByteArray} {at_ : Int} {bs : List Int} (h : Rdr B w g text at_ bs) :
  ∃ A c, w.cell? ⟨g, 0, none⟩ = some (.string text) ∧ w.cell? ⟨g, 1, none⟩ = some (.int .i64 at_) ∧ w.cell? ⟨g, 2, none⟩ = some (.slice A bs.length c) ∧
   w.frozen? ⟨g, 1, none⟩ = false ∧ w.frozen? ⟨g, 2, none⟩ = false ∧ g < w.heap.size ∧ bs.length ≤ c ∧ Kd.C (Kd.int .u8) w A bs.length bs := by
 obtain ⟨_, bv, hh, hr⟩ := h
 obtain ⟨A, c, rfl, hl, hC⟩ := Kd.R_reads hr
 exact ⟨A, c, by rw [rblk_cell hh]; rfl, by rw [rblk_cell hh]; rfl, by rw [rblk_cell hh]; rfl, rblk_free hh 1, rblk_free hh 2, rblk_lt hh, hl, hC⟩
/-- A new row and a new place are stored. -/
theorem Rdr.stored {B : Nat} {w w1 : World} {g : Nat} {text : ByteArray} {at_ : Int} {bs : List Int} (h : Rdr B w g text at_ bs) {v1 : Value} {bs1 : List Int} (hb : Below w.heap.size w w1) (ho : Kd.R (Kd.int .u8) 5 w1 w.heap.size (fun _ => True) v1 bs1) (at1 : Int) :
  Rdr B ((w1.setCell ⟨g, 2, none⟩ v1).setCell ⟨g, 1, none⟩ (.int .i64 at1)) g text at1 bs1 ∧ Below B w ((w1.setCell ⟨g, 2, none⟩ v1).setCell ⟨g, 1, none⟩ (.int .i64 at1)) := by
 obtain ⟨hB, bv, hh, hr⟩ := h
 have hlt := rblk_lt hh
 have hh1 : w1.heap[g]? = some (.cells #[.string text, .int .i64 at_, bv] 63 (0, 0)) := (hb.block g hlt).trans hh
 have hh2 := rblk_set hh1 2 v1
 have hh3 := rblk_set hh2 1 (.int .i64 at1)
 refine ⟨⟨hB, v1, hh3, ?_⟩, ?_⟩
 ·have h1 := Kd.R_lower ho (Nat.le_trans hB (Nat.le_of_lt hlt))
  have hne : ∀ k, v1.ownBlock = some k → k ≠ g := fun k hk e => by
   have := Kd.R_base ho k hk
   omega
  have h2 : Kd.R (Kd.int .u8) 5 w1 B (fun k => k ≠ g) v1 bs1 := by
   refine ⟨fun k hk => hne k hk, ?_⟩
   exact h1.2.imp_ (fun p c hp => hp)
  exact Kd.R_move h2 (fun k hk => by rw [rblk_far hk, rblk_far hk])
 ·exact ((hb.mono (Nat.le_trans hB (Nat.le_of_lt hlt))).setCell hB _).setCell hB _
end Go.Proofs.YtoanbmggffkmgaaDoor.P
end
section
namespace Go.Proofs.YtoanbmggffkmgaaDoor.La
def hexVal (b : Int) : Option Int := if 48 ≤ b ∧ b ≤ 57 then some (b - 48) else if 97 ≤ b ∧ b ≤ 102 then some (b - 87) else if 65 ≤ b ∧ b ≤ 70 then some (b - 55) else none
def hexI : Int → List Int → Option Int
 | x, [] => some x
 | x, b :: l => (hexVal b).bind fun d => hexI (x * 16 + d) l
theorem hexVal_lt {b d : Int} (h : hexVal b = some d) : 0 ≤ d ∧ d < 16 := by
 unfold hexVal at h
 (repeat' split at h) <;> first | (cases h; done) | (have := Option.some.inj h; omega)
end Go.Proofs.YtoanbmggffkmgaaDoor.La
namespace Go.Proofs.YtoanbmggffkmgaaDoor.P
open Go.RowKit Go.Proofs.YtoanbmggffkmgaaDoor.La Go.Proofs.YtoanbmggffkmgaaDoorW.PrintWords Go.Proofs.YtoanbmggffkmgaaDoorW.PrintLast Go.Proofs.YtoanbmggffkmgaaDoorW.PrintMore
theorem i64_or4 {x y : Int} (hx₀ : 0 ≤ x) (hx₁ : x < 4294967296) (h₀ : 0 ≤ y) (h₁ : y < 16) : Go.bits .or .i64 (x * 16) y = x * 16 + y :=
 bits_join .i64 62 (by decide) wraps_i64 4 (x * 16) y (by omega) (by omega) (by omega) h₀ h₁ (by omega)
theorem hex_next {s : ByteArray} {k : Nat} {x b : Int} {o : Option Int} (hlt : k < s.size) (hb : b = (bytesOf s).getD k 0) (hx : hexI 0 (bytesOf s) = hexI x ((bytesOf s).drop k)) (hd : hexVal b = o) :
  hexI 0 (bytesOf s) = o.bind fun d => hexI (x * 16 + d) ((bytesOf s).drop (k + 1)) := by
 have hl : k < (bytesOf s).length := by rw [size_of]; exact hlt
 have hg : (bytesOf s)[k] = b := by rw [hb]; simp [List.getD_eq_getElem?_getD, hl]
 rw [hx, List.drop_eq_getElem_cons hl, hexI, hg, hd]
theorem hex_grow {k : Nat} {x d : Int} (x0 : 0 ≤ x) (x1 : x < 16 ^ k) (d0 : 0 ≤ d ∧ d < 16) : 0 ≤ x * 16 + d ∧ x * 16 + d < 16 ^ (k + 1) := by
 rw [Int.pow_succ]
 omega
def HexRel (s : ByteArray) (v i : Value) : Prop := ∃ (k : Nat) (x : Int), k ≤ s.size ∧ i = .int .i64 k ∧ v = .int .i64 x ∧ hexI 0 (bytesOf s) = hexI x ((bytesOf s).drop k) ∧ 0 ≤ x ∧ x < 16 ^ k
theorem hex_rel {s : ByteArray} {k : Nat} {x b d : Int} {v : Int} (hlt : k < s.size) (hb : b = (bytesOf s).getD k 0) (hx : hexI 0 (bytesOf s) = hexI x ((bytesOf s).drop k)) (hd : hexVal b = some d) (x0 : 0 ≤ x) (x1 : x < 16 ^ k) (hv : v = x * 16 + d) :
  HexRel s (.int .i64 v) (.int .i64 ((k : Int) + 1)) := by
 have h := hex_next hlt hb hx hd
 have h2 := hex_grow x0 x1 (hexVal_lt hd)
 exact ⟨k + 1, x * 16 + d, hlt, by go_num, by rw [hv], h, h2.1, h2.2⟩
set_option maxRecDepth 100000 in
set_option maxHeartbeats 4000000 in
theorem hex_walk (s : ByteArray) (h1 : 1 ≤ s.size) (h8 : s.size ≤ 8) (w : World) :
  Calls Tryd.prog 18 #[.string s] w fun e w' => e = .returned (.tuple #[.int .i64 ((hexI 0 (bytesOf s)).getD 0), .bool (hexI 0 (bytesOf s)).isSome]) ∧ Below w.heap.size w w' := by
 have kb := print_bytes (P := Tryd.prog) 9 46 5 Tryd.underlying9 Tryd.underlying46 Tryd.underlying5 s w
 have hr := bytes_reads w 5 s (by omega)
 have hb := bytes_below (Below.refl w.heap.size w) (Nat.le_refl _) 5 s
 generalize Lib.bytesWorld w 5 s = W1 at kb hr hb
 generalize grownCap w s.size 0 5 = cp at kb
 have g1 : decide ((s.size : Int) < 1) = false := decide_eq_false (by omega)
 have g2 : decide ((s.size : Int) > 8) = false := decide_eq_false (by omega)
 go_enter Tryd.func18, Tryd.ntmps18
 go_wp2_with fail
 go_loop [4, 18] (HexRel s) (fun _ i => s.size - (intOf i).toNat)
 case atStart => exact ⟨0, 0, Nat.zero_le _, rfl, rfl, rfl, Int.le_refl _, by decide⟩
 case round =>
  obtain ⟨k, x, hk, rfl, rfl, hx, x0, x1⟩ := hrel
  have HX := Lib.hid hx
  clear hx
  by_cases hlt : k < s.size
  ·have hx7 : x < 268435456 := Int.lt_of_lt_of_le x1 (by
    have : 16 ^ k ≤ 16 ^ 7 := Nat.pow_le_pow_right (by decide) (by omega)
    have h2 : ((16 ^ k : Nat) : Int) ≤ ((16 ^ 7 : Nat) : Int) := by omega
    simpa using h2)
   have hc : W1.cell? ⟨w.heap.size, k, none⟩ = some (.int .u8 (bt s k)) := by
    obtain ⟨ad, e, h⟩ := hr.2.2 (by omega)
    obtain rfl := Option.some.inj e
    have := h k hlt
    rw [add_plain] at this
    rw [this, bt_get]
    rfl
   have hbr := bt_range s k
   have hbt : bt s (k : Int) = (bytesOf s).getD k 0 := by rw [bt_get]; rfl
   have HB := Lib.hid hbt
   clear hbt
   generalize bt s (k : Int) = b at hc hbr HB
   by_cases c1 : 48 ≤ b ∧ b ≤ 57
   ·have hv := Lib.hid (show hexVal b = some (b - 48) from if_pos c1)
    obtain ⟨c1, c2⟩ := c1
    go_wp2
    go_round
    case rel => exact hex_rel hlt HB.out HX.out hv.out x0 x1 (i64_or4 x0 (by omega) (by omega) (by omega))
    case measure => simp [intOf]; omega
   ·by_cases c2 : 97 ≤ b ∧ b ≤ 102
    ·have hv := Lib.hid (show hexVal b = some (b - 87) by unfold hexVal; rw [if_neg c1, if_pos c2])
     clear c1
     obtain ⟨c1, c2⟩ := c2
     go_wp2
     go_round
     case rel => exact hex_rel hlt HB.out HX.out hv.out x0 x1 (by rw [show b - 97 + 10 = b - 87 by omega]; exact i64_or4 x0 (by omega) (by omega) (by omega))
     case measure => simp [intOf]; omega
    ·by_cases c3 : 65 ≤ b ∧ b ≤ 70
     ·have hv := Lib.hid (show hexVal b = some (b - 55) by unfold hexVal; rw [if_neg c1, if_neg c2, if_pos c3])
      clear c1 c2
      obtain ⟨c1, c2⟩ := c3
      go_wp2
      go_round
      case rel => exact hex_rel hlt HB.out HX.out hv.out x0 x1 (by rw [show b - 65 + 10 = b - 55 by omega]; exact i64_or4 x0 (by omega) (by omega) (by omega))
      case measure => simp [intOf]; omega
     ·have hv := Lib.hid (show hexVal b = none by unfold hexVal; rw [if_neg c1, if_neg c2, if_neg c3])
      have hn := Lib.hid (hex_next hlt HB.out HX.out hv.out)
      have cases4 : b < 48 ∨ (58 ≤ b ∧ b < 65) ∨ (71 ≤ b ∧ b < 97) ∨ 103 ≤ b := by omega
      clear c1 c2 c3
      rcases cases4 with c1 | ⟨c1, c2⟩ | ⟨c1, c2⟩ | c1
      all_goals
       go_wp2
       go_ret2
       exact ⟨by rw [hn.out]; rfl, hb⟩
  ·obtain rfl : k = s.size := by omega
   have hx : hexI 0 (bytesOf s) = some x := by
    rw [HX.out, List.drop_eq_nil_of_le (by rw [size_of]; omega)]
    rfl
   have HX2 := Lib.hid hx
   clear hx HX
   go_wp2
   go_ret2
   exact ⟨by rw [HX2.out]; rfl, hb⟩
def esc_Hex.f (a0 : ByteArray) : Option (Int × Bool) := some (if a0.size < 1 ∨ a0.size > 8 then (0, false) else ((hexI 0 (bytesOf a0)).getD 0, (hexI 0 (bytesOf a0)).isSome))
theorem esc_Hex.calls (a0 : ByteArray) (r1 : Int) (r2 : Bool) (w : World) (h : esc_Hex.f a0 = some (r1, r2)) :
  Calls Tryd.prog 18 #[.string a0] w fun e w' => e = .returned (.tuple #[.int .i64 r1, .bool r2]) ∧ Below w.heap.size w w' := by
 have h := Option.some.inj h
 split at h
 ·rename_i hc
  obtain ⟨rfl, rfl⟩ := Prod.mk.inj h
  clear h
  by_cases h1 : a0.size < 1
  ·have g1 : decide ((a0.size : Int) < 1) = true := decide_eq_true (by omega)
   clear hc h1
   go_enter Tryd.func18, Tryd.ntmps18
   go_wp2
   go_ret2
   exact ⟨rfl, Below.refl _ _⟩
  ·have g1 : decide ((a0.size : Int) < 1) = false := decide_eq_false (by omega)
   have g2 : decide ((a0.size : Int) > 8) = true := decide_eq_true (by omega)
   clear hc h1
   go_enter Tryd.func18, Tryd.ntmps18
   go_wp2
   go_ret2
   exact ⟨rfl, Below.refl _ _⟩
 ·rename_i hc
  obtain ⟨rfl, rfl⟩ := Prod.mk.inj h
  exact hex_walk a0 (by omega) (by omega) w
end Go.Proofs.YtoanbmggffkmgaaDoor.P
end
section
namespace Go.Proofs.YtoanbmggffkmgaaDoor.P
open Go.RowKit Go.Proofs.YtoanbmggffkmgaaDoorW.PrintWords Go.Proofs.YtoanbmggffkmgaaDoorW.PrintLast Go.Proofs.YtoanbmggffkmgaaDoorW.PrintMore
attribute [local go_sem] max2_int min2_int max_two min_two max_three min_three max_four min_four   -- for this text's walks alone
set_option linter.unusedVariables false
set_option linter.unusedSimpArgs false
/-! ### dragomanref1_Good: function 26 -/
def dragomanref1_Good.f (a0 : Int) : Option (Bool) := if a0 ≥ 0 then (if a0 ≤ 1114111 then (if a0 < 55296 then (some true) else (some (decide (a0 > 57343)))) else (some false)) else (some false)
set_option maxHeartbeats 8000000 in
set_option maxRecDepth 100000 in
theorem dragomanref1_Good.calls (a0 : Int) (r : Bool) (w : World) (h : dragomanref1_Good.f a0 = some r) :
  Calls Tryd.prog 26 #[.int .i64 a0] w fun e w' => e = .returned (.bool r) ∧ Drawn0 w w' := by
 have H : (if a0 ≥ 0 then (if a0 ≤ 1114111 then (if a0 < 55296 then (some true) else (some (decide (a0 > 57343)))) else (some false)) else (some false)) = some r := h
 clear h
 by_cases c2 : a0 ≥ 0
 ·rw [if_pos c2] at H
  have c2b0 : decide (0 ≤ a0) = true := decide_eq_true c2
  clear c2
  by_cases c3 : a0 ≤ 1114111
  ·rw [if_pos c3] at H
   have c3b0 : decide (a0 ≤ 1114111) = true := decide_eq_true c3
   clear c3
   by_cases c4 : a0 < 55296
   ·rw [if_pos c4] at H
    have c4b0 : decide (a0 < 55296) = true := decide_eq_true c4
    clear c4
    obtain rfl := Option.some.inj H
    go_enter Tryd.func26, Tryd.ntmps26
    go_wp2
    go_ret
    exact ⟨by first | rfl | (simp; done) | (simp [*]; done), by repeat (first | exact Drawn0.refl _ | apply Drawn0.step)⟩
   ·rw [if_neg c4] at H
    have c4b0 : decide (a0 < 55296) = false := decide_eq_false c4
    clear c4
    obtain rfl := Option.some.inj H
    go_enter Tryd.func26, Tryd.ntmps26
    go_wp2
    go_ret
    exact ⟨by first | rfl | (simp; done) | (simp [*]; done), by repeat (first | exact Drawn0.refl _ | apply Drawn0.step)⟩
  ·rw [if_neg c3] at H
   have c3b0 : decide (a0 ≤ 1114111) = false := decide_eq_false c3
   clear c3
   obtain rfl := Option.some.inj H
   go_enter Tryd.func26, Tryd.ntmps26
   go_wp2
   go_ret
   exact ⟨by first | rfl | (simp; done) | (simp [*]; done), by repeat (first | exact Drawn0.refl _ | apply Drawn0.step)⟩
 ·rw [if_neg c2] at H
  have c2b0 : decide (0 ≤ a0) = false := decide_eq_false c2
  clear c2
  obtain rfl := Option.some.inj H
  go_enter Tryd.func26, Tryd.ntmps26
  go_wp2
  go_ret
  exact ⟨by first | rfl | (simp; done) | (simp [*]; done), by repeat (first | exact Drawn0.refl _ | apply Drawn0.step)⟩
end Go.Proofs.YtoanbmggffkmgaaDoor.P
end
section
namespace Go.Proofs.YtoanbmggffkmgaaDoor.P
open Go.RowKit Go.Proofs.YtoanbmggffkmgaaDoorW.PrintWords Go.Proofs.YtoanbmggffkmgaaDoorW.PrintLast Go.Proofs.YtoanbmggffkmgaaDoorW.PrintMore
attribute [local go_sem] max2_int min2_int max_two min_two max_three min_three max_four min_four   -- for this text's walks alone
set_option linter.unusedVariables false
set_option linter.unusedSimpArgs false
/-! ### dragomanref1_Put: function 27 -/
def dragomanref1_Put.f (a0 : Int) : Option (ByteArray) := (dragomanref1_Good.f a0).bind fun t252 => (if t252 = true then (if a0 < 128 then (some (strOfNums (([(a0) % 256] : List Int)))) else (if a0 < 2048 then (some (strOfNums (([(wrap64 (192 + (wrap64 (Int.tdiv a0 64)))) % 256, (wrap64 (128 + (Int.tmod a0 64))) % 256] : List Int)))) else (if a0 < 65536 then (some (strOfNums (([(wrap64 (224 + (wrap64 (Int.tdiv a0 4096)))) % 256, (wrap64 (128 + (Int.tmod (wrap64 (Int.tdiv a0 64)) 64))) % 256, (wrap64 (128 + (Int.tmod a0 64))) % 256] : List Int)))) else (some (strOfNums (([(wrap64 (240 + (wrap64 (Int.tdiv a0 262144)))) % 256, (wrap64 (128 + (Int.tmod (wrap64 (Int.tdiv a0 4096)) 64))) % 256, (wrap64 (128 + (Int.tmod (wrap64 (Int.tdiv a0 64)) 64))) % 256, (wrap64 (128 + (Int.tmod a0 64))) % 256] : List Int))))))) else (some (⟨#[]⟩ : ByteArray)))
set_option maxHeartbeats 8000000 in
set_option maxRecDepth 100000 in
theorem dragomanref1_Put.calls (a0 : Int) (r : ByteArray) (w : World) (h : dragomanref1_Put.f a0 = some r) :
  Calls Tryd.prog 27 #[.int .i64 a0] w fun e w' => e = .returned (.string r) ∧ Below w.heap.size w w' := by
 have HB := Aside0.mk (Below.refl w.heap.size w)
 have H : ((dragomanref1_Good.f a0).bind fun t252 => (if t252 = true then (if a0 < 128 then (some (strOfNums (([(a0) % 256] : List Int)))) else (if a0 < 2048 then (some (strOfNums (([(wrap64 (192 + (wrap64 (Int.tdiv a0 64)))) % 256, (wrap64 (128 + (Int.tmod a0 64))) % 256] : List Int)))) else (if a0 < 65536 then (some (strOfNums (([(wrap64 (224 + (wrap64 (Int.tdiv a0 4096)))) % 256, (wrap64 (128 + (Int.tmod (wrap64 (Int.tdiv a0 64)) 64))) % 256, (wrap64 (128 + (Int.tmod a0 64))) % 256] : List Int)))) else (some (strOfNums (([(wrap64 (240 + (wrap64 (Int.tdiv a0 262144)))) % 256, (wrap64 (128 + (Int.tmod (wrap64 (Int.tdiv a0 4096)) 64))) % 256, (wrap64 (128 + (Int.tmod (wrap64 (Int.tdiv a0 64)) 64))) % 256, (wrap64 (128 + (Int.tmod a0 64))) % 256] : List Int))))))) else (some (⟨#[]⟩ : ByteArray)))) = some r := h
 clear h
 replace H := Option.bind_eq_some_iff.mp H
 obtain ⟨t252, A20, H⟩ := H
 replace H : (if t252 = true then (if a0 < 128 then (some (strOfNums (([(a0) % 256] : List Int)))) else (if a0 < 2048 then (some (strOfNums (([(wrap64 (192 + (wrap64 (Int.tdiv a0 64)))) % 256, (wrap64 (128 + (Int.tmod a0 64))) % 256] : List Int)))) else (if a0 < 65536 then (some (strOfNums (([(wrap64 (224 + (wrap64 (Int.tdiv a0 4096)))) % 256, (wrap64 (128 + (Int.tmod (wrap64 (Int.tdiv a0 64)) 64))) % 256, (wrap64 (128 + (Int.tmod a0 64))) % 256] : List Int)))) else (some (strOfNums (([(wrap64 (240 + (wrap64 (Int.tdiv a0 262144)))) % 256, (wrap64 (128 + (Int.tmod (wrap64 (Int.tdiv a0 4096)) 64))) % 256, (wrap64 (128 + (Int.tmod (wrap64 (Int.tdiv a0 64)) 64))) % 256, (wrap64 (128 + (Int.tmod a0 64))) % 256] : List Int))))))) else (some (⟨#[]⟩ : ByteArray))) = some r := H
 have A2 := Aside0.mk A20
 clear A20
 by_cases c3 : t252 = true
 ·subst c3
  have H1 : (if a0 < 128 then (some (strOfNums (([(a0) % 256] : List Int)))) else (if a0 < 2048 then (some (strOfNums (([(wrap64 (192 + (wrap64 (Int.tdiv a0 64)))) % 256, (wrap64 (128 + (Int.tmod a0 64))) % 256] : List Int)))) else (if a0 < 65536 then (some (strOfNums (([(wrap64 (224 + (wrap64 (Int.tdiv a0 4096)))) % 256, (wrap64 (128 + (Int.tmod (wrap64 (Int.tdiv a0 64)) 64))) % 256, (wrap64 (128 + (Int.tmod a0 64))) % 256] : List Int)))) else (some (strOfNums (([(wrap64 (240 + (wrap64 (Int.tdiv a0 262144)))) % 256, (wrap64 (128 + (Int.tmod (wrap64 (Int.tdiv a0 4096)) 64))) % 256, (wrap64 (128 + (Int.tmod (wrap64 (Int.tdiv a0 64)) 64))) % 256, (wrap64 (128 + (Int.tmod a0 64))) % 256] : List Int))))))) = some r := by rw [if_pos rfl] at H; exact H
  clear H
  have H := H1
  clear H1
  by_cases c4 : a0 < 128
  ·rw [if_pos c4] at H
   have c4b0 : decide (a0 < 128) = true := decide_eq_true c4
   clear c4
   obtain ⟨y253, hy253⟩ : ∃ y_ : List Int, y_ = (([(a0) % 256] : List Int)) := ⟨_, rfl⟩
   replace H : (some (strOfNums y253)) = some r := by first | (rw [hy253]; with_reducible exact H) | (have H2_ := (Option.bind_some _ _).symm.trans H; rw [hy253]; with_reducible exact H2_) | (have H2_ := (Option.bind_some _ _).symm.trans H; with_reducible exact H2_) | with_reducible exact H | (rw [hy253]; exact H) | exact H
   have Ny253 := Aside0.mk hy253
   clear hy253
   obtain rfl := Option.some.inj H
   go_enter Tryd.func27, Tryd.ntmps27
   go_wp2_with (first | ((with_reducible refine gate_callee (f := 26) rfl ?_); refine goesL_ (some 4) rfl rfl Tryd.func26 (by kernel_rfl) rfl #[.int .i64 a0] rfl (by (try simp only [List.map_toArray, List.map_cons, List.map_nil]); first | done | rfl | (simp only [List.length_drop, List.length_take]; rfl)) ?_; (with_reducible refine (dragomanref1_Good.calls a0 true _ A2.out).mono ?_); rintro e w' ⟨rfl, ⟨nd, rfl⟩⟩; refine ⟨_, rfl, ?_⟩) | ((with_reducible refine gate_dst (N := 11) rfl ?_); refine Kd.R_lit (Kd.int .u8) _ 5 ?hg (N := 11) ?hd (xs := ([(a0) % 256] : List Int)) (inner := [.int .u8 ((a0) % 256)]) (ok := fun _ => True) (okp := fun _ => True) ?hr ?hp (fun _ hk => hk) trivial (Below.refl _ _) (Nat.le_refl _) (by simp) ?_; (case hd => rfl); (case hg => rfl); (case hr => first | (go_simp; done) | (go_simp; rfl)); (case hp => exact (Reps.one (show Kd.M (Kd.int .u8) _ _ _ ((a0) % 256) [.int .u8 ((a0) % 256)] from rfl) (Reps.none _ _))); intro v254 w5 ho6 hb hg_ hnew_; clear hg_ hnew_; (first | rw [← Ny253.out] at ho6 | (simp only [Int.reduceToNat] at ho6; rw [← Ny253.out] at ho6)); have n0_ := Aside0.mk (Kd.R_lower ho6 (below_size (by repeat (first | (with_reducible first | exact HB.out | apply below_alloc | apply pw_below_drewN | apply below_drew1) | exact HB.out)))); have n1_ := Aside0.mk (below_step (by repeat (first | (with_reducible first | exact HB.out | apply below_alloc | apply pw_below_drewN | apply below_drew1) | exact HB.out)) hb); clear HB; have HO255 := n0_; have HB := n1_; clear n0_ n1_; clear hb ho6; have hcv7 := own_string (P := Tryd.prog) Tryd.underlying46 Tryd.underlying5 Tryd.underlying9 (Kd.own_of_R HO255.out)))
   go_ret
   exact ⟨by first | rfl | (simp [errW_none, errW_some] <;> rfl) | (simp [*, errW_none, errW_some, bne]; done) | (simp [*, errW_none, errW_some] <;> rfl), by repeat (first | (with_reducible first | exact HB.out | apply below_alloc | apply pw_below_drewN | apply below_drew1) | exact HB.out)⟩
  ·rw [if_neg c4] at H
   have c4b0 : decide (a0 < 128) = false := decide_eq_false c4
   clear c4
   by_cases c8 : a0 < 2048
   ·rw [if_pos c8] at H
    have c8b0 : decide (a0 < 2048) = true := decide_eq_true c8
    clear c8
    obtain ⟨y256, hy256⟩ : ∃ y_ : List Int, y_ = (([(wrap64 (192 + (wrap64 (Int.tdiv a0 64)))) % 256, (wrap64 (128 + (Int.tmod a0 64))) % 256] : List Int)) := ⟨_, rfl⟩
    replace H : (some (strOfNums y256)) = some r := by first | (rw [hy256]; with_reducible exact H) | (have H2_ := (Option.bind_some _ _).symm.trans H; rw [hy256]; with_reducible exact H2_) | (have H2_ := (Option.bind_some _ _).symm.trans H; with_reducible exact H2_) | with_reducible exact H | (rw [hy256]; exact H) | exact H
    have Ny256 := Aside0.mk hy256
    clear hy256
    obtain rfl := Option.some.inj H
    go_enter Tryd.func27, Tryd.ntmps27
    go_wp2_with (first | ((with_reducible refine gate_callee (f := 26) rfl ?_); refine goesL_ (some 4) rfl rfl Tryd.func26 (by kernel_rfl) rfl #[.int .i64 a0] rfl (by (try simp only [List.map_toArray, List.map_cons, List.map_nil]); first | done | rfl | (simp only [List.length_drop, List.length_take]; rfl)) ?_; (with_reducible refine (dragomanref1_Good.calls a0 true _ A2.out).mono ?_); rintro e w' ⟨rfl, ⟨nd, rfl⟩⟩; refine ⟨_, rfl, ?_⟩) | ((with_reducible refine gate_dst (N := 24) rfl ?_); refine Kd.R_lit (Kd.int .u8) _ 5 ?hg (N := 24) ?hd (xs := ([(wrap64 (192 + (wrap64 (Int.tdiv a0 64)))) % 256, (wrap64 (128 + (Int.tmod a0 64))) % 256] : List Int)) (inner := [.int .u8 ((wrap64 (192 + (wrap64 (Int.tdiv a0 64)))) % 256), .int .u8 ((wrap64 (128 + (Int.tmod a0 64))) % 256)]) (ok := fun _ => True) (okp := fun _ => True) ?hr ?hp (fun _ hk => hk) trivial (Below.refl _ _) (Nat.le_refl _) (by simp) ?_; (case hd => rfl); (case hg => rfl); (case hr => first | (go_simp; done) | (go_simp; rfl)); (case hp => exact (Reps.one (show Kd.M (Kd.int .u8) _ _ _ ((wrap64 (192 + (wrap64 (Int.tdiv a0 64)))) % 256) [.int .u8 ((wrap64 (192 + (wrap64 (Int.tdiv a0 64)))) % 256)] from rfl) (Reps.one (show Kd.M (Kd.int .u8) _ _ _ ((wrap64 (128 + (Int.tmod a0 64))) % 256) [.int .u8 ((wrap64 (128 + (Int.tmod a0 64))) % 256)] from rfl) (Reps.none _ _)))); intro v257 w9 ho10 hb hg_ hnew_; clear hg_ hnew_; (first | rw [← Ny256.out] at ho10 | (simp only [Int.reduceToNat] at ho10; rw [← Ny256.out] at ho10)); have n0_ := Aside0.mk (Kd.R_lower ho10 (below_size (by repeat (first | (with_reducible first | exact HB.out | apply below_alloc | apply pw_below_drewN | apply below_drew1) | exact HB.out)))); have n1_ := Aside0.mk (below_step (by repeat (first | (with_reducible first | exact HB.out | apply below_alloc | apply pw_below_drewN | apply below_drew1) | exact HB.out)) hb); clear HB; have HO258 := n0_; have HB := n1_; clear n0_ n1_; clear hb ho10; have hcv11 := own_string (P := Tryd.prog) Tryd.underlying46 Tryd.underlying5 Tryd.underlying9 (Kd.own_of_R HO258.out)))
    go_ret
    exact ⟨by first | rfl | (simp [errW_none, errW_some] <;> rfl) | (simp [*, errW_none, errW_some, bne]; done) | (simp [*, errW_none, errW_some] <;> rfl), by repeat (first | (with_reducible first | exact HB.out | apply below_alloc | apply pw_below_drewN | apply below_drew1) | exact HB.out)⟩
   ·rw [if_neg c8] at H
    have c8b0 : decide (a0 < 2048) = false := decide_eq_false c8
    clear c8
    by_cases c12 : a0 < 65536
    ·rw [if_pos c12] at H
     have c12b0 : decide (a0 < 65536) = true := decide_eq_true c12
     clear c12
     obtain ⟨y259, hy259⟩ : ∃ y_ : List Int, y_ = (([(wrap64 (224 + (wrap64 (Int.tdiv a0 4096)))) % 256, (wrap64 (128 + (Int.tmod (wrap64 (Int.tdiv a0 64)) 64))) % 256, (wrap64 (128 + (Int.tmod a0 64))) % 256] : List Int)) := ⟨_, rfl⟩
     replace H : (some (strOfNums y259)) = some r := by first | (rw [hy259]; with_reducible exact H) | (have H2_ := (Option.bind_some _ _).symm.trans H; rw [hy259]; with_reducible exact H2_) | (have H2_ := (Option.bind_some _ _).symm.trans H; with_reducible exact H2_) | with_reducible exact H | (rw [hy259]; exact H) | exact H
     have Ny259 := Aside0.mk hy259
     clear hy259
     obtain rfl := Option.some.inj H
     go_enter Tryd.func27, Tryd.ntmps27
     go_wp2_with (first | ((with_reducible refine gate_callee (f := 26) rfl ?_); refine goesL_ (some 4) rfl rfl Tryd.func26 (by kernel_rfl) rfl #[.int .i64 a0] rfl (by (try simp only [List.map_toArray, List.map_cons, List.map_nil]); first | done | rfl | (simp only [List.length_drop, List.length_take]; rfl)) ?_; (with_reducible refine (dragomanref1_Good.calls a0 true _ A2.out).mono ?_); rintro e w' ⟨rfl, ⟨nd, rfl⟩⟩; refine ⟨_, rfl, ?_⟩) | ((with_reducible refine gate_dst (N := 42) rfl ?_); refine Kd.R_lit (Kd.int .u8) _ 5 ?hg (N := 42) ?hd (xs := ([(wrap64 (224 + (wrap64 (Int.tdiv a0 4096)))) % 256, (wrap64 (128 + (Int.tmod (wrap64 (Int.tdiv a0 64)) 64))) % 256, (wrap64 (128 + (Int.tmod a0 64))) % 256] : List Int)) (inner := [.int .u8 ((wrap64 (224 + (wrap64 (Int.tdiv a0 4096)))) % 256), .int .u8 ((wrap64 (128 + (Int.tmod (wrap64 (Int.tdiv a0 64)) 64))) % 256), .int .u8 ((wrap64 (128 + (Int.tmod a0 64))) % 256)]) (ok := fun _ => True) (okp := fun _ => True) ?hr ?hp (fun _ hk => hk) trivial (Below.refl _ _) (Nat.le_refl _) (by simp) ?_; (case hd => rfl); (case hg => rfl); (case hr => first | (go_simp; done) | (go_simp; rfl)); (case hp => exact (Reps.one (show Kd.M (Kd.int .u8) _ _ _ ((wrap64 (224 + (wrap64 (Int.tdiv a0 4096)))) % 256) [.int .u8 ((wrap64 (224 + (wrap64 (Int.tdiv a0 4096)))) % 256)] from rfl) (Reps.one (show Kd.M (Kd.int .u8) _ _ _ ((wrap64 (128 + (Int.tmod (wrap64 (Int.tdiv a0 64)) 64))) % 256) [.int .u8 ((wrap64 (128 + (Int.tmod (wrap64 (Int.tdiv a0 64)) 64))) % 256)] from rfl) (Reps.one (show Kd.M (Kd.int .u8) _ _ _ ((wrap64 (128 + (Int.tmod a0 64))) % 256) [.int .u8 ((wrap64 (128 + (Int.tmod a0 64))) % 256)] from rfl) (Reps.none _ _))))); intro v260 w13 ho14 hb hg_ hnew_; clear hg_ hnew_; (first | rw [← Ny259.out] at ho14 | (simp only [Int.reduceToNat] at ho14; rw [← Ny259.out] at ho14)); have n0_ := Aside0.mk (Kd.R_lower ho14 (below_size (by repeat (first | (with_reducible first | exact HB.out | apply below_alloc | apply pw_below_drewN | apply below_drew1) | exact HB.out)))); have n1_ := Aside0.mk (below_step (by repeat (first | (with_reducible first | exact HB.out | apply below_alloc | apply pw_below_drewN | apply below_drew1) | exact HB.out)) hb); clear HB; have HO261 := n0_; have HB := n1_; clear n0_ n1_; clear hb ho14; have hcv15 := own_string (P := Tryd.prog) Tryd.underlying46 Tryd.underlying5 Tryd.underlying9 (Kd.own_of_R HO261.out)))
     go_ret
     exact ⟨by first | rfl | (simp [errW_none, errW_some] <;> rfl) | (simp [*, errW_none, errW_some, bne]; done) | (simp [*, errW_none, errW_some] <;> rfl), by repeat (first | (with_reducible first | exact HB.out | apply below_alloc | apply pw_below_drewN | apply below_drew1) | exact HB.out)⟩
    ·rw [if_neg c12] at H
     have c12b0 : decide (a0 < 65536) = false := decide_eq_false c12
     clear c12
     obtain ⟨y262, hy262⟩ : ∃ y_ : List Int, y_ = (([(wrap64 (240 + (wrap64 (Int.tdiv a0 262144)))) % 256, (wrap64 (128 + (Int.tmod (wrap64 (Int.tdiv a0 4096)) 64))) % 256, (wrap64 (128 + (Int.tmod (wrap64 (Int.tdiv a0 64)) 64))) % 256, (wrap64 (128 + (Int.tmod a0 64))) % 256] : List Int)) := ⟨_, rfl⟩
     replace H : (some (strOfNums y262)) = some r := by first | (rw [hy262]; with_reducible exact H) | (have H2_ := (Option.bind_some _ _).symm.trans H; rw [hy262]; with_reducible exact H2_) | (have H2_ := (Option.bind_some _ _).symm.trans H; with_reducible exact H2_) | with_reducible exact H | (rw [hy262]; exact H) | exact H
     have Ny262 := Aside0.mk hy262
     clear hy262
     obtain rfl := Option.some.inj H
     go_enter Tryd.func27, Tryd.ntmps27
     go_wp2_with (first | ((with_reducible refine gate_callee (f := 26) rfl ?_); refine goesL_ (some 4) rfl rfl Tryd.func26 (by kernel_rfl) rfl #[.int .i64 a0] rfl (by (try simp only [List.map_toArray, List.map_cons, List.map_nil]); first | done | rfl | (simp only [List.length_drop, List.length_take]; rfl)) ?_; (with_reducible refine (dragomanref1_Good.calls a0 true _ A2.out).mono ?_); rintro e w' ⟨rfl, ⟨nd, rfl⟩⟩; refine ⟨_, rfl, ?_⟩) | ((with_reducible refine gate_dst (N := 62) rfl ?_); refine Kd.R_lit (Kd.int .u8) _ 5 ?hg (N := 62) ?hd (xs := ([(wrap64 (240 + (wrap64 (Int.tdiv a0 262144)))) % 256, (wrap64 (128 + (Int.tmod (wrap64 (Int.tdiv a0 4096)) 64))) % 256, (wrap64 (128 + (Int.tmod (wrap64 (Int.tdiv a0 64)) 64))) % 256, (wrap64 (128 + (Int.tmod a0 64))) % 256] : List Int)) (inner := [.int .u8 ((wrap64 (240 + (wrap64 (Int.tdiv a0 262144)))) % 256), .int .u8 ((wrap64 (128 + (Int.tmod (wrap64 (Int.tdiv a0 4096)) 64))) % 256), .int .u8 ((wrap64 (128 + (Int.tmod (wrap64 (Int.tdiv a0 64)) 64))) % 256), .int .u8 ((wrap64 (128 + (Int.tmod a0 64))) % 256)]) (ok := fun _ => True) (okp := fun _ => True) ?hr ?hp (fun _ hk => hk) trivial (Below.refl _ _) (Nat.le_refl _) (by simp) ?_; (case hd => rfl); (case hg => rfl); (case hr => first | (go_simp; done) | (go_simp; rfl)); (case hp => exact (Reps.one (show Kd.M (Kd.int .u8) _ _ _ ((wrap64 (240 + (wrap64 (Int.tdiv a0 262144)))) % 256) [.int .u8 ((wrap64 (240 + (wrap64 (Int.tdiv a0 262144)))) % 256)] from rfl) (Reps.one (show Kd.M (Kd.int .u8) _ _ _ ((wrap64 (128 + (Int.tmod (wrap64 (Int.tdiv a0 4096)) 64))) % 256) [.int .u8 ((wrap64 (128 + (Int.tmod (wrap64 (Int.tdiv a0 4096)) 64))) % 256)] from rfl) (Reps.one (show Kd.M (Kd.int .u8) _ _ _ ((wrap64 (128 + (Int.tmod (wrap64 (Int.tdiv a0 64)) 64))) % 256) [.int .u8 ((wrap64 (128 + (Int.tmod (wrap64 (Int.tdiv a0 64)) 64))) % 256)] from rfl) (Reps.one (show Kd.M (Kd.int .u8) _ _ _ ((wrap64 (128 + (Int.tmod a0 64))) % 256) [.int .u8 ((wrap64 (128 + (Int.tmod a0 64))) % 256)] from rfl) (Reps.none _ _)))))); intro v263 w16 ho17 hb hg_ hnew_; clear hg_ hnew_; (first | rw [← Ny262.out] at ho17 | (simp only [Int.reduceToNat] at ho17; rw [← Ny262.out] at ho17)); have n0_ := Aside0.mk (Kd.R_lower ho17 (below_size (by repeat (first | (with_reducible first | exact HB.out | apply below_alloc | apply pw_below_drewN | apply below_drew1) | exact HB.out)))); have n1_ := Aside0.mk (below_step (by repeat (first | (with_reducible first | exact HB.out | apply below_alloc | apply pw_below_drewN | apply below_drew1) | exact HB.out)) hb); clear HB; have HO264 := n0_; have HB := n1_; clear n0_ n1_; clear hb ho17; have hcv18 := own_string (P := Tryd.prog) Tryd.underlying46 Tryd.underlying5 Tryd.underlying9 (Kd.own_of_R HO264.out)))
     go_ret
     exact ⟨by first | rfl | (simp [errW_none, errW_some] <;> rfl) | (simp [*, errW_none, errW_some, bne]; done) | (simp [*, errW_none, errW_some] <;> rfl), by repeat (first | (with_reducible first | exact HB.out | apply below_alloc | apply pw_below_drewN | apply below_drew1) | exact HB.out)⟩
 ·replace c3 := Bool.eq_false_iff.mpr c3
  subst c3
  have H1 : (some (⟨#[]⟩ : ByteArray)) = some r := by rw [if_neg (show ¬ (false = true) by decide)] at H; exact H
  clear H
  have H := H1
  clear H1
  obtain rfl := Option.some.inj H
  go_enter Tryd.func27, Tryd.ntmps27
  go_wp2_with (first | ((with_reducible refine gate_callee (f := 26) rfl ?_); refine goesL_ (some 4) rfl rfl Tryd.func26 (by kernel_rfl) rfl #[.int .i64 a0] rfl (by (try simp only [List.map_toArray, List.map_cons, List.map_nil]); first | done | rfl | (simp only [List.length_drop, List.length_take]; rfl)) ?_; (with_reducible refine (dragomanref1_Good.calls a0 false _ A2.out).mono ?_); rintro e w' ⟨rfl, ⟨nd, rfl⟩⟩; refine ⟨_, rfl, ?_⟩))
  go_ret
  exact ⟨by first | rfl | (simp [errW_none, errW_some] <;> rfl) | (simp [*, errW_none, errW_some, bne]; done) | (simp [*, errW_none, errW_some] <;> rfl), by repeat (first | (with_reducible first | exact HB.out | apply below_alloc | apply pw_below_drewN | apply below_drew1) | exact HB.out)⟩
end Go.Proofs.YtoanbmggffkmgaaDoor.P
end
section
namespace Go.Proofs.YtoanbmggffkmgaaDoor.P
open Go.RowKit Go.Proofs.YtoanbmggffkmgaaDoorW.PrintWords Go.Proofs.YtoanbmggffkmgaaDoorW.PrintLast Go.Proofs.YtoanbmggffkmgaaDoorW.PrintMore
attribute [local go_sem] max2_int min2_int max_two min_two max_three min_three max_four min_four   -- for this text's walks alone
set_option linter.unusedVariables false
set_option linter.unusedSimpArgs false
/-! ### dragomanref1_Take: function 47 -/
mutual
def dragomanref1_Take.j3 : Nat → ByteArray → Int → Int → Option (Int × Int)
 | 0, _, _, _ => none
 | k + 1, x0, x5, x6 => if (x0.size : Int) < x5 then (some (0, 0)) else (dragomanref1_Take.l0 k x0 x5 x6 1)
def dragomanref1_Take.l0 : Nat → ByteArray → Int → Int → Int → Option (Int × Int)
 | 0, _, _, _, _ => none
 | k + 1, x0, x5, x6, x7 => if x7 < x5 then (if 0 ≤ x7 then (if x7 < (x0.size : Int) then (if (bt x0 x7) < 128 then (some (0, 0)) else (if (bt x0 x7) > 191 then (some (0, 0)) else (dragomanref1_Take.l0 k x0 x5 (wrap64 ((wrap64 ((wrap64 (64 * x6)) + (wrap64 (bt x0 x7)))) - 128)) (wrap64 (x7 + 1))))) else (none)) else (none)) else ((dragomanref1_Put.f x6).bind fun t265 => (if 0 ≤ x5 then (if x5 ≤ (x0.size : Int) then (if t265.toList = (x0.extract 0 (x5 : Int).toNat).toList then (some (x6, x5)) else (some (0, 0))) else (none)) else (none)))
def dragomanref1_Take.j0 : Nat → ByteArray → Int → Int → Int → Bool → Option (Int × Int)
 | 0, _, _, _, _, _ => none
 | k + 1, x0, x4, x5, x6, x14 => if x14 = true then (dragomanref1_Take.j3 k x0 4 (wrap64 (x4 - 240))) else (if x4 ≥ 224 then (dragomanref1_Take.j1 k x0 x4 x5 x6 (decide (x4 < 240))) else (dragomanref1_Take.j1 k x0 x4 x5 x6 false))
def dragomanref1_Take.j1 : Nat → ByteArray → Int → Int → Int → Bool → Option (Int × Int)
 | 0, _, _, _, _, _ => none
 | k + 1, x0, x4, x5, x6, x23 => if x23 = true then (dragomanref1_Take.j3 k x0 3 (wrap64 (x4 - 224))) else (if x4 ≥ 192 then (dragomanref1_Take.j2 k x0 x4 x5 x6 (decide (x4 < 224))) else (dragomanref1_Take.j2 k x0 x4 x5 x6 false))
def dragomanref1_Take.j2 : Nat → ByteArray → Int → Int → Int → Bool → Option (Int × Int)
 | 0, _, _, _, _, _ => none
 | k + 1, x0, x4, x5, x6, x32 => if x32 = true then (dragomanref1_Take.j3 k x0 2 (wrap64 (x4 - 192))) else (if x4 ≥ 128 then (some (0, 0)) else (dragomanref1_Take.j3 k x0 x5 x6))
end
def dragomanref1_Take.f (k : Nat) (a0 : ByteArray) : Option (Int × Int) := if a0.toList = ([] : List UInt8) then (some (0, 0)) else (if 0 < (a0.size : Int) then (if (wrap64 (bt a0 0)) ≥ 240 then (dragomanref1_Take.j0 k a0 (wrap64 (bt a0 0)) 1 (wrap64 (bt a0 0)) (decide ((wrap64 (bt a0 0)) < 248))) else (dragomanref1_Take.j0 k a0 (wrap64 (bt a0 0)) 1 (wrap64 (bt a0 0)) false)) else (none))
set_option maxHeartbeats 8000000 in
set_option maxRecDepth 100000 in
theorem dragomanref1_Take.calls (k : Nat) (a0 : ByteArray) (r1 : Int) (r2 : Int) (w : World) (h : dragomanref1_Take.f k a0 = some (r1, r2)) :
  Calls Tryd.prog 47 #[.string a0] w fun e w' => e = .returned (.tuple #[.int .i64 r1, .int .i64 r2]) ∧ Below w.heap.size w w' := by
 have HB := Aside0.mk (Below.refl w.heap.size w)
 have H : (if a0.toList = ([] : List UInt8) then (some (0, 0)) else (if 0 < (a0.size : Int) then (if (wrap64 (bt a0 0)) ≥ 240 then (dragomanref1_Take.j0 k a0 (wrap64 (bt a0 0)) 1 (wrap64 (bt a0 0)) (decide ((wrap64 (bt a0 0)) < 248))) else (dragomanref1_Take.j0 k a0 (wrap64 (bt a0 0)) 1 (wrap64 (bt a0 0)) false)) else (none))) = some (r1, r2) := h
 clear h
 by_cases c2 : a0.toList = ([] : List UInt8)
 ·rw [if_pos c2] at H
  have c2b0 : (a0.toList == ([] : List UInt8)) = true := beq_iff_eq.mpr c2
  have c2b1 : (a0.toList != ([] : List UInt8)) = false := bne_eq_false_iff_eq.mpr c2
  clear c2
  simp only [Option.some.injEq, Prod.mk.injEq] at H
  obtain ⟨rfl, rfl⟩ := H
  go_enter Tryd.func47, Tryd.ntmps47
  go_wp2
  go_ret2
  exact ⟨by first | rfl | (simp [errW_none, errW_some] <;> rfl) | (simp [*, errW_none, errW_some, bne]; done) | (simp [*, errW_none, errW_some] <;> rfl), by repeat (first | (with_reducible first | exact HB.out | apply below_alloc | apply pw_below_drewN | apply below_drew1) | exact HB.out)⟩
 ·rw [if_neg c2] at H
  have c2b0 : (a0.toList == ([] : List UInt8)) = false := beq_eq_false_iff_ne.mpr c2
  have c2b1 : (a0.toList != ([] : List UInt8)) = true := bne_iff_ne.mpr c2
  by_cases c3 : 0 < (a0.size : Int)
  ·rw [if_pos c3] at H
   have c3b0 : decide (0 < (a0.size : Int)) = true := decide_eq_true c3
   have c3b1 : decide (0 < a0.size) = true := decide_eq_true (by omega)
   clear c3
   have HC5 := Aside0.mk H
   clear H
   have p4 : 0 ≤ (0 : Int) := (by omega)
   have q4 : 0 < a0.size := (by have : (0 : Int) < (a0.size : Int) := of_decide_eq_true (by first | (with_reducible assumption) | assumption); omega)
   have hx4 : ∀ h : 0 < a0.size, ((a0[0]'h).toNat : Int) = bt a0 0 := bt_at a0 0
   clear p4
   have qi4 : (0 < (a0.size : Int)) = True := eq_true (of_decide_eq_true (by first | (with_reducible assumption) | assumption))
   replace q4 := eq_true q4
   go_enter Tryd.func47, Tryd.ntmps47
   go_upto_block 0 with (fail)
   go_cut [5, 6] (fun v5 v6 wc => ∃ (kq : Nat) (x5_4 : Int) (x6_4 : Int), v5 = .int .i64 x5_4 ∧ v6 = .int .i64 x6_4 ∧ Aside0 (dragomanref1_Take.j3 kq a0 x5_4 x6_4 = some (r1, r2)) ∧ Aside0 (kq ≤ k) ∧ Aside0 (Below w.heap.size w wc))
   case first =>
    have H := HC5.out
    clear HC5
    have HC6 := Aside0.mk H
    clear H
    go_upto_region 5 with (fail)
    go_cut [14] (fun v14 wc => ∃ (kq : Nat) (x14_5 : Bool), v14 = .bool x14_5 ∧ Aside0 (dragomanref1_Take.j0 kq a0 (wrap64 (bt a0 0)) 1 (wrap64 (bt a0 0)) x14_5 = some (r1, r2)) ∧ Aside0 (kq ≤ k) ∧ Aside0 (Below w.heap.size w wc))
    case first =>
     have H := HC6.out
     clear HC6
     by_cases c7 : (wrap64 (bt a0 0)) ≥ 240
     ·rw [if_pos c7] at H
      have c7b0 : decide (240 ≤ (wrap64 (bt a0 0))) = true := decide_eq_true c7
      clear c7
      (first | rw [c7b0] | (simp only [i64_w, i32_w]; rw [c7b0]) | skip)
      have H' := Aside0.mk H
      clear H
      go_wp2
      go_meet
      case rel => exact ⟨_, (decide ((wrap64 (bt a0 0)) < 248)), (by first | rfl | (simp; done) | (simp [*]; done)), H', ⟨by first | omega | exact Nat.le_refl _⟩, ⟨by repeat (first | (with_reducible first | exact HB.out | apply below_alloc | apply pw_below_drewN | apply below_drew1) | exact HB.out)⟩⟩
     ·rw [if_neg c7] at H
      have c7b0 : decide (240 ≤ (wrap64 (bt a0 0))) = false := decide_eq_false c7
      clear c7
      (first | rw [c7b0] | (simp only [i64_w, i32_w]; rw [c7b0]) | skip)
      have H' := Aside0.mk H
      clear H
      go_wp2
      go_meet
      case rel => exact ⟨_, (false), (by first | rfl | (simp; done) | (simp [*]; done)), H', ⟨by first | omega | exact Nat.le_refl _⟩, ⟨by repeat (first | (with_reducible first | exact HB.out | apply below_alloc | apply pw_below_drewN | apply below_drew1) | exact HB.out)⟩⟩
    case rest =>
     clear HC6
     try clear c2
     try clear c2b0
     try clear c2b1
     try clear p2
     try clear c3
     try clear c3b0
     try clear c3b1
     try clear c4
     try clear p4
     try clear q4
     try clear hx4
     try clear qi4
     try clear p6
     try clear c7
     try clear c7b0
     try clear p4
     try clear q4
     obtain ⟨kq, x14_5, rfl, HA, HJ5, HB⟩ := hcut
     cases kq with
     | zero => exact absurd HA.out (by simp [dragomanref1_Take.j0])
     | succ kj5 =>
      have H := HA.out
      clear HA
      simp only [dragomanref1_Take.j0] at H
      by_cases c8 : x14_5 = true
      ·subst c8
       have H1 : (dragomanref1_Take.j3 kj5 a0 4 (wrap64 ((wrap64 (bt a0 0)) - 240))) = some (r1, r2) := by rw [if_pos rfl] at H; exact H
       clear H
       have H := H1
       clear H1
       have H' := Aside0.mk H
       clear H
       go_wp2
       go_meet
       case rel => exact ⟨_, (4), (wrap64 ((wrap64 (bt a0 0)) - 240)), (by first | rfl | (simp; done) | (simp [*]; done)), (by first | rfl | (simp; done) | (simp [*]; done)), H', ⟨by have := HJ5.out; first | omega | exact Nat.le_refl _⟩, ⟨by repeat (first | (with_reducible first | exact HB.out | apply below_alloc | apply pw_below_drewN | apply below_drew1) | exact HB.out)⟩⟩
      ·replace c8 := Bool.eq_false_iff.mpr c8
       subst c8
       have H1 : (if (wrap64 (bt a0 0)) ≥ 224 then (dragomanref1_Take.j1 kj5 a0 (wrap64 (bt a0 0)) 1 (wrap64 (bt a0 0)) (decide ((wrap64 (bt a0 0)) < 240))) else (dragomanref1_Take.j1 kj5 a0 (wrap64 (bt a0 0)) 1 (wrap64 (bt a0 0)) false)) = some (r1, r2) := by rw [if_neg (show ¬ (false = true) by decide)] at H; exact H
       clear H
       have H := H1
       clear H1
       have HC9 := Aside0.mk H
       clear H
       go_upto_region 7 with (fail)
       go_cut [23] (fun v23 wc => ∃ (kq : Nat) (x23_8 : Bool), v23 = .bool x23_8 ∧ Aside0 (dragomanref1_Take.j1 kq a0 (wrap64 (bt a0 0)) 1 (wrap64 (bt a0 0)) x23_8 = some (r1, r2)) ∧ Aside0 (kq ≤ kj5) ∧ Aside0 (Below w.heap.size w wc))
       case first =>
        have H := HC9.out
        clear HC9
        by_cases c10 : (wrap64 (bt a0 0)) ≥ 224
        ·rw [if_pos c10] at H
         have c10b0 : decide (224 ≤ (wrap64 (bt a0 0))) = true := decide_eq_true c10
         clear c10
         (first | rw [c10b0] | (simp only [i64_w, i32_w]; rw [c10b0]) | skip)
         have H' := Aside0.mk H
         clear H
         go_wp2
         go_meet
         case rel => exact ⟨_, (decide ((wrap64 (bt a0 0)) < 240)), (by first | rfl | (simp; done) | (simp [*]; done)), H', ⟨by have := HJ5.out; first | omega | exact Nat.le_refl _⟩, ⟨by repeat (first | (with_reducible first | exact HB.out | apply below_alloc | apply pw_below_drewN | apply below_drew1) | exact HB.out)⟩⟩
        ·rw [if_neg c10] at H
         have c10b0 : decide (224 ≤ (wrap64 (bt a0 0))) = false := decide_eq_false c10
         clear c10
         (first | rw [c10b0] | (simp only [i64_w, i32_w]; rw [c10b0]) | skip)
         have H' := Aside0.mk H
         clear H
         go_wp2
         go_meet
         case rel => exact ⟨_, (false), (by first | rfl | (simp; done) | (simp [*]; done)), H', ⟨by have := HJ5.out; first | omega | exact Nat.le_refl _⟩, ⟨by repeat (first | (with_reducible first | exact HB.out | apply below_alloc | apply pw_below_drewN | apply below_drew1) | exact HB.out)⟩⟩
       case rest =>
        clear HC9
        try clear c1
        try clear c2
        try clear c2b0
        try clear c2b1
        try clear p2
        try clear c3
        try clear c3b0
        try clear c3b1
        try clear c4
        try clear p4
        try clear q4
        try clear hx4
        try clear qi4
        try clear p6
        try clear c7
        try clear c7b0
        try clear c8
        try clear c10
        try clear c10b0
        try clear p2
        try clear p4
        try clear p6
        try clear q4
        obtain ⟨kq, x23_8, rfl, HA, HJ8, HB⟩ := hcut
        cases kq with
        | zero => exact absurd HA.out (by simp [dragomanref1_Take.j1])
        | succ kj8 =>
         have H := HA.out
         clear HA
         simp only [dragomanref1_Take.j1] at H
         by_cases c11 : x23_8 = true
         ·subst c11
          have H1 : (dragomanref1_Take.j3 kj8 a0 3 (wrap64 ((wrap64 (bt a0 0)) - 224))) = some (r1, r2) := by rw [if_pos rfl] at H; exact H
          clear H
          have H := H1
          clear H1
          have H' := Aside0.mk H
          clear H
          go_wp2
          go_meet
          case rel => exact ⟨_, (3), (wrap64 ((wrap64 (bt a0 0)) - 224)), (by first | rfl | (simp; done) | (simp [*]; done)), (by first | rfl | (simp; done) | (simp [*]; done)), H', ⟨by have := HJ5.out; have := HJ8.out; first | omega | exact Nat.le_refl _⟩, ⟨by repeat (first | (with_reducible first | exact HB.out | apply below_alloc | apply pw_below_drewN | apply below_drew1) | exact HB.out)⟩⟩
         ·replace c11 := Bool.eq_false_iff.mpr c11
          subst c11
          have H1 : (if (wrap64 (bt a0 0)) ≥ 192 then (dragomanref1_Take.j2 kj8 a0 (wrap64 (bt a0 0)) 1 (wrap64 (bt a0 0)) (decide ((wrap64 (bt a0 0)) < 224))) else (dragomanref1_Take.j2 kj8 a0 (wrap64 (bt a0 0)) 1 (wrap64 (bt a0 0)) false)) = some (r1, r2) := by rw [if_neg (show ¬ (false = true) by decide)] at H; exact H
          clear H
          have H := H1
          clear H1
          have HC12 := Aside0.mk H
          clear H
          go_upto_region 9 with (fail)
          go_cut [32] (fun v32 wc => ∃ (kq : Nat) (x32_11 : Bool), v32 = .bool x32_11 ∧ Aside0 (dragomanref1_Take.j2 kq a0 (wrap64 (bt a0 0)) 1 (wrap64 (bt a0 0)) x32_11 = some (r1, r2)) ∧ Aside0 (kq ≤ kj8) ∧ Aside0 (Below w.heap.size w wc))
          case first =>
           have H := HC12.out
           clear HC12
           by_cases c13 : (wrap64 (bt a0 0)) ≥ 192
           ·rw [if_pos c13] at H
            have c13b0 : decide (192 ≤ (wrap64 (bt a0 0))) = true := decide_eq_true c13
            clear c13
            (first | rw [c13b0] | (simp only [i64_w, i32_w]; rw [c13b0]) | skip)
            have H' := Aside0.mk H
            clear H
            go_wp2
            go_meet
            case rel => exact ⟨_, (decide ((wrap64 (bt a0 0)) < 224)), (by first | rfl | (simp; done) | (simp [*]; done)), H', ⟨by have := HJ5.out; have := HJ8.out; first | omega | exact Nat.le_refl _⟩, ⟨by repeat (first | (with_reducible first | exact HB.out | apply below_alloc | apply pw_below_drewN | apply below_drew1) | exact HB.out)⟩⟩
           ·rw [if_neg c13] at H
            have c13b0 : decide (192 ≤ (wrap64 (bt a0 0))) = false := decide_eq_false c13
            clear c13
            (first | rw [c13b0] | (simp only [i64_w, i32_w]; rw [c13b0]) | skip)
            have H' := Aside0.mk H
            clear H
            go_wp2
            go_meet
            case rel => exact ⟨_, (false), (by first | rfl | (simp; done) | (simp [*]; done)), H', ⟨by have := HJ5.out; have := HJ8.out; first | omega | exact Nat.le_refl _⟩, ⟨by repeat (first | (with_reducible first | exact HB.out | apply below_alloc | apply pw_below_drewN | apply below_drew1) | exact HB.out)⟩⟩
          case rest =>
           clear HC12
           try clear c1
           try clear c2
           try clear c2b0
           try clear c2b1
           try clear p2
           try clear c3
           try clear c3b0
           try clear c3b1
           try clear c4
           try clear p4
           try clear q4
           try clear hx4
           try clear qi4
           try clear p6
           try clear c7
           try clear c7b0
           try clear c8
           try clear c10
           try clear c10b0
           try clear c11
           try clear c13
           try clear c13b0
           try clear p2
           try clear p4
           try clear p6
           try clear q4
           obtain ⟨kq, x32_11, rfl, HA, HJ11, HB⟩ := hcut
           cases kq with
           | zero => exact absurd HA.out (by simp [dragomanref1_Take.j2])
           | succ kj11 =>
            have H := HA.out
            clear HA
            simp only [dragomanref1_Take.j2] at H
            by_cases c14 : x32_11 = true
            ·subst c14
             have H1 : (dragomanref1_Take.j3 kj11 a0 2 (wrap64 ((wrap64 (bt a0 0)) - 192))) = some (r1, r2) := by rw [if_pos rfl] at H; exact H
             clear H
             have H := H1
             clear H1
             have H' := Aside0.mk H
             clear H
             go_wp2
             go_meet
             case rel => exact ⟨_, (2), (wrap64 ((wrap64 (bt a0 0)) - 192)), (by first | rfl | (simp; done) | (simp [*]; done)), (by first | rfl | (simp; done) | (simp [*]; done)), H', ⟨by have := HJ5.out; have := HJ8.out; have := HJ11.out; first | omega | exact Nat.le_refl _⟩, ⟨by repeat (first | (with_reducible first | exact HB.out | apply below_alloc | apply pw_below_drewN | apply below_drew1) | exact HB.out)⟩⟩
            ·replace c14 := Bool.eq_false_iff.mpr c14
             subst c14
             have H1 : (if (wrap64 (bt a0 0)) ≥ 128 then (some (0, 0)) else (dragomanref1_Take.j3 kj11 a0 1 (wrap64 (bt a0 0)))) = some (r1, r2) := by rw [if_neg (show ¬ (false = true) by decide)] at H; exact H
             clear H
             have H := H1
             clear H1
             by_cases c15 : (wrap64 (bt a0 0)) ≥ 128
             ·rw [if_pos c15] at H
              have c15b0 : decide (128 ≤ (wrap64 (bt a0 0))) = true := decide_eq_true c15
              clear c15
              simp only [Option.some.injEq, Prod.mk.injEq] at H
              obtain ⟨rfl, rfl⟩ := H
              go_wp2
              go_ret2
              exact ⟨by first | rfl | (simp [errW_none, errW_some] <;> rfl) | (simp [*, errW_none, errW_some, bne]; done) | (simp [*, errW_none, errW_some] <;> rfl), by repeat (first | (with_reducible first | exact HB.out | apply below_alloc | apply pw_below_drewN | apply below_drew1) | exact HB.out)⟩
             ·rw [if_neg c15] at H
              have c15b0 : decide (128 ≤ (wrap64 (bt a0 0))) = false := decide_eq_false c15
              clear c15
              have H' := Aside0.mk H
              clear H
              go_wp2
              go_meet
              case rel => exact ⟨_, (1), ((wrap64 (bt a0 0))), (by first | rfl | (simp; done) | (simp [*]; done)), (by first | rfl | (simp; done) | (simp [*]; done)), H', ⟨by have := HJ5.out; have := HJ8.out; have := HJ11.out; first | omega | exact Nat.le_refl _⟩, ⟨by repeat (first | (with_reducible first | exact HB.out | apply below_alloc | apply pw_below_drewN | apply below_drew1) | exact HB.out)⟩⟩
   case rest =>
    clear HC5
    try clear c1
    try clear c2
    try clear c2b0
    try clear c2b1
    try clear p2
    try clear c3
    try clear c3b0
    try clear c3b1
    try clear c4
    try clear p4
    try clear q4
    try clear hx4
    try clear qi4
    try clear p6
    try clear c7
    try clear c7b0
    try clear c8
    try clear c10
    try clear c10b0
    try clear c11
    try clear c13
    try clear c13b0
    try clear c14
    try clear c15
    try clear c15b0
    try clear p2
    try clear p4
    try clear p6
    try clear q4
    obtain ⟨kq, x5_4, x6_4, rfl, rfl, HA, HJ4, HB⟩ := hcut
    cases kq with
    | zero => exact absurd HA.out (by simp [dragomanref1_Take.j3])
    | succ kj4 =>
     have H := HA.out
     clear HA
     simp only [dragomanref1_Take.j3] at H
     by_cases c16 : (a0.size : Int) < x5_4
     ·rw [if_pos c16] at H
      have c16b0 : decide ((a0.size : Int) < x5_4) = true := decide_eq_true c16
      clear c16
      simp only [Option.some.injEq, Prod.mk.injEq] at H
      obtain ⟨rfl, rfl⟩ := H
      go_wp2
      go_ret2
      exact ⟨by first | rfl | (simp [errW_none, errW_some] <;> rfl) | (simp [*, errW_none, errW_some, bne]; done) | (simp [*, errW_none, errW_some] <;> rfl), by repeat (first | (with_reducible first | exact HB.out | apply below_alloc | apply pw_below_drewN | apply below_drew1) | exact HB.out)⟩
     ·rw [if_neg c16] at H
      have c16b0 : decide ((a0.size : Int) < x5_4) = false := decide_eq_false c16
      clear c16
      have H' := Aside0.mk H
      clear H
      go_wp2
      go_loopg [6, 7] kj4 (fun kq v6 v7 w' => ∃ (x6_2 : Int) (x7_2 : Int), v6 = .int .i64 x6_2 ∧ v7 = .int .i64 x7_2 ∧ Aside0 (dragomanref1_Take.l0 kq a0 x5_4 x6_2 x7_2 = some (r1, r2)) ∧ Aside0 (kq ≤ kj4) ∧ Aside0 (Below w.heap.size w w'))
      case atStart => exact ⟨(x6_4), (1), (by first | rfl | (simp; done) | (simp [*]; done)), (by first | rfl | (simp; done) | (simp [*]; done)), H', ⟨Nat.le_refl _⟩, ⟨by repeat (first | (with_reducible first | exact HB.out | apply below_alloc | apply pw_below_drewN | apply below_drew1) | exact HB.out)⟩⟩
      case round =>
       clear H'
       try clear c1
       try clear c2
       try clear c2b0
       try clear c2b1
       try clear p2
       try clear c3
       try clear c3b0
       try clear c3b1
       try clear c4
       try clear p4
       try clear q4
       try clear hx4
       try clear qi4
       try clear p6
       try clear c7
       try clear c7b0
       try clear c8
       try clear c10
       try clear c10b0
       try clear c11
       try clear c13
       try clear c13b0
       try clear c14
       try clear c15
       try clear c15b0
       try clear c16
       try clear c16b0
       try clear p2
       try clear p4
       try clear p6
       try clear q4
       obtain ⟨x6_2, x7_2, rfl, rfl, HA, HK2, HB⟩ := hrel
       cases gk with
       | zero => exact absurd HA.out (by simp [dragomanref1_Take.l0])
       | succ k2 =>
        have H := HA.out
        clear HA
        simp only [dragomanref1_Take.l0] at H
        by_cases c17 : x7_2 < x5_4
        ·rw [if_pos c17] at H
         have c17b0 : decide (x7_2 < x5_4) = true := decide_eq_true c17
         clear c17
         by_cases c18 : 0 ≤ x7_2
         ·rw [if_pos c18] at H
          have c18b0 : decide (0 ≤ x7_2) = true := decide_eq_true c18
          clear c18
          by_cases c19 : x7_2 < (a0.size : Int)
          ·rw [if_pos c19] at H
           have c19b0 : decide (x7_2 < (a0.size : Int)) = true := decide_eq_true c19
           clear c19
           by_cases c21 : (bt a0 x7_2) < 128
           ·rw [if_pos c21] at H
            have c21b0 : decide ((bt a0 x7_2) < 128) = true := decide_eq_true c21
            clear c21
            simp only [Option.some.injEq, Prod.mk.injEq] at H
            obtain ⟨rfl, rfl⟩ := H
            have p20 : 0 ≤ (x7_2 : Int) := of_decide_eq_true (by first | (with_reducible assumption) | assumption)
            have q20 : x7_2 < (a0.size : Int) := of_decide_eq_true (by first | (with_reducible assumption) | assumption)
            have hx20 := bt_at a0 x7_2
            replace p20 := eq_true p20
            replace q20 := eq_true q20
            go_wp2
            go_ret2
            exact ⟨by first | rfl | (simp [errW_none, errW_some] <;> rfl) | (simp [*, errW_none, errW_some, bne]; done) | (simp [*, errW_none, errW_some] <;> rfl), by repeat (first | (with_reducible first | exact HB.out | apply below_alloc | apply pw_below_drewN | apply below_drew1) | exact HB.out)⟩
           ·rw [if_neg c21] at H
            have c21b0 : decide ((bt a0 x7_2) < 128) = false := decide_eq_false c21
            clear c21
            by_cases c23 : (bt a0 x7_2) > 191
            ·rw [if_pos c23] at H
             have c23b0 : decide (191 < (bt a0 x7_2)) = true := decide_eq_true c23
             clear c23
             simp only [Option.some.injEq, Prod.mk.injEq] at H
             obtain ⟨rfl, rfl⟩ := H
             have p20 : 0 ≤ (x7_2 : Int) := of_decide_eq_true (by first | (with_reducible assumption) | assumption)
             have q20 : x7_2 < (a0.size : Int) := of_decide_eq_true (by first | (with_reducible assumption) | assumption)
             have hx20 := bt_at a0 x7_2
             replace p20 := eq_true p20
             replace q20 := eq_true q20
             have p22 : 0 ≤ (x7_2 : Int) := of_decide_eq_true (by first | (with_reducible assumption) | assumption)
             have q22 : x7_2 < (a0.size : Int) := of_decide_eq_true (by first | (with_reducible assumption) | assumption)
             have hx22 := bt_at a0 x7_2
             replace p22 := eq_true p22
             replace q22 := eq_true q22
             go_wp2
             go_ret2
             exact ⟨by first | rfl | (simp [errW_none, errW_some] <;> rfl) | (simp [*, errW_none, errW_some, bne]; done) | (simp [*, errW_none, errW_some] <;> rfl), by repeat (first | (with_reducible first | exact HB.out | apply below_alloc | apply pw_below_drewN | apply below_drew1) | exact HB.out)⟩
            ·rw [if_neg c23] at H
             have c23b0 : decide (191 < (bt a0 x7_2)) = false := decide_eq_false c23
             clear c23
             have H' := Aside0.mk H
             clear H
             have p20 : 0 ≤ (x7_2 : Int) := of_decide_eq_true (by first | (with_reducible assumption) | assumption)
             have q20 : x7_2 < (a0.size : Int) := of_decide_eq_true (by first | (with_reducible assumption) | assumption)
             have hx20 := bt_at a0 x7_2
             replace p20 := eq_true p20
             replace q20 := eq_true q20
             have p22 : 0 ≤ (x7_2 : Int) := of_decide_eq_true (by first | (with_reducible assumption) | assumption)
             have q22 : x7_2 < (a0.size : Int) := of_decide_eq_true (by first | (with_reducible assumption) | assumption)
             have hx22 := bt_at a0 x7_2
             replace p22 := eq_true p22
             replace q22 := eq_true q22
             have p24 : 0 ≤ (x7_2 : Int) := of_decide_eq_true (by first | (with_reducible assumption) | assumption)
             have q24 : x7_2 < (a0.size : Int) := of_decide_eq_true (by first | (with_reducible assumption) | assumption)
             have hx24 := bt_at a0 x7_2
             replace p24 := eq_true p24
             replace q24 := eq_true q24
             go_wp2
             go_roundg k2
             case measure => have := HJ4.out; have := HK2.out; omega
             case rel => exact ⟨(wrap64 ((wrap64 ((wrap64 (64 * x6_2)) + (wrap64 (bt a0 x7_2)))) - 128)), (wrap64 (x7_2 + 1)), (by first | rfl | (simp; done) | (simp [*]; done)), (by first | rfl | (simp; done) | (simp [*]; done)), H', ⟨by have := HJ4.out; have := HK2.out; omega⟩, ⟨by repeat (first | (with_reducible first | exact HB.out | apply below_alloc | apply pw_below_drewN | apply below_drew1) | exact HB.out)⟩⟩
          ·rw [if_neg c19] at H
           exact absurd H (by simp)
         ·rw [if_neg c18] at H
          exact absurd H (by simp)
        ·rw [if_neg c17] at H
         have c17b0 : decide (x7_2 < x5_4) = false := decide_eq_false c17
         clear c17
         replace H := Option.bind_eq_some_iff.mp H
         obtain ⟨t265, A250, H⟩ := H
         replace H : (if 0 ≤ x5_4 then (if x5_4 ≤ (a0.size : Int) then (if t265.toList = (a0.extract 0 (x5_4 : Int).toNat).toList then (some (x6_2, x5_4)) else (some (0, 0))) else (none)) else (none)) = some (r1, r2) := H
         have A25 := Aside0.mk A250
         clear A250
         by_cases c26 : 0 ≤ x5_4
         ·rw [if_pos c26] at H
          have c26b0 := eq_true c26
          have c26b1 : decide (0 ≤ x5_4) = true := decide_eq_true c26
          clear c26
          by_cases c27 : x5_4 ≤ (a0.size : Int)
          ·rw [if_pos c27] at H
           have c27b0 := eq_true c27
           have c27b1 : decide (x5_4 ≤ (a0.size : Int)) = true := decide_eq_true c27
           clear c27
           by_cases c28 : t265.toList = (a0.extract 0 (x5_4 : Int).toNat).toList
           ·rw [if_pos c28] at H
            have c28b0 : (t265.toList == (a0.extract 0 (x5_4 : Int).toNat).toList) = true := beq_iff_eq.mpr c28
            have c28b1 : (t265.toList != (a0.extract 0 (x5_4 : Int).toNat).toList) = false := bne_eq_false_iff_eq.mpr c28
            clear c28
            simp only [Option.some.injEq, Prod.mk.injEq] at H
            obtain ⟨rfl, rfl⟩ := H
            try go_wp2
            have n0_ := Aside0.mk (below_drew1 HB.out)
            clear HB
            have HB := n0_
            clear n0_
            refine start_ (n := 6) (S := fun w' => True) (ds := []) #[false, false, false, false, false, false] (by kernel_rfl) rfl rfl trivial (fun hHeld => ?_)
            generalize wr.drew = w29 at HB hHeld ⊢
            refine pure_ (i := 0) (N := some 71) (v := ?_) (a' := ?_) #[true, false, false, false, false, false] rfl rfl (by kernel_rfl) (fun _ _ _ h => h) (Or.inl ⟨by rfl, ?_⟩) ?_ ?_
            rotate_left
            ·intro w'
             go_simp
             with_reducible rfl
            rotate_left
            ·simp only [Act.put, List.setIfInBounds_toArray, List.set_cons_zero, List.set_cons_succ, i64_w, i32_w]
             rfl
            refine pure_ (i := 2) (N := some 73) (v := ?_) (a' := ?_) #[true, false, true, false, false, false] rfl rfl (by kernel_rfl) (fun _ _ _ h => h) (Or.inl ⟨by rfl, ?_⟩) ?_ ?_
            rotate_left
            ·intro w'
             go_simp
             with_reducible rfl
            rotate_left
            ·simp only [Act.put, List.setIfInBounds_toArray, List.set_cons_zero, List.set_cons_succ, i64_w, i32_w]
             rfl
            refine pure_ (i := 3) (N := some 74) (v := ?_) (a' := ?_) #[true, false, true, true, false, false] rfl rfl (by kernel_rfl) (fun _ _ _ h => h) (Or.inl ⟨by rfl, ?_⟩) ?_ ?_
            rotate_left
            ·intro w'
             go_simp
             with_reducible rfl
            rotate_left
            ·simp only [Act.put, List.setIfInBounds_toArray, List.set_cons_zero, List.set_cons_succ, i64_w, i32_w]
             rfl
            refine pure_ (i := 4) (N := some 75) (v := ?_) (a' := ?_) #[true, false, true, true, true, false] rfl rfl (by kernel_rfl) (fun _ _ _ h => h) (Or.inl ⟨by rfl, ?_⟩) ?_ ?_
            rotate_left
            ·intro w'
             go_simp
             with_reducible rfl
            rotate_left
            ·simp only [Act.put, List.setIfInBounds_toArray, List.set_cons_zero, List.set_cons_succ, i64_w, i32_w]
             rfl
            refine one_ (i := 1) (N := some 72) #[true, true, true, true, true, false] rfl rfl (by kernel_rfl) (by decide) (fun K hK => ?_)
            refine goes_ Tryd.func27 (by kernel_rfl) rfl #[.int .i64 x6_2] (by rfl) rfl rfl (by (try simp only [List.map_toArray, List.map_cons, List.map_nil]); first | done | rfl | (simp only [List.length_drop, List.length_take]; rfl)) ?_
            with_reducible refine (dragomanref1_Put.calls x6_2 t265 _ A25.out).mono ?_
            rintro e w30 ⟨rfl, hb⟩
            refine ⟨_, rfl, ?_⟩
            have n0_ := Aside0.mk (below_step (by repeat (first | (with_reducible first | exact HB.out | apply below_alloc | apply pw_below_drewN | apply below_drew1) | exact HB.out)) hb)
            clear HB
            have HB := n0_
            clear n0_
            (try clear hb)
            (try clear hb2)
            (try clear hk)
            (try clear hi)
            refine hK.out _ _ trivial (fun hHeld => ?_)
            clear hK K
            refine norm_ (a' := ?_) ?_ ?_
            rotate_left
            ·show Act.put _ (some 72) _ = _
             simp only [Act.put, List.setIfInBounds_toArray, List.set_cons_zero, List.set_cons_succ, i64_w, i32_w]
             rfl
            refine pure_ (i := 5) (N := some 76) (v := ?_) (a' := ?_) #[true, true, true, true, true, true] rfl rfl (by kernel_rfl) (fun _ _ _ h => h) (Or.inl ⟨by rfl, ?_⟩) ?_ ?_
            rotate_left
            ·intro w'
             go_simp
             with_reducible rfl
            rotate_left
            ·simp only [Act.put, List.setIfInBounds_toArray, List.set_cons_zero, List.set_cons_succ, i64_w, i32_w]
             rfl
            refine done_ (by kernel_rfl) ?_
            try go_wp2
            go_ret2
            exact ⟨by first | rfl | (simp [errW_none, errW_some] <;> rfl) | (simp [*, errW_none, errW_some, bne]; done) | (simp [*, errW_none, errW_some] <;> rfl), by repeat (first | (with_reducible first | exact HB.out | apply below_alloc | apply pw_below_drewN | apply below_drew1) | exact HB.out)⟩
           ·rw [if_neg c28] at H
            have c28b0 : (t265.toList == (a0.extract 0 (x5_4 : Int).toNat).toList) = false := beq_eq_false_iff_ne.mpr c28
            have c28b1 : (t265.toList != (a0.extract 0 (x5_4 : Int).toNat).toList) = true := bne_iff_ne.mpr c28
            simp only [Option.some.injEq, Prod.mk.injEq] at H
            obtain ⟨rfl, rfl⟩ := H
            try go_wp2
            have n0_ := Aside0.mk (below_drew1 HB.out)
            clear HB
            have HB := n0_
            clear n0_
            refine start_ (n := 6) (S := fun w' => True) (ds := []) #[false, false, false, false, false, false] (by kernel_rfl) rfl rfl trivial (fun hHeld => ?_)
            generalize wr.drew = w31 at HB hHeld ⊢
            refine pure_ (i := 0) (N := some 71) (v := ?_) (a' := ?_) #[true, false, false, false, false, false] rfl rfl (by kernel_rfl) (fun _ _ _ h => h) (Or.inl ⟨by rfl, ?_⟩) ?_ ?_
            rotate_left
            ·intro w'
             go_simp
             with_reducible rfl
            rotate_left
            ·simp only [Act.put, List.setIfInBounds_toArray, List.set_cons_zero, List.set_cons_succ, i64_w, i32_w]
             rfl
            refine pure_ (i := 2) (N := some 73) (v := ?_) (a' := ?_) #[true, false, true, false, false, false] rfl rfl (by kernel_rfl) (fun _ _ _ h => h) (Or.inl ⟨by rfl, ?_⟩) ?_ ?_
            rotate_left
            ·intro w'
             go_simp
             with_reducible rfl
            rotate_left
            ·simp only [Act.put, List.setIfInBounds_toArray, List.set_cons_zero, List.set_cons_succ, i64_w, i32_w]
             rfl
            refine pure_ (i := 3) (N := some 74) (v := ?_) (a' := ?_) #[true, false, true, true, false, false] rfl rfl (by kernel_rfl) (fun _ _ _ h => h) (Or.inl ⟨by rfl, ?_⟩) ?_ ?_
            rotate_left
            ·intro w'
             go_simp
             with_reducible rfl
            rotate_left
            ·simp only [Act.put, List.setIfInBounds_toArray, List.set_cons_zero, List.set_cons_succ, i64_w, i32_w]
             rfl
            refine pure_ (i := 4) (N := some 75) (v := ?_) (a' := ?_) #[true, false, true, true, true, false] rfl rfl (by kernel_rfl) (fun _ _ _ h => h) (Or.inl ⟨by rfl, ?_⟩) ?_ ?_
            rotate_left
            ·intro w'
             go_simp
             with_reducible rfl
            rotate_left
            ·simp only [Act.put, List.setIfInBounds_toArray, List.set_cons_zero, List.set_cons_succ, i64_w, i32_w]
             rfl
            refine one_ (i := 1) (N := some 72) #[true, true, true, true, true, false] rfl rfl (by kernel_rfl) (by decide) (fun K hK => ?_)
            refine goes_ Tryd.func27 (by kernel_rfl) rfl #[.int .i64 x6_2] (by rfl) rfl rfl (by (try simp only [List.map_toArray, List.map_cons, List.map_nil]); first | done | rfl | (simp only [List.length_drop, List.length_take]; rfl)) ?_
            with_reducible refine (dragomanref1_Put.calls x6_2 t265 _ A25.out).mono ?_
            rintro e w32 ⟨rfl, hb⟩
            refine ⟨_, rfl, ?_⟩
            have n0_ := Aside0.mk (below_step (by repeat (first | (with_reducible first | exact HB.out | apply below_alloc | apply pw_below_drewN | apply below_drew1) | exact HB.out)) hb)
            clear HB
            have HB := n0_
            clear n0_
            (try clear hb)
            (try clear hb2)
            (try clear hk)
            (try clear hi)
            refine hK.out _ _ trivial (fun hHeld => ?_)
            clear hK K
            refine norm_ (a' := ?_) ?_ ?_
            rotate_left
            ·show Act.put _ (some 72) _ = _
             simp only [Act.put, List.setIfInBounds_toArray, List.set_cons_zero, List.set_cons_succ, i64_w, i32_w]
             rfl
            refine pure_ (i := 5) (N := some 76) (v := ?_) (a' := ?_) #[true, true, true, true, true, true] rfl rfl (by kernel_rfl) (fun _ _ _ h => h) (Or.inl ⟨by rfl, ?_⟩) ?_ ?_
            rotate_left
            ·intro w'
             go_simp
             with_reducible rfl
            rotate_left
            ·simp only [Act.put, List.setIfInBounds_toArray, List.set_cons_zero, List.set_cons_succ, i64_w, i32_w]
             rfl
            refine done_ (by kernel_rfl) ?_
            try go_wp2
            go_ret2
            exact ⟨by first | rfl | (simp [errW_none, errW_some] <;> rfl) | (simp [*, errW_none, errW_some, bne]; done) | (simp [*, errW_none, errW_some] <;> rfl), by repeat (first | (with_reducible first | exact HB.out | apply below_alloc | apply pw_below_drewN | apply below_drew1) | exact HB.out)⟩
          ·rw [if_neg c27] at H
           exact absurd H (by simp)
         ·rw [if_neg c26] at H
          exact absurd H (by simp)
  ·rw [if_neg c3] at H
   exact absurd H (by simp)
end Go.Proofs.YtoanbmggffkmgaaDoor.P
end
section
namespace Go.Proofs.YtoanbmggffkmgaaDoor.P
open Go.RowKit Go.Proofs.YtoanbmggffkmgaaDoorW.PrintWords Go.Proofs.YtoanbmggffkmgaaDoorW.PrintLast Go.Proofs.YtoanbmggffkmgaaDoorW.PrintMore
attribute [local go_sem] max2_int min2_int max_two min_two max_three min_three max_four min_four   -- for this text's walks alone
set_option linter.unusedVariables false
set_option linter.unusedSimpArgs false
/-! ### dragomanref1_Valid: function 25 -/
def dragomanref1_Valid.l0 : Nat → ByteArray → Int → Option (Int)
 | 0, _, _ => none
 | k + 1, x0, x3 => if x3 < (x0.size : Int) then (if 0 ≤ x3 then (if x3 ≤ (x0.size : Int) then ((dragomanref1_Take.f k (x0.extract (x3 : Int).toNat x0.size)).bind fun bt266 => (if bt266.2 = 0 then (some x3) else (dragomanref1_Valid.l0 k x0 (wrap64 (x3 + bt266.2))))) else (none)) else (none)) else (some (-1))
def dragomanref1_Valid.f (k : Nat) (a0 : ByteArray) : Option (Int) := dragomanref1_Valid.l0 k a0 0
set_option maxHeartbeats 8000000 in
set_option maxRecDepth 100000 in
theorem dragomanref1_Valid.calls (k : Nat) (a0 : ByteArray) (r : Int) (w : World) (h : dragomanref1_Valid.f k a0 = some r) :
  Calls Tryd.prog 25 #[.string a0] w fun e w' => e = .returned (.int .i64 r) ∧ Below w.heap.size w w' := by
 have HB := Aside0.mk (Below.refl w.heap.size w)
 have H : (dragomanref1_Valid.l0 k a0 0) = some r := h
 clear h
 have H' := Aside0.mk H
 clear H
 go_enter Tryd.func25, Tryd.ntmps25
 go_wp2
 go_loopg [3] k (fun kq v3 w' => ∃ (x3_1 : Int), v3 = .int .i64 x3_1 ∧ Aside0 (dragomanref1_Valid.l0 kq a0 x3_1 = some r) ∧ Aside0 (kq ≤ k) ∧ Aside0 (Below w.heap.size w w'))
 case atStart => exact ⟨(0), (by first | rfl | (simp; done) | (simp [*]; done)), H', ⟨Nat.le_refl _⟩, ⟨by repeat (first | (with_reducible first | exact HB.out | apply below_alloc | apply pw_below_drewN | apply below_drew1) | exact HB.out)⟩⟩
 case round =>
  clear H'
  obtain ⟨x3_1, rfl, HA, HK1, HB⟩ := hrel
  cases gk with
  | zero => exact absurd HA.out (by simp [dragomanref1_Valid.l0])
  | succ k1 =>
   have H := HA.out
   clear HA
   simp only [dragomanref1_Valid.l0] at H
   by_cases c2 : x3_1 < (a0.size : Int)
   ·rw [if_pos c2] at H
    have c2b0 : decide (x3_1 < (a0.size : Int)) = true := decide_eq_true c2
    clear c2
    by_cases c3 : 0 ≤ x3_1
    ·rw [if_pos c3] at H
     have c3b0 := eq_true c3
     have c3b1 : decide (0 ≤ x3_1) = true := decide_eq_true c3
     clear c3
     by_cases c4 : x3_1 ≤ (a0.size : Int)
     ·rw [if_pos c4] at H
      have c4b0 := eq_true c4
      have c4b1 : decide (x3_1 ≤ (a0.size : Int)) = true := decide_eq_true c4
      clear c4
      replace H := Option.bind_eq_some_iff.mp H
      obtain ⟨⟨t266, t267⟩, A50, H⟩ := H
      replace H : (if t267 = 0 then (some x3_1) else (dragomanref1_Valid.l0 k1 a0 (wrap64 (x3_1 + t267)))) = some r := H
      have A5 := Aside0.mk A50
      clear A50
      by_cases c6 : t267 = 0
      ·rw [if_pos c6] at H
       have c6b0 : (t267 == 0) = true := beq_iff_eq.mpr c6
       have c6b1 : (t267 != 0) = false := bne_eq_false_iff_eq.mpr c6
       clear c6
       obtain rfl := Option.some.inj H
       go_wp2_with (first | ((with_reducible refine gate_callee (f := 47) rfl ?_); refine goesL_ (some 14) rfl rfl Tryd.func47 (by kernel_rfl) rfl #[.string (a0.extract (x3_1 : Int).toNat a0.size)] rfl (by (try simp only [List.map_toArray, List.map_cons, List.map_nil]); first | done | rfl | (simp only [List.length_drop, List.length_take]; rfl)) ?_; (with_reducible refine (dragomanref1_Take.calls k1 (a0.extract (x3_1 : Int).toNat a0.size) t266 t267 _ A5.out).mono ?_); rintro e w7 ⟨rfl, hb⟩; refine ⟨_, rfl, ?_⟩; have n0_ := Aside0.mk (below_step (by repeat (first | (with_reducible first | exact HB.out | apply below_alloc | apply pw_below_drewN | apply below_drew1) | exact HB.out)) hb); clear HB; have HB := n0_; clear n0_; (try clear hb); (try clear hb2); (try clear hk); (try clear hi)))
       go_ret
       exact ⟨by first | rfl | (simp [errW_none, errW_some] <;> rfl) | (simp [*, errW_none, errW_some, bne]; done) | (simp [*, errW_none, errW_some] <;> rfl), by repeat (first | (with_reducible first | exact HB.out | apply below_alloc | apply pw_below_drewN | apply below_drew1) | exact HB.out)⟩
      ·rw [if_neg c6] at H
       have c6b0 : (t267 == 0) = false := beq_eq_false_iff_ne.mpr c6
       have c6b1 : (t267 != 0) = true := bne_iff_ne.mpr c6
       have H' := Aside0.mk H
       clear H
       go_wp2_with (first | ((with_reducible refine gate_callee (f := 47) rfl ?_); refine goesL_ (some 14) rfl rfl Tryd.func47 (by kernel_rfl) rfl #[.string (a0.extract (x3_1 : Int).toNat a0.size)] rfl (by (try simp only [List.map_toArray, List.map_cons, List.map_nil]); first | done | rfl | (simp only [List.length_drop, List.length_take]; rfl)) ?_; (with_reducible refine (dragomanref1_Take.calls k1 (a0.extract (x3_1 : Int).toNat a0.size) t266 t267 _ A5.out).mono ?_); rintro e w8 ⟨rfl, hb⟩; refine ⟨_, rfl, ?_⟩; have n0_ := Aside0.mk (below_step (by repeat (first | (with_reducible first | exact HB.out | apply below_alloc | apply pw_below_drewN | apply below_drew1) | exact HB.out)) hb); clear HB; have HB := n0_; clear n0_; (try clear hb); (try clear hb2); (try clear hk); (try clear hi)))
       go_roundg k1
       case measure => have := HK1.out; omega
       case rel => exact ⟨(wrap64 (x3_1 + t267)), (by first | rfl | (simp; done) | (simp [*]; done)), H', ⟨by have := HK1.out; omega⟩, ⟨by repeat (first | (with_reducible first | exact HB.out | apply below_alloc | apply pw_below_drewN | apply below_drew1) | exact HB.out)⟩⟩
     ·rw [if_neg c4] at H
      exact absurd H (by simp)
    ·rw [if_neg c3] at H
     exact absurd H (by simp)
   ·rw [if_neg c2] at H
    have c2b0 : decide (x3_1 < (a0.size : Int)) = false := decide_eq_false c2
    clear c2
    obtain rfl := Option.some.inj H
    go_wp2
    go_ret
    exact ⟨by first | rfl | (simp [errW_none, errW_some] <;> rfl) | (simp [*, errW_none, errW_some, bne]; done) | (simp [*, errW_none, errW_some] <;> rfl), by repeat (first | (with_reducible first | exact HB.out | apply below_alloc | apply pw_below_drewN | apply below_drew1) | exact HB.out)⟩
end Go.Proofs.YtoanbmggffkmgaaDoor.P
end
section
namespace Go.Proofs.YtoanbmggffkmgaaDoor.P
open Go.RowKit Go.Proofs.YtoanbmggffkmgaaDoorW.PrintWords Go.Proofs.YtoanbmggffkmgaaDoorW.PrintLast Go.Proofs.YtoanbmggffkmgaaDoorW.PrintMore
attribute [local go_sem] max2_int min2_int max_two min_two max_three min_three max_four min_four   -- for this text's walks alone
set_option linter.unusedVariables false
set_option linter.unusedSimpArgs false
/-! ### dragomanref1_Starts: function 46 -/
def dragomanref1_Starts.l0 : Nat → ByteArray → List Int → Int → Option (List Int)
 | 0, _, _, _ => none
 | k + 1, x0, x3, x4 => if x4 < (x0.size : Int) then (if x3.length < 17592186044416 then ((some (x3 ++ [x4] : List Int)).bind fun y322 => (if 0 ≤ x4 then (if x4 ≤ (x0.size : Int) then ((dragomanref1_Take.f k (x0.extract (x4 : Int).toNat x0.size)).bind fun bt325 => (if bt325.2 = 0 then (dragomanref1_Starts.l0 k x0 y322 (wrap64 (x4 + 1))) else (dragomanref1_Starts.l0 k x0 y322 (wrap64 (x4 + bt325.2))))) else (none)) else (none))) else (none)) else (if x3.length < 17592186044416 then (some (x3 ++ [(x0.size : Int)])) else (none))
def dragomanref1_Starts.f (k : Nat) (a0 : ByteArray) : Option (List Int) := dragomanref1_Starts.l0 k a0 ([] : List Int) 0
set_option maxHeartbeats 8000000 in
set_option maxRecDepth 100000 in
theorem dragomanref1_Starts.calls (k : Nat) (a0 : ByteArray) (r : List Int) (w : World) (h : dragomanref1_Starts.f k a0 = some r) :
  Calls Tryd.prog 46 #[.string a0] w fun e w' => ∃ v0_ : Value, e = .returned (v0_) ∧ Kd.R (Kd.int .i64) 3 w' w.heap.size (fun _ => True) v0_ r ∧ Below w.heap.size w w' := by
 have HB := Aside0.mk (Below.refl w.heap.size w)
 have H : (dragomanref1_Starts.l0 k a0 ([] : List Int) 0) = some r := h
 clear h
 have H' := Aside0.mk H
 clear H
 go_enter Tryd.func46, Tryd.ntmps46
 go_wp2
 go_loopg [3, 4] k (fun kq v3 v4 w' => ∃ (x3_1 : List Int) (x4_1 : Int), v4 = .int .i64 x4_1 ∧ Aside0 (dragomanref1_Starts.l0 kq a0 x3_1 x4_1 = some r) ∧ Aside0 (kq ≤ k) ∧ Aside0 (Kd.R (Kd.int .i64) 3 w' w.heap.size (fun _ => True) v3 x3_1) ∧ Aside0 (Below w.heap.size w w'))
 case atStart => exact ⟨(([] : List Int)), (0), (by first | rfl | (simp; done) | (simp [*]; done)), H', ⟨Nat.le_refl _⟩, ⟨by first | exact Kd.R_nil _ _ _ _ _ | exact Kd.N_nil _ _ _ _ _ | exact Kd.V_nil _ _ _ _ _ | exact Kd.Q_nil _ _ _ _ _ | exact Kd.S_nil _ _ _ _ _⟩, ⟨by repeat (first | (with_reducible first | exact HB.out | apply below_alloc | apply pw_below_drewN | apply below_drew1) | exact HB.out)⟩⟩
 case round =>
  clear H'
  obtain ⟨x3_1, x4_1, rfl, HA, HK1, HO_3, HB⟩ := hrel
  cases gk with
  | zero => exact absurd HA.out (by simp [dragomanref1_Starts.l0])
  | succ k1 =>
   have H := HA.out
   clear HA
   simp only [dragomanref1_Starts.l0] at H
   by_cases c2 : x4_1 < (a0.size : Int)
   ·rw [if_pos c2] at H
    have c2b0 : decide (x4_1 < (a0.size : Int)) = true := decide_eq_true c2
    clear c2
    by_cases c3 : x3_1.length < 17592186044416
    ·rw [if_pos c3] at H
     have LMc3 := Aside0.mk c3
     clear c3
     obtain ⟨y322, hy322⟩ : ∃ y_ : List Int, y_ = (x3_1 ++ [x4_1]) := ⟨_, rfl⟩
     replace H : (if 0 ≤ x4_1 then (if x4_1 ≤ (a0.size : Int) then ((dragomanref1_Take.f k1 (a0.extract (x4_1 : Int).toNat a0.size)).bind fun bt325 => (if bt325.2 = 0 then (dragomanref1_Starts.l0 k1 a0 y322 (wrap64 (x4_1 + 1))) else (dragomanref1_Starts.l0 k1 a0 y322 (wrap64 (x4_1 + bt325.2))))) else (none)) else (none)) = some r := by first | (rw [hy322]; with_reducible exact H) | (have H2_ := (Option.bind_some _ _).symm.trans H; rw [hy322]; with_reducible exact H2_) | (have H2_ := (Option.bind_some _ _).symm.trans H; with_reducible exact H2_) | with_reducible exact H | (rw [hy322]; exact H) | exact H
     have Ny322 := Aside0.mk hy322
     clear hy322
     by_cases c4 : 0 ≤ x4_1
     ·rw [if_pos c4] at H
      have c4b0 := eq_true c4
      have c4b1 : decide (0 ≤ x4_1) = true := decide_eq_true c4
      clear c4
      by_cases c5 : x4_1 ≤ (a0.size : Int)
      ·rw [if_pos c5] at H
       have c5b0 := eq_true c5
       have c5b1 : decide (x4_1 ≤ (a0.size : Int)) = true := decide_eq_true c5
       clear c5
       replace H := Option.bind_eq_some_iff.mp H
       obtain ⟨⟨t325, t326⟩, A60, H⟩ := H
       replace H : (if t326 = 0 then (dragomanref1_Starts.l0 k1 a0 y322 (wrap64 (x4_1 + 1))) else (dragomanref1_Starts.l0 k1 a0 y322 (wrap64 (x4_1 + t326)))) = some r := H
       have A6 := Aside0.mk A60
       clear A60
       by_cases c7 : t326 = 0
       ·rw [if_pos c7] at H
        have c7b0 : (t326 == 0) = true := beq_iff_eq.mpr c7
        have c7b1 : (t326 != 0) = false := bne_eq_false_iff_eq.mpr c7
        clear c7
        have H' := Aside0.mk H
        clear H
        go_wp2_with (first | ((with_reducible refine gate_builtin (b := .append) (xs := #[.tmp 11, .tmp 13]) rfl ?_); at_builtin; refine Kd.R_append (Kd.int .i64) (w0 := w) w.heap.size rfl (.tmp 11) (.tmp 13) 68 3 (.int .i64 0) 8 rfl Tryd.underlying68 info3 rfl (by decide) (by omega) u3 x3_1 x4_1 [.int .i64 x4_1] (fun _ => True) (fun _ => False) rfl rfl ?aP (fun _ hk => hk.elim) ?aF ?aO ?aB ?aS ?aL ?_; (case aP => exact rfl); (case aB => exact (by repeat (first | (with_reducible first | exact HB.out | apply below_alloc | apply pw_below_drewN | apply below_drew1) | exact HB.out))); (case aF => exact (fun _ _ => trivial)); (case aO => exact (by (with_reducible repeat (first | apply Kd.R_alloc | apply Kd.R_drewN | apply Kd.R_drew)); exact HO_3.out)); (case aS => exact (below_size (by repeat (first | (with_reducible first | exact HB.out | apply below_alloc | apply pw_below_drewN | apply below_drew1) | exact HB.out)))); (case aL => have := LMc3.out; omega); intro v323 w8 ho hb hg hat; rw [← Ny322.out] at ho; have n0_ := Aside0.mk (hb); have n1_ := Aside0.mk (ho); clear HB; clear HO_3; have HB := n0_; have HO324 := n1_; clear n0_ n1_; clear ho hb hg hat) | ((with_reducible refine gate_callee (f := 47) rfl ?_); refine goesL_ (some 19) rfl rfl Tryd.func47 (by kernel_rfl) rfl #[.string (a0.extract (x4_1 : Int).toNat a0.size)] rfl (by (try simp only [List.map_toArray, List.map_cons, List.map_nil]); first | done | rfl | (simp only [List.length_drop, List.length_take]; rfl)) ?_; (with_reducible refine (dragomanref1_Take.calls k1 (a0.extract (x4_1 : Int).toNat a0.size) t325 t326 _ A6.out).mono ?_); rintro e w9 ⟨rfl, hb⟩; refine ⟨_, rfl, ?_⟩; have n0_ := Aside0.mk (Kd.R_below (by (with_reducible repeat (first | apply Kd.R_alloc | apply Kd.R_drewN | apply Kd.R_drew)); exact HO324.out) hb); have n1_ := Aside0.mk (below_step (by repeat (first | (with_reducible first | exact HB.out | apply below_alloc | apply pw_below_drewN | apply below_drew1) | exact HB.out)) hb); clear HO324; clear HB; have HO324 := n0_; have HB := n1_; clear n0_ n1_; (try clear hb); (try clear hb2); (try clear hk); (try clear hi)))
        go_roundg k1
        case measure => have := HK1.out; omega
        case rel => exact ⟨(y322), (wrap64 (x4_1 + 1)), (by first | rfl | (simp; done) | (simp [*]; done)), H', ⟨by have := HK1.out; omega⟩, ⟨by (with_reducible repeat (first | apply Kd.R_alloc | apply Kd.R_drewN | apply Kd.R_drew)); exact HO324.out⟩, ⟨by repeat (first | (with_reducible first | exact HB.out | apply below_alloc | apply pw_below_drewN | apply below_drew1) | exact HB.out)⟩⟩
       ·rw [if_neg c7] at H
        have c7b0 : (t326 == 0) = false := beq_eq_false_iff_ne.mpr c7
        have c7b1 : (t326 != 0) = true := bne_iff_ne.mpr c7
        have H' := Aside0.mk H
        clear H
        go_wp2_with (first | ((with_reducible refine gate_builtin (b := .append) (xs := #[.tmp 11, .tmp 13]) rfl ?_); at_builtin; refine Kd.R_append (Kd.int .i64) (w0 := w) w.heap.size rfl (.tmp 11) (.tmp 13) 68 3 (.int .i64 0) 8 rfl Tryd.underlying68 info3 rfl (by decide) (by omega) u3 x3_1 x4_1 [.int .i64 x4_1] (fun _ => True) (fun _ => False) rfl rfl ?aP (fun _ hk => hk.elim) ?aF ?aO ?aB ?aS ?aL ?_; (case aP => exact rfl); (case aB => exact (by repeat (first | (with_reducible first | exact HB.out | apply below_alloc | apply pw_below_drewN | apply below_drew1) | exact HB.out))); (case aF => exact (fun _ _ => trivial)); (case aO => exact (by (with_reducible repeat (first | apply Kd.R_alloc | apply Kd.R_drewN | apply Kd.R_drew)); exact HO_3.out)); (case aS => exact (below_size (by repeat (first | (with_reducible first | exact HB.out | apply below_alloc | apply pw_below_drewN | apply below_drew1) | exact HB.out)))); (case aL => have := LMc3.out; omega); intro v323 w10 ho hb hg hat; rw [← Ny322.out] at ho; have n0_ := Aside0.mk (hb); have n1_ := Aside0.mk (ho); clear HB; clear HO_3; have HB := n0_; have HO324 := n1_; clear n0_ n1_; clear ho hb hg hat) | ((with_reducible refine gate_callee (f := 47) rfl ?_); refine goesL_ (some 19) rfl rfl Tryd.func47 (by kernel_rfl) rfl #[.string (a0.extract (x4_1 : Int).toNat a0.size)] rfl (by (try simp only [List.map_toArray, List.map_cons, List.map_nil]); first | done | rfl | (simp only [List.length_drop, List.length_take]; rfl)) ?_; (with_reducible refine (dragomanref1_Take.calls k1 (a0.extract (x4_1 : Int).toNat a0.size) t325 t326 _ A6.out).mono ?_); rintro e w11 ⟨rfl, hb⟩; refine ⟨_, rfl, ?_⟩; have n0_ := Aside0.mk (Kd.R_below (by (with_reducible repeat (first | apply Kd.R_alloc | apply Kd.R_drewN | apply Kd.R_drew)); exact HO324.out) hb); have n1_ := Aside0.mk (below_step (by repeat (first | (with_reducible first | exact HB.out | apply below_alloc | apply pw_below_drewN | apply below_drew1) | exact HB.out)) hb); clear HO324; clear HB; have HO324 := n0_; have HB := n1_; clear n0_ n1_; (try clear hb); (try clear hb2); (try clear hk); (try clear hi)))
        go_roundg k1
        case measure => have := HK1.out; omega
        case rel => exact ⟨(y322), (wrap64 (x4_1 + t326)), (by first | rfl | (simp; done) | (simp [*]; done)), H', ⟨by have := HK1.out; omega⟩, ⟨by (with_reducible repeat (first | apply Kd.R_alloc | apply Kd.R_drewN | apply Kd.R_drew)); exact HO324.out⟩, ⟨by repeat (first | (with_reducible first | exact HB.out | apply below_alloc | apply pw_below_drewN | apply below_drew1) | exact HB.out)⟩⟩
      ·rw [if_neg c5] at H
       exact absurd H (by simp)
     ·rw [if_neg c4] at H
      exact absurd H (by simp)
    ·rw [if_neg c3] at H
     exact absurd H (by simp)
   ·rw [if_neg c2] at H
    have c2b0 : decide (x4_1 < (a0.size : Int)) = false := decide_eq_false c2
    clear c2
    by_cases c12 : x3_1.length < 17592186044416
    ·rw [if_pos c12] at H
     have LMc12 := Aside0.mk c12
     clear c12
     obtain ⟨y327, hy327⟩ : ∃ y_ : List Int, y_ = (x3_1 ++ [(a0.size : Int)]) := ⟨_, rfl⟩
     replace H : (some y327) = some r := by first | (rw [hy327]; with_reducible exact H) | (have H2_ := (Option.bind_some _ _).symm.trans H; rw [hy327]; with_reducible exact H2_) | (have H2_ := (Option.bind_some _ _).symm.trans H; with_reducible exact H2_) | with_reducible exact H | (rw [hy327]; exact H) | exact H
     have Ny327 := Aside0.mk hy327
     clear hy327
     obtain rfl := Option.some.inj H
     go_wp2_with (first | ((with_reducible refine gate_builtin (b := .append) (xs := #[.tmp 27, .tmp 30]) rfl ?_); at_builtin; refine Kd.R_append (Kd.int .i64) (w0 := w) w.heap.size rfl (.tmp 27) (.tmp 30) 68 3 (.int .i64 0) 8 rfl Tryd.underlying68 info3 rfl (by decide) (by omega) u3 x3_1 (a0.size : Int) [.int .i64 (a0.size : Int)] (fun _ => True) (fun _ => False) rfl rfl ?aP (fun _ hk => hk.elim) ?aF ?aO ?aB ?aS ?aL ?_; (case aP => exact rfl); (case aB => exact (by repeat (first | (with_reducible first | exact HB.out | apply below_alloc | apply pw_below_drewN | apply below_drew1) | exact HB.out))); (case aF => exact (fun _ _ => trivial)); (case aO => exact (by (with_reducible repeat (first | apply Kd.R_alloc | apply Kd.R_drewN | apply Kd.R_drew)); exact HO_3.out)); (case aS => exact (below_size (by repeat (first | (with_reducible first | exact HB.out | apply below_alloc | apply pw_below_drewN | apply below_drew1) | exact HB.out)))); (case aL => have := LMc12.out; omega); intro v328 w13 ho hb hg hat; rw [← Ny327.out] at ho; have n0_ := Aside0.mk (hb); have n1_ := Aside0.mk (ho); clear HB; clear HO_3; have HB := n0_; have HO329 := n1_; clear n0_ n1_; clear ho hb hg hat))
     go_ret
     exact ⟨_, by first | rfl | (simp [errW_none, errW_some] <;> rfl) | (simp [*, errW_none, errW_some, bne]; done) | (simp [*, errW_none, errW_some] <;> rfl), by (with_reducible repeat (first | apply Kd.R_alloc | apply Kd.R_drewN | apply Kd.R_drew)); exact HO329.out, by repeat (first | (with_reducible first | exact HB.out | apply below_alloc | apply pw_below_drewN | apply below_drew1) | exact HB.out)⟩
    ·rw [if_neg c12] at H
     exact absurd H (by simp)
end Go.Proofs.YtoanbmggffkmgaaDoor.P
end
section
namespace Go.Proofs.YtoanbmggffkmgaaDoor.La
open Go.RowKit Go.Proofs.YtoanbmggffkmgaaDoor.P Go.Proofs.YtoanbmggffkmgaaDoorW.PrintWords Go.Proofs.YtoanbmggffkmgaaDoorW.PrintLast Go.Proofs.YtoanbmggffkmgaaDoorW.PrintMore
theorem ref_good_eq (r : Int) : dragomanref1_Good.f r = some (decide (good r)) := good_eq r
def enc0 (r : Int) : List Int := if good r then enc r else []
theorem enc0_bytes (r : Int) : Bytes (enc0 r) := by
 unfold enc0
 split
 ·rename_i h; exact enc_bytes h
 ·intro x hx; cases hx
theorem ref_put_eq (r : Int) : dragomanref1_Put.f r = some (strOfNums (enc0 r)) := by
 unfold dragomanref1_Put.f enc0
 rw [ref_good_eq, Option.bind_some]
 by_cases hg : good r
 ·have hg' := good_iff.1 hg
  have d1 : Int.tdiv r 64 = r / 64 := Int.tdiv_eq_ediv_of_nonneg (by omega)
  have d2 : Int.tdiv r 4096 = r / 4096 := Int.tdiv_eq_ediv_of_nonneg (by omega)
  have d3 : Int.tdiv r 262144 = r / 262144 := Int.tdiv_eq_ediv_of_nonneg (by omega)
  have m1 : Int.tmod r 64 = r % 64 := Int.tmod_eq_emod_of_nonneg (by omega)
  have m2 : Int.tmod (r / 64) 64 = r / 64 % 64 := Int.tmod_eq_emod_of_nonneg (by omega)
  have m3 : Int.tmod (r / 4096) 64 = r / 4096 % 64 := Int.tmod_eq_emod_of_nonneg (by omega)
  have w1 : wrap64 (r / 64) = r / 64 := wrap_id (by omega) (by omega)
  have w2 : wrap64 (r / 4096) = r / 4096 := wrap_id (by omega) (by omega)
  have w3 : wrap64 (r / 262144) = r / 262144 := wrap_id (by omega) (by omega)
  rw [if_pos (decide_eq_true hg), if_pos hg, d1, d2, d3, w1, w2, w3, m1, m2, m3]
  unfold enc
  split
  ·rw [show r % 256 = r by omega]
  ·split
   ·rw [wrap_id (n := 192 + r / 64) (by omega) (by omega), wrap_id (n := 128 + r % 64) (by omega) (by omega), show (192 + r / 64) % 256 = 192 + r / 64 by omega, show (128 + r % 64) % 256 = 128 + r % 64 by omega]
   ·split
    ·rw [wrap_id (n := 224 + r / 4096) (by omega) (by omega), wrap_id (n := 128 + r / 64 % 64) (by omega) (by omega), wrap_id (n := 128 + r % 64) (by omega) (by omega), show (224 + r / 4096) % 256 = 224 + r / 4096 by omega, show (128 + r / 64 % 64) % 256 = 128 + r / 64 % 64 by omega, show (128 + r % 64) % 256 = 128 + r % 64 by omega]
    ·rw [wrap_id (n := 240 + r / 262144) (by omega) (by omega), wrap_id (n := 128 + r / 4096 % 64) (by omega) (by omega), wrap_id (n := 128 + r / 64 % 64) (by omega) (by omega), wrap_id (n := 128 + r % 64) (by omega) (by omega), show (240 + r / 262144) % 256 = 240 + r / 262144 by omega, show (128 + r / 4096 % 64) % 256 = 128 + r / 4096 % 64 by omega, show (128 + r / 64 % 64) % 256 = 128 + r / 64 % 64 by omega, show (128 + r % 64) % 256 = 128 + r % 64 by omega]
 ·rw [if_neg (by simpa using hg), if_neg hg]
  rfl
def rend (r : Int) (n : Nat) (l : List Int) : Int × Int := if enc0 r = l.take n then (r, (n : Int)) else (0, 0)
theorem rl0_end (k : Nat) (s : ByteArray) {r i : Int} {n : Nat} (h : ¬ i < (n : Int)) (hn : n ≤ s.size) : dragomanref1_Take.l0 (k + 1) s (n : Int) r i = some (rend r n (bytesOf s)) := by
 simp only [dragomanref1_Take.l0]
 rw [if_neg h, ref_put_eq, Option.bind_some, if_pos (by omega), if_pos (by omega)]
 unfold rend
 have : ((strOfNums (enc0 r)).toList = (s.extract 0 ((n : Int)).toNat).toList) ↔ enc0 r = (bytesOf s).take n := by
  rw [toList_eq_iff, strOfNums_bytes (enc0_bytes r), bytesOf_take, Int.toNat_natCast]
 simp only [this]
 split <;> rfl
theorem rl0_bad (k : Nat) (s : ByteArray) {n r i : Int} (h : i < n) (h0 : 0 ≤ i) (hs : i < s.size) (hb : ¬ (128 ≤ bt s i ∧ bt s i < 192)) : dragomanref1_Take.l0 (k + 1) s n r i = some (0, 0) := by
 simp only [dragomanref1_Take.l0]
 rw [if_pos h, if_pos h0, if_pos hs]
 by_cases c : bt s i < 128
 ·rw [if_pos c]
 ·rw [if_neg c, if_pos (by omega)]
theorem rl0_more (k : Nat) (s : ByteArray) {n r i : Int} (h : i < n) (h0 : 0 ≤ i) (hs : i < s.size) (hb : 128 ≤ bt s i ∧ bt s i < 192) (r0 : 0 ≤ r) (r1 : r < 2097152) (i1 : i < 10) : dragomanref1_Take.l0 (k + 1) s n r i = dragomanref1_Take.l0 k s n (r * 64 + (bt s i - 128)) (i + 1) := by
 simp only [dragomanref1_Take.l0]
 rw [if_pos h, if_pos h0, if_pos hs, if_neg (by omega), if_neg (by omega), wrap_id (n := 64 * r) (by omega) (by omega), wrap_id (n := bt s i) (by omega) (by omega), wrap_id (n := 64 * r + bt s i) (by omega) (by omega), wrap_id (n := 64 * r + bt s i - 128) (by omega) (by omega), wrap_id (n := i + 1) (by omega) (by omega), show 64 * r + bt s i - 128 = r * 64 + (bt s i - 128) by omega]
theorem enc0_good {r : Int} (h : good r) : enc0 r = enc r := if_pos h
theorem enc0_eq {r : Int} {l : List Int} (hl : l ≠ []) : enc0 r = l ↔ good r ∧ enc r = l := by
 unfold enc0
 split
 ·rename_i h; exact ⟨fun e => ⟨h, e⟩, fun e => e.2⟩
 ·rename_i h; exact ⟨fun e => absurd e.symm hl, fun e => absurd e.1 h⟩
theorem enc2 {r a b : Int} (h : r = tk2 a b) (ha : 192 ≤ a ∧ a < 224) (hb : 128 ≤ b ∧ b < 192) : enc r = [a, b] ↔ 128 ≤ r := by
 unfold tk2 at h
 unfold enc
 by_cases c : r < 128
 ·rw [if_pos c]; simp; omega
 ·rw [if_neg c, if_pos (by omega)]; simp; omega
theorem enc3 {r a b c : Int} (h : r = tk3 a b c) (ha : 224 ≤ a ∧ a < 240) (hb : 128 ≤ b ∧ b < 192) (hc : 128 ≤ c ∧ c < 192) : enc r = [a, b, c] ↔ 2048 ≤ r := by
 unfold tk3 at h
 unfold enc
 by_cases c1 : r < 128
 ·rw [if_pos c1]; simp; omega
 ·rw [if_neg c1]
  by_cases c2 : r < 2048
  ·rw [if_pos c2]; simp; omega
  ·rw [if_neg c2, if_pos (by omega)]; simp; omega
theorem enc4 {r a b c d : Int} (h : r = tk4 a b c d) (_ha : 240 ≤ a ∧ a < 248) (hb : 128 ≤ b ∧ b < 192) (hc : 128 ≤ c ∧ c < 192) (hd : 128 ≤ d ∧ d < 192) : enc r = [a, b, c, d] ↔ 65536 ≤ r := by
 unfold tk4 at h
 unfold enc
 by_cases c1 : r < 128
 ·rw [if_pos c1]; simp; omega
 ·rw [if_neg c1]
  by_cases c2 : r < 2048
  ·rw [if_pos c2]; simp; omega
  ·rw [if_neg c2]
   by_cases c3 : r < 65536
   ·rw [if_pos c3]; simp; omega
   ·rw [if_neg c3]; simp; omega
theorem ref_take_eq (k : Nat) (s : ByteArray) : dragomanref1_Take.f (k + 9) s = some (tk (bytesOf s)) := by
 have hB := bytes_of s
 have hS := size_of s
 generalize hl : bytesOf s = l at hB hS
 have hbt : ∀ i, bt s i = l.getD i.toNat 0 := fun i => by rw [bt_get, hl]
 unfold dragomanref1_Take.f
 match l with
 | [] => rw [if_pos ((toList_nil_iff s).2 hl)]; rfl
 | a :: t =>
  have ha := hB a List.mem_cons_self
  have h0 : bt s 0 = a := by rw [hbt]; rfl
  have hsz : (s.size : Int) = (t.length : Int) + 1 := by rw [← hS]; simp
  rw [if_neg (fun h => by rw [toList_nil_iff, hl] at h; cases h), if_pos (by omega), h0, wrap_id (by omega) (by omega)]
  simp only [tk]
  by_cases c5 : 240 ≤ a
  ·rw [if_pos c5, if_neg (show ¬ a < 128 by omega), if_neg (show ¬ a < 192 by omega), if_neg (show ¬ a < 224 by omega), if_neg (show ¬ a < 240 by omega)]
   by_cases c6 : a < 248
   ·rw [decide_eq_true c6, if_pos c6]
    simp only [dragomanref1_Take.j0]
    rw [if_pos trivial]
    simp only [dragomanref1_Take.j3]
    rw [wrap_id (by omega) (by omega)]
    match t with
    | [] =>
     simp at hsz
     rw [if_pos (by omega)]
    | [b] =>
     simp at hsz
     rw [if_pos (by omega)]
    | [b, c] =>
     simp at hsz
     rw [if_pos (by omega)]
    | b :: c :: d :: t =>
     simp at hsz
     dsimp only
     have hb : bt s 1 = b := by rw [hbt]; rfl
     have hc : bt s 2 = c := by rw [hbt]; rfl
     have hd : bt s 3 = d := by rw [hbt]; rfl
     rw [if_neg (by omega)]
     have hr := hB b (by simp)
     have hr2 := hB c (by simp)
     have hr3 := hB d (by simp)
     by_cases k1 : 128 ≤ b ∧ b < 192
     ·rw [rl0_more _ _ (by decide) (by decide) (by omega) (by rw [hb]; exact k1) (by omega) (by omega) (by decide), hb]
      by_cases k2 : 128 ≤ c ∧ c < 192
      ·rw [rl0_more _ _ (by decide) (by decide) (by omega) (by rw [show (1 : Int) + 1 = 2 by decide, hc]; exact k2) (by omega) (by omega) (by decide), show (1 : Int) + 1 = 2 by decide, hc]
       by_cases k3 : 128 ≤ d ∧ d < 192
       ·rw [rl0_more _ _ (by decide) (by decide) (by omega) (by rw [show (2 : Int) + 1 = 3 by decide, hd]; exact k3) (by omega) (by omega) (by decide), show (2 : Int) + 1 = 3 by decide, hd]
        have e : (((a - 240) * 64 + (b - 128)) * 64 + (c - 128)) * 64 + (d - 128) = tk4 a b c d := by unfold tk4; omega
        have e1 : 0 ≤ tk4 a b c d := by unfold tk4; omega
        rw [e, show (4 : Int) = ((4 : Nat) : Int) by rfl, rl0_end _ _ (by decide) (by omega), hl]
        unfold rend
        simp only [List.take_succ_cons, List.take_zero, enc0_eq (List.cons_ne_nil _ _), enc4 rfl ⟨c5, c6⟩ k1 k2 k3, good_iff]
        by_cases k4 : 65536 ≤ tk4 a b c d ∧ tk4 a b c d ≤ 1114111
        ·rw [if_pos (by omega), if_pos (by omega)]
        ·rw [if_neg (by omega), if_neg (by omega)]
       ·rw [rl0_bad _ _ (by decide) (by decide) (by omega) (by rw [show (2 : Int) + 1 = 3 by decide, hd]; exact k3), if_neg (by omega)]
      ·rw [rl0_bad _ _ (by decide) (by decide) (by omega) (by rw [show (1 : Int) + 1 = 2 by decide, hc]; exact k2), if_neg (by omega)]
     ·rw [rl0_bad _ _ (by decide) (by decide) (by omega) (by rw [hb]; exact k1), if_neg (by omega)]
   ·rw [decide_eq_false c6, if_neg c6]
    simp only [dragomanref1_Take.j0]
    rw [if_neg (by decide), if_pos (by omega)]
    simp only [dragomanref1_Take.j1]
    rw [if_neg (by simp; omega), if_pos (by omega)]
    simp only [dragomanref1_Take.j2]
    rw [if_neg (by simp; omega), if_pos (by omega)]
  ·rw [if_neg c5]
   simp only [dragomanref1_Take.j0]
   rw [if_neg (by decide)]
   by_cases c4 : 224 ≤ a
   ·rw [if_pos c4, if_neg (show ¬ a < 128 by omega), if_neg (show ¬ a < 192 by omega), if_neg (show ¬ a < 224 by omega), if_pos (show a < 240 by omega)]
    simp only [dragomanref1_Take.j1]
    rw [if_pos (decide_eq_true (by omega)), wrap_id (by omega) (by omega)]
    simp only [dragomanref1_Take.j3]
    match t with
    | [] =>
     simp at hsz
     rw [if_pos (by omega)]
    | [b] =>
     simp at hsz
     rw [if_pos (by omega)]
    | b :: c :: t =>
     simp at hsz
     dsimp only
     have hb : bt s 1 = b := by rw [hbt]; rfl
     have hc : bt s 2 = c := by rw [hbt]; rfl
     rw [if_neg (by omega)]
     have hr := hB b (by simp)
     have hr2 := hB c (by simp)
     by_cases k1 : 128 ≤ b ∧ b < 192
     ·rw [rl0_more _ _ (by decide) (by decide) (by omega) (by rw [hb]; exact k1) (by omega) (by omega) (by decide), hb]
      by_cases k2 : 128 ≤ c ∧ c < 192
      ·rw [rl0_more _ _ (by decide) (by decide) (by omega) (by rw [show (1 : Int) + 1 = 2 by decide, hc]; exact k2) (by omega) (by omega) (by decide), show (1 : Int) + 1 = 2 by decide, hc]
       have e : ((a - 224) * 64 + (b - 128)) * 64 + (c - 128) = tk3 a b c := by unfold tk3; omega
       have e1 : 0 ≤ tk3 a b c ∧ tk3 a b c < 65536 := by unfold tk3; omega
       rw [e, show (3 : Int) = ((3 : Nat) : Int) by rfl, rl0_end _ _ (by decide) (by omega), hl]
       unfold rend
       simp only [List.take_succ_cons, List.take_zero, enc0_eq (List.cons_ne_nil _ _), enc3 rfl ⟨c4, by omega⟩ k1 k2, good_iff]
       by_cases k4 : 2048 ≤ tk3 a b c ∧ (tk3 a b c < 55296 ∨ 57343 < tk3 a b c)
       ·rw [if_pos (by omega), if_pos (by omega)]
       ·rw [if_neg (by omega), if_neg (by omega)]
      ·rw [rl0_bad _ _ (by decide) (by decide) (by omega) (by rw [show (1 : Int) + 1 = 2 by decide, hc]; exact k2), if_neg (by omega)]
     ·rw [rl0_bad _ _ (by decide) (by decide) (by omega) (by rw [hb]; exact k1), if_neg (by omega)]
   ·rw [if_neg c4]
    simp only [dragomanref1_Take.j1]
    rw [if_neg (by decide)]
    by_cases c3 : 192 ≤ a
    ·rw [if_pos c3, if_neg (show ¬ a < 128 by omega), if_neg (show ¬ a < 192 by omega), if_pos (show a < 224 by omega)]
     simp only [dragomanref1_Take.j2]
     rw [if_pos (decide_eq_true (by omega)), wrap_id (by omega) (by omega)]
     simp only [dragomanref1_Take.j3]
     match t with
     | [] =>
      simp at hsz
      rw [if_pos (by omega)]
     | b :: t =>
      simp at hsz
      dsimp only
      have hb : bt s 1 = b := by rw [hbt]; rfl
      rw [if_neg (by omega)]
      have hr := hB b (by simp)
      by_cases k1 : 128 ≤ b ∧ b < 192
      ·rw [rl0_more _ _ (by decide) (by decide) (by omega) (by rw [hb]; exact k1) (by omega) (by omega) (by decide), hb]
       have e : (a - 192) * 64 + (b - 128) = tk2 a b := by unfold tk2; omega
       have e1 : 0 ≤ tk2 a b ∧ tk2 a b < 2048 := by unfold tk2; omega
       rw [e, show (2 : Int) = ((2 : Nat) : Int) by rfl, rl0_end _ _ (by decide) (by omega), hl]
       unfold rend
       simp only [List.take_succ_cons, List.take_zero, enc0_eq (List.cons_ne_nil _ _), enc2 rfl ⟨c3, by omega⟩ k1, good_iff]
       by_cases k4 : 128 ≤ tk2 a b
       ·rw [if_pos (by omega), if_pos (by omega)]
       ·rw [if_neg (by omega), if_neg (by omega)]
      ·rw [rl0_bad _ _ (by decide) (by decide) (by omega) (by rw [hb]; exact k1), if_neg (by omega)]
    ·rw [if_neg c3]
     simp only [dragomanref1_Take.j2]
     rw [if_neg (by decide)]
     by_cases c2 : 128 ≤ a
     ·rw [if_pos c2, if_neg (show ¬ a < 128 by omega), if_pos (show a < 192 by omega)]
     ·rw [if_neg c2, if_pos (show a < 128 by omega)]
      simp only [dragomanref1_Take.j3]
      rw [if_neg (by omega), show (1 : Int) = ((1 : Nat) : Int) by rfl, rl0_end _ _ (by decide) (by omega), hl]
      unfold rend
      rw [List.take_succ_cons, List.take_zero, if_pos ((enc0_eq (List.cons_ne_nil _ _)).2 ⟨good_iff.2 (by omega), by unfold enc; rw [if_pos (by omega)]⟩)]
theorem ref_take_ev (s : ByteArray) : Ev (fun k => dragomanref1_Take.f k s) (tk (bytesOf s)) := ⟨9, fun k hk => by
 obtain ⟨m, rfl⟩ : ∃ m, k = m + 9 := ⟨k - 9, by omega⟩
 exact ref_take_eq m s⟩
def rbadR (at_ : Nat) : Option Nat → Int
 | none => -1
 | some p => ((at_ + p : Nat) : Int)
theorem ref_valid_l0 (s : ByteArray) (hs : s.size ≤ 140737488355328) (n : Nat) : ∀ (i : Nat), i ≤ s.size → s.size - i = n → Ev (fun k => dragomanref1_Valid.l0 k s (i : Int)) (rbadR i (bad ((bytesOf s).drop i))) := by
 induction n using Nat.strongRecOn with
 | _ n ih =>
 intro i hi hn
 have hL : ((bytesOf s).drop i).length = s.size - i := by rw [List.length_drop, size_of]
 have hBd : Bytes ((bytesOf s).drop i) := (bytes_of s).drop i
 refine Ev.step (fun k => by rw [dragomanref1_Valid.l0]) ?_
 by_cases h : i < s.size
 ·have h1 : (i : Int) < (s.size : Int) := by omega
  have h2 : (0 : Int) ≤ (i : Int) := by omega
  have h3 : (i : Int) ≤ (s.size : Int) := by omega
  have hne : (bytesOf s).drop i ≠ [] := fun e => by rw [e] at hL; simp at hL; omega
  simp only [if_pos h1, if_pos h2, if_pos h3, Int.toNat_natCast]
  refine Ev.bind (ref_take_ev _) ?_
  rw [bytesOf_drop]
  by_cases h0 : (tk ((bytesOf s).drop i)).2 = 0
  ·simp only [if_pos h0, bad_none hne h0, rbadR]
   exact Ev.now _
  ·simp only [if_neg h0]
   have hb := tk_bound _ hBd
   have hp := stp_pos _ hBd
   have hst := stp_le hBd hne
   rw [stp_int hBd h0, wrap_id (by omega) (by omega), bad_step hne h0, List.drop_drop]
   have e : (i : Int) + (stp ((bytesOf s).drop i) : Int) = ((i + stp ((bytesOf s).drop i) : Nat) : Int) := by omega
   rw [e]
   have := ih (s.size - (i + stp ((bytesOf s).drop i))) (by omega) (i + stp ((bytesOf s).drop i)) (by omega) rfl
   generalize stp ((bytesOf s).drop i) = q at *
   cases hc : bad ((bytesOf s).drop (i + q)) with
   | none => rw [hc] at this; exact this
   | some p =>
    rw [hc] at this
    simp only [Option.map_some, rbadR] at this ⊢
    rw [show i + (p + q) = i + q + p by omega]
    exact this
 ·obtain rfl : i = s.size := by omega
  simp only [if_neg (show ¬ ((s.size : Int) < (s.size : Int)) by omega)]
  rw [List.drop_eq_nil_of_le (by rw [size_of]; omega), bad_nil]
  exact Ev.now _
theorem ref_valid_ev (s : ByteArray) (hs : s.size ≤ 140737488355328) : Ev (fun k => dragomanref1_Valid.f k s) (rbadR 0 (bad (bytesOf s))) :=
 ref_valid_l0 s hs _ 0 (by omega) rfl
def ints (l : List Nat) : List Int := l.map fun n : Nat => (n : Int)
theorem starts_l0 (s : ByteArray) (hs : s.size ≤ 8796093022208) (n : Nat) : ∀ (acc : List Int) (i : Nat), i ≤ s.size → s.size - i = n → acc.length ≤ i → Ev (fun k => dragomanref1_Starts.l0 k s acc (i : Int)) (acc ++ ints ((sts ((bytesOf s).drop i)).map (· + i))) := by
 induction n using Nat.strongRecOn with
 | _ n ih =>
 intro acc i hi hn hc
 have hL : ((bytesOf s).drop i).length = s.size - i := by rw [List.length_drop, size_of]
 have hBd : Bytes ((bytesOf s).drop i) := (bytes_of s).drop i
 refine Ev.step (fun k => by rw [dragomanref1_Starts.l0]) ?_
 by_cases h : i < s.size
 ·have h1 : (i : Int) < (s.size : Int) := by omega
  have h2 : (0 : Int) ≤ (i : Int) := by omega
  have h3 : (i : Int) ≤ (s.size : Int) := by omega
  have hne : (bytesOf s).drop i ≠ [] := fun e => by rw [e] at hL; simp at hL; omega
  have h4 : acc.length < 17592186044416 := by omega
  simp only [if_pos h1, if_pos h2, if_pos h3, if_pos h4, Int.toNat_natCast, Option.bind_some]
  refine Ev.bind (ref_take_ev _) ?_
  rw [bytesOf_drop]
  have hb := tk_bound _ hBd
  have hp := stp_pos _ hBd
  have hst := stp_le hBd hne
  have key : Ev (fun k => dragomanref1_Starts.l0 k s (acc ++ [(i : Int)]) ((i + stp ((bytesOf s).drop i) : Nat) : Int)) (acc ++ ints ((sts ((bytesOf s).drop i)).map (· + i))) := by
   have := ih (s.size - (i + stp ((bytesOf s).drop i))) (by omega) (acc ++ [(i : Int)]) (i + stp ((bytesOf s).drop i)) (by omega) rfl (by simp; omega)
   rw [sts_step hne, List.drop_drop]
   rw [show acc ++ ints ((0 :: (sts ((bytesOf s).drop (i + stp ((bytesOf s).drop i)))).map (· + stp ((bytesOf s).drop i))).map (· + i)) = acc ++ [(i : Int)] ++ ints ((sts ((bytesOf s).drop (i + stp ((bytesOf s).drop i)))).map (· + (i + stp ((bytesOf s).drop i)))) by
    simp [ints, List.map_map]
    intro x _
    omega]
   exact this
  by_cases h0 : (tk ((bytesOf s).drop i)).2 = 0
  ·simp only [if_pos h0]
   have : stp ((bytesOf s).drop i) = 1 := by unfold stp; rw [if_pos h0]
   rw [this] at key
   rw [wrap_id (by omega) (by omega)]
   exact key
  ·simp only [if_neg h0]
   rw [stp_int hBd h0, wrap_id (by omega) (by omega)]
   rw [show (i : Int) + (stp ((bytesOf s).drop i) : Int) = ((i + stp ((bytesOf s).drop i) : Nat) : Int) by omega]
   exact key
 ·obtain rfl : i = s.size := by omega
  have h4 : acc.length < 17592186044416 := by omega
  simp only [if_neg (show ¬ ((s.size : Int) < (s.size : Int)) by omega), if_pos h4]
  rw [List.drop_eq_nil_of_le (by rw [size_of]; omega), sts_nil]
  simp only [List.map_cons, List.map_nil, Nat.zero_add, ints]
  exact Ev.now _
theorem starts_ev (s : ByteArray) (hs : s.size ≤ 8796093022208) : Ev (fun k => dragomanref1_Starts.f k s) (ints (sts (bytesOf s))) := by
 have := starts_l0 s hs _ [] 0 (by omega) rfl (by simp)
 refine Ev.congr (fun k => by rw [dragomanref1_Starts.f]) (g := fun k => dragomanref1_Starts.f k s) (f := fun k => dragomanref1_Starts.l0 k s [] 0) ?_
 simpa using this
theorem ints_length (l : List Nat) : (ints l).length = l.length := by simp [ints]
end Go.Proofs.YtoanbmggffkmgaaDoor.La
end
section
namespace Go.Proofs.YtoanbmggffkmgaaDoor.P
open Go.RowKit Go.Proofs.YtoanbmggffkmgaaDoor.La Go.Proofs.YtoanbmggffkmgaaDoorW.PrintWords Go.Proofs.YtoanbmggffkmgaaDoorW.PrintLast Go.Proofs.YtoanbmggffkmgaaDoorW.PrintMore
theorem Rdr.drewN {B : Nat} {w : World} {g : Nat} {text : ByteArray} {at_ : Int} {bs : List Int} (h : Rdr B w g text at_ bs) (n : Nat) : Rdr B (w.drewN n) g text at_ bs := by
 obtain ⟨hB, bv, hh, hr⟩ := h
 exact ⟨hB, bv, hh, Kd.R_drewN hr n⟩
theorem Rdr.below {B : Nat} {w w1 : World} {g : Nat} {text : ByteArray} {at_ : Int} {bs : List Int} (h : Rdr B w g text at_ bs) (hb : Below w.heap.size w w1) : Rdr B w1 g text at_ bs := by
 obtain ⟨hB, bv, hh, hr⟩ := h
 exact ⟨hB, bv, (hb.block g (rblk_lt hh)).trans hh, Kd.R_below hr hb⟩
theorem Rdr.low {B : Nat} {w : World} {g : Nat} {text : ByteArray} {at_ : Int} {bs : List Int} (h : Rdr B w g text at_ bs) : B ≤ w.heap.size := by
 obtain ⟨hB, bv, hh, hr⟩ := h
 have := rblk_lt hh
 omega
set_option maxRecDepth 100000 in
set_option maxHeartbeats 4000000 in
theorem rput {B g : Nat} {text : ByteArray} {at_ : Int} {bs : List Int} {w : World} (x n : Int) (hR : Rdr B w g text at_ bs) (hl : bs.length ≤ 140737488000000) (h0 : 0 ≤ at_) (h1 : at_ ≤ 140737488355328) (n0 : 0 ≤ n) (n1 : n ≤ 100) :
  Calls Tryd.prog 64 #[.pointer (some ⟨g, 0, none⟩), .int .i64 x, .int .i64 n] w fun e w' => e = .returned (.bool (decide (good x))) ∧ Rdr B w' g text (if good x then at_ + n else at_) (if good x then bs ++ enc x else bs) ∧ Below B w w' := by
 obtain ⟨A, c, c0, c1, c2, f1, f2, hlt, hc, hC⟩ := hR.open_
 by_cases hg : good x
 ·rw [decide_eq_true hg, if_pos hg, if_pos hg]
  have H1 := Lib.hid (show utf_Good.f x = some true by rw [good_eq, decide_eq_true hg])
  have H2 := Lib.hid (show utf_Put.f bs x = some (bs ++ enc x) by rw [put_eq _ _ (by omega), if_pos hg])
  go_enter Tryd.func64, Tryd.ntmps64
  go_wp2_with (go_at_call 87; (with_reducible refine (utf_Good.calls _ _ _ H1.out).mono ?_); rintro e w' ⟨rfl, ⟨nd, rfl⟩⟩)
  refine (utf_Put.calls _ _ bs x _ _ (Kd.C_drewN hC nd) hc H2.out).mono ?_
  rintro e w1 ⟨v1, rfl, ho, hb⟩
  obtain ⟨A2, cc2, rfl, _, _⟩ := Kd.R_reads ho
  have hS := (hR.drewN nd).stored hb ho (at_ + n)
  obtain ⟨A1, cc1, d0, d1, d2, e1, e2, hlt1, _, _⟩ := ((hR.drewN nd).below hb).open_
  clear c0 c1 c2 f1 f2 ho
  simp only [List.length_append] at hS
  go_wp2
  go_ret
  exact ⟨rfl, hS.1, (pw_below_drewN (Below.refl _ _) nd).trans hS.2⟩
 ·rw [decide_eq_false hg, if_neg hg, if_neg hg]
  have H1 := Lib.hid (show utf_Good.f x = some false by rw [good_eq, decide_eq_false hg])
  go_enter Tryd.func64, Tryd.ntmps64
  go_wp2_with (go_at_call 87; (with_reducible refine (utf_Good.calls _ _ _ H1.out).mono ?_); rintro e w' ⟨rfl, ⟨nd, rfl⟩⟩)
  go_ret
  exact ⟨rfl, hR.drewN nd, pw_below_drewN (Below.refl _ _) nd⟩
theorem rput_good {B g : Nat} {text : ByteArray} {at_ : Int} {bs : List Int} {w : World} {x : Int} (n : Int) (hg : good x) (hR : Rdr B w g text at_ bs) (hl : bs.length ≤ 140737488000000) (h0 : 0 ≤ at_) (h1 : at_ ≤ 140737488355328) (n0 : 0 ≤ n) (n1 : n ≤ 100) :
  Calls Tryd.prog 64 #[.pointer (some ⟨g, 0, none⟩), .int .i64 x, .int .i64 n] w fun e w' => e = .returned (.bool true) ∧ Rdr B w' g text (at_ + n) (bs ++ enc x) ∧ Below B w w' := by
 refine (rput x n hR hl h0 h1 n0 n1).mono fun e w' h => ?_
 rw [decide_eq_true hg, if_pos hg, if_pos hg] at h
 exact h
theorem rput_bad {B g : Nat} {text : ByteArray} {at_ : Int} {bs : List Int} {w : World} {x : Int} (n : Int) (hg : ¬ good x) (hR : Rdr B w g text at_ bs) (hl : bs.length ≤ 140737488000000) (h0 : 0 ≤ at_) (h1 : at_ ≤ 140737488355328) (n0 : 0 ≤ n) (n1 : n ≤ 100) :
  Calls Tryd.prog 64 #[.pointer (some ⟨g, 0, none⟩), .int .i64 x, .int .i64 n] w fun e w' => e = .returned (.bool false) ∧ Rdr B w' g text at_ bs ∧ Below B w w' := by
 refine (rput x n hR hl h0 h1 n0 n1).mono fun e w' h => ?_
 rw [decide_eq_false hg, if_neg hg, if_neg hg] at h
 exact h
theorem take_now (s : ByteArray) : utf_Take.f 6 s = some (tk (bytesOf s)) := take_eq 0 s
set_option maxRecDepth 100000 in
set_option maxHeartbeats 4000000 in
theorem rletter {B g : Nat} {text : ByteArray} {at_ : Int} {bs : List Int} {w : World} (hR : Rdr B w g text at_ bs) (hl : bs.length ≤ 140737488000000) (h0 : 0 ≤ at_) (h1 : at_ ≤ text.size) (h2 : text.size ≤ 140737488000000) :
  Calls Tryd.prog 40 #[.pointer (some ⟨g, 0, none⟩)] w fun e w' => e = .returned (.bool (decide ((tk ((bytesOf text).drop at_.toNat)).2 > 0))) ∧ Rdr B w' g text (at_ + (tk ((bytesOf text).drop at_.toNat)).2) (bs ++ enc0 (tk ((bytesOf text).drop at_.toNat)).1) ∧ Below B w w' := by
 obtain ⟨A, c, c0, c1, c2, f1, f2, hlt, hc, hC⟩ := hR.open_
 have HT := Lib.hid (show utf_Take.f 6 (text.extract at_.toNat text.size) = some ((tk ((bytesOf text).drop at_.toNat)).1, (tk ((bytesOf text).drop at_.toNat)).2) by rw [take_now, bytesOf_drop])
 have hbd := tk_bound ((bytesOf text).drop at_.toNat) ((bytes_of text).drop at_.toNat)
 have H2 := Lib.hid (show utf_Put.f bs (tk ((bytesOf text).drop at_.toNat)).1 = some (bs ++ enc0 (tk ((bytesOf text).drop at_.toNat)).1) by
  rw [put_eq _ _ (by omega)]; unfold enc0; split <;> simp)
 generalize (tk ((bytesOf text).drop at_.toNat)).1 = x at HT H2 hbd ⊢
 generalize (tk ((bytesOf text).drop at_.toNat)).2 = n at HT hbd ⊢
 obtain ⟨n0, n1, _, _, _⟩ := hbd
 have hwr : IntKind.i64.wrap (at_ + n) = at_ + n := wraps_i64 _ (by omega) (by omega)
 have HW := Lib.hid hwr
 clear hwr
 have c3b0 := eq_true h0
 have c3b1 : decide (0 ≤ at_) = true := decide_eq_true h0
 have c4b0 := eq_true h1
 have c4b1 : decide (at_ ≤ (text.size : Int)) = true := decide_eq_true h1
 go_enter Tryd.func40, Tryd.ntmps40
 go_wp2_with fail
 go_quiet (first | (go_at_call 66; (with_reducible refine (utf_Take.calls 6 (text.extract at_.toNat text.size) x n _ HT.out).mono ?_); rintro e w' ⟨rfl, ⟨nd, rfl⟩⟩; (try first | exact ⟨rfl, _, World.drewN_drewN _ _ _⟩ | exact ⟨rfl, _, Eq.trans (World.drewN_drewN _ _ _) (congrArg (World.drewN _) (Nat.add_assoc _ _ _))⟩)))
 go_wp2_with fail
 refine (utf_Put.calls _ _ bs x _ _ (Kd.C_drewN hC nq) hc H2.out).mono ?_
 rintro e w1 ⟨v1, rfl, ho, hb⟩
 obtain ⟨A2, cc2, rfl, _, _⟩ := Kd.R_reads ho
 have hS := (hR.drewN nq).stored hb ho (at_ + n)
 obtain ⟨A1, cc1, d0, d1, d2, e1, e2, hlt1, _, _⟩ := ((hR.drewN nq).below hb).open_
 clear c0 c1 c2 f1 f2 ho
 have hz : at_ ≤ 140737488000000 := by omega
 simp only [List.length_append] at hS
 go_wp2
 go_ret
 exact ⟨rfl, hS.1, (pw_below_drewN (Below.refl _ _) nq).trans hS.2⟩
set_option maxRecDepth 100000 in
set_option maxHeartbeats 4000000 in
theorem rbegins {B g : Nat} {text : ByteArray} {at_ : Int} {bs : List Int} {w : World} (p : ByteArray) (hR : Rdr B w g text at_ bs) (h0 : 0 ≤ at_) (h1 : at_ ≤ text.size) :
  Calls Tryd.prog 38 #[.pointer (some ⟨g, 0, none⟩), .string p] w fun e w' => e = .returned (.bool (decide (((bytesOf text).drop at_.toNat).take p.size = bytesOf p))) ∧ Drawn0 w w' := by
 obtain ⟨A, c, c0, c1, c2, f1, f2, hlt, hc, hC⟩ := hR.open_
 have HT := Lib.hid (show strings_HasPrefix.f (text.extract at_.toNat text.size) p = some (decide (((bytesOf text).drop at_.toNat).take p.size = bytesOf p)) by rw [hasPrefix_eq, bytesOf_drop])
 generalize decide (((bytesOf text).drop at_.toNat).take p.size = bytesOf p) = r at HT ⊢
 have c3b0 := eq_true h0
 have c3b1 : decide (0 ≤ at_) = true := decide_eq_true h0
 have c4b0 := eq_true h1
 have c4b1 : decide (at_ ≤ (text.size : Int)) = true := decide_eq_true h1
 go_enter Tryd.func38, Tryd.ntmps38
 go_wp2_with fail
 go_quiet (first | (go_at_call 62; (with_reducible refine (strings_HasPrefix.calls (text.extract at_.toNat text.size) p r _ HT.out).mono ?_); rintro e w' ⟨rfl, ⟨nd, rfl⟩⟩; (try first | exact ⟨rfl, _, World.drewN_drewN _ _ _⟩ | exact ⟨rfl, _, Eq.trans (World.drewN_drewN _ _ _) (congrArg (World.drewN _) (Nat.add_assoc _ _ _))⟩)))
 go_wp2
 go_ret
 exact ⟨rfl, _, rfl⟩
/-- What digits answers: of n bytes behind place i. -/
def digsAt (l : List Int) (i n : Nat) : Option Int := if i + n ≤ l.length then hexI 0 ((l.drop i).take n) else none
set_option maxRecDepth 100000 in
set_option maxHeartbeats 4000000 in
theorem rdigits {B g : Nat} {text : ByteArray} {at_ : Int} {bs : List Int} {w : World} (i n : Nat) (hn0 : 1 ≤ n) (hn8 : n ≤ 8) (hR : Rdr B w g text at_ bs) (h2 : text.size ≤ 140737488000000) (hi : i ≤ text.size + 100) :
  Calls Tryd.prog 65 #[.pointer (some ⟨g, 0, none⟩), .int .i64 i, .int .i64 n] w fun e w' => e = .returned (.tuple #[.int .i64 ((digsAt (bytesOf text) i n).getD 0), .bool (digsAt (bytesOf text) i n).isSome]) ∧ Rdr B w' g text at_ bs ∧ Below B w w' := by
 obtain ⟨A, c, c0, c1, c2, f1, f2, hlt, hc, hC⟩ := hR.open_
 have hlow := hR.low
 by_cases hlen : i + n ≤ text.size
 ·have hsz : (text.extract i (i + n)).size = n := by rw [← size_of, bytesOf_extract, List.length_drop, List.length_take, size_of]; omega
  have hbx : bytesOf (text.extract i (i + n)) = ((bytesOf text).drop i).take n := by rw [bytesOf_extract, List.drop_take, show i + n - i = n by omega]
  have HT := Lib.hid (show esc_Hex.f (text.extract i (i + n)) = some ((digsAt (bytesOf text) i n).getD 0, (digsAt (bytesOf text) i n).isSome) by
   unfold esc_Hex.f digsAt
   rw [hsz, if_neg (by omega), hbx, if_pos (by rw [size_of]; exact hlen)])
  clear hsz hbx
  generalize (digsAt (bytesOf text) i n).getD 0 = x at HT ⊢
  generalize (digsAt (bytesOf text) i n).isSome = ok at HT ⊢
  have g1 : ¬ ((text.size : Int) < (i : Int)) := by omega
  have g2 : ¬ ((text.size : Int) - (i : Int) < (n : Int)) := by omega
  have g3 : (i : Int) ≤ (i : Int) + (n : Int) := by omega
  have g4 : (i : Int) + (n : Int) ≤ (text.size : Int) := by omega
  go_enter Tryd.func65, Tryd.ntmps65
  go_wp2_with fail
  refine (esc_Hex.calls (text.extract i (i + n)) _ _ _ HT.out).mono ?_
  rintro e w1 ⟨rfl, hb⟩
  have hR1 := hR.below hb
  have hB1 := hb.mono hlow
  clear c0 c1 c2 f1 f2 hb
  go_wp2
  go_ret2
  exact ⟨rfl, hR1, hB1⟩
 ·have HT := Lib.hid (show digsAt (bytesOf text) i n = none from if_neg (by rw [size_of]; exact hlen))
  by_cases hi2 : text.size < i
  ·have g1 : (text.size : Int) < (i : Int) := by omega
   clear hlen
   go_enter Tryd.func65, Tryd.ntmps65
   go_wp2
   go_ret2
   exact ⟨by rw [HT.out]; rfl, hR, Below.refl _ _⟩
  ·have g1 : ¬ ((text.size : Int) < (i : Int)) := by omega
   have g2 : ((text.size : Int) - (i : Int) < (n : Int)) := by omega
   clear hlen hi2
   go_enter Tryd.func65, Tryd.ntmps65
   go_wp2
   go_ret2
   exact ⟨by rw [HT.out]; rfl, hR, Below.refl _ _⟩
theorem rdigits_at {B g : Nat} {text : ByteArray} {at_ : Int} {bs : List Int} {w : World} (j m : Int) (i n : Nat) (hj : j = (i : Int)) (hm : m = (n : Int)) (hn0 : 1 ≤ n) (hn8 : n ≤ 8) (hR : Rdr B w g text at_ bs) (h2 : text.size ≤ 140737488000000) (hi : i ≤ text.size + 100) :
  Calls Tryd.prog 65 #[.pointer (some ⟨g, 0, none⟩), .int .i64 j, .int .i64 m] w fun e w' => e = .returned (.tuple #[.int .i64 ((digsAt (bytesOf text) i n).getD 0), .bool (digsAt (bytesOf text) i n).isSome]) ∧ Rdr B w' g text at_ bs ∧ Below B w w' := by
 subst hj
 subst hm
 exact rdigits i n hn0 hn8 hR h2 hi
end Go.Proofs.YtoanbmggffkmgaaDoor.P
end
section
namespace Go.Proofs.YtoanbmggffkmgaaDoor.P
open Go.RowKit Go.Proofs.YtoanbmggffkmgaaDoorW.PrintWords Go.Proofs.YtoanbmggffkmgaaDoorW.PrintLast Go.Proofs.YtoanbmggffkmgaaDoorW.PrintMore
attribute [local go_sem] max2_int min2_int max_two min_two max_three min_three max_four min_four   -- for this text's walks alone
set_option linter.unusedVariables false
set_option linter.unusedSimpArgs false
/-! ### esc_short: function 63 -/
def esc_short.j0 : Nat → Int → Bool → Bool → Option (Int × Bool)
 | 0, _, _, _ => none
 | k + 1, x0, x1, x15 => if x15 = true then (some (47, true)) else (if x0 = 101 then (if x1 = true then (some (27, true)) else (some (0, false))) else (some (0, false)))
def esc_short.f (k : Nat) (a0 : Int) (a1 : Bool) : Option (Int × Bool) := (strings_IndexByte.f (⟨#[34, 92, 98, 102, 110, 114, 116]⟩ : ByteArray) a0).bind fun t137 => (if t137 ≥ 0 then (if 0 ≤ t137 then (if t137 < 7 then (some (wrap64 (bt (⟨#[34, 92, 8, 12, 10, 13, 9]⟩ : ByteArray) t137), true)) else (none)) else (none)) else (if a0 = 47 then (esc_short.j0 k a0 a1 (!a1)) else (esc_short.j0 k a0 a1 false)))
set_option maxHeartbeats 8000000 in
set_option maxRecDepth 100000 in
theorem esc_short.calls (k : Nat) (a0 : Int) (a1 : Bool) (r1 : Int) (r2 : Bool) (w : World) (h : esc_short.f k a0 a1 = some (r1, r2)) :
  Calls Tryd.prog 63 #[.int .u8 a0, .bool a1] w fun e w' => e = .returned (.tuple #[.int .i64 r1, .bool r2]) ∧ Drawn0 w w' := by
 have H : ((strings_IndexByte.f (⟨#[34, 92, 98, 102, 110, 114, 116]⟩ : ByteArray) a0).bind fun t137 => (if t137 ≥ 0 then (if 0 ≤ t137 then (if t137 < 7 then (some (wrap64 (bt (⟨#[34, 92, 8, 12, 10, 13, 9]⟩ : ByteArray) t137), true)) else (none)) else (none)) else (if a0 = 47 then (esc_short.j0 k a0 a1 (!a1)) else (esc_short.j0 k a0 a1 false)))) = some (r1, r2) := h
 clear h
 replace H := Option.bind_eq_some_iff.mp H
 obtain ⟨t137, A30, H⟩ := H
 replace H : (if t137 ≥ 0 then (if 0 ≤ t137 then (if t137 < 7 then (some (wrap64 (bt (⟨#[34, 92, 8, 12, 10, 13, 9]⟩ : ByteArray) t137), true)) else (none)) else (none)) else (if a0 = 47 then (esc_short.j0 k a0 a1 (!a1)) else (esc_short.j0 k a0 a1 false))) = some (r1, r2) := H
 have A3 := Aside0.mk A30
 clear A30
 by_cases c4 : t137 ≥ 0
 ·rw [if_pos c4] at H
  have c4b0 : decide (0 ≤ t137) = true := decide_eq_true c4
  clear c4
  by_cases c5 : 0 ≤ t137
  ·rw [if_pos c5] at H
   have c5b0 : decide (0 ≤ t137) = true := decide_eq_true c5
   clear c5
   by_cases c6 : t137 < 7
   ·rw [if_pos c6] at H
    have c6b0 : decide (t137 < 7) = true := decide_eq_true c6
    clear c6
    simp only [Option.some.injEq, Prod.mk.injEq] at H
    obtain ⟨rfl, rfl⟩ := H
    go_enter Tryd.func63, Tryd.ntmps63
    go_wp2_with (first | ((with_reducible refine gate_callee (f := 56) rfl ?_); refine goesL_ (some 8) rfl rfl Tryd.func56 (by kernel_rfl) rfl #[.string (⟨#[34, 92, 98, 102, 110, 114, 116]⟩ : ByteArray), .int .u8 a0] rfl (by (try simp only [List.map_toArray, List.map_cons, List.map_nil]); first | done | rfl | (simp only [List.length_drop, List.length_take]; rfl)) ?_; (with_reducible refine (strings_IndexByte.calls (⟨#[34, 92, 98, 102, 110, 114, 116]⟩ : ByteArray) a0 t137 _ A3.out).mono ?_); rintro e w' ⟨rfl, ⟨nd, rfl⟩⟩; refine ⟨_, rfl, ?_⟩; have p7 : 0 ≤ (t137 : Int) := of_decide_eq_true (by first | (with_reducible assumption) | assumption); have q7 : t137 < (7 : Int) := of_decide_eq_true (by first | (with_reducible assumption) | assumption); have hx7 := bt_at (⟨#[34, 92, 8, 12, 10, 13, 9]⟩ : ByteArray) t137; replace p7 := eq_true p7; replace q7 := eq_true q7))
    go_ret2
    exact ⟨by first | rfl | (simp; done) | (simp [*]; done), by repeat (first | exact Drawn0.refl _ | apply Drawn0.step)⟩
   ·rw [if_neg c6] at H
    exact absurd H (by simp)
  ·rw [if_neg c5] at H
   exact absurd H (by simp)
 ·rw [if_neg c4] at H
  have c4b0 : decide (0 ≤ t137) = false := decide_eq_false c4
  clear c4
  have HC8 := Aside0.mk H
  clear H
  go_enter Tryd.func63, Tryd.ntmps63
  go_upto_region 4 with (first | ((with_reducible refine gate_callee (f := 56) rfl ?_); refine goesL_ (some 8) rfl rfl Tryd.func56 (by kernel_rfl) rfl #[.string (⟨#[34, 92, 98, 102, 110, 114, 116]⟩ : ByteArray), .int .u8 a0] rfl (by (try simp only [List.map_toArray, List.map_cons, List.map_nil]); first | done | rfl | (simp only [List.length_drop, List.length_take]; rfl)) ?_; (with_reducible refine (strings_IndexByte.calls (⟨#[34, 92, 98, 102, 110, 114, 116]⟩ : ByteArray) a0 t137 _ A3.out).mono ?_); rintro e w' ⟨rfl, ⟨nd, rfl⟩⟩; refine ⟨_, rfl, ?_⟩))
  (try simp only [Act.put, List.setIfInBounds_toArray, List.set_cons_zero, List.set_cons_succ])
  go_cut [15] (fun v15 wc => ∃ (kq : Nat) (x15_7 : Bool), v15 = .bool x15_7 ∧ Aside0 (esc_short.j0 kq a0 a1 x15_7 = some (r1, r2)) ∧ Aside0 (kq ≤ k) ∧ Drawn0 w wc)
  case first =>
   have H := HC8.out
   clear HC8
   by_cases c9 : a0 = 47
   ·rw [if_pos c9] at H
    have c9b0 : (a0 == 47) = true := beq_iff_eq.mpr c9
    have c9b1 : (a0 != 47) = false := bne_eq_false_iff_eq.mpr c9
    clear c9
    (first | rw [c9b0] | (simp only [i64_w, i32_w]; rw [c9b0]) | skip)
    have H' := Aside0.mk H
    clear H
    go_wp2
    go_meet
    case rel => exact ⟨_, (!a1), (by first | rfl | (simp; done) | (simp [*]; done)), H', ⟨by first | omega | exact Nat.le_refl _⟩, by repeat (first | exact Drawn0.refl _ | apply Drawn0.step)⟩
   ·rw [if_neg c9] at H
    have c9b0 : (a0 == 47) = false := beq_eq_false_iff_ne.mpr c9
    have c9b1 : (a0 != 47) = true := bne_iff_ne.mpr c9
    (first | rw [c9b0] | (simp only [i64_w, i32_w]; rw [c9b0]) | skip)
    have H' := Aside0.mk H
    clear H
    go_wp2
    go_meet
    case rel => exact ⟨_, (false), (by first | rfl | (simp; done) | (simp [*]; done)), H', ⟨by first | omega | exact Nat.le_refl _⟩, by repeat (first | exact Drawn0.refl _ | apply Drawn0.step)⟩
  case rest =>
   clear HC8
   try clear p2
   try clear c4
   try clear c4b0
   try clear c5
   try clear c5b0
   try clear c6
   try clear c6b0
   try clear p6
   try clear p7
   try clear q7
   try clear hx7
   try clear c9
   try clear c9b0
   try clear c9b1
   try clear p7
   try clear q7
   obtain ⟨kq, x15_7, rfl, HA, HJ7, ⟨mc7, rfl⟩⟩ := hcut
   cases kq with
   | zero => exact absurd HA.out (by simp [esc_short.j0])
   | succ kj7 =>
    have H := HA.out
    clear HA
    simp only [esc_short.j0] at H
    by_cases c10 : x15_7 = true
    ·subst c10
     have H1 : (some (47, true)) = some (r1, r2) := by rw [if_pos rfl] at H; exact H
     clear H
     have H := H1
     clear H1
     simp only [Option.some.injEq, Prod.mk.injEq] at H
     obtain ⟨rfl, rfl⟩ := H
     go_wp2
     go_ret2
     exact ⟨by first | rfl | (simp; done) | (simp [*]; done), by repeat (first | exact Drawn0.refl _ | apply Drawn0.step)⟩
    ·replace c10 := Bool.eq_false_iff.mpr c10
     subst c10
     have H1 : (if a0 = 101 then (if a1 = true then (some (27, true)) else (some (0, false))) else (some (0, false))) = some (r1, r2) := by rw [if_neg (show ¬ (false = true) by decide)] at H; exact H
     clear H
     have H := H1
     clear H1
     by_cases c11 : a0 = 101
     ·rw [if_pos c11] at H
      have c11b0 : (a0 == 101) = true := beq_iff_eq.mpr c11
      have c11b1 : (a0 != 101) = false := bne_eq_false_iff_eq.mpr c11
      clear c11
      by_cases c12 : a1 = true
      ·subst c12
       have H1 : (some (27, true)) = some (r1, r2) := by rw [if_pos rfl] at H; exact H
       clear H
       have H := H1
       clear H1
       simp only [Option.some.injEq, Prod.mk.injEq] at H
       obtain ⟨rfl, rfl⟩ := H
       go_wp2
       go_ret2
       exact ⟨by first | rfl | (simp; done) | (simp [*]; done), by repeat (first | exact Drawn0.refl _ | apply Drawn0.step)⟩
      ·replace c12 := Bool.eq_false_iff.mpr c12
       subst c12
       have H1 : (some (0, false)) = some (r1, r2) := by rw [if_neg (show ¬ (false = true) by decide)] at H; exact H
       clear H
       have H := H1
       clear H1
       simp only [Option.some.injEq, Prod.mk.injEq] at H
       obtain ⟨rfl, rfl⟩ := H
       go_wp2
       go_ret2
       exact ⟨by first | rfl | (simp; done) | (simp [*]; done), by repeat (first | exact Drawn0.refl _ | apply Drawn0.step)⟩
     ·rw [if_neg c11] at H
      have c11b0 : (a0 == 101) = false := beq_eq_false_iff_ne.mpr c11
      have c11b1 : (a0 != 101) = true := bne_iff_ne.mpr c11
      simp only [Option.some.injEq, Prod.mk.injEq] at H
      obtain ⟨rfl, rfl⟩ := H
      go_wp2
      go_ret2
      exact ⟨by first | rfl | (simp; done) | (simp [*]; done), by repeat (first | exact Drawn0.refl _ | apply Drawn0.step)⟩
end Go.Proofs.YtoanbmggffkmgaaDoor.P
end
