/- The parts of this claim's proof, in one text: what each Go function answers and that its call comes to it; plain facts of lists of numbers. The lemmas in the namespaces of the words (PrintWords, PrintLast, PrintMore) come of the texts that the kit's printer lays for the seat; those that are reached. Conditions as each theorem names them. -/
import Derived.ArgAppend
import Derived.Below
import Derived.BigQuiet
import Derived.Deep.AppendLies
import Derived.Deep.CutBlock
import Derived.Deep.DeepCutAuto
import Derived.Deep.Draws
import Derived.Deep.LoopGhost
import Derived.Deep.OwnRows
import Derived.Deep.QuietTactic
import Derived.Deep.RegionHeld3
import Derived.KernelRfl
import Derived.Laws.BitsLemmas
import Derived.Laws.BytesArg
import Derived.Laws.IdiomCopy
import Derived.Laws.MakeOwn
import Derived.Laws.OwnMore
import Derived.Laws.Rows
import Derived.Laws.Slices
import Derived.Laws.StructEq
import Derived.Lib.AppendStr
import Derived.Lib.Bytealg
import Derived.Lib.Bytes
import Derived.Lib.ConvBytes
import Derived.Lib.Hide
import Derived.Maps.AppendAt
import Derived.OrdersHeld
import Derived.Outline
import Derived.OwnWalk
import Derived.RowKit
import Derived.RowKit3
import Derived.Shelf.Bits.Mul64
import Derived.Shelf.LaysM
import Derived.Shelf.Small.Strs
import Derived.Shelf.Small.Utf8
import Derived.Shelf.Strings.AsciiSet
import Derived.Shelf.Strings.Builder1
import Derived.Shelf.Strings.Builder2
import Derived.Shelf.Strings.Builder2Cap
import Derived.Shelf.Strings.BuilderF
import Derived.Shelf.Strings.BuilderK
import Derived.Shelf.Strings.Count
import Derived.Shelf.Strings.IndexAny
import Derived.Shelf.Strings.IndexAnyAll
import Derived.Shelf.Strings.LastIndex
import Derived.Shelf.Strings.Prefix
import Derived.Shelf.Strings.Repeat
import Derived.Shelf.Strings.RuneCount
import Derived.Shelf.Strings.Runes
import Derived.Shelf.Strings.Search1
import Derived.Shelf.Strings.Search2
import Derived.Shelf.Strings.Search3
import Derived.Shelf.Strings.Shaped
import Derived.Shelf.Strings.SlTrimAscii
import Derived.Shelf.Strings.Split
import Derived.Shelf.Strings.Trim
import Derived.Shelf.Unicode.Decode
import Derived.Shelf.Unicode.DecodeAny
import Derived.Shelf.Unicode.DecodeSlow
import Derived.Shelf.Utf8.RuneCount
import Derived.Tactics
import Derived.WalkKit
import Derived.WideLaws
import Derived.Test.YtoanbmggffkmgaaDoorProg
import Derived.Test.YtoanbmggffkmgaaDoorMJlexCuts1
import Derived.Test.YtoanbmggffkmgaaDoorMJlexCuts2
import Derived.Test.YtoanbmggffkmgaaDoorMJlexCuts3
import Derived.Test.YtoanbmggffkmgaaDoorMJlexCuts4
import Derived.Test.YtoanbmggffkmgaaDoorMJlexCuts5
section
namespace Go.Proofs.YtoanbmggffkmgaaDoor.P
open Go.RowKit Go.Proofs.YtoanbmggffkmgaaDoorW.PrintWords Go.Proofs.YtoanbmggffkmgaaDoorW.PrintLast Go.Proofs.YtoanbmggffkmgaaDoorW.PrintMore
attribute [local go_sem] max2_int min2_int max_two min_two max_three min_three max_four min_four   -- for this text's walks alone
attribute [-simp] ByteArray.size_extract
set_option linter.unusedVariables false
set_option linter.unusedSimpArgs false
/-! ### dragomanref8_Cut: function 29 -/
def dragomanref8_Cut.l0 : Nat → ByteArray → List (S53) → Int → Option ((List (S53)) × Int × Int)
 | 0, _, _, _ => none
 | k + 1, x0, x5, x6 => if x6 < (x0.size : Int) then (if 0 ≤ x6 then ((dragomanref8_in.f k (bt x0 x6) (⟨#[32, 9, 10, 13]⟩ : ByteArray)).bind fun t294 => (if t294 = true then (dragomanref8_Cut.l0 k x0 x5 (wrap64 (x6 + 1))) else ((dragomanref8_in.f k (bt x0 x6) (⟨#[123, 125, 91, 93, 58, 44]⟩ : ByteArray)).bind fun t295 => (if t295 = true then (if x6 ≤ (wrap64 (x6 + 1)) then (if (wrap64 (x6 + 1)) ≤ (x0.size : Int) then (if x5.length < 4398046511104 then (dragomanref8_Cut.l0 k x0 (x5 ++ [(⟨1, x0.extract (x6 : Int).toNat ((wrap64 (x6 + 1)) : Int).toNat, x6⟩ : S53)]) (wrap64 (x6 + 1))) else (none)) else (none)) else (none)) else (if (bt x0 x6) = 34 then ((dragomanref5_Unquote.f k x0 x6).bind fun bt299 => (if bt299.2.2 ≥ 0 then (some (([] : List (S53)), 4, bt299.2.2)) else (if (bt299.1.size : Int) > 4096 then (some (([] : List (S53)), 2, x6)) else (if x5.length < 4398046511104 then (dragomanref8_Cut.l0 k x0 (x5 ++ [(⟨2, bt299.1, x6⟩ : S53)]) bt299.2.1) else (none))))) else ((dragomanref8_in.f k (bt x0 x6) (⟨#[48, 49, 50, 51, 52, 53, 54, 55, 56, 57, 43, 45, 46, 69]⟩ : ByteArray)).bind fun t305 => (if t305 = true then ((dragomanref8_row.f k x0 x6 (⟨#[48, 49, 50, 51, 52, 53, 54, 55, 56, 57, 43, 45, 46, 101, 69]⟩ : ByteArray)).bind fun t306 => (if x6 ≤ (wrap64 (x6 + t306)) then (if (wrap64 (x6 + t306)) ≤ (x0.size : Int) then ((dragomanref1_Form.f k (x0.extract (x6 : Int).toNat ((wrap64 (x6 + t306)) : Int).toNat)).bind fun bt307 => (if t306 > 400 then (some (([] : List (S53)), 2, x6)) else (if bt307.1 = true then (if bt307.2 = true then (some (([] : List (S53)), 6, x6)) else (if x5.length < 4398046511104 then (dragomanref8_Cut.l0 k x0 (x5 ++ [(⟨3, x0.extract (x6 : Int).toNat ((wrap64 (x6 + t306)) : Int).toNat, x6⟩ : S53)]) (wrap64 (x6 + t306))) else (none))) else (some (([] : List (S53)), 4, x6))))) else (none)) else (none))) else ((dragomanref8_row.f k x0 x6 (⟨#[97, 98, 99, 100, 101, 102, 103, 104, 105, 106, 107, 108, 109, 110, 111, 112, 113, 114, 115, 116, 117, 118, 119, 120, 121, 122]⟩ : ByteArray)).bind fun t312 => (if x6 ≤ (wrap64 (x6 + t312)) then (if (wrap64 (x6 + t312)) ≤ (x0.size : Int) then (if (x0.extract (x6 : Int).toNat ((wrap64 (x6 + t312)) : Int).toNat).toList = ([116, 114, 117, 101] : List UInt8) then (if x5.length < 4398046511104 then (dragomanref8_Cut.l0 k x0 (x5 ++ [(⟨4, x0.extract (x6 : Int).toNat ((wrap64 (x6 + t312)) : Int).toNat, x6⟩ : S53)]) (wrap64 (x6 + t312))) else (none)) else (if (x0.extract (x6 : Int).toNat ((wrap64 (x6 + t312)) : Int).toNat).toList = ([102, 97, 108, 115, 101] : List UInt8) then (if x5.length < 4398046511104 then (dragomanref8_Cut.l0 k x0 (x5 ++ [(⟨4, x0.extract (x6 : Int).toNat ((wrap64 (x6 + t312)) : Int).toNat, x6⟩ : S53)]) (wrap64 (x6 + t312))) else (none)) else (if (x0.extract (x6 : Int).toNat ((wrap64 (x6 + t312)) : Int).toNat).toList = ([110, 117, 108, 108] : List UInt8) then (if x5.length < 4398046511104 then (dragomanref8_Cut.l0 k x0 (x5 ++ [(⟨4, x0.extract (x6 : Int).toNat ((wrap64 (x6 + t312)) : Int).toNat, x6⟩ : S53)]) (wrap64 (x6 + t312))) else (none)) else (some (([] : List (S53)), 4, x6))))) else (none)) else (none)))))))))) else (none)) else (if x5.length < 4398046511104 then (some ((x5 ++ [(⟨0, (⟨#[]⟩ : ByteArray), (x0.size : Int)⟩ : S53)]), 0, 0)) else (none))
def dragomanref8_Cut.f (k : Nat) (a0 : ByteArray) : Option ((List (S53)) × Int × Int) := if (a0.size : Int) > 65536 then (some (([] : List (S53)), 2, (a0.size : Int))) else ((dragomanref1_Valid.f k a0).bind fun t287 => (if t287 ≥ 0 then (some (([] : List (S53)), 3, t287)) else (if 0 ≤ 8796093022208 then (dragomanref8_Cut.l0 k a0 (List.replicate 0 z53) 0) else (none))))
set_option maxHeartbeats 8000000 in
set_option maxRecDepth 100000 in
theorem dragomanref8_Cut.calls (k : Nat) (a0 : ByteArray) (r1 : List (S53)) (r2 : Int) (r3 : Int) (w : World) (h : dragomanref8_Cut.f k a0 = some (r1, r2, r3)) :
  Calls Tryd.prog 29 #[.string a0] w fun e w' => ∃ v0_ : Value, e = .returned (.tuple #[v0_, .agg #[.int .i64 r2, .int .i64 r3]]) ∧ Kd.R k53 53 w' w.heap.size (fun _ => True) v0_ r1 ∧ Below w.heap.size w w' := by
 have hu49 := Tryd.underlying49
 have hu53 := Tryd.underlying53
 have HB := Aside0.mk (Below.refl w.heap.size w)
 have H : (if (a0.size : Int) > 65536 then (some (([] : List (S53)), 2, (a0.size : Int))) else ((dragomanref1_Valid.f k a0).bind fun t287 => (if t287 ≥ 0 then (some (([] : List (S53)), 3, t287)) else (if 0 ≤ 8796093022208 then (dragomanref8_Cut.l0 k a0 (List.replicate 0 z53) 0) else (none))))) = some (r1, r2, r3) := h
 clear h
 by_cases c2 : (a0.size : Int) > 65536
 ·rw [if_pos c2] at H
  have c2b0 : decide (65536 < (a0.size : Int)) = true := decide_eq_true c2
  have c2b1 : decide (65536 < a0.size) = true := decide_eq_true (by omega)
  clear c2
  simp only [Option.some.injEq, Prod.mk.injEq] at H
  obtain ⟨rfl, rfl, rfl⟩ := H
  go_enter Tryd.func29, Tryd.ntmps29
  go_wp2_with (first | ((with_reducible refine gate_dst (N := 3) rfl ?_); refine box_event ?hg (N := 3) ?hd (cs := #[.int .i64 0, .int .i64 0]) (t := 49) ?hr ?_; (case hd => rfl); (case hg => rfl); (case hr => first | (go_simp; done) | (go_simp; rfl)); intro gb286 hg w3 hbox hb; have n0_ := Aside0.mk (below_step (by repeat (first | (with_reducible first | exact HB.out | apply below_alloc | apply pw_below_drewN | apply below_drew1) | exact HB.out)) hb); have n1_ := Aside0.mk (hbox); have n2_ := Aside0.mk ((by rw [hg]; exact (below_size (by repeat (first | (with_reducible first | exact HB.out | apply below_alloc | apply pw_below_drewN | apply below_drew1) | exact HB.out))) : w.heap.size ≤ gb286)); have n3_ := Aside0.mk ((by rw [hg]; exact (below_size (by repeat (first | (with_reducible first | exact HB.out | apply below_alloc | apply pw_below_drewN | apply below_drew1) | exact HB.out))) : w.heap.size ≤ gb286)); clear HB; have HB := n0_; have BK286 := n1_; have GW286 := n2_; have GE286 := n3_; clear n0_ n1_ n2_ n3_; clear hb hbox hg; have hcz4_0 : w3.cell? ⟨gb286, 0, none⟩ = some (.int .i64 0) := (blk_cell BK286.out 0).trans rfl; have hcz4_1 : w3.cell? ⟨gb286, 1, none⟩ = some (.int .i64 0) := (blk_cell BK286.out 1).trans rfl; have hfz4_0 := blk_frozen BK286.out 0; have hfz4_1 := blk_frozen BK286.out 1))
  refine bodyPost_ret (results_tc rfl _ _ gb286 49 #[.int .i64 2, .int .i64 (a0.size : Int)] (0, 0) _ rfl (by (with_reducible repeat (first | refine blk_drewN ?_ _ | refine blk_drew ?_ | refine blk_alloc ?_ _)); refine blk_put (cs := #[.int .i64 2, .int .i64 0]) ?_ 1 _ rfl; (with_reducible repeat (first | refine blk_drewN ?_ _ | refine blk_drew ?_ | refine blk_alloc ?_ _)); refine blk_put (cs := #[.int .i64 0, .int .i64 0]) ?_ 0 _ rfl; (with_reducible repeat (first | refine blk_drewN ?_ _ | refine blk_drew ?_ | refine blk_alloc ?_ _)); exact BK286.out) Tryd.underlying49 rfl (by kernel_rfl)) rfl ?_
  exact ⟨_, by first | rfl | (simp [errW_none, errW_some] <;> rfl) | (simp [*, errW_none, errW_some, bne]; done) | (simp [*, errW_none, errW_some] <;> rfl), by first | exact Kd.R_nil _ _ _ _ _ | exact Kd.N_nil _ _ _ _ _ | exact Kd.V_nil _ _ _ _ _ | exact Kd.Q_nil _ _ _ _ _ | exact Kd.S_nil _ _ _ _ _, by repeat (first | (with_reducible first | exact HB.out | apply below_alloc | apply pw_below_drewN | apply below_drew1 | refine below_set ?_ GE286.out) | exact HB.out)⟩
 ·rw [if_neg c2] at H
  have c2b0 : decide (65536 < (a0.size : Int)) = false := decide_eq_false c2
  have c2b1 : decide (65536 < a0.size) = false := decide_eq_false (by omega)
  clear c2
  replace H := Option.bind_eq_some_iff.mp H
  obtain ⟨t287, A50, H⟩ := H
  replace H : (if t287 ≥ 0 then (some (([] : List (S53)), 3, t287)) else (if 0 ≤ 8796093022208 then (dragomanref8_Cut.l0 k a0 (List.replicate 0 z53) 0) else (none))) = some (r1, r2, r3) := H
  have A5 := Aside0.mk A50
  clear A50
  by_cases c6 : t287 ≥ 0
  ·rw [if_pos c6] at H
   have c6b0 : decide (0 ≤ t287) = true := decide_eq_true c6
   clear c6
   simp only [Option.some.injEq, Prod.mk.injEq] at H
   obtain ⟨rfl, rfl, rfl⟩ := H
   go_enter Tryd.func29, Tryd.ntmps29
   go_wp2_with (first | ((with_reducible refine gate_dst (N := 3) rfl ?_); refine box_event ?hg (N := 3) ?hd (cs := #[.int .i64 0, .int .i64 0]) (t := 49) ?hr ?_; (case hd => rfl); (case hg => rfl); (case hr => first | (go_simp; done) | (go_simp; rfl)); intro gb286 hg w7 hbox hb; have n0_ := Aside0.mk (below_step (by repeat (first | (with_reducible first | exact HB.out | apply below_alloc | apply pw_below_drewN | apply below_drew1) | exact HB.out)) hb); have n1_ := Aside0.mk (hbox); have n2_ := Aside0.mk ((by rw [hg]; exact (below_size (by repeat (first | (with_reducible first | exact HB.out | apply below_alloc | apply pw_below_drewN | apply below_drew1) | exact HB.out))) : w.heap.size ≤ gb286)); have n3_ := Aside0.mk ((by rw [hg]; exact (below_size (by repeat (first | (with_reducible first | exact HB.out | apply below_alloc | apply pw_below_drewN | apply below_drew1) | exact HB.out))) : w.heap.size ≤ gb286)); clear HB; have HB := n0_; have BK286 := n1_; have GW286 := n2_; have GE286 := n3_; clear n0_ n1_ n2_ n3_; clear hb hbox hg) | ((with_reducible refine gate_callee (f := 25) rfl ?_); refine goesL_ (some 24) rfl rfl Tryd.func25 (by kernel_rfl) rfl #[.string a0] rfl (by (try simp only [List.map_toArray, List.map_cons, List.map_nil]); first | done | rfl | (simp only [List.length_drop, List.length_take]; rfl)) ?_; (with_reducible refine (dragomanref1_Valid.calls k a0 t287 _ A5.out).mono ?_); rintro e w8 ⟨rfl, hb⟩; refine ⟨_, rfl, ?_⟩; have n0_ := Aside0.mk (blk_below (g := gb286) (o := .cells #[.int .i64 0, .int .i64 0] 49 (0, 0)) (by (with_reducible repeat (first | refine blk_drewN ?_ _ | refine blk_drew ?_ | refine blk_alloc ?_ _)); exact BK286.out) hb); have n1_ := Aside0.mk (below_step (by repeat (first | (with_reducible first | exact HB.out | apply below_alloc | apply pw_below_drewN | apply below_drew1 | refine below_set ?_ GE286.out) | exact HB.out)) hb); clear BK286; clear HB; have BK286 := n0_; have HB := n1_; clear n0_ n1_; (try clear hb); (try clear hb2); (try clear hk); (try clear hi); have hcz9_0 : w8.cell? ⟨gb286, 0, none⟩ = some (.int .i64 0) := (blk_cell BK286.out 0).trans rfl; have hcz9_1 : w8.cell? ⟨gb286, 1, none⟩ = some (.int .i64 0) := (blk_cell BK286.out 1).trans rfl; have hfz9_0 := blk_frozen BK286.out 0; have hfz9_1 := blk_frozen BK286.out 1))
   refine bodyPost_ret (results_tc rfl _ _ gb286 49 #[.int .i64 3, .int .i64 t287] (0, 0) _ rfl (by (with_reducible repeat (first | refine blk_drewN ?_ _ | refine blk_drew ?_ | refine blk_alloc ?_ _)); refine blk_put (cs := #[.int .i64 3, .int .i64 0]) ?_ 1 _ rfl; (with_reducible repeat (first | refine blk_drewN ?_ _ | refine blk_drew ?_ | refine blk_alloc ?_ _)); refine blk_put (cs := #[.int .i64 0, .int .i64 0]) ?_ 0 _ rfl; (with_reducible repeat (first | refine blk_drewN ?_ _ | refine blk_drew ?_ | refine blk_alloc ?_ _)); exact BK286.out) Tryd.underlying49 rfl (by kernel_rfl)) rfl ?_
   exact ⟨_, by first | rfl | (simp [errW_none, errW_some] <;> rfl) | (simp [*, errW_none, errW_some, bne]; done) | (simp [*, errW_none, errW_some] <;> rfl), by first | exact Kd.R_nil _ _ _ _ _ | exact Kd.N_nil _ _ _ _ _ | exact Kd.V_nil _ _ _ _ _ | exact Kd.Q_nil _ _ _ _ _ | exact Kd.S_nil _ _ _ _ _, by repeat (first | (with_reducible first | exact HB.out | apply below_alloc | apply pw_below_drewN | apply below_drew1 | refine below_set ?_ GE286.out) | exact HB.out)⟩
  ·rw [if_neg c6] at H
   have c6b0 : decide (0 ≤ t287) = false := decide_eq_false c6
   clear c6
   by_cases c10 : 0 ≤ 8796093022208
   ·rw [if_pos c10] at H
    have c10b0 := eq_true c10
    have c10b1 : decide (0 ≤ 8796093022208) = true := decide_eq_true c10
    clear c10
    obtain ⟨y288, hy288⟩ : ∃ y_ : List (S53), y_ = (List.replicate 0 z53) := ⟨_, rfl⟩
    replace H : (dragomanref8_Cut.l0 k a0 y288 0) = some (r1, r2, r3) := by first | (rw [hy288]; with_reducible exact H) | (have H2_ := (Option.bind_some _ _).symm.trans H; rw [hy288]; with_reducible exact H2_) | (have H2_ := (Option.bind_some _ _).symm.trans H; with_reducible exact H2_) | with_reducible exact H | (rw [hy288]; exact H) | exact H
    have Ny288 := Aside0.mk hy288
    clear hy288
    have H' := Aside0.mk H
    clear H
    go_enter Tryd.func29, Tryd.ntmps29
    go_wp2_with (first | ((with_reducible refine gate_dst (N := 3) rfl ?_); refine box_event ?hg (N := 3) ?hd (cs := #[.int .i64 0, .int .i64 0]) (t := 49) ?hr ?_; (case hd => rfl); (case hg => rfl); (case hr => first | (go_simp; done) | (go_simp; rfl)); intro gb286 hg w11 hbox hb; have n0_ := Aside0.mk (below_step (by repeat (first | (with_reducible first | exact HB.out | apply below_alloc | apply pw_below_drewN | apply below_drew1) | exact HB.out)) hb); have n1_ := Aside0.mk (hbox); have n2_ := Aside0.mk ((by rw [hg]; exact (below_size (by repeat (first | (with_reducible first | exact HB.out | apply below_alloc | apply pw_below_drewN | apply below_drew1) | exact HB.out))) : w.heap.size ≤ gb286)); have n3_ := Aside0.mk ((by rw [hg]; exact (below_size (by repeat (first | (with_reducible first | exact HB.out | apply below_alloc | apply pw_below_drewN | apply below_drew1) | exact HB.out))) : w.heap.size ≤ gb286)); clear HB; have HB := n0_; have BK286 := n1_; have GW286 := n2_; have GE286 := n3_; clear n0_ n1_ n2_ n3_; clear hb hbox hg) | ((with_reducible refine gate_callee (f := 25) rfl ?_); refine goesL_ (some 24) rfl rfl Tryd.func25 (by kernel_rfl) rfl #[.string a0] rfl (by (try simp only [List.map_toArray, List.map_cons, List.map_nil]); first | done | rfl | (simp only [List.length_drop, List.length_take]; rfl)) ?_; (with_reducible refine (dragomanref1_Valid.calls k a0 t287 _ A5.out).mono ?_); rintro e w12 ⟨rfl, hb⟩; refine ⟨_, rfl, ?_⟩; have n0_ := Aside0.mk (blk_below (g := gb286) (o := .cells #[.int .i64 0, .int .i64 0] 49 (0, 0)) (by (with_reducible repeat (first | refine blk_drewN ?_ _ | refine blk_drew ?_ | refine blk_alloc ?_ _)); exact BK286.out) hb); have n1_ := Aside0.mk (below_step (by repeat (first | (with_reducible first | exact HB.out | apply below_alloc | apply pw_below_drewN | apply below_drew1 | refine below_set ?_ GE286.out) | exact HB.out)) hb); clear BK286; clear HB; have BK286 := n0_; have HB := n1_; clear n0_ n1_; (try clear hb); (try clear hb2); (try clear hk); (try clear hi)) | ((with_reducible refine gate_dst (N := 29) rfl ?_); refine Kd.R_make k53 _ 53 rfl (N := 29) rfl 47 _ _ rfl 0 rfl rfl Tryd.underlying47 (.agg #[(.int .i64 0), (.string ⟨#[]⟩), (.int .i64 0)]) 32 info53 rfl (by decide) (by omega) z53 (ok := fun _ => True) (okp := fun _ => True) (k53_mkM _ _ _ z53 ) (fun _ hk => hk) trivial (by omega) (by omega) (Below.refl _ _) (Nat.le_refl _) ?_; intro v289 w13 ho14 hb hg_ hnew_; clear hg_ hnew_; (first | rw [← Ny288.out] at ho14 | (simp only [Int.reduceToNat] at ho14; rw [← Ny288.out] at ho14)); have n0_ := Aside0.mk (Kd.R_lower ho14 (below_size (by repeat (first | (with_reducible first | exact HB.out | apply below_alloc | apply pw_below_drewN | apply below_drew1 | refine below_set ?_ GE286.out) | exact HB.out)))); have n1_ := Aside0.mk (blk_below (g := gb286) (o := .cells #[.int .i64 0, .int .i64 0] 49 (0, 0)) (by (with_reducible repeat (first | refine blk_drewN ?_ _ | refine blk_drew ?_ | refine blk_alloc ?_ _)); exact BK286.out) hb); have n2_ := Aside0.mk (below_step (by repeat (first | (with_reducible first | exact HB.out | apply below_alloc | apply pw_below_drewN | apply below_drew1 | refine below_set ?_ GE286.out) | exact HB.out)) hb); clear BK286; clear HB; have HO290 := n0_; have BK286 := n1_; have HB := n2_; clear n0_ n1_ n2_; clear hb ho14))
    go_loopg [5, 6] k (fun kq v5 v6 w' => ∃ (x5_1 : List (S53)) (x6_1 : Int) (x287000_1 : Int) (x287001_1 : Int), v6 = .int .i64 x6_1 ∧ Aside0 (dragomanref8_Cut.l0 kq a0 x5_1 x6_1 = some (r1, r2, r3)) ∧ Aside0 (kq ≤ k) ∧ Aside0 (Kd.R k53 53 w' w.heap.size (fun _ => True) v5 x5_1) ∧ Aside0 (w'.heap[gb286]? = some (.cells #[.int .i64 x287000_1, .int .i64 x287001_1] 49 (0, 0))) ∧ Aside0 (Below w.heap.size w w'))
    case atStart => exact ⟨(y288), (0), (0), (0), (by first | rfl | (simp; done) | (simp [*]; done)), H', ⟨Nat.le_refl _⟩, ⟨by (with_reducible repeat (first | apply Kd.R_alloc | apply Kd.R_drewN | apply Kd.R_drew)); exact HO290.out⟩, ⟨by (with_reducible repeat (first | refine blk_drewN ?_ _ | refine blk_drew ?_ | refine blk_alloc ?_ _)); exact BK286.out⟩, ⟨by repeat (first | (with_reducible first | exact HB.out | apply below_alloc | apply pw_below_drewN | apply below_drew1 | refine below_set ?_ GE286.out) | exact HB.out)⟩⟩
    case round =>
     clear H'
     try clear c1
     try clear c2
     try clear c2b0
     try clear c2b1
     try clear p2
     try clear c6
     try clear c6b0
     try clear c10
     try clear c10b0
     try clear c10b1
     try clear hcz4_0
     try clear hcz4_1
     try clear hcz9_0
     try clear hcz9_1
     try clear hfz4_0
     try clear hfz4_1
     try clear hfz9_0
     try clear hfz9_1
     obtain ⟨x5_1, x6_1, x287000_1, x287001_1, rfl, HA, HK1, HO_5, BK286, HB⟩ := hrel
     cases gk with
     | zero => exact absurd HA.out (by simp [dragomanref8_Cut.l0])
     | succ k1 =>
      have H := HA.out
      clear HA
      simp only [dragomanref8_Cut.l0] at H
      by_cases c15 : x6_1 < (a0.size : Int)
      ·rw [if_pos c15] at H
       have c15b0 : decide (x6_1 < (a0.size : Int)) = true := decide_eq_true c15
       clear c15
       by_cases c16 : 0 ≤ x6_1
       ·rw [if_pos c16] at H
        have c16b0 : decide (0 ≤ x6_1) = true := decide_eq_true c16
        clear c16
        replace H := Option.bind_eq_some_iff.mp H
        obtain ⟨t294, A180, H⟩ := H
        replace H : (if t294 = true then (dragomanref8_Cut.l0 k1 a0 x5_1 (wrap64 (x6_1 + 1))) else ((dragomanref8_in.f k1 (bt a0 x6_1) (⟨#[123, 125, 91, 93, 58, 44]⟩ : ByteArray)).bind fun t295 => (if t295 = true then (if x6_1 ≤ (wrap64 (x6_1 + 1)) then (if (wrap64 (x6_1 + 1)) ≤ (a0.size : Int) then (if x5_1.length < 4398046511104 then (dragomanref8_Cut.l0 k1 a0 (x5_1 ++ [(⟨1, a0.extract (x6_1 : Int).toNat ((wrap64 (x6_1 + 1)) : Int).toNat, x6_1⟩ : S53)]) (wrap64 (x6_1 + 1))) else (none)) else (none)) else (none)) else (if (bt a0 x6_1) = 34 then ((dragomanref5_Unquote.f k1 a0 x6_1).bind fun bt299 => (if bt299.2.2 ≥ 0 then (some (([] : List (S53)), 4, bt299.2.2)) else (if (bt299.1.size : Int) > 4096 then (some (([] : List (S53)), 2, x6_1)) else (if x5_1.length < 4398046511104 then (dragomanref8_Cut.l0 k1 a0 (x5_1 ++ [(⟨2, bt299.1, x6_1⟩ : S53)]) bt299.2.1) else (none))))) else ((dragomanref8_in.f k1 (bt a0 x6_1) (⟨#[48, 49, 50, 51, 52, 53, 54, 55, 56, 57, 43, 45, 46, 69]⟩ : ByteArray)).bind fun t305 => (if t305 = true then ((dragomanref8_row.f k1 a0 x6_1 (⟨#[48, 49, 50, 51, 52, 53, 54, 55, 56, 57, 43, 45, 46, 101, 69]⟩ : ByteArray)).bind fun t306 => (if x6_1 ≤ (wrap64 (x6_1 + t306)) then (if (wrap64 (x6_1 + t306)) ≤ (a0.size : Int) then ((dragomanref1_Form.f k1 (a0.extract (x6_1 : Int).toNat ((wrap64 (x6_1 + t306)) : Int).toNat)).bind fun bt307 => (if t306 > 400 then (some (([] : List (S53)), 2, x6_1)) else (if bt307.1 = true then (if bt307.2 = true then (some (([] : List (S53)), 6, x6_1)) else (if x5_1.length < 4398046511104 then (dragomanref8_Cut.l0 k1 a0 (x5_1 ++ [(⟨3, a0.extract (x6_1 : Int).toNat ((wrap64 (x6_1 + t306)) : Int).toNat, x6_1⟩ : S53)]) (wrap64 (x6_1 + t306))) else (none))) else (some (([] : List (S53)), 4, x6_1))))) else (none)) else (none))) else ((dragomanref8_row.f k1 a0 x6_1 (⟨#[97, 98, 99, 100, 101, 102, 103, 104, 105, 106, 107, 108, 109, 110, 111, 112, 113, 114, 115, 116, 117, 118, 119, 120, 121, 122]⟩ : ByteArray)).bind fun t312 => (if x6_1 ≤ (wrap64 (x6_1 + t312)) then (if (wrap64 (x6_1 + t312)) ≤ (a0.size : Int) then (if (a0.extract (x6_1 : Int).toNat ((wrap64 (x6_1 + t312)) : Int).toNat).toList = ([116, 114, 117, 101] : List UInt8) then (if x5_1.length < 4398046511104 then (dragomanref8_Cut.l0 k1 a0 (x5_1 ++ [(⟨4, a0.extract (x6_1 : Int).toNat ((wrap64 (x6_1 + t312)) : Int).toNat, x6_1⟩ : S53)]) (wrap64 (x6_1 + t312))) else (none)) else (if (a0.extract (x6_1 : Int).toNat ((wrap64 (x6_1 + t312)) : Int).toNat).toList = ([102, 97, 108, 115, 101] : List UInt8) then (if x5_1.length < 4398046511104 then (dragomanref8_Cut.l0 k1 a0 (x5_1 ++ [(⟨4, a0.extract (x6_1 : Int).toNat ((wrap64 (x6_1 + t312)) : Int).toNat, x6_1⟩ : S53)]) (wrap64 (x6_1 + t312))) else (none)) else (if (a0.extract (x6_1 : Int).toNat ((wrap64 (x6_1 + t312)) : Int).toNat).toList = ([110, 117, 108, 108] : List UInt8) then (if x5_1.length < 4398046511104 then (dragomanref8_Cut.l0 k1 a0 (x5_1 ++ [(⟨4, a0.extract (x6_1 : Int).toNat ((wrap64 (x6_1 + t312)) : Int).toNat, x6_1⟩ : S53)]) (wrap64 (x6_1 + t312))) else (none)) else (some (([] : List (S53)), 4, x6_1))))) else (none)) else (none))))))))) = some (r1, r2, r3) := H
        have A18 := Aside0.mk A180
        clear A180
        by_cases c19 : t294 = true
        ·subst c19
         have H1 : (dragomanref8_Cut.l0 k1 a0 x5_1 (wrap64 (x6_1 + 1))) = some (r1, r2, r3) := by rw [if_pos rfl] at H; exact H
         clear H
         have H := H1
         clear H1
         have H' := Aside0.mk H
         clear H
         have p17 : 0 ≤ (x6_1 : Int) := of_decide_eq_true (by first | (with_reducible assumption) | assumption)
         have q17 : x6_1 < (a0.size : Int) := of_decide_eq_true (by first | (with_reducible assumption) | assumption)
         have hx17 := bt_at a0 x6_1
         replace p17 := eq_true p17
         replace q17 := eq_true q17
         go_wp2_with (first | ((with_reducible refine gate_callee (f := 49) rfl ?_); refine goesL_ (some 69) rfl rfl Tryd.func49 (by kernel_rfl) rfl #[.int .u8 (bt a0 x6_1), .string (⟨#[32, 9, 10, 13]⟩ : ByteArray)] rfl (by (try simp only [List.map_toArray, List.map_cons, List.map_nil]); first | done | rfl | (simp only [List.length_drop, List.length_take]; rfl)) ?_; (with_reducible refine (dragomanref8_in.calls k1 (bt a0 x6_1) (⟨#[32, 9, 10, 13]⟩ : ByteArray) true _ A18.out).mono ?_); rintro e w' ⟨rfl, ⟨nd, rfl⟩⟩; refine ⟨_, rfl, ?_⟩))
         go_roundg k1
         case measure => have := HK1.out; omega
         case rel => exact ⟨(x5_1), (wrap64 (x6_1 + 1)), (x287000_1), (x287001_1), (by first | rfl | (simp; done) | (simp [*]; done)), H', ⟨by have := HK1.out; omega⟩, ⟨by (with_reducible repeat (first | apply Kd.R_alloc | apply Kd.R_drewN | apply Kd.R_drew)); exact HO_5.out⟩, ⟨by (with_reducible repeat (first | refine blk_drewN ?_ _ | refine blk_drew ?_ | refine blk_alloc ?_ _)); exact BK286.out⟩, ⟨by repeat (first | (with_reducible first | exact HB.out | apply below_alloc | apply pw_below_drewN | apply below_drew1 | refine below_set ?_ GE286.out) | exact HB.out)⟩⟩
        ·replace c19 := Bool.eq_false_iff.mpr c19
         subst c19
         have H1 : ((dragomanref8_in.f k1 (bt a0 x6_1) (⟨#[123, 125, 91, 93, 58, 44]⟩ : ByteArray)).bind fun t295 => (if t295 = true then (if x6_1 ≤ (wrap64 (x6_1 + 1)) then (if (wrap64 (x6_1 + 1)) ≤ (a0.size : Int) then (if x5_1.length < 4398046511104 then (dragomanref8_Cut.l0 k1 a0 (x5_1 ++ [(⟨1, a0.extract (x6_1 : Int).toNat ((wrap64 (x6_1 + 1)) : Int).toNat, x6_1⟩ : S53)]) (wrap64 (x6_1 + 1))) else (none)) else (none)) else (none)) else (if (bt a0 x6_1) = 34 then ((dragomanref5_Unquote.f k1 a0 x6_1).bind fun bt299 => (if bt299.2.2 ≥ 0 then (some (([] : List (S53)), 4, bt299.2.2)) else (if (bt299.1.size : Int) > 4096 then (some (([] : List (S53)), 2, x6_1)) else (if x5_1.length < 4398046511104 then (dragomanref8_Cut.l0 k1 a0 (x5_1 ++ [(⟨2, bt299.1, x6_1⟩ : S53)]) bt299.2.1) else (none))))) else ((dragomanref8_in.f k1 (bt a0 x6_1) (⟨#[48, 49, 50, 51, 52, 53, 54, 55, 56, 57, 43, 45, 46, 69]⟩ : ByteArray)).bind fun t305 => (if t305 = true then ((dragomanref8_row.f k1 a0 x6_1 (⟨#[48, 49, 50, 51, 52, 53, 54, 55, 56, 57, 43, 45, 46, 101, 69]⟩ : ByteArray)).bind fun t306 => (if x6_1 ≤ (wrap64 (x6_1 + t306)) then (if (wrap64 (x6_1 + t306)) ≤ (a0.size : Int) then ((dragomanref1_Form.f k1 (a0.extract (x6_1 : Int).toNat ((wrap64 (x6_1 + t306)) : Int).toNat)).bind fun bt307 => (if t306 > 400 then (some (([] : List (S53)), 2, x6_1)) else (if bt307.1 = true then (if bt307.2 = true then (some (([] : List (S53)), 6, x6_1)) else (if x5_1.length < 4398046511104 then (dragomanref8_Cut.l0 k1 a0 (x5_1 ++ [(⟨3, a0.extract (x6_1 : Int).toNat ((wrap64 (x6_1 + t306)) : Int).toNat, x6_1⟩ : S53)]) (wrap64 (x6_1 + t306))) else (none))) else (some (([] : List (S53)), 4, x6_1))))) else (none)) else (none))) else ((dragomanref8_row.f k1 a0 x6_1 (⟨#[97, 98, 99, 100, 101, 102, 103, 104, 105, 106, 107, 108, 109, 110, 111, 112, 113, 114, 115, 116, 117, 118, 119, 120, 121, 122]⟩ : ByteArray)).bind fun t312 => (if x6_1 ≤ (wrap64 (x6_1 + t312)) then (if (wrap64 (x6_1 + t312)) ≤ (a0.size : Int) then (if (a0.extract (x6_1 : Int).toNat ((wrap64 (x6_1 + t312)) : Int).toNat).toList = ([116, 114, 117, 101] : List UInt8) then (if x5_1.length < 4398046511104 then (dragomanref8_Cut.l0 k1 a0 (x5_1 ++ [(⟨4, a0.extract (x6_1 : Int).toNat ((wrap64 (x6_1 + t312)) : Int).toNat, x6_1⟩ : S53)]) (wrap64 (x6_1 + t312))) else (none)) else (if (a0.extract (x6_1 : Int).toNat ((wrap64 (x6_1 + t312)) : Int).toNat).toList = ([102, 97, 108, 115, 101] : List UInt8) then (if x5_1.length < 4398046511104 then (dragomanref8_Cut.l0 k1 a0 (x5_1 ++ [(⟨4, a0.extract (x6_1 : Int).toNat ((wrap64 (x6_1 + t312)) : Int).toNat, x6_1⟩ : S53)]) (wrap64 (x6_1 + t312))) else (none)) else (if (a0.extract (x6_1 : Int).toNat ((wrap64 (x6_1 + t312)) : Int).toNat).toList = ([110, 117, 108, 108] : List UInt8) then (if x5_1.length < 4398046511104 then (dragomanref8_Cut.l0 k1 a0 (x5_1 ++ [(⟨4, a0.extract (x6_1 : Int).toNat ((wrap64 (x6_1 + t312)) : Int).toNat, x6_1⟩ : S53)]) (wrap64 (x6_1 + t312))) else (none)) else (some (([] : List (S53)), 4, x6_1))))) else (none)) else (none)))))))) = some (r1, r2, r3) := by rw [if_neg (show ¬ (false = true) by decide)] at H; exact H
         clear H
         have H := H1
         clear H1
         replace H := Option.bind_eq_some_iff.mp H
         obtain ⟨t295, A200, H⟩ := H
         replace H : (if t295 = true then (if x6_1 ≤ (wrap64 (x6_1 + 1)) then (if (wrap64 (x6_1 + 1)) ≤ (a0.size : Int) then (if x5_1.length < 4398046511104 then (dragomanref8_Cut.l0 k1 a0 (x5_1 ++ [(⟨1, a0.extract (x6_1 : Int).toNat ((wrap64 (x6_1 + 1)) : Int).toNat, x6_1⟩ : S53)]) (wrap64 (x6_1 + 1))) else (none)) else (none)) else (none)) else (if (bt a0 x6_1) = 34 then ((dragomanref5_Unquote.f k1 a0 x6_1).bind fun bt299 => (if bt299.2.2 ≥ 0 then (some (([] : List (S53)), 4, bt299.2.2)) else (if (bt299.1.size : Int) > 4096 then (some (([] : List (S53)), 2, x6_1)) else (if x5_1.length < 4398046511104 then (dragomanref8_Cut.l0 k1 a0 (x5_1 ++ [(⟨2, bt299.1, x6_1⟩ : S53)]) bt299.2.1) else (none))))) else ((dragomanref8_in.f k1 (bt a0 x6_1) (⟨#[48, 49, 50, 51, 52, 53, 54, 55, 56, 57, 43, 45, 46, 69]⟩ : ByteArray)).bind fun t305 => (if t305 = true then ((dragomanref8_row.f k1 a0 x6_1 (⟨#[48, 49, 50, 51, 52, 53, 54, 55, 56, 57, 43, 45, 46, 101, 69]⟩ : ByteArray)).bind fun t306 => (if x6_1 ≤ (wrap64 (x6_1 + t306)) then (if (wrap64 (x6_1 + t306)) ≤ (a0.size : Int) then ((dragomanref1_Form.f k1 (a0.extract (x6_1 : Int).toNat ((wrap64 (x6_1 + t306)) : Int).toNat)).bind fun bt307 => (if t306 > 400 then (some (([] : List (S53)), 2, x6_1)) else (if bt307.1 = true then (if bt307.2 = true then (some (([] : List (S53)), 6, x6_1)) else (if x5_1.length < 4398046511104 then (dragomanref8_Cut.l0 k1 a0 (x5_1 ++ [(⟨3, a0.extract (x6_1 : Int).toNat ((wrap64 (x6_1 + t306)) : Int).toNat, x6_1⟩ : S53)]) (wrap64 (x6_1 + t306))) else (none))) else (some (([] : List (S53)), 4, x6_1))))) else (none)) else (none))) else ((dragomanref8_row.f k1 a0 x6_1 (⟨#[97, 98, 99, 100, 101, 102, 103, 104, 105, 106, 107, 108, 109, 110, 111, 112, 113, 114, 115, 116, 117, 118, 119, 120, 121, 122]⟩ : ByteArray)).bind fun t312 => (if x6_1 ≤ (wrap64 (x6_1 + t312)) then (if (wrap64 (x6_1 + t312)) ≤ (a0.size : Int) then (if (a0.extract (x6_1 : Int).toNat ((wrap64 (x6_1 + t312)) : Int).toNat).toList = ([116, 114, 117, 101] : List UInt8) then (if x5_1.length < 4398046511104 then (dragomanref8_Cut.l0 k1 a0 (x5_1 ++ [(⟨4, a0.extract (x6_1 : Int).toNat ((wrap64 (x6_1 + t312)) : Int).toNat, x6_1⟩ : S53)]) (wrap64 (x6_1 + t312))) else (none)) else (if (a0.extract (x6_1 : Int).toNat ((wrap64 (x6_1 + t312)) : Int).toNat).toList = ([102, 97, 108, 115, 101] : List UInt8) then (if x5_1.length < 4398046511104 then (dragomanref8_Cut.l0 k1 a0 (x5_1 ++ [(⟨4, a0.extract (x6_1 : Int).toNat ((wrap64 (x6_1 + t312)) : Int).toNat, x6_1⟩ : S53)]) (wrap64 (x6_1 + t312))) else (none)) else (if (a0.extract (x6_1 : Int).toNat ((wrap64 (x6_1 + t312)) : Int).toNat).toList = ([110, 117, 108, 108] : List UInt8) then (if x5_1.length < 4398046511104 then (dragomanref8_Cut.l0 k1 a0 (x5_1 ++ [(⟨4, a0.extract (x6_1 : Int).toNat ((wrap64 (x6_1 + t312)) : Int).toNat, x6_1⟩ : S53)]) (wrap64 (x6_1 + t312))) else (none)) else (some (([] : List (S53)), 4, x6_1))))) else (none)) else (none))))))) = some (r1, r2, r3) := H
         have A20 := Aside0.mk A200
         clear A200
         by_cases c21 : t295 = true
         ·subst c21
          have H1 : (if x6_1 ≤ (wrap64 (x6_1 + 1)) then (if (wrap64 (x6_1 + 1)) ≤ (a0.size : Int) then (if x5_1.length < 4398046511104 then (dragomanref8_Cut.l0 k1 a0 (x5_1 ++ [(⟨1, a0.extract (x6_1 : Int).toNat ((wrap64 (x6_1 + 1)) : Int).toNat, x6_1⟩ : S53)]) (wrap64 (x6_1 + 1))) else (none)) else (none)) else (none)) = some (r1, r2, r3) := by rw [if_pos rfl] at H; exact H
          clear H
          have H := H1
          clear H1
          have c22b0 := eq_true (of_decide_eq_true (by first | (with_reducible assumption) | assumption) : 0 ≤ x6_1)
          by_cases c23 : x6_1 ≤ (wrap64 (x6_1 + 1))
          ·rw [if_pos c23] at H
           have c23b0 := eq_true c23
           have c23b1 : decide (x6_1 ≤ (wrap64 (x6_1 + 1))) = true := decide_eq_true c23
           by_cases c24 : (wrap64 (x6_1 + 1)) ≤ (a0.size : Int)
           ·rw [if_pos c24] at H
            have c24b0 := eq_true c24
            have c24b1 : decide ((wrap64 (x6_1 + 1)) ≤ (a0.size : Int)) = true := decide_eq_true c24
            by_cases c25 : x5_1.length < 4398046511104
            ·rw [if_pos c25] at H
             have LMc25 := Aside0.mk c25
             clear c25
             obtain ⟨y296, hy296⟩ : ∃ y_ : List (S53), y_ = (x5_1 ++ [(⟨1, a0.extract (x6_1 : Int).toNat ((wrap64 (x6_1 + 1)) : Int).toNat, x6_1⟩ : S53)]) := ⟨_, rfl⟩
             replace H : (dragomanref8_Cut.l0 k1 a0 y296 (wrap64 (x6_1 + 1))) = some (r1, r2, r3) := by first | (rw [hy296]; with_reducible exact H) | (have H2_ := (Option.bind_some _ _).symm.trans H; rw [hy296]; with_reducible exact H2_) | (have H2_ := (Option.bind_some _ _).symm.trans H; with_reducible exact H2_) | with_reducible exact H | (rw [hy296]; exact H) | exact H
             have Ny296 := Aside0.mk hy296
             clear hy296
             have H' := Aside0.mk H
             clear H
             have p17 : 0 ≤ (x6_1 : Int) := of_decide_eq_true (by first | (with_reducible assumption) | assumption)
             have q17 : x6_1 < (a0.size : Int) := of_decide_eq_true (by first | (with_reducible assumption) | assumption)
             have hx17 := bt_at a0 x6_1
             replace p17 := eq_true p17
             replace q17 := eq_true q17
             go_wp2_with (first | ((with_reducible refine gate_callee (f := 49) rfl ?_); refine goesL_ (some 69) rfl rfl Tryd.func49 (by kernel_rfl) rfl #[.int .u8 (bt a0 x6_1), .string (⟨#[32, 9, 10, 13]⟩ : ByteArray)] rfl (by (try simp only [List.map_toArray, List.map_cons, List.map_nil]); first | done | rfl | (simp only [List.length_drop, List.length_take]; rfl)) ?_; (with_reducible refine (dragomanref8_in.calls k1 (bt a0 x6_1) (⟨#[32, 9, 10, 13]⟩ : ByteArray) false _ A18.out).mono ?_); rintro e w' ⟨rfl, ⟨nd, rfl⟩⟩; refine ⟨_, rfl, ?_⟩) | ((with_reducible refine gate_callee (f := 49) rfl ?_); refine goesL_ (some 74) rfl rfl Tryd.func49 (by kernel_rfl) rfl #[.int .u8 (bt a0 x6_1), .string (⟨#[123, 125, 91, 93, 58, 44]⟩ : ByteArray)] rfl (by (try simp only [List.map_toArray, List.map_cons, List.map_nil]); first | done | rfl | (simp only [List.length_drop, List.length_take]; rfl)) ?_; (with_reducible refine (dragomanref8_in.calls k1 (bt a0 x6_1) (⟨#[123, 125, 91, 93, 58, 44]⟩ : ByteArray) true _ A20.out).mono ?_); rintro e w' ⟨rfl, ⟨nd, rfl⟩⟩; refine ⟨_, rfl, ?_⟩) | ((with_reducible refine gate_builtin (b := .append) (xs := #[.tmp 75, .tmp 83]) rfl ?_); at_builtin; refine Kd.R_append k53 (w0 := w) w.heap.size rfl (.tmp 75) (.tmp 83) 47 53 (.agg #[(.int .i64 0), (.string ⟨#[]⟩), (.int .i64 0)]) 32 rfl Tryd.underlying47 info53 rfl (by decide) (by omega) u5 x5_1 (⟨1, a0.extract (x6_1 : Int).toNat ((wrap64 (x6_1 + 1)) : Int).toNat, x6_1⟩ : S53) [.int .i64 1, .string (a0.extract (x6_1 : Int).toNat ((wrap64 (x6_1 + 1)) : Int).toNat), .int .i64 x6_1] (fun _ => True) (fun _ => False) rfl rfl ?aP (fun _ hk => hk.elim) ?aF ?aO ?aB ?aS ?aL ?_; (case aP => exact k53_mkM _ _ _ (⟨1, a0.extract (x6_1 : Int).toNat ((wrap64 (x6_1 + 1)) : Int).toNat, x6_1⟩ : S53)); (case aB => exact (by repeat (first | (with_reducible first | exact HB.out | apply below_alloc | apply pw_below_drewN | apply below_drew1 | refine below_set ?_ GE286.out) | exact HB.out))); (case aF => exact (fun _ _ => trivial)); (case aO => exact (by (with_reducible repeat (first | apply Kd.R_alloc | apply Kd.R_drewN | apply Kd.R_drew)); exact HO_5.out)); (case aS => exact (below_size (by repeat (first | (with_reducible first | exact HB.out | apply below_alloc | apply pw_below_drewN | apply below_drew1 | refine below_set ?_ GE286.out) | exact HB.out)))); (case aL => have := LMc25.out; omega); intro v297 w26 ho hb hg hat; rw [← Ny296.out] at ho; have n0_ := Aside0.mk (blk_grown (g := gb286) (o := .cells #[.int .i64 x287000_1, .int .i64 x287001_1] 49 (0, 0)) (by (with_reducible repeat (first | refine blk_drewN ?_ _ | refine blk_drew ?_ | refine blk_alloc ?_ _)); exact BK286.out) hg (Kd.R_ne HO_5.out BK286.out (by decide))); have n1_ := Aside0.mk (hb); have n2_ := Aside0.mk (ho); clear BK286; clear HB; clear HO_5; have BK286 := n0_; have HB := n1_; have HO298 := n2_; clear n0_ n1_ n2_; clear ho hb hg hat))
             go_roundg k1
             case measure => have := HK1.out; omega
             case rel => exact ⟨(y296), (wrap64 (x6_1 + 1)), (x287000_1), (x287001_1), (by first | rfl | (simp; done) | (simp [*]; done)), H', ⟨by have := HK1.out; omega⟩, ⟨by (with_reducible repeat (first | apply Kd.R_alloc | apply Kd.R_drewN | apply Kd.R_drew)); exact HO298.out⟩, ⟨by (with_reducible repeat (first | refine blk_drewN ?_ _ | refine blk_drew ?_ | refine blk_alloc ?_ _)); exact BK286.out⟩, ⟨by repeat (first | (with_reducible first | exact HB.out | apply below_alloc | apply pw_below_drewN | apply below_drew1 | refine below_set ?_ GE286.out) | exact HB.out)⟩⟩
            ·rw [if_neg c25] at H
             exact absurd H (by simp)
           ·rw [if_neg c24] at H
            exact absurd H (by simp)
          ·rw [if_neg c23] at H
           exact absurd H (by simp)
         ·replace c21 := Bool.eq_false_iff.mpr c21
          subst c21
          have H1 : (if (bt a0 x6_1) = 34 then ((dragomanref5_Unquote.f k1 a0 x6_1).bind fun bt299 => (if bt299.2.2 ≥ 0 then (some (([] : List (S53)), 4, bt299.2.2)) else (if (bt299.1.size : Int) > 4096 then (some (([] : List (S53)), 2, x6_1)) else (if x5_1.length < 4398046511104 then (dragomanref8_Cut.l0 k1 a0 (x5_1 ++ [(⟨2, bt299.1, x6_1⟩ : S53)]) bt299.2.1) else (none))))) else ((dragomanref8_in.f k1 (bt a0 x6_1) (⟨#[48, 49, 50, 51, 52, 53, 54, 55, 56, 57, 43, 45, 46, 69]⟩ : ByteArray)).bind fun t305 => (if t305 = true then ((dragomanref8_row.f k1 a0 x6_1 (⟨#[48, 49, 50, 51, 52, 53, 54, 55, 56, 57, 43, 45, 46, 101, 69]⟩ : ByteArray)).bind fun t306 => (if x6_1 ≤ (wrap64 (x6_1 + t306)) then (if (wrap64 (x6_1 + t306)) ≤ (a0.size : Int) then ((dragomanref1_Form.f k1 (a0.extract (x6_1 : Int).toNat ((wrap64 (x6_1 + t306)) : Int).toNat)).bind fun bt307 => (if t306 > 400 then (some (([] : List (S53)), 2, x6_1)) else (if bt307.1 = true then (if bt307.2 = true then (some (([] : List (S53)), 6, x6_1)) else (if x5_1.length < 4398046511104 then (dragomanref8_Cut.l0 k1 a0 (x5_1 ++ [(⟨3, a0.extract (x6_1 : Int).toNat ((wrap64 (x6_1 + t306)) : Int).toNat, x6_1⟩ : S53)]) (wrap64 (x6_1 + t306))) else (none))) else (some (([] : List (S53)), 4, x6_1))))) else (none)) else (none))) else ((dragomanref8_row.f k1 a0 x6_1 (⟨#[97, 98, 99, 100, 101, 102, 103, 104, 105, 106, 107, 108, 109, 110, 111, 112, 113, 114, 115, 116, 117, 118, 119, 120, 121, 122]⟩ : ByteArray)).bind fun t312 => (if x6_1 ≤ (wrap64 (x6_1 + t312)) then (if (wrap64 (x6_1 + t312)) ≤ (a0.size : Int) then (if (a0.extract (x6_1 : Int).toNat ((wrap64 (x6_1 + t312)) : Int).toNat).toList = ([116, 114, 117, 101] : List UInt8) then (if x5_1.length < 4398046511104 then (dragomanref8_Cut.l0 k1 a0 (x5_1 ++ [(⟨4, a0.extract (x6_1 : Int).toNat ((wrap64 (x6_1 + t312)) : Int).toNat, x6_1⟩ : S53)]) (wrap64 (x6_1 + t312))) else (none)) else (if (a0.extract (x6_1 : Int).toNat ((wrap64 (x6_1 + t312)) : Int).toNat).toList = ([102, 97, 108, 115, 101] : List UInt8) then (if x5_1.length < 4398046511104 then (dragomanref8_Cut.l0 k1 a0 (x5_1 ++ [(⟨4, a0.extract (x6_1 : Int).toNat ((wrap64 (x6_1 + t312)) : Int).toNat, x6_1⟩ : S53)]) (wrap64 (x6_1 + t312))) else (none)) else (if (a0.extract (x6_1 : Int).toNat ((wrap64 (x6_1 + t312)) : Int).toNat).toList = ([110, 117, 108, 108] : List UInt8) then (if x5_1.length < 4398046511104 then (dragomanref8_Cut.l0 k1 a0 (x5_1 ++ [(⟨4, a0.extract (x6_1 : Int).toNat ((wrap64 (x6_1 + t312)) : Int).toNat, x6_1⟩ : S53)]) (wrap64 (x6_1 + t312))) else (none)) else (some (([] : List (S53)), 4, x6_1))))) else (none)) else (none)))))) = some (r1, r2, r3) := by rw [if_neg (show ¬ (false = true) by decide)] at H; exact H
          clear H
          have H := H1
          clear H1
          by_cases c27 : (bt a0 x6_1) = 34
          ·rw [if_pos c27] at H
           have c27b0 : ((bt a0 x6_1) == 34) = true := beq_iff_eq.mpr c27
           have c27b1 : ((bt a0 x6_1) != 34) = false := bne_eq_false_iff_eq.mpr c27
           clear c27
           replace H := Option.bind_eq_some_iff.mp H
           obtain ⟨⟨t299, t300, t301⟩, A280, H⟩ := H
           replace H : (if t301 ≥ 0 then (some (([] : List (S53)), 4, t301)) else (if (t299.size : Int) > 4096 then (some (([] : List (S53)), 2, x6_1)) else (if x5_1.length < 4398046511104 then (dragomanref8_Cut.l0 k1 a0 (x5_1 ++ [(⟨2, t299, x6_1⟩ : S53)]) t300) else (none)))) = some (r1, r2, r3) := H
           have A28 := Aside0.mk A280
           clear A280
           by_cases c29 : t301 ≥ 0
           ·rw [if_pos c29] at H
            have c29b0 : decide (0 ≤ t301) = true := decide_eq_true c29
            clear c29
            simp only [Option.some.injEq, Prod.mk.injEq] at H
            obtain ⟨rfl, rfl, rfl⟩ := H
            have p17 : 0 ≤ (x6_1 : Int) := of_decide_eq_true (by first | (with_reducible assumption) | assumption)
            have q17 : x6_1 < (a0.size : Int) := of_decide_eq_true (by first | (with_reducible assumption) | assumption)
            have hx17 := bt_at a0 x6_1
            replace p17 := eq_true p17
            replace q17 := eq_true q17
            go_wp2_with (first | ((with_reducible refine gate_callee (f := 49) rfl ?_); refine goesL_ (some 69) rfl rfl Tryd.func49 (by kernel_rfl) rfl #[.int .u8 (bt a0 x6_1), .string (⟨#[32, 9, 10, 13]⟩ : ByteArray)] rfl (by (try simp only [List.map_toArray, List.map_cons, List.map_nil]); first | done | rfl | (simp only [List.length_drop, List.length_take]; rfl)) ?_; (with_reducible refine (dragomanref8_in.calls k1 (bt a0 x6_1) (⟨#[32, 9, 10, 13]⟩ : ByteArray) false _ A18.out).mono ?_); rintro e w' ⟨rfl, ⟨nd, rfl⟩⟩; refine ⟨_, rfl, ?_⟩; (try (rw [drewN_self wr]; generalize hq_ : World.drewN wr _ = wr; have n0_ : Aside0 (Kd.R k53 53 wr w.heap.size (fun _ => True) u5 x5_1) := ⟨by rw [← hq_]; exact (by (with_reducible repeat (first | apply Kd.R_alloc | apply Kd.R_drewN | apply Kd.R_drew)); exact HO_5.out)⟩; have n1_ : Aside0 (wr.heap[gb286]? = some (.cells #[.int .i64 x287000_1, .int .i64 x287001_1] 49 (0, 0))) := ⟨by rw [← hq_]; exact (by (with_reducible repeat (first | refine blk_drewN ?_ _ | refine blk_drew ?_ | refine blk_alloc ?_ _)); exact BK286.out)⟩; have n2_ : Aside0 (Below w.heap.size w wr) := ⟨by rw [← hq_]; exact (by repeat (first | (with_reducible first | exact HB.out | apply below_alloc | apply pw_below_drewN | apply below_drew1 | refine below_set ?_ GE286.out) | exact HB.out))⟩; clear HO_5 BK286 HB hq_; have HO_5 := n0_; have BK286 := n1_; have HB := n2_; clear n0_ n1_ n2_))) | ((with_reducible refine gate_callee (f := 49) rfl ?_); refine goesL_ (some 74) rfl rfl Tryd.func49 (by kernel_rfl) rfl #[.int .u8 (bt a0 x6_1), .string (⟨#[123, 125, 91, 93, 58, 44]⟩ : ByteArray)] rfl (by (try simp only [List.map_toArray, List.map_cons, List.map_nil]); first | done | rfl | (simp only [List.length_drop, List.length_take]; rfl)) ?_; (with_reducible refine (dragomanref8_in.calls k1 (bt a0 x6_1) (⟨#[123, 125, 91, 93, 58, 44]⟩ : ByteArray) false _ A20.out).mono ?_); rintro e w' ⟨rfl, ⟨nd, rfl⟩⟩; refine ⟨_, rfl, ?_⟩; (try (rw [drewN_self wr]; generalize hq_ : World.drewN wr _ = wr; have n0_ : Aside0 (Kd.R k53 53 wr w.heap.size (fun _ => True) u5 x5_1) := ⟨by rw [← hq_]; exact (by (with_reducible repeat (first | apply Kd.R_alloc | apply Kd.R_drewN | apply Kd.R_drew)); exact HO_5.out)⟩; have n1_ : Aside0 (wr.heap[gb286]? = some (.cells #[.int .i64 x287000_1, .int .i64 x287001_1] 49 (0, 0))) := ⟨by rw [← hq_]; exact (by (with_reducible repeat (first | refine blk_drewN ?_ _ | refine blk_drew ?_ | refine blk_alloc ?_ _)); exact BK286.out)⟩; have n2_ : Aside0 (Below w.heap.size w wr) := ⟨by rw [← hq_]; exact (by repeat (first | (with_reducible first | exact HB.out | apply below_alloc | apply pw_below_drewN | apply below_drew1 | refine below_set ?_ GE286.out) | exact HB.out))⟩; clear HO_5 BK286 HB hq_; have HO_5 := n0_; have BK286 := n1_; have HB := n2_; clear n0_ n1_ n2_))) | ((with_reducible refine gate_callee (f := 50) rfl ?_); refine goesL_ (some 93) rfl rfl Tryd.func50 (by kernel_rfl) rfl #[.string a0, .int .i64 x6_1] rfl (by (try simp only [List.map_toArray, List.map_cons, List.map_nil]); first | done | rfl | (simp only [List.length_drop, List.length_take]; rfl)) ?_; (with_reducible refine (dragomanref5_Unquote.calls k1 a0 x6_1 t299 t300 t301 _ A28.out).mono ?_); rintro e w30 ⟨rfl, hb⟩; refine ⟨_, rfl, ?_⟩; have n0_ := Aside0.mk (Kd.R_below (by (with_reducible repeat (first | apply Kd.R_alloc | apply Kd.R_drewN | apply Kd.R_drew)); exact HO_5.out) hb); have n1_ := Aside0.mk (blk_below (g := gb286) (o := .cells #[.int .i64 x287000_1, .int .i64 x287001_1] 49 (0, 0)) (by (with_reducible repeat (first | refine blk_drewN ?_ _ | refine blk_drew ?_ | refine blk_alloc ?_ _)); exact BK286.out) hb); have n2_ := Aside0.mk (below_step (by repeat (first | (with_reducible first | exact HB.out | apply below_alloc | apply pw_below_drewN | apply below_drew1 | refine below_set ?_ GE286.out) | exact HB.out)) hb); clear HO_5; clear BK286; clear HB; have HO_5 := n0_; have BK286 := n1_; have HB := n2_; clear n0_ n1_ n2_; (try clear hb); (try clear hb2); (try clear hk); (try clear hi); have hcz31_0 : w30.cell? ⟨gb286, 0, none⟩ = some (.int .i64 x287000_1) := (blk_cell BK286.out 0).trans rfl; have hcz31_1 : w30.cell? ⟨gb286, 1, none⟩ = some (.int .i64 x287001_1) := (blk_cell BK286.out 1).trans rfl; have hfz31_0 := blk_frozen BK286.out 0; have hfz31_1 := blk_frozen BK286.out 1))
            refine bodyPost_ret (results_tc rfl _ _ gb286 49 #[.int .i64 4, .int .i64 t301] (0, 0) _ rfl (by (with_reducible repeat (first | refine blk_drewN ?_ _ | refine blk_drew ?_ | refine blk_alloc ?_ _)); refine blk_put (cs := #[.int .i64 4, .int .i64 x287001_1]) ?_ 1 _ rfl; (with_reducible repeat (first | refine blk_drewN ?_ _ | refine blk_drew ?_ | refine blk_alloc ?_ _)); refine blk_put (cs := #[.int .i64 x287000_1, .int .i64 x287001_1]) ?_ 0 _ rfl; (with_reducible repeat (first | refine blk_drewN ?_ _ | refine blk_drew ?_ | refine blk_alloc ?_ _)); exact BK286.out) Tryd.underlying49 rfl (by kernel_rfl)) rfl ?_
            exact ⟨_, by first | rfl | (simp [errW_none, errW_some] <;> rfl) | (simp [*, errW_none, errW_some, bne]; done) | (simp [*, errW_none, errW_some] <;> rfl), by first | exact Kd.R_nil _ _ _ _ _ | exact Kd.N_nil _ _ _ _ _ | exact Kd.V_nil _ _ _ _ _ | exact Kd.Q_nil _ _ _ _ _ | exact Kd.S_nil _ _ _ _ _, by repeat (first | (with_reducible first | exact HB.out | apply below_alloc | apply pw_below_drewN | apply below_drew1 | refine below_set ?_ GE286.out) | exact HB.out)⟩
           ·rw [if_neg c29] at H
            have c29b0 : decide (0 ≤ t301) = false := decide_eq_false c29
            clear c29
            by_cases c32 : (t299.size : Int) > 4096
            ·rw [if_pos c32] at H
             have c32b0 : decide (4096 < (t299.size : Int)) = true := decide_eq_true c32
             have c32b1 : decide (4096 < t299.size) = true := decide_eq_true (by omega)
             clear c32
             simp only [Option.some.injEq, Prod.mk.injEq] at H
             obtain ⟨rfl, rfl, rfl⟩ := H
             have p17 : 0 ≤ (x6_1 : Int) := of_decide_eq_true (by first | (with_reducible assumption) | assumption)
             have q17 : x6_1 < (a0.size : Int) := of_decide_eq_true (by first | (with_reducible assumption) | assumption)
             have hx17 := bt_at a0 x6_1
             replace p17 := eq_true p17
             replace q17 := eq_true q17
             go_wp2_with (first | ((with_reducible refine gate_callee (f := 49) rfl ?_); refine goesL_ (some 69) rfl rfl Tryd.func49 (by kernel_rfl) rfl #[.int .u8 (bt a0 x6_1), .string (⟨#[32, 9, 10, 13]⟩ : ByteArray)] rfl (by (try simp only [List.map_toArray, List.map_cons, List.map_nil]); first | done | rfl | (simp only [List.length_drop, List.length_take]; rfl)) ?_; (with_reducible refine (dragomanref8_in.calls k1 (bt a0 x6_1) (⟨#[32, 9, 10, 13]⟩ : ByteArray) false _ A18.out).mono ?_); rintro e w' ⟨rfl, ⟨nd, rfl⟩⟩; refine ⟨_, rfl, ?_⟩; (try (rw [drewN_self wr]; generalize hq_ : World.drewN wr _ = wr; have n0_ : Aside0 (Kd.R k53 53 wr w.heap.size (fun _ => True) u5 x5_1) := ⟨by rw [← hq_]; exact (by (with_reducible repeat (first | apply Kd.R_alloc | apply Kd.R_drewN | apply Kd.R_drew)); exact HO_5.out)⟩; have n1_ : Aside0 (wr.heap[gb286]? = some (.cells #[.int .i64 x287000_1, .int .i64 x287001_1] 49 (0, 0))) := ⟨by rw [← hq_]; exact (by (with_reducible repeat (first | refine blk_drewN ?_ _ | refine blk_drew ?_ | refine blk_alloc ?_ _)); exact BK286.out)⟩; have n2_ : Aside0 (Below w.heap.size w wr) := ⟨by rw [← hq_]; exact (by repeat (first | (with_reducible first | exact HB.out | apply below_alloc | apply pw_below_drewN | apply below_drew1 | refine below_set ?_ GE286.out) | exact HB.out))⟩; clear HO_5 BK286 HB hq_; have HO_5 := n0_; have BK286 := n1_; have HB := n2_; clear n0_ n1_ n2_))) | ((with_reducible refine gate_callee (f := 49) rfl ?_); refine goesL_ (some 74) rfl rfl Tryd.func49 (by kernel_rfl) rfl #[.int .u8 (bt a0 x6_1), .string (⟨#[123, 125, 91, 93, 58, 44]⟩ : ByteArray)] rfl (by (try simp only [List.map_toArray, List.map_cons, List.map_nil]); first | done | rfl | (simp only [List.length_drop, List.length_take]; rfl)) ?_; (with_reducible refine (dragomanref8_in.calls k1 (bt a0 x6_1) (⟨#[123, 125, 91, 93, 58, 44]⟩ : ByteArray) false _ A20.out).mono ?_); rintro e w' ⟨rfl, ⟨nd, rfl⟩⟩; refine ⟨_, rfl, ?_⟩; (try (rw [drewN_self wr]; generalize hq_ : World.drewN wr _ = wr; have n0_ : Aside0 (Kd.R k53 53 wr w.heap.size (fun _ => True) u5 x5_1) := ⟨by rw [← hq_]; exact (by (with_reducible repeat (first | apply Kd.R_alloc | apply Kd.R_drewN | apply Kd.R_drew)); exact HO_5.out)⟩; have n1_ : Aside0 (wr.heap[gb286]? = some (.cells #[.int .i64 x287000_1, .int .i64 x287001_1] 49 (0, 0))) := ⟨by rw [← hq_]; exact (by (with_reducible repeat (first | refine blk_drewN ?_ _ | refine blk_drew ?_ | refine blk_alloc ?_ _)); exact BK286.out)⟩; have n2_ : Aside0 (Below w.heap.size w wr) := ⟨by rw [← hq_]; exact (by repeat (first | (with_reducible first | exact HB.out | apply below_alloc | apply pw_below_drewN | apply below_drew1 | refine below_set ?_ GE286.out) | exact HB.out))⟩; clear HO_5 BK286 HB hq_; have HO_5 := n0_; have BK286 := n1_; have HB := n2_; clear n0_ n1_ n2_))) | ((with_reducible refine gate_callee (f := 50) rfl ?_); refine goesL_ (some 93) rfl rfl Tryd.func50 (by kernel_rfl) rfl #[.string a0, .int .i64 x6_1] rfl (by (try simp only [List.map_toArray, List.map_cons, List.map_nil]); first | done | rfl | (simp only [List.length_drop, List.length_take]; rfl)) ?_; (with_reducible refine (dragomanref5_Unquote.calls k1 a0 x6_1 t299 t300 t301 _ A28.out).mono ?_); rintro e w33 ⟨rfl, hb⟩; refine ⟨_, rfl, ?_⟩; have n0_ := Aside0.mk (Kd.R_below (by (with_reducible repeat (first | apply Kd.R_alloc | apply Kd.R_drewN | apply Kd.R_drew)); exact HO_5.out) hb); have n1_ := Aside0.mk (blk_below (g := gb286) (o := .cells #[.int .i64 x287000_1, .int .i64 x287001_1] 49 (0, 0)) (by (with_reducible repeat (first | refine blk_drewN ?_ _ | refine blk_drew ?_ | refine blk_alloc ?_ _)); exact BK286.out) hb); have n2_ := Aside0.mk (below_step (by repeat (first | (with_reducible first | exact HB.out | apply below_alloc | apply pw_below_drewN | apply below_drew1 | refine below_set ?_ GE286.out) | exact HB.out)) hb); clear HO_5; clear BK286; clear HB; have HO_5 := n0_; have BK286 := n1_; have HB := n2_; clear n0_ n1_ n2_; (try clear hb); (try clear hb2); (try clear hk); (try clear hi); have hcz34_0 : w33.cell? ⟨gb286, 0, none⟩ = some (.int .i64 x287000_1) := (blk_cell BK286.out 0).trans rfl; have hcz34_1 : w33.cell? ⟨gb286, 1, none⟩ = some (.int .i64 x287001_1) := (blk_cell BK286.out 1).trans rfl; have hfz34_0 := blk_frozen BK286.out 0; have hfz34_1 := blk_frozen BK286.out 1))
             refine bodyPost_ret (results_tc rfl _ _ gb286 49 #[.int .i64 2, .int .i64 x6_1] (0, 0) _ rfl (by (with_reducible repeat (first | refine blk_drewN ?_ _ | refine blk_drew ?_ | refine blk_alloc ?_ _)); refine blk_put (cs := #[.int .i64 2, .int .i64 x287001_1]) ?_ 1 _ rfl; (with_reducible repeat (first | refine blk_drewN ?_ _ | refine blk_drew ?_ | refine blk_alloc ?_ _)); refine blk_put (cs := #[.int .i64 x287000_1, .int .i64 x287001_1]) ?_ 0 _ rfl; (with_reducible repeat (first | refine blk_drewN ?_ _ | refine blk_drew ?_ | refine blk_alloc ?_ _)); exact BK286.out) Tryd.underlying49 rfl (by kernel_rfl)) rfl ?_
             exact ⟨_, by first | rfl | (simp [errW_none, errW_some] <;> rfl) | (simp [*, errW_none, errW_some, bne]; done) | (simp [*, errW_none, errW_some] <;> rfl), by first | exact Kd.R_nil _ _ _ _ _ | exact Kd.N_nil _ _ _ _ _ | exact Kd.V_nil _ _ _ _ _ | exact Kd.Q_nil _ _ _ _ _ | exact Kd.S_nil _ _ _ _ _, by repeat (first | (with_reducible first | exact HB.out | apply below_alloc | apply pw_below_drewN | apply below_drew1 | refine below_set ?_ GE286.out) | exact HB.out)⟩
            ·rw [if_neg c32] at H
             have c32b0 : decide (4096 < (t299.size : Int)) = false := decide_eq_false c32
             have c32b1 : decide (4096 < t299.size) = false := decide_eq_false (by omega)
             clear c32
             by_cases c35 : x5_1.length < 4398046511104
             ·rw [if_pos c35] at H
              have LMc35 := Aside0.mk c35
              clear c35
              obtain ⟨y302, hy302⟩ : ∃ y_ : List (S53), y_ = (x5_1 ++ [(⟨2, t299, x6_1⟩ : S53)]) := ⟨_, rfl⟩
              replace H : (dragomanref8_Cut.l0 k1 a0 y302 t300) = some (r1, r2, r3) := by first | (rw [hy302]; with_reducible exact H) | (have H2_ := (Option.bind_some _ _).symm.trans H; rw [hy302]; with_reducible exact H2_) | (have H2_ := (Option.bind_some _ _).symm.trans H; with_reducible exact H2_) | with_reducible exact H | (rw [hy302]; exact H) | exact H
              have Ny302 := Aside0.mk hy302
              clear hy302
              have H' := Aside0.mk H
              clear H
              have p17 : 0 ≤ (x6_1 : Int) := of_decide_eq_true (by first | (with_reducible assumption) | assumption)
              have q17 : x6_1 < (a0.size : Int) := of_decide_eq_true (by first | (with_reducible assumption) | assumption)
              have hx17 := bt_at a0 x6_1
              replace p17 := eq_true p17
              replace q17 := eq_true q17
              go_wp2_with (first | ((with_reducible refine gate_callee (f := 49) rfl ?_); refine goesL_ (some 69) rfl rfl Tryd.func49 (by kernel_rfl) rfl #[.int .u8 (bt a0 x6_1), .string (⟨#[32, 9, 10, 13]⟩ : ByteArray)] rfl (by (try simp only [List.map_toArray, List.map_cons, List.map_nil]); first | done | rfl | (simp only [List.length_drop, List.length_take]; rfl)) ?_; (with_reducible refine (dragomanref8_in.calls k1 (bt a0 x6_1) (⟨#[32, 9, 10, 13]⟩ : ByteArray) false _ A18.out).mono ?_); rintro e w' ⟨rfl, ⟨nd, rfl⟩⟩; refine ⟨_, rfl, ?_⟩) | ((with_reducible refine gate_callee (f := 49) rfl ?_); refine goesL_ (some 74) rfl rfl Tryd.func49 (by kernel_rfl) rfl #[.int .u8 (bt a0 x6_1), .string (⟨#[123, 125, 91, 93, 58, 44]⟩ : ByteArray)] rfl (by (try simp only [List.map_toArray, List.map_cons, List.map_nil]); first | done | rfl | (simp only [List.length_drop, List.length_take]; rfl)) ?_; (with_reducible refine (dragomanref8_in.calls k1 (bt a0 x6_1) (⟨#[123, 125, 91, 93, 58, 44]⟩ : ByteArray) false _ A20.out).mono ?_); rintro e w' ⟨rfl, ⟨nd, rfl⟩⟩; refine ⟨_, rfl, ?_⟩) | ((with_reducible refine gate_callee (f := 50) rfl ?_); refine goesL_ (some 93) rfl rfl Tryd.func50 (by kernel_rfl) rfl #[.string a0, .int .i64 x6_1] rfl (by (try simp only [List.map_toArray, List.map_cons, List.map_nil]); first | done | rfl | (simp only [List.length_drop, List.length_take]; rfl)) ?_; (with_reducible refine (dragomanref5_Unquote.calls k1 a0 x6_1 t299 t300 t301 _ A28.out).mono ?_); rintro e w36 ⟨rfl, hb⟩; refine ⟨_, rfl, ?_⟩; have n0_ := Aside0.mk (Kd.R_below (by (with_reducible repeat (first | apply Kd.R_alloc | apply Kd.R_drewN | apply Kd.R_drew)); exact HO_5.out) hb); have n1_ := Aside0.mk (blk_below (g := gb286) (o := .cells #[.int .i64 x287000_1, .int .i64 x287001_1] 49 (0, 0)) (by (with_reducible repeat (first | refine blk_drewN ?_ _ | refine blk_drew ?_ | refine blk_alloc ?_ _)); exact BK286.out) hb); have n2_ := Aside0.mk (below_step (by repeat (first | (with_reducible first | exact HB.out | apply below_alloc | apply pw_below_drewN | apply below_drew1 | refine below_set ?_ GE286.out) | exact HB.out)) hb); clear HO_5; clear BK286; clear HB; have HO_5 := n0_; have BK286 := n1_; have HB := n2_; clear n0_ n1_ n2_; (try clear hb); (try clear hb2); (try clear hk); (try clear hi)) | ((with_reducible refine gate_builtin (b := .append) (xs := #[.tmp 106, .tmp 110]) rfl ?_); at_builtin; refine Kd.R_append k53 (w0 := w) w.heap.size rfl (.tmp 106) (.tmp 110) 47 53 (.agg #[(.int .i64 0), (.string ⟨#[]⟩), (.int .i64 0)]) 32 rfl Tryd.underlying47 info53 rfl (by decide) (by omega) u5 x5_1 (⟨2, t299, x6_1⟩ : S53) [.int .i64 2, .string t299, .int .i64 x6_1] (fun _ => True) (fun _ => False) rfl rfl ?aP (fun _ hk => hk.elim) ?aF ?aO ?aB ?aS ?aL ?_; (case aP => exact k53_mkM _ _ _ (⟨2, t299, x6_1⟩ : S53)); (case aB => exact (by repeat (first | (with_reducible first | exact HB.out | apply below_alloc | apply pw_below_drewN | apply below_drew1 | refine below_set ?_ GE286.out) | exact HB.out))); (case aF => exact (fun _ _ => trivial)); (case aO => exact (by (with_reducible repeat (first | apply Kd.R_alloc | apply Kd.R_drewN | apply Kd.R_drew)); exact HO_5.out)); (case aS => exact (below_size (by repeat (first | (with_reducible first | exact HB.out | apply below_alloc | apply pw_below_drewN | apply below_drew1 | refine below_set ?_ GE286.out) | exact HB.out)))); (case aL => have := LMc35.out; omega); intro v303 w37 ho hb hg hat; rw [← Ny302.out] at ho; have n0_ := Aside0.mk (blk_grown (g := gb286) (o := .cells #[.int .i64 x287000_1, .int .i64 x287001_1] 49 (0, 0)) (by (with_reducible repeat (first | refine blk_drewN ?_ _ | refine blk_drew ?_ | refine blk_alloc ?_ _)); exact BK286.out) hg (Kd.R_ne HO_5.out BK286.out (by decide))); have n1_ := Aside0.mk (hb); have n2_ := Aside0.mk (ho); clear BK286; clear HB; clear HO_5; have BK286 := n0_; have HB := n1_; have HO304 := n2_; clear n0_ n1_ n2_; clear ho hb hg hat))
              go_roundg k1
              case measure => have := HK1.out; omega
              case rel => exact ⟨(y302), (t300), (x287000_1), (x287001_1), (by first | rfl | (simp; done) | (simp [*]; done)), H', ⟨by have := HK1.out; omega⟩, ⟨by (with_reducible repeat (first | apply Kd.R_alloc | apply Kd.R_drewN | apply Kd.R_drew)); exact HO304.out⟩, ⟨by (with_reducible repeat (first | refine blk_drewN ?_ _ | refine blk_drew ?_ | refine blk_alloc ?_ _)); exact BK286.out⟩, ⟨by repeat (first | (with_reducible first | exact HB.out | apply below_alloc | apply pw_below_drewN | apply below_drew1 | refine below_set ?_ GE286.out) | exact HB.out)⟩⟩
             ·rw [if_neg c35] at H
              exact absurd H (by simp)
          ·rw [if_neg c27] at H
           have c27b0 : ((bt a0 x6_1) == 34) = false := beq_eq_false_iff_ne.mpr c27
           have c27b1 : ((bt a0 x6_1) != 34) = true := bne_iff_ne.mpr c27
           replace H := Option.bind_eq_some_iff.mp H
           obtain ⟨t305, A380, H⟩ := H
           replace H : (if t305 = true then ((dragomanref8_row.f k1 a0 x6_1 (⟨#[48, 49, 50, 51, 52, 53, 54, 55, 56, 57, 43, 45, 46, 101, 69]⟩ : ByteArray)).bind fun t306 => (if x6_1 ≤ (wrap64 (x6_1 + t306)) then (if (wrap64 (x6_1 + t306)) ≤ (a0.size : Int) then ((dragomanref1_Form.f k1 (a0.extract (x6_1 : Int).toNat ((wrap64 (x6_1 + t306)) : Int).toNat)).bind fun bt307 => (if t306 > 400 then (some (([] : List (S53)), 2, x6_1)) else (if bt307.1 = true then (if bt307.2 = true then (some (([] : List (S53)), 6, x6_1)) else (if x5_1.length < 4398046511104 then (dragomanref8_Cut.l0 k1 a0 (x5_1 ++ [(⟨3, a0.extract (x6_1 : Int).toNat ((wrap64 (x6_1 + t306)) : Int).toNat, x6_1⟩ : S53)]) (wrap64 (x6_1 + t306))) else (none))) else (some (([] : List (S53)), 4, x6_1))))) else (none)) else (none))) else ((dragomanref8_row.f k1 a0 x6_1 (⟨#[97, 98, 99, 100, 101, 102, 103, 104, 105, 106, 107, 108, 109, 110, 111, 112, 113, 114, 115, 116, 117, 118, 119, 120, 121, 122]⟩ : ByteArray)).bind fun t312 => (if x6_1 ≤ (wrap64 (x6_1 + t312)) then (if (wrap64 (x6_1 + t312)) ≤ (a0.size : Int) then (if (a0.extract (x6_1 : Int).toNat ((wrap64 (x6_1 + t312)) : Int).toNat).toList = ([116, 114, 117, 101] : List UInt8) then (if x5_1.length < 4398046511104 then (dragomanref8_Cut.l0 k1 a0 (x5_1 ++ [(⟨4, a0.extract (x6_1 : Int).toNat ((wrap64 (x6_1 + t312)) : Int).toNat, x6_1⟩ : S53)]) (wrap64 (x6_1 + t312))) else (none)) else (if (a0.extract (x6_1 : Int).toNat ((wrap64 (x6_1 + t312)) : Int).toNat).toList = ([102, 97, 108, 115, 101] : List UInt8) then (if x5_1.length < 4398046511104 then (dragomanref8_Cut.l0 k1 a0 (x5_1 ++ [(⟨4, a0.extract (x6_1 : Int).toNat ((wrap64 (x6_1 + t312)) : Int).toNat, x6_1⟩ : S53)]) (wrap64 (x6_1 + t312))) else (none)) else (if (a0.extract (x6_1 : Int).toNat ((wrap64 (x6_1 + t312)) : Int).toNat).toList = ([110, 117, 108, 108] : List UInt8) then (if x5_1.length < 4398046511104 then (dragomanref8_Cut.l0 k1 a0 (x5_1 ++ [(⟨4, a0.extract (x6_1 : Int).toNat ((wrap64 (x6_1 + t312)) : Int).toNat, x6_1⟩ : S53)]) (wrap64 (x6_1 + t312))) else (none)) else (some (([] : List (S53)), 4, x6_1))))) else (none)) else (none)))) = some (r1, r2, r3) := H
           have A38 := Aside0.mk A380
           clear A380
           by_cases c39 : t305 = true
           ·subst c39
            have H1 : ((dragomanref8_row.f k1 a0 x6_1 (⟨#[48, 49, 50, 51, 52, 53, 54, 55, 56, 57, 43, 45, 46, 101, 69]⟩ : ByteArray)).bind fun t306 => (if x6_1 ≤ (wrap64 (x6_1 + t306)) then (if (wrap64 (x6_1 + t306)) ≤ (a0.size : Int) then ((dragomanref1_Form.f k1 (a0.extract (x6_1 : Int).toNat ((wrap64 (x6_1 + t306)) : Int).toNat)).bind fun bt307 => (if t306 > 400 then (some (([] : List (S53)), 2, x6_1)) else (if bt307.1 = true then (if bt307.2 = true then (some (([] : List (S53)), 6, x6_1)) else (if x5_1.length < 4398046511104 then (dragomanref8_Cut.l0 k1 a0 (x5_1 ++ [(⟨3, a0.extract (x6_1 : Int).toNat ((wrap64 (x6_1 + t306)) : Int).toNat, x6_1⟩ : S53)]) (wrap64 (x6_1 + t306))) else (none))) else (some (([] : List (S53)), 4, x6_1))))) else (none)) else (none))) = some (r1, r2, r3) := by rw [if_pos rfl] at H; exact H
            clear H
            have H := H1
            clear H1
            replace H := Option.bind_eq_some_iff.mp H
            obtain ⟨t306, A400, H⟩ := H
            replace H : (if x6_1 ≤ (wrap64 (x6_1 + t306)) then (if (wrap64 (x6_1 + t306)) ≤ (a0.size : Int) then ((dragomanref1_Form.f k1 (a0.extract (x6_1 : Int).toNat ((wrap64 (x6_1 + t306)) : Int).toNat)).bind fun bt307 => (if t306 > 400 then (some (([] : List (S53)), 2, x6_1)) else (if bt307.1 = true then (if bt307.2 = true then (some (([] : List (S53)), 6, x6_1)) else (if x5_1.length < 4398046511104 then (dragomanref8_Cut.l0 k1 a0 (x5_1 ++ [(⟨3, a0.extract (x6_1 : Int).toNat ((wrap64 (x6_1 + t306)) : Int).toNat, x6_1⟩ : S53)]) (wrap64 (x6_1 + t306))) else (none))) else (some (([] : List (S53)), 4, x6_1))))) else (none)) else (none)) = some (r1, r2, r3) := H
            have A40 := Aside0.mk A400
            clear A400
            have c41b0 := eq_true (of_decide_eq_true (by first | (with_reducible assumption) | assumption) : 0 ≤ x6_1)
            by_cases c42 : x6_1 ≤ (wrap64 (x6_1 + t306))
            ·rw [if_pos c42] at H
             have c42b0 := eq_true c42
             have c42b1 : decide (x6_1 ≤ (wrap64 (x6_1 + t306))) = true := decide_eq_true c42
             by_cases c43 : (wrap64 (x6_1 + t306)) ≤ (a0.size : Int)
             ·rw [if_pos c43] at H
              have c43b0 := eq_true c43
              have c43b1 : decide ((wrap64 (x6_1 + t306)) ≤ (a0.size : Int)) = true := decide_eq_true c43
              replace H := Option.bind_eq_some_iff.mp H
              obtain ⟨⟨t307, t308⟩, A440, H⟩ := H
              replace H : (if t306 > 400 then (some (([] : List (S53)), 2, x6_1)) else (if t307 = true then (if t308 = true then (some (([] : List (S53)), 6, x6_1)) else (if x5_1.length < 4398046511104 then (dragomanref8_Cut.l0 k1 a0 (x5_1 ++ [(⟨3, a0.extract (x6_1 : Int).toNat ((wrap64 (x6_1 + t306)) : Int).toNat, x6_1⟩ : S53)]) (wrap64 (x6_1 + t306))) else (none))) else (some (([] : List (S53)), 4, x6_1)))) = some (r1, r2, r3) := H
              have A44 := Aside0.mk A440
              clear A440
              by_cases c45 : t306 > 400
              ·rw [if_pos c45] at H
               have c45b0 : decide (400 < t306) = true := decide_eq_true c45
               clear c45
               simp only [Option.some.injEq, Prod.mk.injEq] at H
               obtain ⟨rfl, rfl, rfl⟩ := H
               have p17 : 0 ≤ (x6_1 : Int) := of_decide_eq_true (by first | (with_reducible assumption) | assumption)
               have q17 : x6_1 < (a0.size : Int) := of_decide_eq_true (by first | (with_reducible assumption) | assumption)
               have hx17 := bt_at a0 x6_1
               replace p17 := eq_true p17
               replace q17 := eq_true q17
               go_wp2_with (first | ((with_reducible refine gate_callee (f := 49) rfl ?_); refine goesL_ (some 69) rfl rfl Tryd.func49 (by kernel_rfl) rfl #[.int .u8 (bt a0 x6_1), .string (⟨#[32, 9, 10, 13]⟩ : ByteArray)] rfl (by (try simp only [List.map_toArray, List.map_cons, List.map_nil]); first | done | rfl | (simp only [List.length_drop, List.length_take]; rfl)) ?_; (with_reducible refine (dragomanref8_in.calls k1 (bt a0 x6_1) (⟨#[32, 9, 10, 13]⟩ : ByteArray) false _ A18.out).mono ?_); rintro e w' ⟨rfl, ⟨nd, rfl⟩⟩; refine ⟨_, rfl, ?_⟩; (try (rw [drewN_self wr]; generalize hq_ : World.drewN wr _ = wr; have n0_ : Aside0 (Kd.R k53 53 wr w.heap.size (fun _ => True) u5 x5_1) := ⟨by rw [← hq_]; exact (by (with_reducible repeat (first | apply Kd.R_alloc | apply Kd.R_drewN | apply Kd.R_drew)); exact HO_5.out)⟩; have n1_ : Aside0 (wr.heap[gb286]? = some (.cells #[.int .i64 x287000_1, .int .i64 x287001_1] 49 (0, 0))) := ⟨by rw [← hq_]; exact (by (with_reducible repeat (first | refine blk_drewN ?_ _ | refine blk_drew ?_ | refine blk_alloc ?_ _)); exact BK286.out)⟩; have n2_ : Aside0 (Below w.heap.size w wr) := ⟨by rw [← hq_]; exact (by repeat (first | (with_reducible first | exact HB.out | apply below_alloc | apply pw_below_drewN | apply below_drew1 | refine below_set ?_ GE286.out) | exact HB.out))⟩; clear HO_5 BK286 HB hq_; have HO_5 := n0_; have BK286 := n1_; have HB := n2_; clear n0_ n1_ n2_))) | ((with_reducible refine gate_callee (f := 49) rfl ?_); refine goesL_ (some 74) rfl rfl Tryd.func49 (by kernel_rfl) rfl #[.int .u8 (bt a0 x6_1), .string (⟨#[123, 125, 91, 93, 58, 44]⟩ : ByteArray)] rfl (by (try simp only [List.map_toArray, List.map_cons, List.map_nil]); first | done | rfl | (simp only [List.length_drop, List.length_take]; rfl)) ?_; (with_reducible refine (dragomanref8_in.calls k1 (bt a0 x6_1) (⟨#[123, 125, 91, 93, 58, 44]⟩ : ByteArray) false _ A20.out).mono ?_); rintro e w' ⟨rfl, ⟨nd, rfl⟩⟩; refine ⟨_, rfl, ?_⟩; (try (rw [drewN_self wr]; generalize hq_ : World.drewN wr _ = wr; have n0_ : Aside0 (Kd.R k53 53 wr w.heap.size (fun _ => True) u5 x5_1) := ⟨by rw [← hq_]; exact (by (with_reducible repeat (first | apply Kd.R_alloc | apply Kd.R_drewN | apply Kd.R_drew)); exact HO_5.out)⟩; have n1_ : Aside0 (wr.heap[gb286]? = some (.cells #[.int .i64 x287000_1, .int .i64 x287001_1] 49 (0, 0))) := ⟨by rw [← hq_]; exact (by (with_reducible repeat (first | refine blk_drewN ?_ _ | refine blk_drew ?_ | refine blk_alloc ?_ _)); exact BK286.out)⟩; have n2_ : Aside0 (Below w.heap.size w wr) := ⟨by rw [← hq_]; exact (by repeat (first | (with_reducible first | exact HB.out | apply below_alloc | apply pw_below_drewN | apply below_drew1 | refine below_set ?_ GE286.out) | exact HB.out))⟩; clear HO_5 BK286 HB hq_; have HO_5 := n0_; have BK286 := n1_; have HB := n2_; clear n0_ n1_ n2_))) | ((with_reducible refine gate_callee (f := 49) rfl ?_); refine goesL_ (some 115) rfl rfl Tryd.func49 (by kernel_rfl) rfl #[.int .u8 (bt a0 x6_1), .string (⟨#[48, 49, 50, 51, 52, 53, 54, 55, 56, 57, 43, 45, 46, 69]⟩ : ByteArray)] rfl (by (try simp only [List.map_toArray, List.map_cons, List.map_nil]); first | done | rfl | (simp only [List.length_drop, List.length_take]; rfl)) ?_; (with_reducible refine (dragomanref8_in.calls k1 (bt a0 x6_1) (⟨#[48, 49, 50, 51, 52, 53, 54, 55, 56, 57, 43, 45, 46, 69]⟩ : ByteArray) true _ A38.out).mono ?_); rintro e w' ⟨rfl, ⟨nd, rfl⟩⟩; refine ⟨_, rfl, ?_⟩; (try (rw [drewN_self wr]; generalize hq_ : World.drewN wr _ = wr; have n0_ : Aside0 (Kd.R k53 53 wr w.heap.size (fun _ => True) u5 x5_1) := ⟨by rw [← hq_]; exact (by (with_reducible repeat (first | apply Kd.R_alloc | apply Kd.R_drewN | apply Kd.R_drew)); exact HO_5.out)⟩; have n1_ : Aside0 (wr.heap[gb286]? = some (.cells #[.int .i64 x287000_1, .int .i64 x287001_1] 49 (0, 0))) := ⟨by rw [← hq_]; exact (by (with_reducible repeat (first | refine blk_drewN ?_ _ | refine blk_drew ?_ | refine blk_alloc ?_ _)); exact BK286.out)⟩; have n2_ : Aside0 (Below w.heap.size w wr) := ⟨by rw [← hq_]; exact (by repeat (first | (with_reducible first | exact HB.out | apply below_alloc | apply pw_below_drewN | apply below_drew1 | refine below_set ?_ GE286.out) | exact HB.out))⟩; clear HO_5 BK286 HB hq_; have HO_5 := n0_; have BK286 := n1_; have HB := n2_; clear n0_ n1_ n2_))) | ((with_reducible refine gate_callee (f := 51) rfl ?_); refine goesL_ (some 118) rfl rfl Tryd.func51 (by kernel_rfl) rfl #[.string a0, .int .i64 x6_1, .string (⟨#[48, 49, 50, 51, 52, 53, 54, 55, 56, 57, 43, 45, 46, 101, 69]⟩ : ByteArray)] rfl (by (try simp only [List.map_toArray, List.map_cons, List.map_nil]); first | done | rfl | (simp only [List.length_drop, List.length_take]; rfl)) ?_; (with_reducible refine (dragomanref8_row.calls k1 a0 x6_1 (⟨#[48, 49, 50, 51, 52, 53, 54, 55, 56, 57, 43, 45, 46, 101, 69]⟩ : ByteArray) t306 _ A40.out).mono ?_); rintro e w' ⟨rfl, ⟨nd, rfl⟩⟩; refine ⟨_, rfl, ?_⟩; (try (rw [drewN_self wr]; generalize hq_ : World.drewN wr _ = wr; have n0_ : Aside0 (Kd.R k53 53 wr w.heap.size (fun _ => True) u5 x5_1) := ⟨by rw [← hq_]; exact (by (with_reducible repeat (first | apply Kd.R_alloc | apply Kd.R_drewN | apply Kd.R_drew)); exact HO_5.out)⟩; have n1_ : Aside0 (wr.heap[gb286]? = some (.cells #[.int .i64 x287000_1, .int .i64 x287001_1] 49 (0, 0))) := ⟨by rw [← hq_]; exact (by (with_reducible repeat (first | refine blk_drewN ?_ _ | refine blk_drew ?_ | refine blk_alloc ?_ _)); exact BK286.out)⟩; have n2_ : Aside0 (Below w.heap.size w wr) := ⟨by rw [← hq_]; exact (by repeat (first | (with_reducible first | exact HB.out | apply below_alloc | apply pw_below_drewN | apply below_drew1 | refine below_set ?_ GE286.out) | exact HB.out))⟩; clear HO_5 BK286 HB hq_; have HO_5 := n0_; have BK286 := n1_; have HB := n2_; clear n0_ n1_ n2_))) | ((with_reducible refine gate_callee (f := 14) rfl ?_); refine goesL_ (some 127) rfl rfl Tryd.func14 (by kernel_rfl) rfl #[.string (a0.extract (x6_1 : Int).toNat ((wrap64 (x6_1 + t306)) : Int).toNat)] rfl (by (try simp only [List.map_toArray, List.map_cons, List.map_nil]); first | done | rfl | (simp only [List.length_drop, List.length_take]; rfl)) ?_; (with_reducible refine (dragomanref1_Form.calls k1 (a0.extract (x6_1 : Int).toNat ((wrap64 (x6_1 + t306)) : Int).toNat) t307 t308 _ A44.out).mono ?_); rintro e w' ⟨rfl, ⟨nd, rfl⟩⟩; refine ⟨_, rfl, ?_⟩; (try (rw [drewN_self wr]; generalize hq_ : World.drewN wr _ = wr; have n0_ : Aside0 (Kd.R k53 53 wr w.heap.size (fun _ => True) u5 x5_1) := ⟨by rw [← hq_]; exact (by (with_reducible repeat (first | apply Kd.R_alloc | apply Kd.R_drewN | apply Kd.R_drew)); exact HO_5.out)⟩; have n1_ : Aside0 (wr.heap[gb286]? = some (.cells #[.int .i64 x287000_1, .int .i64 x287001_1] 49 (0, 0))) := ⟨by rw [← hq_]; exact (by (with_reducible repeat (first | refine blk_drewN ?_ _ | refine blk_drew ?_ | refine blk_alloc ?_ _)); exact BK286.out)⟩; have n2_ : Aside0 (Below w.heap.size w wr) := ⟨by rw [← hq_]; exact (by repeat (first | (with_reducible first | exact HB.out | apply below_alloc | apply pw_below_drewN | apply below_drew1 | refine below_set ?_ GE286.out) | exact HB.out))⟩; clear HO_5 BK286 HB hq_; have HO_5 := n0_; have BK286 := n1_; have HB := n2_; clear n0_ n1_ n2_)); have hcz46_0 : wr.cell? ⟨gb286, 0, none⟩ = some (.int .i64 x287000_1) := (blk_cell BK286.out 0).trans rfl; have hcz46_1 : wr.cell? ⟨gb286, 1, none⟩ = some (.int .i64 x287001_1) := (blk_cell BK286.out 1).trans rfl; have hfz46_0 := blk_frozen BK286.out 0; have hfz46_1 := blk_frozen BK286.out 1))
               refine bodyPost_ret (results_tc rfl _ _ gb286 49 #[.int .i64 2, .int .i64 x6_1] (0, 0) _ rfl (by (with_reducible repeat (first | refine blk_drewN ?_ _ | refine blk_drew ?_ | refine blk_alloc ?_ _)); refine blk_put (cs := #[.int .i64 2, .int .i64 x287001_1]) ?_ 1 _ rfl; (with_reducible repeat (first | refine blk_drewN ?_ _ | refine blk_drew ?_ | refine blk_alloc ?_ _)); refine blk_put (cs := #[.int .i64 x287000_1, .int .i64 x287001_1]) ?_ 0 _ rfl; (with_reducible repeat (first | refine blk_drewN ?_ _ | refine blk_drew ?_ | refine blk_alloc ?_ _)); exact BK286.out) Tryd.underlying49 rfl (by kernel_rfl)) rfl ?_
               exact ⟨_, by first | rfl | (simp [errW_none, errW_some] <;> rfl) | (simp [*, errW_none, errW_some, bne]; done) | (simp [*, errW_none, errW_some] <;> rfl), by first | exact Kd.R_nil _ _ _ _ _ | exact Kd.N_nil _ _ _ _ _ | exact Kd.V_nil _ _ _ _ _ | exact Kd.Q_nil _ _ _ _ _ | exact Kd.S_nil _ _ _ _ _, by repeat (first | (with_reducible first | exact HB.out | apply below_alloc | apply pw_below_drewN | apply below_drew1 | refine below_set ?_ GE286.out) | exact HB.out)⟩
              ·rw [if_neg c45] at H
               have c45b0 : decide (400 < t306) = false := decide_eq_false c45
               clear c45
               by_cases c47 : t307 = true
               ·subst c47
                have H1 : (if t308 = true then (some (([] : List (S53)), 6, x6_1)) else (if x5_1.length < 4398046511104 then (dragomanref8_Cut.l0 k1 a0 (x5_1 ++ [(⟨3, a0.extract (x6_1 : Int).toNat ((wrap64 (x6_1 + t306)) : Int).toNat, x6_1⟩ : S53)]) (wrap64 (x6_1 + t306))) else (none))) = some (r1, r2, r3) := by rw [if_pos rfl] at H; exact H
                clear H
                have H := H1
                clear H1
                by_cases c48 : t308 = true
                ·subst c48
                 have H1 : (some (([] : List (S53)), 6, x6_1)) = some (r1, r2, r3) := by rw [if_pos rfl] at H; exact H
                 clear H
                 have H := H1
                 clear H1
                 simp only [Option.some.injEq, Prod.mk.injEq] at H
                 obtain ⟨rfl, rfl, rfl⟩ := H
                 have p17 : 0 ≤ (x6_1 : Int) := of_decide_eq_true (by first | (with_reducible assumption) | assumption)
                 have q17 : x6_1 < (a0.size : Int) := of_decide_eq_true (by first | (with_reducible assumption) | assumption)
                 have hx17 := bt_at a0 x6_1
                 replace p17 := eq_true p17
                 replace q17 := eq_true q17
                 go_wp2_with (first | ((with_reducible refine gate_callee (f := 49) rfl ?_); refine goesL_ (some 69) rfl rfl Tryd.func49 (by kernel_rfl) rfl #[.int .u8 (bt a0 x6_1), .string (⟨#[32, 9, 10, 13]⟩ : ByteArray)] rfl (by (try simp only [List.map_toArray, List.map_cons, List.map_nil]); first | done | rfl | (simp only [List.length_drop, List.length_take]; rfl)) ?_; (with_reducible refine (dragomanref8_in.calls k1 (bt a0 x6_1) (⟨#[32, 9, 10, 13]⟩ : ByteArray) false _ A18.out).mono ?_); rintro e w' ⟨rfl, ⟨nd, rfl⟩⟩; refine ⟨_, rfl, ?_⟩; (try (rw [drewN_self wr]; generalize hq_ : World.drewN wr _ = wr; have n0_ : Aside0 (Kd.R k53 53 wr w.heap.size (fun _ => True) u5 x5_1) := ⟨by rw [← hq_]; exact (by (with_reducible repeat (first | apply Kd.R_alloc | apply Kd.R_drewN | apply Kd.R_drew)); exact HO_5.out)⟩; have n1_ : Aside0 (wr.heap[gb286]? = some (.cells #[.int .i64 x287000_1, .int .i64 x287001_1] 49 (0, 0))) := ⟨by rw [← hq_]; exact (by (with_reducible repeat (first | refine blk_drewN ?_ _ | refine blk_drew ?_ | refine blk_alloc ?_ _)); exact BK286.out)⟩; have n2_ : Aside0 (Below w.heap.size w wr) := ⟨by rw [← hq_]; exact (by repeat (first | (with_reducible first | exact HB.out | apply below_alloc | apply pw_below_drewN | apply below_drew1 | refine below_set ?_ GE286.out) | exact HB.out))⟩; clear HO_5 BK286 HB hq_; have HO_5 := n0_; have BK286 := n1_; have HB := n2_; clear n0_ n1_ n2_))) | ((with_reducible refine gate_callee (f := 49) rfl ?_); refine goesL_ (some 74) rfl rfl Tryd.func49 (by kernel_rfl) rfl #[.int .u8 (bt a0 x6_1), .string (⟨#[123, 125, 91, 93, 58, 44]⟩ : ByteArray)] rfl (by (try simp only [List.map_toArray, List.map_cons, List.map_nil]); first | done | rfl | (simp only [List.length_drop, List.length_take]; rfl)) ?_; (with_reducible refine (dragomanref8_in.calls k1 (bt a0 x6_1) (⟨#[123, 125, 91, 93, 58, 44]⟩ : ByteArray) false _ A20.out).mono ?_); rintro e w' ⟨rfl, ⟨nd, rfl⟩⟩; refine ⟨_, rfl, ?_⟩; (try (rw [drewN_self wr]; generalize hq_ : World.drewN wr _ = wr; have n0_ : Aside0 (Kd.R k53 53 wr w.heap.size (fun _ => True) u5 x5_1) := ⟨by rw [← hq_]; exact (by (with_reducible repeat (first | apply Kd.R_alloc | apply Kd.R_drewN | apply Kd.R_drew)); exact HO_5.out)⟩; have n1_ : Aside0 (wr.heap[gb286]? = some (.cells #[.int .i64 x287000_1, .int .i64 x287001_1] 49 (0, 0))) := ⟨by rw [← hq_]; exact (by (with_reducible repeat (first | refine blk_drewN ?_ _ | refine blk_drew ?_ | refine blk_alloc ?_ _)); exact BK286.out)⟩; have n2_ : Aside0 (Below w.heap.size w wr) := ⟨by rw [← hq_]; exact (by repeat (first | (with_reducible first | exact HB.out | apply below_alloc | apply pw_below_drewN | apply below_drew1 | refine below_set ?_ GE286.out) | exact HB.out))⟩; clear HO_5 BK286 HB hq_; have HO_5 := n0_; have BK286 := n1_; have HB := n2_; clear n0_ n1_ n2_))) | ((with_reducible refine gate_callee (f := 49) rfl ?_); refine goesL_ (some 115) rfl rfl Tryd.func49 (by kernel_rfl) rfl #[.int .u8 (bt a0 x6_1), .string (⟨#[48, 49, 50, 51, 52, 53, 54, 55, 56, 57, 43, 45, 46, 69]⟩ : ByteArray)] rfl (by (try simp only [List.map_toArray, List.map_cons, List.map_nil]); first | done | rfl | (simp only [List.length_drop, List.length_take]; rfl)) ?_; (with_reducible refine (dragomanref8_in.calls k1 (bt a0 x6_1) (⟨#[48, 49, 50, 51, 52, 53, 54, 55, 56, 57, 43, 45, 46, 69]⟩ : ByteArray) true _ A38.out).mono ?_); rintro e w' ⟨rfl, ⟨nd, rfl⟩⟩; refine ⟨_, rfl, ?_⟩; (try (rw [drewN_self wr]; generalize hq_ : World.drewN wr _ = wr; have n0_ : Aside0 (Kd.R k53 53 wr w.heap.size (fun _ => True) u5 x5_1) := ⟨by rw [← hq_]; exact (by (with_reducible repeat (first | apply Kd.R_alloc | apply Kd.R_drewN | apply Kd.R_drew)); exact HO_5.out)⟩; have n1_ : Aside0 (wr.heap[gb286]? = some (.cells #[.int .i64 x287000_1, .int .i64 x287001_1] 49 (0, 0))) := ⟨by rw [← hq_]; exact (by (with_reducible repeat (first | refine blk_drewN ?_ _ | refine blk_drew ?_ | refine blk_alloc ?_ _)); exact BK286.out)⟩; have n2_ : Aside0 (Below w.heap.size w wr) := ⟨by rw [← hq_]; exact (by repeat (first | (with_reducible first | exact HB.out | apply below_alloc | apply pw_below_drewN | apply below_drew1 | refine below_set ?_ GE286.out) | exact HB.out))⟩; clear HO_5 BK286 HB hq_; have HO_5 := n0_; have BK286 := n1_; have HB := n2_; clear n0_ n1_ n2_))) | ((with_reducible refine gate_callee (f := 51) rfl ?_); refine goesL_ (some 118) rfl rfl Tryd.func51 (by kernel_rfl) rfl #[.string a0, .int .i64 x6_1, .string (⟨#[48, 49, 50, 51, 52, 53, 54, 55, 56, 57, 43, 45, 46, 101, 69]⟩ : ByteArray)] rfl (by (try simp only [List.map_toArray, List.map_cons, List.map_nil]); first | done | rfl | (simp only [List.length_drop, List.length_take]; rfl)) ?_; (with_reducible refine (dragomanref8_row.calls k1 a0 x6_1 (⟨#[48, 49, 50, 51, 52, 53, 54, 55, 56, 57, 43, 45, 46, 101, 69]⟩ : ByteArray) t306 _ A40.out).mono ?_); rintro e w' ⟨rfl, ⟨nd, rfl⟩⟩; refine ⟨_, rfl, ?_⟩; (try (rw [drewN_self wr]; generalize hq_ : World.drewN wr _ = wr; have n0_ : Aside0 (Kd.R k53 53 wr w.heap.size (fun _ => True) u5 x5_1) := ⟨by rw [← hq_]; exact (by (with_reducible repeat (first | apply Kd.R_alloc | apply Kd.R_drewN | apply Kd.R_drew)); exact HO_5.out)⟩; have n1_ : Aside0 (wr.heap[gb286]? = some (.cells #[.int .i64 x287000_1, .int .i64 x287001_1] 49 (0, 0))) := ⟨by rw [← hq_]; exact (by (with_reducible repeat (first | refine blk_drewN ?_ _ | refine blk_drew ?_ | refine blk_alloc ?_ _)); exact BK286.out)⟩; have n2_ : Aside0 (Below w.heap.size w wr) := ⟨by rw [← hq_]; exact (by repeat (first | (with_reducible first | exact HB.out | apply below_alloc | apply pw_below_drewN | apply below_drew1 | refine below_set ?_ GE286.out) | exact HB.out))⟩; clear HO_5 BK286 HB hq_; have HO_5 := n0_; have BK286 := n1_; have HB := n2_; clear n0_ n1_ n2_))) | ((with_reducible refine gate_callee (f := 14) rfl ?_); refine goesL_ (some 127) rfl rfl Tryd.func14 (by kernel_rfl) rfl #[.string (a0.extract (x6_1 : Int).toNat ((wrap64 (x6_1 + t306)) : Int).toNat)] rfl (by (try simp only [List.map_toArray, List.map_cons, List.map_nil]); first | done | rfl | (simp only [List.length_drop, List.length_take]; rfl)) ?_; (with_reducible refine (dragomanref1_Form.calls k1 (a0.extract (x6_1 : Int).toNat ((wrap64 (x6_1 + t306)) : Int).toNat) true true _ A44.out).mono ?_); rintro e w' ⟨rfl, ⟨nd, rfl⟩⟩; refine ⟨_, rfl, ?_⟩; (try (rw [drewN_self wr]; generalize hq_ : World.drewN wr _ = wr; have n0_ : Aside0 (Kd.R k53 53 wr w.heap.size (fun _ => True) u5 x5_1) := ⟨by rw [← hq_]; exact (by (with_reducible repeat (first | apply Kd.R_alloc | apply Kd.R_drewN | apply Kd.R_drew)); exact HO_5.out)⟩; have n1_ : Aside0 (wr.heap[gb286]? = some (.cells #[.int .i64 x287000_1, .int .i64 x287001_1] 49 (0, 0))) := ⟨by rw [← hq_]; exact (by (with_reducible repeat (first | refine blk_drewN ?_ _ | refine blk_drew ?_ | refine blk_alloc ?_ _)); exact BK286.out)⟩; have n2_ : Aside0 (Below w.heap.size w wr) := ⟨by rw [← hq_]; exact (by repeat (first | (with_reducible first | exact HB.out | apply below_alloc | apply pw_below_drewN | apply below_drew1 | refine below_set ?_ GE286.out) | exact HB.out))⟩; clear HO_5 BK286 HB hq_; have HO_5 := n0_; have BK286 := n1_; have HB := n2_; clear n0_ n1_ n2_)); have hcz49_0 : wr.cell? ⟨gb286, 0, none⟩ = some (.int .i64 x287000_1) := (blk_cell BK286.out 0).trans rfl; have hcz49_1 : wr.cell? ⟨gb286, 1, none⟩ = some (.int .i64 x287001_1) := (blk_cell BK286.out 1).trans rfl; have hfz49_0 := blk_frozen BK286.out 0; have hfz49_1 := blk_frozen BK286.out 1))
                 refine bodyPost_ret (results_tc rfl _ _ gb286 49 #[.int .i64 6, .int .i64 x6_1] (0, 0) _ rfl (by (with_reducible repeat (first | refine blk_drewN ?_ _ | refine blk_drew ?_ | refine blk_alloc ?_ _)); refine blk_put (cs := #[.int .i64 6, .int .i64 x287001_1]) ?_ 1 _ rfl; (with_reducible repeat (first | refine blk_drewN ?_ _ | refine blk_drew ?_ | refine blk_alloc ?_ _)); refine blk_put (cs := #[.int .i64 x287000_1, .int .i64 x287001_1]) ?_ 0 _ rfl; (with_reducible repeat (first | refine blk_drewN ?_ _ | refine blk_drew ?_ | refine blk_alloc ?_ _)); exact BK286.out) Tryd.underlying49 rfl (by kernel_rfl)) rfl ?_
                 exact ⟨_, by first | rfl | (simp [errW_none, errW_some] <;> rfl) | (simp [*, errW_none, errW_some, bne]; done) | (simp [*, errW_none, errW_some] <;> rfl), by first | exact Kd.R_nil _ _ _ _ _ | exact Kd.N_nil _ _ _ _ _ | exact Kd.V_nil _ _ _ _ _ | exact Kd.Q_nil _ _ _ _ _ | exact Kd.S_nil _ _ _ _ _, by repeat (first | (with_reducible first | exact HB.out | apply below_alloc | apply pw_below_drewN | apply below_drew1 | refine below_set ?_ GE286.out) | exact HB.out)⟩
                ·replace c48 := Bool.eq_false_iff.mpr c48
                 subst c48
                 have H1 : (if x5_1.length < 4398046511104 then (dragomanref8_Cut.l0 k1 a0 (x5_1 ++ [(⟨3, a0.extract (x6_1 : Int).toNat ((wrap64 (x6_1 + t306)) : Int).toNat, x6_1⟩ : S53)]) (wrap64 (x6_1 + t306))) else (none)) = some (r1, r2, r3) := by rw [if_neg (show ¬ (false = true) by decide)] at H; exact H
                 clear H
                 have H := H1
                 clear H1
                 by_cases c50 : x5_1.length < 4398046511104
                 ·rw [if_pos c50] at H
                  have LMc50 := Aside0.mk c50
                  clear c50
                  obtain ⟨y309, hy309⟩ : ∃ y_ : List (S53), y_ = (x5_1 ++ [(⟨3, a0.extract (x6_1 : Int).toNat ((wrap64 (x6_1 + t306)) : Int).toNat, x6_1⟩ : S53)]) := ⟨_, rfl⟩
                  replace H : (dragomanref8_Cut.l0 k1 a0 y309 (wrap64 (x6_1 + t306))) = some (r1, r2, r3) := by first | (rw [hy309]; with_reducible exact H) | (have H2_ := (Option.bind_some _ _).symm.trans H; rw [hy309]; with_reducible exact H2_) | (have H2_ := (Option.bind_some _ _).symm.trans H; with_reducible exact H2_) | with_reducible exact H | (rw [hy309]; exact H) | exact H
                  have Ny309 := Aside0.mk hy309
                  clear hy309
                  have H' := Aside0.mk H
                  clear H
                  have p17 : 0 ≤ (x6_1 : Int) := of_decide_eq_true (by first | (with_reducible assumption) | assumption)
                  have q17 : x6_1 < (a0.size : Int) := of_decide_eq_true (by first | (with_reducible assumption) | assumption)
                  have hx17 := bt_at a0 x6_1
                  replace p17 := eq_true p17
                  replace q17 := eq_true q17
                  go_wp2_with (first | ((with_reducible refine gate_callee (f := 49) rfl ?_); refine goesL_ (some 69) rfl rfl Tryd.func49 (by kernel_rfl) rfl #[.int .u8 (bt a0 x6_1), .string (⟨#[32, 9, 10, 13]⟩ : ByteArray)] rfl (by (try simp only [List.map_toArray, List.map_cons, List.map_nil]); first | done | rfl | (simp only [List.length_drop, List.length_take]; rfl)) ?_; (with_reducible refine (dragomanref8_in.calls k1 (bt a0 x6_1) (⟨#[32, 9, 10, 13]⟩ : ByteArray) false _ A18.out).mono ?_); rintro e w' ⟨rfl, ⟨nd, rfl⟩⟩; refine ⟨_, rfl, ?_⟩) | ((with_reducible refine gate_callee (f := 49) rfl ?_); refine goesL_ (some 74) rfl rfl Tryd.func49 (by kernel_rfl) rfl #[.int .u8 (bt a0 x6_1), .string (⟨#[123, 125, 91, 93, 58, 44]⟩ : ByteArray)] rfl (by (try simp only [List.map_toArray, List.map_cons, List.map_nil]); first | done | rfl | (simp only [List.length_drop, List.length_take]; rfl)) ?_; (with_reducible refine (dragomanref8_in.calls k1 (bt a0 x6_1) (⟨#[123, 125, 91, 93, 58, 44]⟩ : ByteArray) false _ A20.out).mono ?_); rintro e w' ⟨rfl, ⟨nd, rfl⟩⟩; refine ⟨_, rfl, ?_⟩) | ((with_reducible refine gate_callee (f := 49) rfl ?_); refine goesL_ (some 115) rfl rfl Tryd.func49 (by kernel_rfl) rfl #[.int .u8 (bt a0 x6_1), .string (⟨#[48, 49, 50, 51, 52, 53, 54, 55, 56, 57, 43, 45, 46, 69]⟩ : ByteArray)] rfl (by (try simp only [List.map_toArray, List.map_cons, List.map_nil]); first | done | rfl | (simp only [List.length_drop, List.length_take]; rfl)) ?_; (with_reducible refine (dragomanref8_in.calls k1 (bt a0 x6_1) (⟨#[48, 49, 50, 51, 52, 53, 54, 55, 56, 57, 43, 45, 46, 69]⟩ : ByteArray) true _ A38.out).mono ?_); rintro e w' ⟨rfl, ⟨nd, rfl⟩⟩; refine ⟨_, rfl, ?_⟩) | ((with_reducible refine gate_callee (f := 51) rfl ?_); refine goesL_ (some 118) rfl rfl Tryd.func51 (by kernel_rfl) rfl #[.string a0, .int .i64 x6_1, .string (⟨#[48, 49, 50, 51, 52, 53, 54, 55, 56, 57, 43, 45, 46, 101, 69]⟩ : ByteArray)] rfl (by (try simp only [List.map_toArray, List.map_cons, List.map_nil]); first | done | rfl | (simp only [List.length_drop, List.length_take]; rfl)) ?_; (with_reducible refine (dragomanref8_row.calls k1 a0 x6_1 (⟨#[48, 49, 50, 51, 52, 53, 54, 55, 56, 57, 43, 45, 46, 101, 69]⟩ : ByteArray) t306 _ A40.out).mono ?_); rintro e w' ⟨rfl, ⟨nd, rfl⟩⟩; refine ⟨_, rfl, ?_⟩) | ((with_reducible refine gate_callee (f := 14) rfl ?_); refine goesL_ (some 127) rfl rfl Tryd.func14 (by kernel_rfl) rfl #[.string (a0.extract (x6_1 : Int).toNat ((wrap64 (x6_1 + t306)) : Int).toNat)] rfl (by (try simp only [List.map_toArray, List.map_cons, List.map_nil]); first | done | rfl | (simp only [List.length_drop, List.length_take]; rfl)) ?_; (with_reducible refine (dragomanref1_Form.calls k1 (a0.extract (x6_1 : Int).toNat ((wrap64 (x6_1 + t306)) : Int).toNat) true false _ A44.out).mono ?_); rintro e w' ⟨rfl, ⟨nd, rfl⟩⟩; refine ⟨_, rfl, ?_⟩) | ((with_reducible refine gate_builtin (b := .append) (xs := #[.tmp 144, .tmp 148]) rfl ?_); at_builtin; refine Kd.R_append k53 (w0 := w) w.heap.size rfl (.tmp 144) (.tmp 148) 47 53 (.agg #[(.int .i64 0), (.string ⟨#[]⟩), (.int .i64 0)]) 32 rfl Tryd.underlying47 info53 rfl (by decide) (by omega) u5 x5_1 (⟨3, a0.extract (x6_1 : Int).toNat ((wrap64 (x6_1 + t306)) : Int).toNat, x6_1⟩ : S53) [.int .i64 3, .string (a0.extract (x6_1 : Int).toNat ((wrap64 (x6_1 + t306)) : Int).toNat), .int .i64 x6_1] (fun _ => True) (fun _ => False) rfl rfl ?aP (fun _ hk => hk.elim) ?aF ?aO ?aB ?aS ?aL ?_; (case aP => exact k53_mkM _ _ _ (⟨3, a0.extract (x6_1 : Int).toNat ((wrap64 (x6_1 + t306)) : Int).toNat, x6_1⟩ : S53)); (case aB => exact (by repeat (first | (with_reducible first | exact HB.out | apply below_alloc | apply pw_below_drewN | apply below_drew1 | refine below_set ?_ GE286.out) | exact HB.out))); (case aF => exact (fun _ _ => trivial)); (case aO => exact (by (with_reducible repeat (first | apply Kd.R_alloc | apply Kd.R_drewN | apply Kd.R_drew)); exact HO_5.out)); (case aS => exact (below_size (by repeat (first | (with_reducible first | exact HB.out | apply below_alloc | apply pw_below_drewN | apply below_drew1 | refine below_set ?_ GE286.out) | exact HB.out)))); (case aL => have := LMc50.out; omega); intro v310 w51 ho hb hg hat; rw [← Ny309.out] at ho; have n0_ := Aside0.mk (blk_grown (g := gb286) (o := .cells #[.int .i64 x287000_1, .int .i64 x287001_1] 49 (0, 0)) (by (with_reducible repeat (first | refine blk_drewN ?_ _ | refine blk_drew ?_ | refine blk_alloc ?_ _)); exact BK286.out) hg (Kd.R_ne HO_5.out BK286.out (by decide))); have n1_ := Aside0.mk (hb); have n2_ := Aside0.mk (ho); clear BK286; clear HB; clear HO_5; have BK286 := n0_; have HB := n1_; have HO311 := n2_; clear n0_ n1_ n2_; clear ho hb hg hat))
                  go_roundg k1
                  case measure => have := HK1.out; omega
                  case rel => exact ⟨(y309), (wrap64 (x6_1 + t306)), (x287000_1), (x287001_1), (by first | rfl | (simp; done) | (simp [*]; done)), H', ⟨by have := HK1.out; omega⟩, ⟨by (with_reducible repeat (first | apply Kd.R_alloc | apply Kd.R_drewN | apply Kd.R_drew)); exact HO311.out⟩, ⟨by (with_reducible repeat (first | refine blk_drewN ?_ _ | refine blk_drew ?_ | refine blk_alloc ?_ _)); exact BK286.out⟩, ⟨by repeat (first | (with_reducible first | exact HB.out | apply below_alloc | apply pw_below_drewN | apply below_drew1 | refine below_set ?_ GE286.out) | exact HB.out)⟩⟩
                 ·rw [if_neg c50] at H
                  exact absurd H (by simp)
               ·replace c47 := Bool.eq_false_iff.mpr c47
                subst c47
                have H1 : (some (([] : List (S53)), 4, x6_1)) = some (r1, r2, r3) := by rw [if_neg (show ¬ (false = true) by decide)] at H; exact H
                clear H
                have H := H1
                clear H1
                simp only [Option.some.injEq, Prod.mk.injEq] at H
                obtain ⟨rfl, rfl, rfl⟩ := H
                have p17 : 0 ≤ (x6_1 : Int) := of_decide_eq_true (by first | (with_reducible assumption) | assumption)
                have q17 : x6_1 < (a0.size : Int) := of_decide_eq_true (by first | (with_reducible assumption) | assumption)
                have hx17 := bt_at a0 x6_1
                replace p17 := eq_true p17
                replace q17 := eq_true q17
                go_wp2_with (first | ((with_reducible refine gate_callee (f := 49) rfl ?_); refine goesL_ (some 69) rfl rfl Tryd.func49 (by kernel_rfl) rfl #[.int .u8 (bt a0 x6_1), .string (⟨#[32, 9, 10, 13]⟩ : ByteArray)] rfl (by (try simp only [List.map_toArray, List.map_cons, List.map_nil]); first | done | rfl | (simp only [List.length_drop, List.length_take]; rfl)) ?_; (with_reducible refine (dragomanref8_in.calls k1 (bt a0 x6_1) (⟨#[32, 9, 10, 13]⟩ : ByteArray) false _ A18.out).mono ?_); rintro e w' ⟨rfl, ⟨nd, rfl⟩⟩; refine ⟨_, rfl, ?_⟩; (try (rw [drewN_self wr]; generalize hq_ : World.drewN wr _ = wr; have n0_ : Aside0 (Kd.R k53 53 wr w.heap.size (fun _ => True) u5 x5_1) := ⟨by rw [← hq_]; exact (by (with_reducible repeat (first | apply Kd.R_alloc | apply Kd.R_drewN | apply Kd.R_drew)); exact HO_5.out)⟩; have n1_ : Aside0 (wr.heap[gb286]? = some (.cells #[.int .i64 x287000_1, .int .i64 x287001_1] 49 (0, 0))) := ⟨by rw [← hq_]; exact (by (with_reducible repeat (first | refine blk_drewN ?_ _ | refine blk_drew ?_ | refine blk_alloc ?_ _)); exact BK286.out)⟩; have n2_ : Aside0 (Below w.heap.size w wr) := ⟨by rw [← hq_]; exact (by repeat (first | (with_reducible first | exact HB.out | apply below_alloc | apply pw_below_drewN | apply below_drew1 | refine below_set ?_ GE286.out) | exact HB.out))⟩; clear HO_5 BK286 HB hq_; have HO_5 := n0_; have BK286 := n1_; have HB := n2_; clear n0_ n1_ n2_))) | ((with_reducible refine gate_callee (f := 49) rfl ?_); refine goesL_ (some 74) rfl rfl Tryd.func49 (by kernel_rfl) rfl #[.int .u8 (bt a0 x6_1), .string (⟨#[123, 125, 91, 93, 58, 44]⟩ : ByteArray)] rfl (by (try simp only [List.map_toArray, List.map_cons, List.map_nil]); first | done | rfl | (simp only [List.length_drop, List.length_take]; rfl)) ?_; (with_reducible refine (dragomanref8_in.calls k1 (bt a0 x6_1) (⟨#[123, 125, 91, 93, 58, 44]⟩ : ByteArray) false _ A20.out).mono ?_); rintro e w' ⟨rfl, ⟨nd, rfl⟩⟩; refine ⟨_, rfl, ?_⟩; (try (rw [drewN_self wr]; generalize hq_ : World.drewN wr _ = wr; have n0_ : Aside0 (Kd.R k53 53 wr w.heap.size (fun _ => True) u5 x5_1) := ⟨by rw [← hq_]; exact (by (with_reducible repeat (first | apply Kd.R_alloc | apply Kd.R_drewN | apply Kd.R_drew)); exact HO_5.out)⟩; have n1_ : Aside0 (wr.heap[gb286]? = some (.cells #[.int .i64 x287000_1, .int .i64 x287001_1] 49 (0, 0))) := ⟨by rw [← hq_]; exact (by (with_reducible repeat (first | refine blk_drewN ?_ _ | refine blk_drew ?_ | refine blk_alloc ?_ _)); exact BK286.out)⟩; have n2_ : Aside0 (Below w.heap.size w wr) := ⟨by rw [← hq_]; exact (by repeat (first | (with_reducible first | exact HB.out | apply below_alloc | apply pw_below_drewN | apply below_drew1 | refine below_set ?_ GE286.out) | exact HB.out))⟩; clear HO_5 BK286 HB hq_; have HO_5 := n0_; have BK286 := n1_; have HB := n2_; clear n0_ n1_ n2_))) | ((with_reducible refine gate_callee (f := 49) rfl ?_); refine goesL_ (some 115) rfl rfl Tryd.func49 (by kernel_rfl) rfl #[.int .u8 (bt a0 x6_1), .string (⟨#[48, 49, 50, 51, 52, 53, 54, 55, 56, 57, 43, 45, 46, 69]⟩ : ByteArray)] rfl (by (try simp only [List.map_toArray, List.map_cons, List.map_nil]); first | done | rfl | (simp only [List.length_drop, List.length_take]; rfl)) ?_; (with_reducible refine (dragomanref8_in.calls k1 (bt a0 x6_1) (⟨#[48, 49, 50, 51, 52, 53, 54, 55, 56, 57, 43, 45, 46, 69]⟩ : ByteArray) true _ A38.out).mono ?_); rintro e w' ⟨rfl, ⟨nd, rfl⟩⟩; refine ⟨_, rfl, ?_⟩; (try (rw [drewN_self wr]; generalize hq_ : World.drewN wr _ = wr; have n0_ : Aside0 (Kd.R k53 53 wr w.heap.size (fun _ => True) u5 x5_1) := ⟨by rw [← hq_]; exact (by (with_reducible repeat (first | apply Kd.R_alloc | apply Kd.R_drewN | apply Kd.R_drew)); exact HO_5.out)⟩; have n1_ : Aside0 (wr.heap[gb286]? = some (.cells #[.int .i64 x287000_1, .int .i64 x287001_1] 49 (0, 0))) := ⟨by rw [← hq_]; exact (by (with_reducible repeat (first | refine blk_drewN ?_ _ | refine blk_drew ?_ | refine blk_alloc ?_ _)); exact BK286.out)⟩; have n2_ : Aside0 (Below w.heap.size w wr) := ⟨by rw [← hq_]; exact (by repeat (first | (with_reducible first | exact HB.out | apply below_alloc | apply pw_below_drewN | apply below_drew1 | refine below_set ?_ GE286.out) | exact HB.out))⟩; clear HO_5 BK286 HB hq_; have HO_5 := n0_; have BK286 := n1_; have HB := n2_; clear n0_ n1_ n2_))) | ((with_reducible refine gate_callee (f := 51) rfl ?_); refine goesL_ (some 118) rfl rfl Tryd.func51 (by kernel_rfl) rfl #[.string a0, .int .i64 x6_1, .string (⟨#[48, 49, 50, 51, 52, 53, 54, 55, 56, 57, 43, 45, 46, 101, 69]⟩ : ByteArray)] rfl (by (try simp only [List.map_toArray, List.map_cons, List.map_nil]); first | done | rfl | (simp only [List.length_drop, List.length_take]; rfl)) ?_; (with_reducible refine (dragomanref8_row.calls k1 a0 x6_1 (⟨#[48, 49, 50, 51, 52, 53, 54, 55, 56, 57, 43, 45, 46, 101, 69]⟩ : ByteArray) t306 _ A40.out).mono ?_); rintro e w' ⟨rfl, ⟨nd, rfl⟩⟩; refine ⟨_, rfl, ?_⟩; (try (rw [drewN_self wr]; generalize hq_ : World.drewN wr _ = wr; have n0_ : Aside0 (Kd.R k53 53 wr w.heap.size (fun _ => True) u5 x5_1) := ⟨by rw [← hq_]; exact (by (with_reducible repeat (first | apply Kd.R_alloc | apply Kd.R_drewN | apply Kd.R_drew)); exact HO_5.out)⟩; have n1_ : Aside0 (wr.heap[gb286]? = some (.cells #[.int .i64 x287000_1, .int .i64 x287001_1] 49 (0, 0))) := ⟨by rw [← hq_]; exact (by (with_reducible repeat (first | refine blk_drewN ?_ _ | refine blk_drew ?_ | refine blk_alloc ?_ _)); exact BK286.out)⟩; have n2_ : Aside0 (Below w.heap.size w wr) := ⟨by rw [← hq_]; exact (by repeat (first | (with_reducible first | exact HB.out | apply below_alloc | apply pw_below_drewN | apply below_drew1 | refine below_set ?_ GE286.out) | exact HB.out))⟩; clear HO_5 BK286 HB hq_; have HO_5 := n0_; have BK286 := n1_; have HB := n2_; clear n0_ n1_ n2_))) | ((with_reducible refine gate_callee (f := 14) rfl ?_); refine goesL_ (some 127) rfl rfl Tryd.func14 (by kernel_rfl) rfl #[.string (a0.extract (x6_1 : Int).toNat ((wrap64 (x6_1 + t306)) : Int).toNat)] rfl (by (try simp only [List.map_toArray, List.map_cons, List.map_nil]); first | done | rfl | (simp only [List.length_drop, List.length_take]; rfl)) ?_; (with_reducible refine (dragomanref1_Form.calls k1 (a0.extract (x6_1 : Int).toNat ((wrap64 (x6_1 + t306)) : Int).toNat) false t308 _ A44.out).mono ?_); rintro e w' ⟨rfl, ⟨nd, rfl⟩⟩; refine ⟨_, rfl, ?_⟩; (try (rw [drewN_self wr]; generalize hq_ : World.drewN wr _ = wr; have n0_ : Aside0 (Kd.R k53 53 wr w.heap.size (fun _ => True) u5 x5_1) := ⟨by rw [← hq_]; exact (by (with_reducible repeat (first | apply Kd.R_alloc | apply Kd.R_drewN | apply Kd.R_drew)); exact HO_5.out)⟩; have n1_ : Aside0 (wr.heap[gb286]? = some (.cells #[.int .i64 x287000_1, .int .i64 x287001_1] 49 (0, 0))) := ⟨by rw [← hq_]; exact (by (with_reducible repeat (first | refine blk_drewN ?_ _ | refine blk_drew ?_ | refine blk_alloc ?_ _)); exact BK286.out)⟩; have n2_ : Aside0 (Below w.heap.size w wr) := ⟨by rw [← hq_]; exact (by repeat (first | (with_reducible first | exact HB.out | apply below_alloc | apply pw_below_drewN | apply below_drew1 | refine below_set ?_ GE286.out) | exact HB.out))⟩; clear HO_5 BK286 HB hq_; have HO_5 := n0_; have BK286 := n1_; have HB := n2_; clear n0_ n1_ n2_)); have hcz52_0 : wr.cell? ⟨gb286, 0, none⟩ = some (.int .i64 x287000_1) := (blk_cell BK286.out 0).trans rfl; have hcz52_1 : wr.cell? ⟨gb286, 1, none⟩ = some (.int .i64 x287001_1) := (blk_cell BK286.out 1).trans rfl; have hfz52_0 := blk_frozen BK286.out 0; have hfz52_1 := blk_frozen BK286.out 1))
                refine bodyPost_ret (results_tc rfl _ _ gb286 49 #[.int .i64 4, .int .i64 x6_1] (0, 0) _ rfl (by (with_reducible repeat (first | refine blk_drewN ?_ _ | refine blk_drew ?_ | refine blk_alloc ?_ _)); refine blk_put (cs := #[.int .i64 4, .int .i64 x287001_1]) ?_ 1 _ rfl; (with_reducible repeat (first | refine blk_drewN ?_ _ | refine blk_drew ?_ | refine blk_alloc ?_ _)); refine blk_put (cs := #[.int .i64 x287000_1, .int .i64 x287001_1]) ?_ 0 _ rfl; (with_reducible repeat (first | refine blk_drewN ?_ _ | refine blk_drew ?_ | refine blk_alloc ?_ _)); exact BK286.out) Tryd.underlying49 rfl (by kernel_rfl)) rfl ?_
                exact ⟨_, by first | rfl | (simp [errW_none, errW_some] <;> rfl) | (simp [*, errW_none, errW_some, bne]; done) | (simp [*, errW_none, errW_some] <;> rfl), by first | exact Kd.R_nil _ _ _ _ _ | exact Kd.N_nil _ _ _ _ _ | exact Kd.V_nil _ _ _ _ _ | exact Kd.Q_nil _ _ _ _ _ | exact Kd.S_nil _ _ _ _ _, by repeat (first | (with_reducible first | exact HB.out | apply below_alloc | apply pw_below_drewN | apply below_drew1 | refine below_set ?_ GE286.out) | exact HB.out)⟩
             ·rw [if_neg c43] at H
              exact absurd H (by simp)
            ·rw [if_neg c42] at H
             exact absurd H (by simp)
           ·replace c39 := Bool.eq_false_iff.mpr c39
            subst c39
            have H1 : ((dragomanref8_row.f k1 a0 x6_1 (⟨#[97, 98, 99, 100, 101, 102, 103, 104, 105, 106, 107, 108, 109, 110, 111, 112, 113, 114, 115, 116, 117, 118, 119, 120, 121, 122]⟩ : ByteArray)).bind fun t312 => (if x6_1 ≤ (wrap64 (x6_1 + t312)) then (if (wrap64 (x6_1 + t312)) ≤ (a0.size : Int) then (if (a0.extract (x6_1 : Int).toNat ((wrap64 (x6_1 + t312)) : Int).toNat).toList = ([116, 114, 117, 101] : List UInt8) then (if x5_1.length < 4398046511104 then (dragomanref8_Cut.l0 k1 a0 (x5_1 ++ [(⟨4, a0.extract (x6_1 : Int).toNat ((wrap64 (x6_1 + t312)) : Int).toNat, x6_1⟩ : S53)]) (wrap64 (x6_1 + t312))) else (none)) else (if (a0.extract (x6_1 : Int).toNat ((wrap64 (x6_1 + t312)) : Int).toNat).toList = ([102, 97, 108, 115, 101] : List UInt8) then (if x5_1.length < 4398046511104 then (dragomanref8_Cut.l0 k1 a0 (x5_1 ++ [(⟨4, a0.extract (x6_1 : Int).toNat ((wrap64 (x6_1 + t312)) : Int).toNat, x6_1⟩ : S53)]) (wrap64 (x6_1 + t312))) else (none)) else (if (a0.extract (x6_1 : Int).toNat ((wrap64 (x6_1 + t312)) : Int).toNat).toList = ([110, 117, 108, 108] : List UInt8) then (if x5_1.length < 4398046511104 then (dragomanref8_Cut.l0 k1 a0 (x5_1 ++ [(⟨4, a0.extract (x6_1 : Int).toNat ((wrap64 (x6_1 + t312)) : Int).toNat, x6_1⟩ : S53)]) (wrap64 (x6_1 + t312))) else (none)) else (some (([] : List (S53)), 4, x6_1))))) else (none)) else (none))) = some (r1, r2, r3) := by rw [if_neg (show ¬ (false = true) by decide)] at H; exact H
            clear H
            have H := H1
            clear H1
            replace H := Option.bind_eq_some_iff.mp H
            obtain ⟨t312, A530, H⟩ := H
            replace H : (if x6_1 ≤ (wrap64 (x6_1 + t312)) then (if (wrap64 (x6_1 + t312)) ≤ (a0.size : Int) then (if (a0.extract (x6_1 : Int).toNat ((wrap64 (x6_1 + t312)) : Int).toNat).toList = ([116, 114, 117, 101] : List UInt8) then (if x5_1.length < 4398046511104 then (dragomanref8_Cut.l0 k1 a0 (x5_1 ++ [(⟨4, a0.extract (x6_1 : Int).toNat ((wrap64 (x6_1 + t312)) : Int).toNat, x6_1⟩ : S53)]) (wrap64 (x6_1 + t312))) else (none)) else (if (a0.extract (x6_1 : Int).toNat ((wrap64 (x6_1 + t312)) : Int).toNat).toList = ([102, 97, 108, 115, 101] : List UInt8) then (if x5_1.length < 4398046511104 then (dragomanref8_Cut.l0 k1 a0 (x5_1 ++ [(⟨4, a0.extract (x6_1 : Int).toNat ((wrap64 (x6_1 + t312)) : Int).toNat, x6_1⟩ : S53)]) (wrap64 (x6_1 + t312))) else (none)) else (if (a0.extract (x6_1 : Int).toNat ((wrap64 (x6_1 + t312)) : Int).toNat).toList = ([110, 117, 108, 108] : List UInt8) then (if x5_1.length < 4398046511104 then (dragomanref8_Cut.l0 k1 a0 (x5_1 ++ [(⟨4, a0.extract (x6_1 : Int).toNat ((wrap64 (x6_1 + t312)) : Int).toNat, x6_1⟩ : S53)]) (wrap64 (x6_1 + t312))) else (none)) else (some (([] : List (S53)), 4, x6_1))))) else (none)) else (none)) = some (r1, r2, r3) := H
            have A53 := Aside0.mk A530
            clear A530
            have c54b0 := eq_true (of_decide_eq_true (by first | (with_reducible assumption) | assumption) : 0 ≤ x6_1)
            by_cases c55 : x6_1 ≤ (wrap64 (x6_1 + t312))
            ·rw [if_pos c55] at H
             have c55b0 := eq_true c55
             have c55b1 : decide (x6_1 ≤ (wrap64 (x6_1 + t312))) = true := decide_eq_true c55
             by_cases c56 : (wrap64 (x6_1 + t312)) ≤ (a0.size : Int)
             ·rw [if_pos c56] at H
              have c56b0 := eq_true c56
              have c56b1 : decide ((wrap64 (x6_1 + t312)) ≤ (a0.size : Int)) = true := decide_eq_true c56
              by_cases c57 : (a0.extract (x6_1 : Int).toNat ((wrap64 (x6_1 + t312)) : Int).toNat).toList = ([116, 114, 117, 101] : List UInt8)
              ·rw [if_pos c57] at H
               have c57b0 : ((a0.extract (x6_1 : Int).toNat ((wrap64 (x6_1 + t312)) : Int).toNat).toList == ([116, 114, 117, 101] : List UInt8)) = true := beq_iff_eq.mpr c57
               have c57b1 : ((a0.extract (x6_1 : Int).toNat ((wrap64 (x6_1 + t312)) : Int).toNat).toList != ([116, 114, 117, 101] : List UInt8)) = false := bne_eq_false_iff_eq.mpr c57
               clear c57
               by_cases c58 : x5_1.length < 4398046511104
               ·rw [if_pos c58] at H
                have LMc58 := Aside0.mk c58
                clear c58
                obtain ⟨y313, hy313⟩ : ∃ y_ : List (S53), y_ = (x5_1 ++ [(⟨4, a0.extract (x6_1 : Int).toNat ((wrap64 (x6_1 + t312)) : Int).toNat, x6_1⟩ : S53)]) := ⟨_, rfl⟩
                replace H : (dragomanref8_Cut.l0 k1 a0 y313 (wrap64 (x6_1 + t312))) = some (r1, r2, r3) := by first | (rw [hy313]; with_reducible exact H) | (have H2_ := (Option.bind_some _ _).symm.trans H; rw [hy313]; with_reducible exact H2_) | (have H2_ := (Option.bind_some _ _).symm.trans H; with_reducible exact H2_) | with_reducible exact H | (rw [hy313]; exact H) | exact H
                have Ny313 := Aside0.mk hy313
                clear hy313
                have H' := Aside0.mk H
                clear H
                have p17 : 0 ≤ (x6_1 : Int) := of_decide_eq_true (by first | (with_reducible assumption) | assumption)
                have q17 : x6_1 < (a0.size : Int) := of_decide_eq_true (by first | (with_reducible assumption) | assumption)
                have hx17 := bt_at a0 x6_1
                replace p17 := eq_true p17
                replace q17 := eq_true q17
                go_wp2_with (first | ((with_reducible refine gate_callee (f := 49) rfl ?_); refine goesL_ (some 69) rfl rfl Tryd.func49 (by kernel_rfl) rfl #[.int .u8 (bt a0 x6_1), .string (⟨#[32, 9, 10, 13]⟩ : ByteArray)] rfl (by (try simp only [List.map_toArray, List.map_cons, List.map_nil]); first | done | rfl | (simp only [List.length_drop, List.length_take]; rfl)) ?_; (with_reducible refine (dragomanref8_in.calls k1 (bt a0 x6_1) (⟨#[32, 9, 10, 13]⟩ : ByteArray) false _ A18.out).mono ?_); rintro e w' ⟨rfl, ⟨nd, rfl⟩⟩; refine ⟨_, rfl, ?_⟩) | ((with_reducible refine gate_callee (f := 49) rfl ?_); refine goesL_ (some 74) rfl rfl Tryd.func49 (by kernel_rfl) rfl #[.int .u8 (bt a0 x6_1), .string (⟨#[123, 125, 91, 93, 58, 44]⟩ : ByteArray)] rfl (by (try simp only [List.map_toArray, List.map_cons, List.map_nil]); first | done | rfl | (simp only [List.length_drop, List.length_take]; rfl)) ?_; (with_reducible refine (dragomanref8_in.calls k1 (bt a0 x6_1) (⟨#[123, 125, 91, 93, 58, 44]⟩ : ByteArray) false _ A20.out).mono ?_); rintro e w' ⟨rfl, ⟨nd, rfl⟩⟩; refine ⟨_, rfl, ?_⟩) | ((with_reducible refine gate_callee (f := 49) rfl ?_); refine goesL_ (some 115) rfl rfl Tryd.func49 (by kernel_rfl) rfl #[.int .u8 (bt a0 x6_1), .string (⟨#[48, 49, 50, 51, 52, 53, 54, 55, 56, 57, 43, 45, 46, 69]⟩ : ByteArray)] rfl (by (try simp only [List.map_toArray, List.map_cons, List.map_nil]); first | done | rfl | (simp only [List.length_drop, List.length_take]; rfl)) ?_; (with_reducible refine (dragomanref8_in.calls k1 (bt a0 x6_1) (⟨#[48, 49, 50, 51, 52, 53, 54, 55, 56, 57, 43, 45, 46, 69]⟩ : ByteArray) false _ A38.out).mono ?_); rintro e w' ⟨rfl, ⟨nd, rfl⟩⟩; refine ⟨_, rfl, ?_⟩) | ((with_reducible refine gate_callee (f := 51) rfl ?_); refine goesL_ (some 39) rfl rfl Tryd.func51 (by kernel_rfl) rfl #[.string a0, .int .i64 x6_1, .string (⟨#[97, 98, 99, 100, 101, 102, 103, 104, 105, 106, 107, 108, 109, 110, 111, 112, 113, 114, 115, 116, 117, 118, 119, 120, 121, 122]⟩ : ByteArray)] rfl (by (try simp only [List.map_toArray, List.map_cons, List.map_nil]); first | done | rfl | (simp only [List.length_drop, List.length_take]; rfl)) ?_; (with_reducible refine (dragomanref8_row.calls k1 a0 x6_1 (⟨#[97, 98, 99, 100, 101, 102, 103, 104, 105, 106, 107, 108, 109, 110, 111, 112, 113, 114, 115, 116, 117, 118, 119, 120, 121, 122]⟩ : ByteArray) t312 _ A53.out).mono ?_); rintro e w' ⟨rfl, ⟨nd, rfl⟩⟩; refine ⟨_, rfl, ?_⟩) | ((with_reducible refine gate_builtin (b := .append) (xs := #[.tmp 58, .tmp 62]) rfl ?_); at_builtin; refine Kd.R_append k53 (w0 := w) w.heap.size rfl (.tmp 58) (.tmp 62) 47 53 (.agg #[(.int .i64 0), (.string ⟨#[]⟩), (.int .i64 0)]) 32 rfl Tryd.underlying47 info53 rfl (by decide) (by omega) u5 x5_1 (⟨4, a0.extract (x6_1 : Int).toNat ((wrap64 (x6_1 + t312)) : Int).toNat, x6_1⟩ : S53) [.int .i64 4, .string (a0.extract (x6_1 : Int).toNat ((wrap64 (x6_1 + t312)) : Int).toNat), .int .i64 x6_1] (fun _ => True) (fun _ => False) rfl rfl ?aP (fun _ hk => hk.elim) ?aF ?aO ?aB ?aS ?aL ?_; (case aP => exact k53_mkM _ _ _ (⟨4, a0.extract (x6_1 : Int).toNat ((wrap64 (x6_1 + t312)) : Int).toNat, x6_1⟩ : S53)); (case aB => exact (by repeat (first | (with_reducible first | exact HB.out | apply below_alloc | apply pw_below_drewN | apply below_drew1 | refine below_set ?_ GE286.out) | exact HB.out))); (case aF => exact (fun _ _ => trivial)); (case aO => exact (by (with_reducible repeat (first | apply Kd.R_alloc | apply Kd.R_drewN | apply Kd.R_drew)); exact HO_5.out)); (case aS => exact (below_size (by repeat (first | (with_reducible first | exact HB.out | apply below_alloc | apply pw_below_drewN | apply below_drew1 | refine below_set ?_ GE286.out) | exact HB.out)))); (case aL => have := LMc58.out; omega); intro v314 w59 ho hb hg hat; rw [← Ny313.out] at ho; have n0_ := Aside0.mk (blk_grown (g := gb286) (o := .cells #[.int .i64 x287000_1, .int .i64 x287001_1] 49 (0, 0)) (by (with_reducible repeat (first | refine blk_drewN ?_ _ | refine blk_drew ?_ | refine blk_alloc ?_ _)); exact BK286.out) hg (Kd.R_ne HO_5.out BK286.out (by decide))); have n1_ := Aside0.mk (hb); have n2_ := Aside0.mk (ho); clear BK286; clear HB; clear HO_5; have BK286 := n0_; have HB := n1_; have HO315 := n2_; clear n0_ n1_ n2_; clear ho hb hg hat))
                go_roundg k1
                case measure => have := HK1.out; omega
                case rel => exact ⟨(y313), (wrap64 (x6_1 + t312)), (x287000_1), (x287001_1), (by first | rfl | (simp; done) | (simp [*]; done)), H', ⟨by have := HK1.out; omega⟩, ⟨by (with_reducible repeat (first | apply Kd.R_alloc | apply Kd.R_drewN | apply Kd.R_drew)); exact HO315.out⟩, ⟨by (with_reducible repeat (first | refine blk_drewN ?_ _ | refine blk_drew ?_ | refine blk_alloc ?_ _)); exact BK286.out⟩, ⟨by repeat (first | (with_reducible first | exact HB.out | apply below_alloc | apply pw_below_drewN | apply below_drew1 | refine below_set ?_ GE286.out) | exact HB.out)⟩⟩
               ·rw [if_neg c58] at H
                exact absurd H (by simp)
              ·rw [if_neg c57] at H
               have c57b0 : ((a0.extract (x6_1 : Int).toNat ((wrap64 (x6_1 + t312)) : Int).toNat).toList == ([116, 114, 117, 101] : List UInt8)) = false := beq_eq_false_iff_ne.mpr c57
               have c57b1 : ((a0.extract (x6_1 : Int).toNat ((wrap64 (x6_1 + t312)) : Int).toNat).toList != ([116, 114, 117, 101] : List UInt8)) = true := bne_iff_ne.mpr c57
               by_cases c60 : (a0.extract (x6_1 : Int).toNat ((wrap64 (x6_1 + t312)) : Int).toNat).toList = ([102, 97, 108, 115, 101] : List UInt8)
               ·rw [if_pos c60] at H
                have c60b0 : ((a0.extract (x6_1 : Int).toNat ((wrap64 (x6_1 + t312)) : Int).toNat).toList == ([102, 97, 108, 115, 101] : List UInt8)) = true := beq_iff_eq.mpr c60
                have c60b1 : ((a0.extract (x6_1 : Int).toNat ((wrap64 (x6_1 + t312)) : Int).toNat).toList != ([102, 97, 108, 115, 101] : List UInt8)) = false := bne_eq_false_iff_eq.mpr c60
                clear c60
                by_cases c61 : x5_1.length < 4398046511104
                ·rw [if_pos c61] at H
                 have LMc61 := Aside0.mk c61
                 clear c61
                 obtain ⟨y316, hy316⟩ : ∃ y_ : List (S53), y_ = (x5_1 ++ [(⟨4, a0.extract (x6_1 : Int).toNat ((wrap64 (x6_1 + t312)) : Int).toNat, x6_1⟩ : S53)]) := ⟨_, rfl⟩
                 replace H : (dragomanref8_Cut.l0 k1 a0 y316 (wrap64 (x6_1 + t312))) = some (r1, r2, r3) := by first | (rw [hy316]; with_reducible exact H) | (have H2_ := (Option.bind_some _ _).symm.trans H; rw [hy316]; with_reducible exact H2_) | (have H2_ := (Option.bind_some _ _).symm.trans H; with_reducible exact H2_) | with_reducible exact H | (rw [hy316]; exact H) | exact H
                 have Ny316 := Aside0.mk hy316
                 clear hy316
                 have H' := Aside0.mk H
                 clear H
                 have p17 : 0 ≤ (x6_1 : Int) := of_decide_eq_true (by first | (with_reducible assumption) | assumption)
                 have q17 : x6_1 < (a0.size : Int) := of_decide_eq_true (by first | (with_reducible assumption) | assumption)
                 have hx17 := bt_at a0 x6_1
                 replace p17 := eq_true p17
                 replace q17 := eq_true q17
                 go_wp2_with (first | ((with_reducible refine gate_callee (f := 49) rfl ?_); refine goesL_ (some 69) rfl rfl Tryd.func49 (by kernel_rfl) rfl #[.int .u8 (bt a0 x6_1), .string (⟨#[32, 9, 10, 13]⟩ : ByteArray)] rfl (by (try simp only [List.map_toArray, List.map_cons, List.map_nil]); first | done | rfl | (simp only [List.length_drop, List.length_take]; rfl)) ?_; (with_reducible refine (dragomanref8_in.calls k1 (bt a0 x6_1) (⟨#[32, 9, 10, 13]⟩ : ByteArray) false _ A18.out).mono ?_); rintro e w' ⟨rfl, ⟨nd, rfl⟩⟩; refine ⟨_, rfl, ?_⟩) | ((with_reducible refine gate_callee (f := 49) rfl ?_); refine goesL_ (some 74) rfl rfl Tryd.func49 (by kernel_rfl) rfl #[.int .u8 (bt a0 x6_1), .string (⟨#[123, 125, 91, 93, 58, 44]⟩ : ByteArray)] rfl (by (try simp only [List.map_toArray, List.map_cons, List.map_nil]); first | done | rfl | (simp only [List.length_drop, List.length_take]; rfl)) ?_; (with_reducible refine (dragomanref8_in.calls k1 (bt a0 x6_1) (⟨#[123, 125, 91, 93, 58, 44]⟩ : ByteArray) false _ A20.out).mono ?_); rintro e w' ⟨rfl, ⟨nd, rfl⟩⟩; refine ⟨_, rfl, ?_⟩) | ((with_reducible refine gate_callee (f := 49) rfl ?_); refine goesL_ (some 115) rfl rfl Tryd.func49 (by kernel_rfl) rfl #[.int .u8 (bt a0 x6_1), .string (⟨#[48, 49, 50, 51, 52, 53, 54, 55, 56, 57, 43, 45, 46, 69]⟩ : ByteArray)] rfl (by (try simp only [List.map_toArray, List.map_cons, List.map_nil]); first | done | rfl | (simp only [List.length_drop, List.length_take]; rfl)) ?_; (with_reducible refine (dragomanref8_in.calls k1 (bt a0 x6_1) (⟨#[48, 49, 50, 51, 52, 53, 54, 55, 56, 57, 43, 45, 46, 69]⟩ : ByteArray) false _ A38.out).mono ?_); rintro e w' ⟨rfl, ⟨nd, rfl⟩⟩; refine ⟨_, rfl, ?_⟩) | ((with_reducible refine gate_callee (f := 51) rfl ?_); refine goesL_ (some 39) rfl rfl Tryd.func51 (by kernel_rfl) rfl #[.string a0, .int .i64 x6_1, .string (⟨#[97, 98, 99, 100, 101, 102, 103, 104, 105, 106, 107, 108, 109, 110, 111, 112, 113, 114, 115, 116, 117, 118, 119, 120, 121, 122]⟩ : ByteArray)] rfl (by (try simp only [List.map_toArray, List.map_cons, List.map_nil]); first | done | rfl | (simp only [List.length_drop, List.length_take]; rfl)) ?_; (with_reducible refine (dragomanref8_row.calls k1 a0 x6_1 (⟨#[97, 98, 99, 100, 101, 102, 103, 104, 105, 106, 107, 108, 109, 110, 111, 112, 113, 114, 115, 116, 117, 118, 119, 120, 121, 122]⟩ : ByteArray) t312 _ A53.out).mono ?_); rintro e w' ⟨rfl, ⟨nd, rfl⟩⟩; refine ⟨_, rfl, ?_⟩) | ((with_reducible refine gate_builtin (b := .append) (xs := #[.tmp 58, .tmp 62]) rfl ?_); at_builtin; refine Kd.R_append k53 (w0 := w) w.heap.size rfl (.tmp 58) (.tmp 62) 47 53 (.agg #[(.int .i64 0), (.string ⟨#[]⟩), (.int .i64 0)]) 32 rfl Tryd.underlying47 info53 rfl (by decide) (by omega) u5 x5_1 (⟨4, a0.extract (x6_1 : Int).toNat ((wrap64 (x6_1 + t312)) : Int).toNat, x6_1⟩ : S53) [.int .i64 4, .string (a0.extract (x6_1 : Int).toNat ((wrap64 (x6_1 + t312)) : Int).toNat), .int .i64 x6_1] (fun _ => True) (fun _ => False) rfl rfl ?aP (fun _ hk => hk.elim) ?aF ?aO ?aB ?aS ?aL ?_; (case aP => exact k53_mkM _ _ _ (⟨4, a0.extract (x6_1 : Int).toNat ((wrap64 (x6_1 + t312)) : Int).toNat, x6_1⟩ : S53)); (case aB => exact (by repeat (first | (with_reducible first | exact HB.out | apply below_alloc | apply pw_below_drewN | apply below_drew1 | refine below_set ?_ GE286.out) | exact HB.out))); (case aF => exact (fun _ _ => trivial)); (case aO => exact (by (with_reducible repeat (first | apply Kd.R_alloc | apply Kd.R_drewN | apply Kd.R_drew)); exact HO_5.out)); (case aS => exact (below_size (by repeat (first | (with_reducible first | exact HB.out | apply below_alloc | apply pw_below_drewN | apply below_drew1 | refine below_set ?_ GE286.out) | exact HB.out)))); (case aL => have := LMc61.out; omega); intro v317 w62 ho hb hg hat; rw [← Ny316.out] at ho; have n0_ := Aside0.mk (blk_grown (g := gb286) (o := .cells #[.int .i64 x287000_1, .int .i64 x287001_1] 49 (0, 0)) (by (with_reducible repeat (first | refine blk_drewN ?_ _ | refine blk_drew ?_ | refine blk_alloc ?_ _)); exact BK286.out) hg (Kd.R_ne HO_5.out BK286.out (by decide))); have n1_ := Aside0.mk (hb); have n2_ := Aside0.mk (ho); clear BK286; clear HB; clear HO_5; have BK286 := n0_; have HB := n1_; have HO318 := n2_; clear n0_ n1_ n2_; clear ho hb hg hat))
                 go_roundg k1
                 case measure => have := HK1.out; omega
                 case rel => exact ⟨(y316), (wrap64 (x6_1 + t312)), (x287000_1), (x287001_1), (by first | rfl | (simp; done) | (simp [*]; done)), H', ⟨by have := HK1.out; omega⟩, ⟨by (with_reducible repeat (first | apply Kd.R_alloc | apply Kd.R_drewN | apply Kd.R_drew)); exact HO318.out⟩, ⟨by (with_reducible repeat (first | refine blk_drewN ?_ _ | refine blk_drew ?_ | refine blk_alloc ?_ _)); exact BK286.out⟩, ⟨by repeat (first | (with_reducible first | exact HB.out | apply below_alloc | apply pw_below_drewN | apply below_drew1 | refine below_set ?_ GE286.out) | exact HB.out)⟩⟩
                ·rw [if_neg c61] at H
                 exact absurd H (by simp)
               ·rw [if_neg c60] at H
                have c60b0 : ((a0.extract (x6_1 : Int).toNat ((wrap64 (x6_1 + t312)) : Int).toNat).toList == ([102, 97, 108, 115, 101] : List UInt8)) = false := beq_eq_false_iff_ne.mpr c60
                have c60b1 : ((a0.extract (x6_1 : Int).toNat ((wrap64 (x6_1 + t312)) : Int).toNat).toList != ([102, 97, 108, 115, 101] : List UInt8)) = true := bne_iff_ne.mpr c60
                by_cases c63 : (a0.extract (x6_1 : Int).toNat ((wrap64 (x6_1 + t312)) : Int).toNat).toList = ([110, 117, 108, 108] : List UInt8)
                ·rw [if_pos c63] at H
                 have c63b0 : ((a0.extract (x6_1 : Int).toNat ((wrap64 (x6_1 + t312)) : Int).toNat).toList == ([110, 117, 108, 108] : List UInt8)) = true := beq_iff_eq.mpr c63
                 have c63b1 : ((a0.extract (x6_1 : Int).toNat ((wrap64 (x6_1 + t312)) : Int).toNat).toList != ([110, 117, 108, 108] : List UInt8)) = false := bne_eq_false_iff_eq.mpr c63
                 clear c63
                 by_cases c64 : x5_1.length < 4398046511104
                 ·rw [if_pos c64] at H
                  have LMc64 := Aside0.mk c64
                  clear c64
                  obtain ⟨y319, hy319⟩ : ∃ y_ : List (S53), y_ = (x5_1 ++ [(⟨4, a0.extract (x6_1 : Int).toNat ((wrap64 (x6_1 + t312)) : Int).toNat, x6_1⟩ : S53)]) := ⟨_, rfl⟩
                  replace H : (dragomanref8_Cut.l0 k1 a0 y319 (wrap64 (x6_1 + t312))) = some (r1, r2, r3) := by first | (rw [hy319]; with_reducible exact H) | (have H2_ := (Option.bind_some _ _).symm.trans H; rw [hy319]; with_reducible exact H2_) | (have H2_ := (Option.bind_some _ _).symm.trans H; with_reducible exact H2_) | with_reducible exact H | (rw [hy319]; exact H) | exact H
                  have Ny319 := Aside0.mk hy319
                  clear hy319
                  have H' := Aside0.mk H
                  clear H
                  have p17 : 0 ≤ (x6_1 : Int) := of_decide_eq_true (by first | (with_reducible assumption) | assumption)
                  have q17 : x6_1 < (a0.size : Int) := of_decide_eq_true (by first | (with_reducible assumption) | assumption)
                  have hx17 := bt_at a0 x6_1
                  replace p17 := eq_true p17
                  replace q17 := eq_true q17
                  go_wp2_with (first | ((with_reducible refine gate_callee (f := 49) rfl ?_); refine goesL_ (some 69) rfl rfl Tryd.func49 (by kernel_rfl) rfl #[.int .u8 (bt a0 x6_1), .string (⟨#[32, 9, 10, 13]⟩ : ByteArray)] rfl (by (try simp only [List.map_toArray, List.map_cons, List.map_nil]); first | done | rfl | (simp only [List.length_drop, List.length_take]; rfl)) ?_; (with_reducible refine (dragomanref8_in.calls k1 (bt a0 x6_1) (⟨#[32, 9, 10, 13]⟩ : ByteArray) false _ A18.out).mono ?_); rintro e w' ⟨rfl, ⟨nd, rfl⟩⟩; refine ⟨_, rfl, ?_⟩) | ((with_reducible refine gate_callee (f := 49) rfl ?_); refine goesL_ (some 74) rfl rfl Tryd.func49 (by kernel_rfl) rfl #[.int .u8 (bt a0 x6_1), .string (⟨#[123, 125, 91, 93, 58, 44]⟩ : ByteArray)] rfl (by (try simp only [List.map_toArray, List.map_cons, List.map_nil]); first | done | rfl | (simp only [List.length_drop, List.length_take]; rfl)) ?_; (with_reducible refine (dragomanref8_in.calls k1 (bt a0 x6_1) (⟨#[123, 125, 91, 93, 58, 44]⟩ : ByteArray) false _ A20.out).mono ?_); rintro e w' ⟨rfl, ⟨nd, rfl⟩⟩; refine ⟨_, rfl, ?_⟩) | ((with_reducible refine gate_callee (f := 49) rfl ?_); refine goesL_ (some 115) rfl rfl Tryd.func49 (by kernel_rfl) rfl #[.int .u8 (bt a0 x6_1), .string (⟨#[48, 49, 50, 51, 52, 53, 54, 55, 56, 57, 43, 45, 46, 69]⟩ : ByteArray)] rfl (by (try simp only [List.map_toArray, List.map_cons, List.map_nil]); first | done | rfl | (simp only [List.length_drop, List.length_take]; rfl)) ?_; (with_reducible refine (dragomanref8_in.calls k1 (bt a0 x6_1) (⟨#[48, 49, 50, 51, 52, 53, 54, 55, 56, 57, 43, 45, 46, 69]⟩ : ByteArray) false _ A38.out).mono ?_); rintro e w' ⟨rfl, ⟨nd, rfl⟩⟩; refine ⟨_, rfl, ?_⟩) | ((with_reducible refine gate_callee (f := 51) rfl ?_); refine goesL_ (some 39) rfl rfl Tryd.func51 (by kernel_rfl) rfl #[.string a0, .int .i64 x6_1, .string (⟨#[97, 98, 99, 100, 101, 102, 103, 104, 105, 106, 107, 108, 109, 110, 111, 112, 113, 114, 115, 116, 117, 118, 119, 120, 121, 122]⟩ : ByteArray)] rfl (by (try simp only [List.map_toArray, List.map_cons, List.map_nil]); first | done | rfl | (simp only [List.length_drop, List.length_take]; rfl)) ?_; (with_reducible refine (dragomanref8_row.calls k1 a0 x6_1 (⟨#[97, 98, 99, 100, 101, 102, 103, 104, 105, 106, 107, 108, 109, 110, 111, 112, 113, 114, 115, 116, 117, 118, 119, 120, 121, 122]⟩ : ByteArray) t312 _ A53.out).mono ?_); rintro e w' ⟨rfl, ⟨nd, rfl⟩⟩; refine ⟨_, rfl, ?_⟩) | ((with_reducible refine gate_builtin (b := .append) (xs := #[.tmp 58, .tmp 62]) rfl ?_); at_builtin; refine Kd.R_append k53 (w0 := w) w.heap.size rfl (.tmp 58) (.tmp 62) 47 53 (.agg #[(.int .i64 0), (.string ⟨#[]⟩), (.int .i64 0)]) 32 rfl Tryd.underlying47 info53 rfl (by decide) (by omega) u5 x5_1 (⟨4, a0.extract (x6_1 : Int).toNat ((wrap64 (x6_1 + t312)) : Int).toNat, x6_1⟩ : S53) [.int .i64 4, .string (a0.extract (x6_1 : Int).toNat ((wrap64 (x6_1 + t312)) : Int).toNat), .int .i64 x6_1] (fun _ => True) (fun _ => False) rfl rfl ?aP (fun _ hk => hk.elim) ?aF ?aO ?aB ?aS ?aL ?_; (case aP => exact k53_mkM _ _ _ (⟨4, a0.extract (x6_1 : Int).toNat ((wrap64 (x6_1 + t312)) : Int).toNat, x6_1⟩ : S53)); (case aB => exact (by repeat (first | (with_reducible first | exact HB.out | apply below_alloc | apply pw_below_drewN | apply below_drew1 | refine below_set ?_ GE286.out) | exact HB.out))); (case aF => exact (fun _ _ => trivial)); (case aO => exact (by (with_reducible repeat (first | apply Kd.R_alloc | apply Kd.R_drewN | apply Kd.R_drew)); exact HO_5.out)); (case aS => exact (below_size (by repeat (first | (with_reducible first | exact HB.out | apply below_alloc | apply pw_below_drewN | apply below_drew1 | refine below_set ?_ GE286.out) | exact HB.out)))); (case aL => have := LMc64.out; omega); intro v320 w65 ho hb hg hat; rw [← Ny319.out] at ho; have n0_ := Aside0.mk (blk_grown (g := gb286) (o := .cells #[.int .i64 x287000_1, .int .i64 x287001_1] 49 (0, 0)) (by (with_reducible repeat (first | refine blk_drewN ?_ _ | refine blk_drew ?_ | refine blk_alloc ?_ _)); exact BK286.out) hg (Kd.R_ne HO_5.out BK286.out (by decide))); have n1_ := Aside0.mk (hb); have n2_ := Aside0.mk (ho); clear BK286; clear HB; clear HO_5; have BK286 := n0_; have HB := n1_; have HO321 := n2_; clear n0_ n1_ n2_; clear ho hb hg hat))
                  go_roundg k1
                  case measure => have := HK1.out; omega
                  case rel => exact ⟨(y319), (wrap64 (x6_1 + t312)), (x287000_1), (x287001_1), (by first | rfl | (simp; done) | (simp [*]; done)), H', ⟨by have := HK1.out; omega⟩, ⟨by (with_reducible repeat (first | apply Kd.R_alloc | apply Kd.R_drewN | apply Kd.R_drew)); exact HO321.out⟩, ⟨by (with_reducible repeat (first | refine blk_drewN ?_ _ | refine blk_drew ?_ | refine blk_alloc ?_ _)); exact BK286.out⟩, ⟨by repeat (first | (with_reducible first | exact HB.out | apply below_alloc | apply pw_below_drewN | apply below_drew1 | refine below_set ?_ GE286.out) | exact HB.out)⟩⟩
                 ·rw [if_neg c64] at H
                  exact absurd H (by simp)
                ·rw [if_neg c63] at H
                 have c63b0 : ((a0.extract (x6_1 : Int).toNat ((wrap64 (x6_1 + t312)) : Int).toNat).toList == ([110, 117, 108, 108] : List UInt8)) = false := beq_eq_false_iff_ne.mpr c63
                 have c63b1 : ((a0.extract (x6_1 : Int).toNat ((wrap64 (x6_1 + t312)) : Int).toNat).toList != ([110, 117, 108, 108] : List UInt8)) = true := bne_iff_ne.mpr c63
                 simp only [Option.some.injEq, Prod.mk.injEq] at H
                 obtain ⟨rfl, rfl, rfl⟩ := H
                 have p17 : 0 ≤ (x6_1 : Int) := of_decide_eq_true (by first | (with_reducible assumption) | assumption)
                 have q17 : x6_1 < (a0.size : Int) := of_decide_eq_true (by first | (with_reducible assumption) | assumption)
                 have hx17 := bt_at a0 x6_1
                 replace p17 := eq_true p17
                 replace q17 := eq_true q17
                 go_wp2_with (first | ((with_reducible refine gate_callee (f := 49) rfl ?_); refine goesL_ (some 69) rfl rfl Tryd.func49 (by kernel_rfl) rfl #[.int .u8 (bt a0 x6_1), .string (⟨#[32, 9, 10, 13]⟩ : ByteArray)] rfl (by (try simp only [List.map_toArray, List.map_cons, List.map_nil]); first | done | rfl | (simp only [List.length_drop, List.length_take]; rfl)) ?_; (with_reducible refine (dragomanref8_in.calls k1 (bt a0 x6_1) (⟨#[32, 9, 10, 13]⟩ : ByteArray) false _ A18.out).mono ?_); rintro e w' ⟨rfl, ⟨nd, rfl⟩⟩; refine ⟨_, rfl, ?_⟩; (try (rw [drewN_self wr]; generalize hq_ : World.drewN wr _ = wr; have n0_ : Aside0 (Kd.R k53 53 wr w.heap.size (fun _ => True) u5 x5_1) := ⟨by rw [← hq_]; exact (by (with_reducible repeat (first | apply Kd.R_alloc | apply Kd.R_drewN | apply Kd.R_drew)); exact HO_5.out)⟩; have n1_ : Aside0 (wr.heap[gb286]? = some (.cells #[.int .i64 x287000_1, .int .i64 x287001_1] 49 (0, 0))) := ⟨by rw [← hq_]; exact (by (with_reducible repeat (first | refine blk_drewN ?_ _ | refine blk_drew ?_ | refine blk_alloc ?_ _)); exact BK286.out)⟩; have n2_ : Aside0 (Below w.heap.size w wr) := ⟨by rw [← hq_]; exact (by repeat (first | (with_reducible first | exact HB.out | apply below_alloc | apply pw_below_drewN | apply below_drew1 | refine below_set ?_ GE286.out) | exact HB.out))⟩; clear HO_5 BK286 HB hq_; have HO_5 := n0_; have BK286 := n1_; have HB := n2_; clear n0_ n1_ n2_))) | ((with_reducible refine gate_callee (f := 49) rfl ?_); refine goesL_ (some 74) rfl rfl Tryd.func49 (by kernel_rfl) rfl #[.int .u8 (bt a0 x6_1), .string (⟨#[123, 125, 91, 93, 58, 44]⟩ : ByteArray)] rfl (by (try simp only [List.map_toArray, List.map_cons, List.map_nil]); first | done | rfl | (simp only [List.length_drop, List.length_take]; rfl)) ?_; (with_reducible refine (dragomanref8_in.calls k1 (bt a0 x6_1) (⟨#[123, 125, 91, 93, 58, 44]⟩ : ByteArray) false _ A20.out).mono ?_); rintro e w' ⟨rfl, ⟨nd, rfl⟩⟩; refine ⟨_, rfl, ?_⟩; (try (rw [drewN_self wr]; generalize hq_ : World.drewN wr _ = wr; have n0_ : Aside0 (Kd.R k53 53 wr w.heap.size (fun _ => True) u5 x5_1) := ⟨by rw [← hq_]; exact (by (with_reducible repeat (first | apply Kd.R_alloc | apply Kd.R_drewN | apply Kd.R_drew)); exact HO_5.out)⟩; have n1_ : Aside0 (wr.heap[gb286]? = some (.cells #[.int .i64 x287000_1, .int .i64 x287001_1] 49 (0, 0))) := ⟨by rw [← hq_]; exact (by (with_reducible repeat (first | refine blk_drewN ?_ _ | refine blk_drew ?_ | refine blk_alloc ?_ _)); exact BK286.out)⟩; have n2_ : Aside0 (Below w.heap.size w wr) := ⟨by rw [← hq_]; exact (by repeat (first | (with_reducible first | exact HB.out | apply below_alloc | apply pw_below_drewN | apply below_drew1 | refine below_set ?_ GE286.out) | exact HB.out))⟩; clear HO_5 BK286 HB hq_; have HO_5 := n0_; have BK286 := n1_; have HB := n2_; clear n0_ n1_ n2_))) | ((with_reducible refine gate_callee (f := 49) rfl ?_); refine goesL_ (some 115) rfl rfl Tryd.func49 (by kernel_rfl) rfl #[.int .u8 (bt a0 x6_1), .string (⟨#[48, 49, 50, 51, 52, 53, 54, 55, 56, 57, 43, 45, 46, 69]⟩ : ByteArray)] rfl (by (try simp only [List.map_toArray, List.map_cons, List.map_nil]); first | done | rfl | (simp only [List.length_drop, List.length_take]; rfl)) ?_; (with_reducible refine (dragomanref8_in.calls k1 (bt a0 x6_1) (⟨#[48, 49, 50, 51, 52, 53, 54, 55, 56, 57, 43, 45, 46, 69]⟩ : ByteArray) false _ A38.out).mono ?_); rintro e w' ⟨rfl, ⟨nd, rfl⟩⟩; refine ⟨_, rfl, ?_⟩; (try (rw [drewN_self wr]; generalize hq_ : World.drewN wr _ = wr; have n0_ : Aside0 (Kd.R k53 53 wr w.heap.size (fun _ => True) u5 x5_1) := ⟨by rw [← hq_]; exact (by (with_reducible repeat (first | apply Kd.R_alloc | apply Kd.R_drewN | apply Kd.R_drew)); exact HO_5.out)⟩; have n1_ : Aside0 (wr.heap[gb286]? = some (.cells #[.int .i64 x287000_1, .int .i64 x287001_1] 49 (0, 0))) := ⟨by rw [← hq_]; exact (by (with_reducible repeat (first | refine blk_drewN ?_ _ | refine blk_drew ?_ | refine blk_alloc ?_ _)); exact BK286.out)⟩; have n2_ : Aside0 (Below w.heap.size w wr) := ⟨by rw [← hq_]; exact (by repeat (first | (with_reducible first | exact HB.out | apply below_alloc | apply pw_below_drewN | apply below_drew1 | refine below_set ?_ GE286.out) | exact HB.out))⟩; clear HO_5 BK286 HB hq_; have HO_5 := n0_; have BK286 := n1_; have HB := n2_; clear n0_ n1_ n2_))) | ((with_reducible refine gate_callee (f := 51) rfl ?_); refine goesL_ (some 39) rfl rfl Tryd.func51 (by kernel_rfl) rfl #[.string a0, .int .i64 x6_1, .string (⟨#[97, 98, 99, 100, 101, 102, 103, 104, 105, 106, 107, 108, 109, 110, 111, 112, 113, 114, 115, 116, 117, 118, 119, 120, 121, 122]⟩ : ByteArray)] rfl (by (try simp only [List.map_toArray, List.map_cons, List.map_nil]); first | done | rfl | (simp only [List.length_drop, List.length_take]; rfl)) ?_; (with_reducible refine (dragomanref8_row.calls k1 a0 x6_1 (⟨#[97, 98, 99, 100, 101, 102, 103, 104, 105, 106, 107, 108, 109, 110, 111, 112, 113, 114, 115, 116, 117, 118, 119, 120, 121, 122]⟩ : ByteArray) t312 _ A53.out).mono ?_); rintro e w' ⟨rfl, ⟨nd, rfl⟩⟩; refine ⟨_, rfl, ?_⟩; (try (rw [drewN_self wr]; generalize hq_ : World.drewN wr _ = wr; have n0_ : Aside0 (Kd.R k53 53 wr w.heap.size (fun _ => True) u5 x5_1) := ⟨by rw [← hq_]; exact (by (with_reducible repeat (first | apply Kd.R_alloc | apply Kd.R_drewN | apply Kd.R_drew)); exact HO_5.out)⟩; have n1_ : Aside0 (wr.heap[gb286]? = some (.cells #[.int .i64 x287000_1, .int .i64 x287001_1] 49 (0, 0))) := ⟨by rw [← hq_]; exact (by (with_reducible repeat (first | refine blk_drewN ?_ _ | refine blk_drew ?_ | refine blk_alloc ?_ _)); exact BK286.out)⟩; have n2_ : Aside0 (Below w.heap.size w wr) := ⟨by rw [← hq_]; exact (by repeat (first | (with_reducible first | exact HB.out | apply below_alloc | apply pw_below_drewN | apply below_drew1 | refine below_set ?_ GE286.out) | exact HB.out))⟩; clear HO_5 BK286 HB hq_; have HO_5 := n0_; have BK286 := n1_; have HB := n2_; clear n0_ n1_ n2_)); have hcz66_0 : wr.cell? ⟨gb286, 0, none⟩ = some (.int .i64 x287000_1) := (blk_cell BK286.out 0).trans rfl; have hcz66_1 : wr.cell? ⟨gb286, 1, none⟩ = some (.int .i64 x287001_1) := (blk_cell BK286.out 1).trans rfl; have hfz66_0 := blk_frozen BK286.out 0; have hfz66_1 := blk_frozen BK286.out 1))
                 refine bodyPost_ret (results_tc rfl _ _ gb286 49 #[.int .i64 4, .int .i64 x6_1] (0, 0) _ rfl (by (with_reducible repeat (first | refine blk_drewN ?_ _ | refine blk_drew ?_ | refine blk_alloc ?_ _)); refine blk_put (cs := #[.int .i64 4, .int .i64 x287001_1]) ?_ 1 _ rfl; (with_reducible repeat (first | refine blk_drewN ?_ _ | refine blk_drew ?_ | refine blk_alloc ?_ _)); refine blk_put (cs := #[.int .i64 x287000_1, .int .i64 x287001_1]) ?_ 0 _ rfl; (with_reducible repeat (first | refine blk_drewN ?_ _ | refine blk_drew ?_ | refine blk_alloc ?_ _)); exact BK286.out) Tryd.underlying49 rfl (by kernel_rfl)) rfl ?_
                 exact ⟨_, by first | rfl | (simp [errW_none, errW_some] <;> rfl) | (simp [*, errW_none, errW_some, bne]; done) | (simp [*, errW_none, errW_some] <;> rfl), by first | exact Kd.R_nil _ _ _ _ _ | exact Kd.N_nil _ _ _ _ _ | exact Kd.V_nil _ _ _ _ _ | exact Kd.Q_nil _ _ _ _ _ | exact Kd.S_nil _ _ _ _ _, by repeat (first | (with_reducible first | exact HB.out | apply below_alloc | apply pw_below_drewN | apply below_drew1 | refine below_set ?_ GE286.out) | exact HB.out)⟩
             ·rw [if_neg c56] at H
              exact absurd H (by simp)
            ·rw [if_neg c55] at H
             exact absurd H (by simp)
       ·rw [if_neg c16] at H
        exact absurd H (by simp)
      ·rw [if_neg c15] at H
       have c15b0 : decide (x6_1 < (a0.size : Int)) = false := decide_eq_false c15
       clear c15
       by_cases c67 : x5_1.length < 4398046511104
       ·rw [if_pos c67] at H
        have LMc67 := Aside0.mk c67
        clear c67
        obtain ⟨y291, hy291⟩ : ∃ y_ : List (S53), y_ = (x5_1 ++ [(⟨0, (⟨#[]⟩ : ByteArray), (a0.size : Int)⟩ : S53)]) := ⟨_, rfl⟩
        replace H : (some (y291, 0, 0)) = some (r1, r2, r3) := by first | (rw [hy291]; with_reducible exact H) | (have H2_ := (Option.bind_some _ _).symm.trans H; rw [hy291]; with_reducible exact H2_) | (have H2_ := (Option.bind_some _ _).symm.trans H; with_reducible exact H2_) | with_reducible exact H | (rw [hy291]; exact H) | exact H
        have Ny291 := Aside0.mk hy291
        clear hy291
        simp only [Option.some.injEq, Prod.mk.injEq] at H
        obtain ⟨rfl, rfl, rfl⟩ := H
        go_wp2_with (first | ((with_reducible refine gate_builtin (b := .append) (xs := #[.tmp 153, .tmp 157]) rfl ?_); at_builtin; refine Kd.R_append k53 (w0 := w) w.heap.size rfl (.tmp 153) (.tmp 157) 47 53 (.agg #[(.int .i64 0), (.string ⟨#[]⟩), (.int .i64 0)]) 32 rfl Tryd.underlying47 info53 rfl (by decide) (by omega) u5 x5_1 (⟨0, (⟨#[]⟩ : ByteArray), (a0.size : Int)⟩ : S53) [.int .i64 0, .string (⟨#[]⟩ : ByteArray), .int .i64 (a0.size : Int)] (fun _ => True) (fun _ => False) rfl rfl ?aP (fun _ hk => hk.elim) ?aF ?aO ?aB ?aS ?aL ?_; (case aP => exact k53_mkM _ _ _ (⟨0, (⟨#[]⟩ : ByteArray), (a0.size : Int)⟩ : S53)); (case aB => exact (by repeat (first | (with_reducible first | exact HB.out | apply below_alloc | apply pw_below_drewN | apply below_drew1 | refine below_set ?_ GE286.out) | exact HB.out))); (case aF => exact (fun _ _ => trivial)); (case aO => exact (by (with_reducible repeat (first | apply Kd.R_alloc | apply Kd.R_drewN | apply Kd.R_drew)); exact HO_5.out)); (case aS => exact (below_size (by repeat (first | (with_reducible first | exact HB.out | apply below_alloc | apply pw_below_drewN | apply below_drew1 | refine below_set ?_ GE286.out) | exact HB.out)))); (case aL => have := LMc67.out; omega); intro v292 w68 ho hb hg hat; rw [← Ny291.out] at ho; have n0_ := Aside0.mk (blk_grown (g := gb286) (o := .cells #[.int .i64 x287000_1, .int .i64 x287001_1] 49 (0, 0)) (by (with_reducible repeat (first | refine blk_drewN ?_ _ | refine blk_drew ?_ | refine blk_alloc ?_ _)); exact BK286.out) hg (Kd.R_ne HO_5.out BK286.out (by decide))); have n1_ := Aside0.mk (hb); have n2_ := Aside0.mk (ho); clear BK286; clear HB; clear HO_5; have BK286 := n0_; have HB := n1_; have HO293 := n2_; clear n0_ n1_ n2_; clear ho hb hg hat; have hcz69_0 : w68.cell? ⟨gb286, 0, none⟩ = some (.int .i64 x287000_1) := (blk_cell BK286.out 0).trans rfl; have hcz69_1 : w68.cell? ⟨gb286, 1, none⟩ = some (.int .i64 x287001_1) := (blk_cell BK286.out 1).trans rfl; have hfz69_0 := blk_frozen BK286.out 0; have hfz69_1 := blk_frozen BK286.out 1))
        refine bodyPost_ret (results_tc rfl _ _ gb286 49 #[.int .i64 0, .int .i64 0] (0, 0) _ rfl (by (with_reducible repeat (first | refine blk_drewN ?_ _ | refine blk_drew ?_ | refine blk_alloc ?_ _)); refine blk_put (cs := #[.int .i64 0, .int .i64 x287001_1]) ?_ 1 _ rfl; (with_reducible repeat (first | refine blk_drewN ?_ _ | refine blk_drew ?_ | refine blk_alloc ?_ _)); refine blk_put (cs := #[.int .i64 x287000_1, .int .i64 x287001_1]) ?_ 0 _ rfl; (with_reducible repeat (first | refine blk_drewN ?_ _ | refine blk_drew ?_ | refine blk_alloc ?_ _)); exact BK286.out) Tryd.underlying49 rfl (by kernel_rfl)) rfl ?_
        exact ⟨_, by first | rfl | (simp [errW_none, errW_some] <;> rfl) | (simp [*, errW_none, errW_some, bne]; done) | (simp [*, errW_none, errW_some] <;> rfl), by (with_reducible repeat (first | apply Kd.R_alloc | apply Kd.R_drewN | apply Kd.R_drew)); exact Kd.R_mono (Kd.R_far (p := ⟨gb286, 1, none⟩) (Kd.R_far (p := ⟨gb286, 0, none⟩) (Kd.R_types HO293.out BK286.out (by decide)) (fun _ hk => hk.2) (.int .i64 0)) (fun _ hk => hk.2) (.int .i64 0)) (fun _ hk => trivial), by repeat (first | (with_reducible first | exact HB.out | apply below_alloc | apply pw_below_drewN | apply below_drew1 | refine below_set ?_ GE286.out) | exact HB.out)⟩
       ·rw [if_neg c67] at H
        exact absurd H (by simp)
   ·rw [if_neg c10] at H
    exact absurd H (by simp)
end Go.Proofs.YtoanbmggffkmgaaDoor.P
end
section
namespace Go.Proofs.YtoanbmggffkmgaaDoor.P
open Go.RowKit Go.Proofs.YtoanbmggffkmgaaDoorW.PrintWords Go.Proofs.YtoanbmggffkmgaaDoorW.PrintLast Go.Proofs.YtoanbmggffkmgaaDoorW.PrintMore
attribute [local go_sem] max2_int min2_int max_two min_two max_three min_three max_four min_four   -- for this text's walks alone
set_option linter.unusedVariables false
set_option linter.unusedSimpArgs false
/-! ### dragomanref1_clamp: function 53 -/
def dragomanref1_clamp.f (a0 : ByteArray) (a1 : Int) : Option (Int) := if a1 < 0 then (some 0) else (if a1 > (a0.size : Int) then (some (a0.size : Int)) else (some a1))
set_option maxHeartbeats 8000000 in
set_option maxRecDepth 100000 in
theorem dragomanref1_clamp.calls (a0 : ByteArray) (a1 : Int) (r : Int) (w : World) (h : dragomanref1_clamp.f a0 a1 = some r) :
  Calls Tryd.prog 53 #[.string a0, .int .i64 a1] w fun e w' => e = .returned (.int .i64 r) ∧ Drawn0 w w' := by
 have H : (if a1 < 0 then (some 0) else (if a1 > (a0.size : Int) then (some (a0.size : Int)) else (some a1))) = some r := h
 clear h
 by_cases c3 : a1 < 0
 ·rw [if_pos c3] at H
  have c3b0 : decide (a1 < 0) = true := decide_eq_true c3
  clear c3
  obtain rfl := Option.some.inj H
  go_enter Tryd.func53, Tryd.ntmps53
  go_wp2
  go_ret
  exact ⟨by first | rfl | (simp; done) | (simp [*]; done), by repeat (first | exact Drawn0.refl _ | apply Drawn0.step)⟩
 ·rw [if_neg c3] at H
  have c3b0 : decide (a1 < 0) = false := decide_eq_false c3
  clear c3
  by_cases c4 : a1 > (a0.size : Int)
  ·rw [if_pos c4] at H
   have c4b0 : decide ((a0.size : Int) < a1) = true := decide_eq_true c4
   clear c4
   obtain rfl := Option.some.inj H
   go_enter Tryd.func53, Tryd.ntmps53
   go_wp2
   go_ret
   exact ⟨by first | rfl | (simp; done) | (simp [*]; done), by repeat (first | exact Drawn0.refl _ | apply Drawn0.step)⟩
  ·rw [if_neg c4] at H
   have c4b0 : decide ((a0.size : Int) < a1) = false := decide_eq_false c4
   clear c4
   obtain rfl := Option.some.inj H
   go_enter Tryd.func53, Tryd.ntmps53
   go_wp2
   go_ret
   exact ⟨by first | rfl | (simp; done) | (simp [*]; done), by repeat (first | exact Drawn0.refl _ | apply Drawn0.step)⟩
end Go.Proofs.YtoanbmggffkmgaaDoor.P
end
section
namespace Go.Proofs.YtoanbmggffkmgaaDoor.P
open Go.RowKit Go.Proofs.YtoanbmggffkmgaaDoorW.PrintWords Go.Proofs.YtoanbmggffkmgaaDoorW.PrintLast Go.Proofs.YtoanbmggffkmgaaDoorW.PrintMore
attribute [local go_sem] max2_int min2_int max_two min_two max_three min_three max_four min_four   -- for this text's walks alone
set_option linter.unusedVariables false
set_option linter.unusedSimpArgs false
/-! ### dragomanref1_Of: function 52 -/
def dragomanref1_Of.l0 : Nat → ByteArray → Int → Int → Int → Int → Option (Int × Int)
 | 0, _, _, _, _, _ => none
 | k + 1, x0, x1, x6, x7, x8 => if x8 < x1 then (if 0 ≤ x8 then (if x8 < (x0.size : Int) then (if (bt x0 x8) = 10 then (dragomanref1_Of.l0 k x0 x1 (wrap64 (x6 + 1)) (wrap64 (x8 + 1)) (wrap64 (x8 + 1))) else (dragomanref1_Of.l0 k x0 x1 x6 x7 (wrap64 (x8 + 1)))) else (none)) else (none)) else (if 0 ≤ x7 then (if x7 ≤ x1 then (if x1 ≤ (x0.size : Int) then ((dragomanref1_Starts.f k (x0.extract (x7 : Int).toNat (x1 : Int).toNat)).bind fun t331 => (some (x6, (t331.length : Int)))) else (none)) else (none)) else (none))
def dragomanref1_Of.f (k : Nat) (a0 : ByteArray) (a1 : Int) : Option (Int × Int) := (dragomanref1_clamp.f a0 a1).bind fun t330 => (dragomanref1_Of.l0 k a0 t330 1 0 0)
set_option maxHeartbeats 8000000 in
set_option maxRecDepth 100000 in
theorem dragomanref1_Of.calls (k : Nat) (a0 : ByteArray) (a1 : Int) (r1 : Int) (r2 : Int) (w : World) (h : dragomanref1_Of.f k a0 a1 = some (r1, r2)) :
  Calls Tryd.prog 52 #[.string a0, .int .i64 a1] w fun e w' => e = .returned (.tuple #[.int .i64 r1, .int .i64 r2]) ∧ Below w.heap.size w w' := by
 have HB := Aside0.mk (Below.refl w.heap.size w)
 have H : ((dragomanref1_clamp.f a0 a1).bind fun t330 => (dragomanref1_Of.l0 k a0 t330 1 0 0)) = some (r1, r2) := h
 clear h
 replace H := Option.bind_eq_some_iff.mp H
 obtain ⟨t330, A30, H⟩ := H
 replace H : (dragomanref1_Of.l0 k a0 t330 1 0 0) = some (r1, r2) := H
 have A3 := Aside0.mk A30
 clear A30
 have H' := Aside0.mk H
 clear H
 go_enter Tryd.func52, Tryd.ntmps52
 go_wp2_with (first | ((with_reducible refine gate_callee (f := 53) rfl ?_); refine goesL_ (some 11) rfl rfl Tryd.func53 (by kernel_rfl) rfl #[.string a0, .int .i64 a1] rfl (by (try simp only [List.map_toArray, List.map_cons, List.map_nil]); first | done | rfl | (simp only [List.length_drop, List.length_take]; rfl)) ?_; (with_reducible refine (dragomanref1_clamp.calls a0 a1 t330 _ A3.out).mono ?_); rintro e w' ⟨rfl, ⟨nd, rfl⟩⟩; refine ⟨_, rfl, ?_⟩))
 go_loopg [6, 7, 8] k (fun kq v6 v7 v8 w' => ∃ (x6_1 : Int) (x7_1 : Int) (x8_1 : Int), v6 = .int .i64 x6_1 ∧ v7 = .int .i64 x7_1 ∧ v8 = .int .i64 x8_1 ∧ Aside0 (dragomanref1_Of.l0 kq a0 t330 x6_1 x7_1 x8_1 = some (r1, r2)) ∧ Aside0 (kq ≤ k) ∧ Aside0 (Below w.heap.size w w'))
 case atStart => exact ⟨(1), (0), (0), (by first | rfl | (simp; done) | (simp [*]; done)), (by first | rfl | (simp; done) | (simp [*]; done)), (by first | rfl | (simp; done) | (simp [*]; done)), H', ⟨Nat.le_refl _⟩, ⟨by repeat (first | (with_reducible first | exact HB.out | apply below_alloc | apply pw_below_drewN | apply below_drew1) | exact HB.out)⟩⟩
 case round =>
  clear H'
  try clear p2
  obtain ⟨x6_1, x7_1, x8_1, rfl, rfl, rfl, HA, HK1, HB⟩ := hrel
  cases gk with
  | zero => exact absurd HA.out (by simp [dragomanref1_Of.l0])
  | succ k1 =>
   have H := HA.out
   clear HA
   simp only [dragomanref1_Of.l0] at H
   by_cases c4 : x8_1 < t330
   ·rw [if_pos c4] at H
    have c4b0 : decide (x8_1 < t330) = true := decide_eq_true c4
    clear c4
    by_cases c5 : 0 ≤ x8_1
    ·rw [if_pos c5] at H
     have c5b0 : decide (0 ≤ x8_1) = true := decide_eq_true c5
     clear c5
     by_cases c6 : x8_1 < (a0.size : Int)
     ·rw [if_pos c6] at H
      have c6b0 : decide (x8_1 < (a0.size : Int)) = true := decide_eq_true c6
      clear c6
      by_cases c8 : (bt a0 x8_1) = 10
      ·rw [if_pos c8] at H
       have c8b0 : ((bt a0 x8_1) == 10) = true := beq_iff_eq.mpr c8
       have c8b1 : ((bt a0 x8_1) != 10) = false := bne_eq_false_iff_eq.mpr c8
       clear c8
       have H' := Aside0.mk H
       clear H
       have p7 : 0 ≤ (x8_1 : Int) := of_decide_eq_true (by first | (with_reducible assumption) | assumption)
       have q7 : x8_1 < (a0.size : Int) := of_decide_eq_true (by first | (with_reducible assumption) | assumption)
       have hx7 := bt_at a0 x8_1
       replace p7 := eq_true p7
       replace q7 := eq_true q7
       go_wp2
       go_roundg k1
       case measure => have := HK1.out; omega
       case rel => exact ⟨(wrap64 (x6_1 + 1)), (wrap64 (x8_1 + 1)), (wrap64 (x8_1 + 1)), (by first | rfl | (simp; done) | (simp [*]; done)), (by first | rfl | (simp; done) | (simp [*]; done)), (by first | rfl | (simp; done) | (simp [*]; done)), H', ⟨by have := HK1.out; omega⟩, ⟨by repeat (first | (with_reducible first | exact HB.out | apply below_alloc | apply pw_below_drewN | apply below_drew1) | exact HB.out)⟩⟩
      ·rw [if_neg c8] at H
       have c8b0 : ((bt a0 x8_1) == 10) = false := beq_eq_false_iff_ne.mpr c8
       have c8b1 : ((bt a0 x8_1) != 10) = true := bne_iff_ne.mpr c8
       have H' := Aside0.mk H
       clear H
       have p7 : 0 ≤ (x8_1 : Int) := of_decide_eq_true (by first | (with_reducible assumption) | assumption)
       have q7 : x8_1 < (a0.size : Int) := of_decide_eq_true (by first | (with_reducible assumption) | assumption)
       have hx7 := bt_at a0 x8_1
       replace p7 := eq_true p7
       replace q7 := eq_true q7
       go_wp2
       go_roundg k1
       case measure => have := HK1.out; omega
       case rel => exact ⟨(x6_1), (x7_1), (wrap64 (x8_1 + 1)), (by first | rfl | (simp; done) | (simp [*]; done)), (by first | rfl | (simp; done) | (simp [*]; done)), (by first | rfl | (simp; done) | (simp [*]; done)), H', ⟨by have := HK1.out; omega⟩, ⟨by repeat (first | (with_reducible first | exact HB.out | apply below_alloc | apply pw_below_drewN | apply below_drew1) | exact HB.out)⟩⟩
     ·rw [if_neg c6] at H
      exact absurd H (by simp)
    ·rw [if_neg c5] at H
     exact absurd H (by simp)
   ·rw [if_neg c4] at H
    have c4b0 : decide (x8_1 < t330) = false := decide_eq_false c4
    clear c4
    by_cases c9 : 0 ≤ x7_1
    ·rw [if_pos c9] at H
     have c9b0 := eq_true c9
     have c9b1 : decide (0 ≤ x7_1) = true := decide_eq_true c9
     clear c9
     by_cases c10 : x7_1 ≤ t330
     ·rw [if_pos c10] at H
      have c10b0 := eq_true c10
      have c10b1 : decide (x7_1 ≤ t330) = true := decide_eq_true c10
      clear c10
      by_cases c11 : t330 ≤ (a0.size : Int)
      ·rw [if_pos c11] at H
       have c11b0 := eq_true c11
       have c11b1 : decide (t330 ≤ (a0.size : Int)) = true := decide_eq_true c11
       clear c11
       replace H := Option.bind_eq_some_iff.mp H
       obtain ⟨t331, A120, H⟩ := H
       replace H : (some (x6_1, (t331.length : Int))) = some (r1, r2) := H
       have A12 := Aside0.mk A120
       clear A120
       simp only [Option.some.injEq, Prod.mk.injEq] at H
       obtain ⟨rfl, rfl⟩ := H
       go_wp2_with (first | ((with_reducible refine gate_callee (f := 46) rfl ?_); refine goesL_ (some 30) rfl rfl Tryd.func46 (by kernel_rfl) rfl #[.string (a0.extract (x7_1 : Int).toNat (t330 : Int).toNat)] rfl (by (try simp only [List.map_toArray, List.map_cons, List.map_nil]); first | done | rfl | (simp only [List.length_drop, List.length_take]; rfl)) ?_; (with_reducible refine (dragomanref1_Starts.calls k1 (a0.extract (x7_1 : Int).toNat (t330 : Int).toNat) t331 _ A12.out).mono ?_); rintro e w13 ⟨v332, rfl, ho0, hb⟩; refine ⟨_, rfl, ?_⟩; have n0_ := Aside0.mk (Kd.R_lower ho0 (below_size (by repeat (first | (with_reducible first | exact HB.out | apply below_alloc | apply pw_below_drewN | apply below_drew1) | exact HB.out)))); have n1_ := Aside0.mk (below_step (by repeat (first | (with_reducible first | exact HB.out | apply below_alloc | apply pw_below_drewN | apply below_drew1) | exact HB.out)) hb); clear HB; have HO333 := n0_; have HB := n1_; clear n0_ n1_; (try clear hb); (try clear hb2); (try clear hk); (try clear hi); (try clear ho0); obtain ⟨Ao14, co14, eo14⟩ := Kd.R_slice HO333.out; subst eo14))
       go_ret2
       exact ⟨by first | rfl | (simp [errW_none, errW_some] <;> rfl) | (simp [*, errW_none, errW_some, bne]; done) | (simp [*, errW_none, errW_some] <;> rfl), by repeat (first | (with_reducible first | exact HB.out | apply below_alloc | apply pw_below_drewN | apply below_drew1) | exact HB.out)⟩
      ·rw [if_neg c11] at H
       exact absurd H (by simp)
     ·rw [if_neg c10] at H
      exact absurd H (by simp)
    ·rw [if_neg c9] at H
     exact absurd H (by simp)
end Go.Proofs.YtoanbmggffkmgaaDoor.P
end
section
namespace Go.Proofs.YtoanbmggffkmgaaDoor.P
open Go.RowKit Go.Proofs.YtoanbmggffkmgaaDoorW.PrintWords Go.Proofs.YtoanbmggffkmgaaDoorW.PrintLast Go.Proofs.YtoanbmggffkmgaaDoorW.PrintMore
attribute [local go_sem] max2_int min2_int max_two min_two max_three min_three max_four min_four   -- for this text's walks alone
set_option linter.unusedVariables false
set_option linter.unusedSimpArgs false
/-! ### dragomanref1_Fault: function 30 -/
def dragomanref1_Fault.f (k : Nat) (a0 : ByteArray) (a1 : Int) (a2 : Int) : Option (Int × Int × Int × Int) := (dragomanref1_Of.f k a0 a1).bind fun bt335 => ((dragomanref1_clamp.f a0 a1).bind fun t337 => (some (a2, t337, bt335.1, bt335.2)))
set_option maxHeartbeats 8000000 in
set_option maxRecDepth 100000 in
theorem dragomanref1_Fault.calls (k : Nat) (a0 : ByteArray) (a1 : Int) (a2 : Int) (r1 : Int) (r2 : Int) (r3 : Int) (r4 : Int) (w : World) (h : dragomanref1_Fault.f k a0 a1 a2 = some (r1, r2, r3, r4)) :
  Calls Tryd.prog 30 #[.string a0, .int .i64 a1, .int .i64 a2] w fun e w' => e = .returned (.agg #[.int .i64 r1, .int .i64 r2, .int .i64 r3, .int .i64 r4]) ∧ Below w.heap.size w w' := by
 have hu26 := Tryd.underlying26
 have HB := Aside0.mk (Below.refl w.heap.size w)
 have H : ((dragomanref1_Of.f k a0 a1).bind fun bt335 => ((dragomanref1_clamp.f a0 a1).bind fun t337 => (some (a2, t337, bt335.1, bt335.2)))) = some (r1, r2, r3, r4) := h
 clear h
 replace H := Option.bind_eq_some_iff.mp H
 obtain ⟨⟨t335, t336⟩, A40, H⟩ := H
 replace H : ((dragomanref1_clamp.f a0 a1).bind fun t337 => (some (a2, t337, t335, t336))) = some (r1, r2, r3, r4) := H
 have A4 := Aside0.mk A40
 clear A40
 replace H := Option.bind_eq_some_iff.mp H
 obtain ⟨t337, A50, H⟩ := H
 replace H : (some (a2, t337, t335, t336)) = some (r1, r2, r3, r4) := H
 have A5 := Aside0.mk A50
 clear A50
 simp only [Option.some.injEq, Prod.mk.injEq] at H
 obtain ⟨rfl, rfl, rfl, rfl⟩ := H
 go_enter Tryd.func30, Tryd.ntmps30
 go_wp2_with (first | ((with_reducible refine gate_dst (N := 6) rfl ?_); refine box_event ?hg (N := 6) ?hd (cs := #[.int .i64 0, .int .i64 0, .int .i64 0, .int .i64 0]) (t := 26) ?hr ?_; (case hd => rfl); (case hg => rfl); (case hr => first | (go_simp; done) | (go_simp; rfl)); intro gb334 hg w6 hbox hb; have n0_ := Aside0.mk (below_step (by repeat (first | (with_reducible first | exact HB.out | apply below_alloc | apply pw_below_drewN | apply below_drew1) | exact HB.out)) hb); have n1_ := Aside0.mk (hbox); have n2_ := Aside0.mk ((by rw [hg]; exact (below_size (by repeat (first | (with_reducible first | exact HB.out | apply below_alloc | apply pw_below_drewN | apply below_drew1) | exact HB.out))) : w.heap.size ≤ gb334)); have n3_ := Aside0.mk ((by rw [hg]; exact (below_size (by repeat (first | (with_reducible first | exact HB.out | apply below_alloc | apply pw_below_drewN | apply below_drew1) | exact HB.out))) : w.heap.size ≤ gb334)); clear HB; have HB := n0_; have BK334 := n1_; have GW334 := n2_; have GE334 := n3_; clear n0_ n1_ n2_ n3_; clear hb hbox hg) | ((with_reducible refine gate_callee (f := 52) rfl ?_); refine goesL_ (some 12) rfl rfl Tryd.func52 (by kernel_rfl) rfl #[.string a0, .int .i64 a1] rfl (by (try simp only [List.map_toArray, List.map_cons, List.map_nil]); first | done | rfl | (simp only [List.length_drop, List.length_take]; rfl)) ?_; (with_reducible refine (dragomanref1_Of.calls k a0 a1 t335 t336 _ A4.out).mono ?_); rintro e w7 ⟨rfl, hb⟩; refine ⟨_, rfl, ?_⟩; have n0_ := Aside0.mk (blk_below (g := gb334) (o := .cells #[.int .i64 0, .int .i64 0, .int .i64 0, .int .i64 0] 26 (0, 0)) (by (with_reducible repeat (first | refine blk_drewN ?_ _ | refine blk_drew ?_ | refine blk_alloc ?_ _)); exact BK334.out) hb); have n1_ := Aside0.mk (below_step (by repeat (first | (with_reducible first | exact HB.out | apply below_alloc | apply pw_below_drewN | apply below_drew1 | refine below_set ?_ GE334.out) | exact HB.out)) hb); clear BK334; clear HB; have BK334 := n0_; have HB := n1_; clear n0_ n1_; (try clear hb); (try clear hb2); (try clear hk); (try clear hi)) | ((with_reducible refine gate_callee (f := 53) rfl ?_); refine goesL_ (some 18) rfl rfl Tryd.func53 (by kernel_rfl) rfl #[.string a0, .int .i64 a1] rfl (by (try simp only [List.map_toArray, List.map_cons, List.map_nil]); first | done | rfl | (simp only [List.length_drop, List.length_take]; rfl)) ?_; (with_reducible refine (dragomanref1_clamp.calls a0 a1 t337 _ A5.out).mono ?_); rintro e w' ⟨rfl, ⟨nd, rfl⟩⟩; refine ⟨_, rfl, ?_⟩; (try (rw [drewN_self w7]; generalize hq_ : World.drewN w7 _ = w7; have n0_ : Aside0 (w7.heap[gb334]? = some (.cells #[.int .i64 0, .int .i64 0, .int .i64 0, .int .i64 0] 26 (0, 0))) := ⟨by rw [← hq_]; exact (by (with_reducible repeat (first | refine blk_drewN ?_ _ | refine blk_drew ?_ | refine blk_alloc ?_ _)); exact BK334.out)⟩; have n1_ : Aside0 (Below w.heap.size w w7) := ⟨by rw [← hq_]; exact (by repeat (first | (with_reducible first | exact HB.out | apply below_alloc | apply pw_below_drewN | apply below_drew1 | refine below_set ?_ GE334.out) | exact HB.out))⟩; clear BK334 HB hq_; have BK334 := n0_; have HB := n1_; clear n0_ n1_)); have hcz8_0 : w7.cell? ⟨gb334, 0, none⟩ = some (.int .i64 0) := (blk_cell BK334.out 0).trans rfl; have hcz8_1 : w7.cell? ⟨gb334, 1, none⟩ = some (.int .i64 0) := (blk_cell BK334.out 1).trans rfl; have hcz8_2 : w7.cell? ⟨gb334, 2, none⟩ = some (.int .i64 0) := (blk_cell BK334.out 2).trans rfl; have hcz8_3 : w7.cell? ⟨gb334, 3, none⟩ = some (.int .i64 0) := (blk_cell BK334.out 3).trans rfl; have hfz8_0 := blk_frozen BK334.out 0; have hfz8_1 := blk_frozen BK334.out 1; have hfz8_2 := blk_frozen BK334.out 2; have hfz8_3 := blk_frozen BK334.out 3))
 refine bodyPost_ret (results_cell_row rfl _ _ gb334 26 #[.int .i64 a2, .int .i64 t337, .int .i64 t335, .int .i64 t336] (0, 0) _ rfl (by (with_reducible repeat (first | refine blk_drewN ?_ _ | refine blk_drew ?_ | refine blk_alloc ?_ _)); refine blk_put (cs := #[.int .i64 a2, .int .i64 t337, .int .i64 t335, .int .i64 0]) ?_ 3 _ rfl; (with_reducible repeat (first | refine blk_drewN ?_ _ | refine blk_drew ?_ | refine blk_alloc ?_ _)); refine blk_put (cs := #[.int .i64 a2, .int .i64 t337, .int .i64 0, .int .i64 0]) ?_ 2 _ rfl; (with_reducible repeat (first | refine blk_drewN ?_ _ | refine blk_drew ?_ | refine blk_alloc ?_ _)); refine blk_put (cs := #[.int .i64 a2, .int .i64 0, .int .i64 0, .int .i64 0]) ?_ 1 _ rfl; (with_reducible repeat (first | refine blk_drewN ?_ _ | refine blk_drew ?_ | refine blk_alloc ?_ _)); refine blk_put (cs := #[.int .i64 0, .int .i64 0, .int .i64 0, .int .i64 0]) ?_ 0 _ rfl; (with_reducible repeat (first | refine blk_drewN ?_ _ | refine blk_drew ?_ | refine blk_alloc ?_ _)); exact BK334.out) Tryd.underlying26 rfl (by kernel_rfl)) rfl ?_
 exact ⟨by first | rfl | (simp [errW_none, errW_some] <;> rfl) | (simp [*, errW_none, errW_some, bne]; done) | (simp [*, errW_none, errW_some] <;> rfl), by repeat (first | (with_reducible first | exact HB.out | apply below_alloc | apply pw_below_drewN | apply below_drew1 | refine below_set ?_ GE334.out) | exact HB.out)⟩
end Go.Proofs.YtoanbmggffkmgaaDoor.P
end
section
namespace Go.Proofs.YtoanbmggffkmgaaDoor.P
open Go.RowKit Go.Proofs.YtoanbmggffkmgaaDoorW.PrintWords Go.Proofs.YtoanbmggffkmgaaDoorW.PrintLast Go.Proofs.YtoanbmggffkmgaaDoorW.PrintMore
attribute [local go_sem] max2_int min2_int max_two min_two max_three min_three max_four min_four   -- for this text's walks alone
set_option linter.unusedVariables false
set_option linter.unusedSimpArgs false
theorem eqA30 (d : Nat) (w : World) (x0 y0 : Int) (x1 y1 : ByteArray) (x2 y2 : Int) :
  (Op.equalIn (d + 2) 30 (.agg #[.int .i64 x0, .string x1, .int .i64 x2]) (.agg #[.int .i64 y0, .string y1, .int .i64 y2])).run Tryd.prog w = .ok (x0 == y0 && (x1.toList == y1.toList && (x2 == y2))) w := by
 refine eqA_of Tryd.underlying30 (by kernel_rfl) ?_
 refine eqf_cons (by rfl) (by go_simp; rfl) (by go_simp; rfl) (by go_simp) ?_
 refine eqf_cons (by rfl) (by go_simp; rfl) (by go_simp; rfl) (by go_simp) ?_
 exact eqf_last (by rfl) (by go_simp; rfl) (by go_simp; rfl) (by go_simp)
end Go.Proofs.YtoanbmggffkmgaaDoor.P
end
section
namespace Go.Proofs.YtoanbmggffkmgaaDoor.P
open Go.RowKit Go.Proofs.YtoanbmggffkmgaaDoorW.PrintWords Go.Proofs.YtoanbmggffkmgaaDoorW.PrintLast Go.Proofs.YtoanbmggffkmgaaDoorW.PrintMore
attribute [local go_sem high] eqA26 eqA30
theorem awake7_1 : jlex_Cut.f 20 (⟨#[91, 49, 93]⟩ : ByteArray) = some ([⟨1, ⟨#[91]⟩, 0⟩, ⟨3, ⟨#[49]⟩, 1⟩, ⟨1, ⟨#[93]⟩, 2⟩, ⟨0, ⟨#[]⟩, 3⟩], 0, 0, 0, 0) := by kernel_rfl
theorem awake7_2 : jlex_Cut.f 20 (⟨#[32, 64]⟩ : ByteArray) = some ([], 4, 1, 1, 2) := by kernel_rfl
set_option maxHeartbeats 4000000 in
theorem awake7_walk (w : World) : Calls Tryd.prog 12 #[] w fun e w' => e = .returned (.bool true) ∧ Below w.heap.size w w' := by
 go_enter Tryd.func12, Tryd.ntmps12
 go_wp2_with fail
 refine (jlex_Cut.calls 20 _ _ _ _ _ _ _ awake7_1).mono ?_
 rintro e w1 ⟨v1, rfl, hR1, hb1⟩
 go_wp2_with fail
 refine (jlex_Cut.calls 20 _ _ _ _ _ _ _ awake7_2).mono ?_
 rintro e w2 ⟨v2, rfl, hR2, hb2⟩
 have hbk := hb2.block w1.heap.size (by simp)
 rw [show (w1.alloc (.cells #[.int .i64 0, .int .i64 0, .int .i64 0, .int .i64 0] 26)).heap[w1.heap.size]? = some (.cells #[.int .i64 0, .int .i64 0, .int .i64 0, .int .i64 0] 26 (0, 0)) from by simpa using heap_alloc_new w1 _] at hbk
 have hB2 : Below w1.heap.size w1 w2 := below_step (below_alloc (Below.refl _ _) _) hb2
 have hR3 := Kd.R_below hR1 hB2
 have hlt : w1.heap.size < w2.heap.size := by have := hb2.size; simp at this; omega
 have z0 : w2.cell? ⟨w1.heap.size, 0, none⟩ = some (.int .i64 0) := (blk_cell hbk 0).trans rfl
 have z1 : w2.cell? ⟨w1.heap.size, 1, none⟩ = some (.int .i64 0) := (blk_cell hbk 1).trans rfl
 have z2 : w2.cell? ⟨w1.heap.size, 2, none⟩ = some (.int .i64 0) := (blk_cell hbk 2).trans rfl
 have z3 : w2.cell? ⟨w1.heap.size, 3, none⟩ = some (.int .i64 0) := (blk_cell hbk 3).trans rfl
 have hR4 := Kd.R_below hR3 (below_alloc (Below.refl w2.heap.size w2) (.cells #[.int .i64 4, .int .i64 1, .int .i64 1, .int .i64 2] 26))
 obtain ⟨A, c, rfl, hl, hC⟩ := Kd.R_reads hR4
 obtain ⟨ad, rfl, x0, x1, x2⟩ := at_T30 hC 1 (by decide) (by decide)
 obtain ⟨ad', e', y0, y1, y2⟩ := at_T30 hC 3 (by decide) (by decide)
 obtain rfl := Option.some.inj e'
 have hB4 := below_alloc (below_step hb1 hB2) (.cells #[.int .i64 4, .int .i64 1, .int .i64 1, .int .i64 2] 26)
 generalize hW : w2.alloc (.cells #[.int .i64 4, .int .i64 1, .int .i64 1, .int .i64 2] 26) = W at x0 x1 x2 y0 y1 y2 hB4
 replace x0 : W.cell? ⟨ad.block, ad.off + 3, none⟩ = some (.int .i64 3) := x0
 replace x1 : W.cell? ⟨ad.block, ad.off + 3 + 1, none⟩ = some (.string ⟨#[49]⟩) := x1
 replace x2 : W.cell? ⟨ad.block, ad.off + 3 + 2, none⟩ = some (.int .i64 1) := x2
 replace y0 : W.cell? ⟨ad.block, ad.off + 9, none⟩ = some (.int .i64 0) := y0
 replace y1 : W.cell? ⟨ad.block, ad.off + 9 + 1, none⟩ = some (.string ⟨#[]⟩) := y1
 replace y2 : W.cell? ⟨ad.block, ad.off + 9 + 2, none⟩ = some (.int .i64 3) := y2
 rw [← hW] at x0 x1 x2 y0 y1 y2 hB4
 clear hW hR1 hR2 hR3 hR4 hC hbk hb2 hb1 hB2
 go_wp2
 go_ret
 exact ⟨rfl, by first | exact hB4 | exact pw_below_drewN hB4 _⟩
def dragomanlaw7_awake.f : Option Bool := some true
theorem dragomanlaw7_awake.calls (r : Bool) (w : World) (h : dragomanlaw7_awake.f = some r) : Calls Tryd.prog 12 #[] w fun e w' => e = .returned (.bool r) ∧ Below w.heap.size w w' := by
 obtain rfl : true = r := Option.some.inj h
 exact awake7_walk w
end Go.Proofs.YtoanbmggffkmgaaDoor.P
end
section
namespace Go.Proofs.YtoanbmggffkmgaaDoor.P
open Go.RowKit Go.Proofs.YtoanbmggffkmgaaDoorW.PrintWords Go.Proofs.YtoanbmggffkmgaaDoorW.PrintLast Go.Proofs.YtoanbmggffkmgaaDoorW.PrintMore
attribute [local go_sem] max2_int min2_int max_two min_two max_three min_three max_four min_four   -- for this text's walks alone
set_option linter.unusedVariables false
set_option linter.unusedSimpArgs false
attribute [local go_sem high] eqA26
/-! ### dragomanlaw7_JlexCuts: function 10 -/
mutual
def dragomanlaw7_JlexCuts.j0 : Nat → List (S30) → List (S53) → Bool → Option (Bool)
 | 0, _, _, _ => none
 | k + 1, x3, x5, x48 => if x48 = true then (some false) else (dragomanlaw7_JlexCuts.l0 k x3 x5 0)
def dragomanlaw7_JlexCuts.l0 : Nat → List (S30) → List (S53) → Int → Option (Bool)
 | 0, _, _, _ => none
 | k + 1, x3, x5, x7 => if x7 < (x3.length : Int) then (if 0 ≤ x7 then (if x7 < (x5.length : Int) then (if ((rd_T30 x3 x7).f0) = ((rd_T53 x5 x7).f0) then (if ((rd_T30 x3 x7).f1).toList = ((rd_T53 x5 x7).f1).toList then (if ((rd_T30 x3 x7).f2) = ((rd_T53 x5 x7).f2) then (dragomanlaw7_JlexCuts.l0 k x3 x5 (wrap64 (x7 + 1))) else (some false)) else (some false)) else (some false)) else (none)) else (none)) else (some true)
end
def dragomanlaw7_JlexCuts.f (k : Nat) (a0 : ByteArray) : Option (Bool) := (dragomanlaw7_awake.f).bind fun t338 => (if t338 = true then (if (a0.size : Int) > 2000 then (some true) else ((jlex_Cut.f k a0).bind fun bt339 => ((dragomanref8_Cut.f k a0).bind fun bt347 => (if bt347.2.1 = 0 then (if (!(bt339.2.1 == 0) || (!(bt339.2.2.1 == 0) || (!(bt339.2.2.2.1 == 0) || (!(bt339.2.2.2.2 == 0))))) = true then (dragomanlaw7_JlexCuts.j0 k bt339.1 bt347.1 true) else (dragomanlaw7_JlexCuts.j0 k bt339.1 bt347.1 ((bt339.1.length : Int) != (bt347.1.length : Int)))) else ((dragomanref1_Fault.f k a0 bt347.2.2 bt347.2.1).bind fun bt353 => (if (bt339.2.1 == bt353.1 && (bt339.2.2.1 == bt353.2.1 && (bt339.2.2.2.1 == bt353.2.2.1 && (bt339.2.2.2.2 == bt353.2.2.2)))) = true then (some ((bt339.1.length : Int) == 0)) else (some false))))))) else (some false))
def dragomanlaw7_JlexCuts.T8 : Bool × List (List Nat × List Nat) := (true, [([], []), ([], []), ([], []), ([2], [2]), ([], []), ([4], [4]), ([1, 3, 5], [1, 3, 5]), ([0, 6], [0, 6]), ([7, 6], [7]), ([8], [8]), ([9, 8], [8, 9]), ([10, 8], [8, 10]), ([8, 11], [8, 11]), ([12, 8, 0, 1, 2, 3, 4, 5, 6, 7, 8, 9, 10, 11, 12], [12])])
def dragomanlaw7_JlexCuts.B8 : List Nat := [0, 0, 0, 4, 0, 16, 62, 127, 255, 511, 1023, 2047, 4095, 8191]
theorem dragomanlaw7_JlexCuts.tab8 : rtab .any (opsOf Tryd.f10 8) = dragomanlaw7_JlexCuts.T8 := by kernel_rfl
theorem dragomanlaw7_JlexCuts.bits8 : waitsOk dragomanlaw7_JlexCuts.T8.2 dragomanlaw7_JlexCuts.B8 = true := by kernel_rfl
def dragomanlaw7_JlexCuts.T14 : Bool × List (List Nat × List Nat) := (true, [([], []), ([], []), ([0, 1], [0, 1]), ([2], [2]), ([3], [3]), ([], []), ([], []), ([5, 6], [5, 6]), ([7], [7]), ([8], [8]), ([4, 9], [4, 9]), ([10], [10]), ([11], [11]), ([11], [11]), ([12, 13, 11], [11, 12, 13]), ([14, 11], [11, 14]), ([15, 11], [11, 15]), ([11], [11]), ([11], [11]), ([17, 18, 11], [11, 17, 18]), ([19, 11], [11, 19]), ([20, 11], [11, 20]), ([16, 21, 11], [11, 16, 21]), ([11, 22], [11, 22]), ([23, 11], [23]), ([24], [24]), ([24], [24]), ([25, 26, 24], [24, 25, 26]), ([27, 24], [24, 27]), ([28, 24], [24, 28]), ([24], [24]), ([24], [24]), ([30, 31, 24], [24, 30, 31]), ([32, 24], [24, 32]), ([33, 24], [24, 33]), ([29, 34, 24], [24, 29, 34]), ([24, 35], [24, 35])])
def dragomanlaw7_JlexCuts.B14 : List Nat := [0, 0, 3, 7, 15, 0, 0, 96, 224, 480, 1023, 2047, 4095, 4095, 16383, 32767, 65535, 4095, 4095, 397311, 921599, 1970175, 4194303, 8388607, 16777215, 33554431, 33554431, 134217727, 268435455, 536870911, 33554431, 33554431, 3254779903, 7549747199, 16139681791, 34359738367, 68719476735]
theorem dragomanlaw7_JlexCuts.tab14 : rtab .any (opsOf Tryd.f10 14) = dragomanlaw7_JlexCuts.T14 := by kernel_rfl
theorem dragomanlaw7_JlexCuts.bits14 : waitsOk dragomanlaw7_JlexCuts.T14.2 dragomanlaw7_JlexCuts.B14 = true := by kernel_rfl
set_option maxHeartbeats 8000000 in
set_option maxRecDepth 100000 in
theorem dragomanlaw7_JlexCuts.calls (k : Nat) (a0 : ByteArray) (r : Bool) (w : World) (HR : Aside0 (r = true)) (h : dragomanlaw7_JlexCuts.f k a0 = some r) :
  Calls Tryd.prog 10 #[.string a0] w fun e w' => e = .returned (.bool r) ∧ Below w.heap.size w w' := by
 have hu26 := Tryd.underlying26
 have hu49 := Tryd.underlying49
 have HB := Aside0.mk (Below.refl w.heap.size w)
 have H : ((dragomanlaw7_awake.f).bind fun t338 => (if t338 = true then (if (a0.size : Int) > 2000 then (some true) else ((jlex_Cut.f k a0).bind fun bt339 => ((dragomanref8_Cut.f k a0).bind fun bt347 => (if bt347.2.1 = 0 then (if (!(bt339.2.1 == 0) || (!(bt339.2.2.1 == 0) || (!(bt339.2.2.2.1 == 0) || (!(bt339.2.2.2.2 == 0))))) = true then (dragomanlaw7_JlexCuts.j0 k bt339.1 bt347.1 true) else (dragomanlaw7_JlexCuts.j0 k bt339.1 bt347.1 ((bt339.1.length : Int) != (bt347.1.length : Int)))) else ((dragomanref1_Fault.f k a0 bt347.2.2 bt347.2.1).bind fun bt353 => (if (bt339.2.1 == bt353.1 && (bt339.2.2.1 == bt353.2.1 && (bt339.2.2.2.1 == bt353.2.2.1 && (bt339.2.2.2.2 == bt353.2.2.2)))) = true then (some ((bt339.1.length : Int) == 0)) else (some false))))))) else (some false))) = some r := h
 clear h
 replace H := Option.bind_eq_some_iff.mp H
 obtain ⟨t338, A20, H⟩ := H
 (try dsimp only at H)
 have A2 := Aside0.mk A20
 clear A20
 by_cases c3 : t338 = true
 ·subst c3
  rw [if_pos rfl] at H
  by_cases c4 : (a0.size : Int) > 2000
  ·rw [if_pos c4] at H
   have c4b0 : decide (2000 < (a0.size : Int)) = true := decide_eq_true c4
   have c4b1 : decide (2000 < a0.size) = true := decide_eq_true (by omega)
   clear c4
   obtain rfl := Option.some.inj H
   go_enter Tryd.func10, Tryd.ntmps10
   go_wp2_with (first | ((with_reducible refine gate_callee (f := 12) rfl ?_); refine goesL_ (some 8) rfl rfl Tryd.func12 (by kernel_rfl) rfl #[] rfl (by (try simp only [List.map_toArray, List.map_cons, List.map_nil]); first | done | rfl | (simp only [List.length_drop, List.length_take]; rfl)) ?_; (with_reducible refine (dragomanlaw7_awake.calls  true _ A2.out).mono ?_); rintro e w5 ⟨rfl, hb⟩; refine ⟨_, rfl, ?_⟩; have n0_ := Aside0.mk (below_step (by repeat (first | (with_reducible first | exact HB.out | apply below_alloc | apply pw_below_drewN | apply below_drew1) | exact HB.out)) hb); clear HB; have HB := n0_; clear n0_; (try clear hb); (try clear hb2); (try clear hk); (try clear hi)))
   go_ret
   exact ⟨by first | rfl | (simp [errW_none, errW_some] <;> rfl) | (simp [*, errW_none, errW_some, bne]; done) | (simp [*, errW_none, errW_some] <;> rfl), by repeat (first | (with_reducible first | exact HB.out | apply below_alloc | apply pw_below_drewN | apply below_drew1) | exact HB.out)⟩
  ·rw [if_neg c4] at H
   have c4b0 : decide (2000 < (a0.size : Int)) = false := decide_eq_false c4
   have c4b1 : decide (2000 < a0.size) = false := decide_eq_false (by omega)
   clear c4
   replace H := Option.bind_eq_some_iff.mp H
   obtain ⟨⟨t339, t342, t343, t344, t345⟩, A60, H⟩ := H
   (try dsimp only at H)
   have A6 := Aside0.mk A60
   clear A60
   replace H := Option.bind_eq_some_iff.mp H
   obtain ⟨⟨t347, t350, t351⟩, A70, H⟩ := H
   (try dsimp only at H)
   have A7 := Aside0.mk A70
   clear A70
   by_cases c8 : t350 = 0
   ·rw [if_pos c8] at H
    have c8b0 : (t350 == 0) = true := beq_iff_eq.mpr c8
    have c8b1 : (t350 != 0) = false := bne_eq_false_iff_eq.mpr c8
    clear c8
    have HC9 := Aside0.mk H
    clear H
    go_enter Tryd.func10, Tryd.ntmps10
    go_upto_region 9 with (first | ((with_reducible refine gate_callee (f := 12) rfl ?_); refine goesL_ (some 8) rfl rfl Tryd.func12 (by kernel_rfl) rfl #[] rfl (by (try simp only [List.map_toArray, List.map_cons, List.map_nil]); first | done | rfl | (simp only [List.length_drop, List.length_take]; rfl)) ?_; (with_reducible refine (dragomanlaw7_awake.calls  true _ A2.out).mono ?_); rintro e w10 ⟨rfl, hb⟩; refine ⟨_, rfl, ?_⟩; have n0_ := Aside0.mk (below_step (by repeat (first | (with_reducible first | exact HB.out | apply below_alloc | apply pw_below_drewN | apply below_drew1) | exact HB.out)) hb); clear HB; have HB := n0_; clear n0_; (try clear hb); (try clear hb2); (try clear hk); (try clear hi)) | ((with_reducible refine gate_callee (f := 13) rfl ?_); refine goesL_ (some 15) rfl rfl Tryd.func13 (by kernel_rfl) rfl #[.string a0] rfl (by (try simp only [List.map_toArray, List.map_cons, List.map_nil]); first | done | rfl | (simp only [List.length_drop, List.length_take]; rfl)) ?_; (with_reducible refine (jlex_Cut.calls k a0 t339 t342 t343 t344 t345 _ A6.out).mono ?_); rintro e w11 ⟨v340, rfl, ho0, hb⟩; refine ⟨_, rfl, ?_⟩; have n0_ := Aside0.mk (Kd.R_lower ho0 (below_size (by repeat (first | (with_reducible first | exact HB.out | apply below_alloc | apply pw_below_drewN | apply below_drew1) | exact HB.out)))); have n1_ := Aside0.mk (below_step (by repeat (first | (with_reducible first | exact HB.out | apply below_alloc | apply pw_below_drewN | apply below_drew1) | exact HB.out)) hb); clear HB; have HO341 := n0_; have HB := n1_; clear n0_ n1_; (try clear hb); (try clear hb2); (try clear hk); (try clear hi); (try clear ho0)) | ((with_reducible refine gate_dst (N := 4) rfl ?_); (try (refine gate_guard (by rfl) ?_; dsimp only)); refine box_event ?hg (N := 4) ?hd (cs := #[.int .i64 0, .int .i64 0, .int .i64 0, .int .i64 0]) (t := 26) ?hr ?_; (case hd => rfl); (case hg => rfl); (case hr => first | (go_simp; done) | (go_simp; rfl)); intro gb346 hg w12 hbox hb; have n0_ := Aside0.mk (Kd.R_below (by (with_reducible repeat (first | apply Kd.R_alloc | apply Kd.R_drewN | apply Kd.R_drew)); exact HO341.out) hb); have n1_ := Aside0.mk (below_step (by repeat (first | (with_reducible first | exact HB.out | apply below_alloc | apply pw_below_drewN | apply below_drew1) | exact HB.out)) hb); have n2_ := Aside0.mk (hbox); have n3_ := Aside0.mk ((by rw [hg]; exact (below_size (by repeat (first | (with_reducible first | exact HB.out | apply below_alloc | apply pw_below_drewN | apply below_drew1) | exact HB.out))) : w.heap.size ≤ gb346)); have n4_ := Aside0.mk ((by rw [hg]; exact (below_size (by repeat (first | (with_reducible first | exact HB.out | apply below_alloc | apply pw_below_drewN | apply below_drew1) | exact HB.out))) : w.heap.size ≤ gb346)); clear HO341; clear HB; have HO341 := n0_; have HB := n1_; have BK346 := n2_; have GW346 := n3_; have GE346 := n4_; clear n0_ n1_ n2_ n3_ n4_; clear hb hbox hg; have hcz13_0 : w12.cell? ⟨gb346, 0, none⟩ = some (.int .i64 0) := (blk_cell BK346.out 0).trans rfl; have hcz13_1 : w12.cell? ⟨gb346, 1, none⟩ = some (.int .i64 0) := (blk_cell BK346.out 1).trans rfl; have hcz13_2 : w12.cell? ⟨gb346, 2, none⟩ = some (.int .i64 0) := (blk_cell BK346.out 2).trans rfl; have hcz13_3 : w12.cell? ⟨gb346, 3, none⟩ = some (.int .i64 0) := (blk_cell BK346.out 3).trans rfl; have hfz13_0 := blk_frozen BK346.out 0; have hfz13_1 := blk_frozen BK346.out 1; have hfz13_2 := blk_frozen BK346.out 2; have hfz13_3 := blk_frozen BK346.out 3) | ((with_reducible refine gate_callee (f := 29) rfl ?_); refine goesL_ (some 20) rfl rfl Tryd.func29 (by kernel_rfl) rfl #[.string a0] rfl (by (try simp only [List.map_toArray, List.map_cons, List.map_nil]); first | done | rfl | (simp only [List.length_drop, List.length_take]; rfl)) ?_; (with_reducible refine (dragomanref8_Cut.calls k a0 t347 t350 t351 _ A7.out).mono ?_); rintro e w14 ⟨v348, rfl, ho0, hb⟩; refine ⟨_, rfl, ?_⟩; have n0_ := Aside0.mk (Kd.R_below (by (with_reducible repeat (first | apply Kd.R_alloc | apply Kd.R_drewN | apply Kd.R_drew)); exact (Kd.R_mono (Kd.R_far (p := ⟨gb346, 3, none⟩) (Kd.R_far (p := ⟨gb346, 2, none⟩) (Kd.R_far (p := ⟨gb346, 1, none⟩) (Kd.R_far (p := ⟨gb346, 0, none⟩) (Kd.R_types HO341.out BK346.out (by decide)) (fun _ hk => hk.2) (.int .i64 t342)) (fun _ hk => hk.2) (.int .i64 t343)) (fun _ hk => hk.2) (.int .i64 t344)) (fun _ hk => hk.2) (.int .i64 t345)) (fun _ h_ => h_.1))) hb); have n1_ := Aside0.mk (Kd.R_lower ho0 (below_size (by repeat (first | (with_reducible first | exact HB.out | apply below_alloc | apply pw_below_drewN | apply below_drew1 | refine below_set ?_ GE346.out) | exact HB.out)))); have n2_ := Aside0.mk (blk_below (g := gb346) (o := .cells #[.int .i64 t342, .int .i64 t343, .int .i64 t344, .int .i64 t345] 26 (0, 0)) (by (with_reducible repeat (first | refine blk_drewN ?_ _ | refine blk_drew ?_ | refine blk_alloc ?_ _)); refine blk_put (cs := #[.int .i64 t342, .int .i64 t343, .int .i64 t344, .int .i64 0]) ?_ 3 _ rfl; (with_reducible repeat (first | refine blk_drewN ?_ _ | refine blk_drew ?_ | refine blk_alloc ?_ _)); refine blk_put (cs := #[.int .i64 t342, .int .i64 t343, .int .i64 0, .int .i64 0]) ?_ 2 _ rfl; (with_reducible repeat (first | refine blk_drewN ?_ _ | refine blk_drew ?_ | refine blk_alloc ?_ _)); refine blk_put (cs := #[.int .i64 t342, .int .i64 0, .int .i64 0, .int .i64 0]) ?_ 1 _ rfl; (with_reducible repeat (first | refine blk_drewN ?_ _ | refine blk_drew ?_ | refine blk_alloc ?_ _)); refine blk_put (cs := #[.int .i64 0, .int .i64 0, .int .i64 0, .int .i64 0]) ?_ 0 _ rfl; (with_reducible repeat (first | refine blk_drewN ?_ _ | refine blk_drew ?_ | refine blk_alloc ?_ _)); exact BK346.out) hb); have n3_ := Aside0.mk (below_step (by repeat (first | (with_reducible first | exact HB.out | apply below_alloc | apply pw_below_drewN | apply below_drew1 | refine below_set ?_ GE346.out) | exact HB.out)) hb); clear HO341; clear BK346; clear HB; have HO341 := n0_; have HO349 := n1_; have BK346 := n2_; have HB := n3_; clear n0_ n1_ n2_ n3_; (try clear hb); (try clear hb2); (try clear hk); (try clear hi); (try clear ho0)) | ((with_reducible refine gate_dst (N := 6) rfl ?_); (try (refine gate_guard (by rfl) ?_; dsimp only)); refine box_event ?hg (N := 6) ?hd (cs := #[.int .i64 0, .int .i64 0]) (t := 49) ?hr ?_; (case hd => rfl); (case hg => rfl); (case hr => first | (go_simp; done) | (go_simp; rfl)); intro gb352 hg w15 hbox hb; have n0_ := Aside0.mk (Kd.R_below (by (with_reducible repeat (first | apply Kd.R_alloc | apply Kd.R_drewN | apply Kd.R_drew)); exact HO341.out) hb); have n1_ := Aside0.mk (Kd.R_below (by (with_reducible repeat (first | apply Kd.R_alloc | apply Kd.R_drewN | apply Kd.R_drew)); exact HO349.out) hb); have n2_ := Aside0.mk (blk_below (g := gb346) (o := .cells #[.int .i64 t342, .int .i64 t343, .int .i64 t344, .int .i64 t345] 26 (0, 0)) (by (with_reducible repeat (first | refine blk_drewN ?_ _ | refine blk_drew ?_ | refine blk_alloc ?_ _)); exact BK346.out) hb); have n3_ := Aside0.mk (below_step (by repeat (first | (with_reducible first | exact HB.out | apply below_alloc | apply pw_below_drewN | apply below_drew1 | refine below_set ?_ GE346.out) | exact HB.out)) hb); have n4_ := Aside0.mk (hbox); have n5_ := Aside0.mk ((by rw [hg]; exact (below_size (by repeat (first | (with_reducible first | exact HB.out | apply below_alloc | apply pw_below_drewN | apply below_drew1 | refine below_set ?_ GE346.out) | exact HB.out))) : w.heap.size ≤ gb352)); have n6_ := Aside0.mk ((by rw [hg]; exact (below_size (by repeat (first | (with_reducible first | exact HB.out | apply below_alloc | apply pw_below_drewN | apply below_drew1 | refine below_set ?_ GE346.out) | exact HB.out))) : w.heap.size ≤ gb352)); have n7_ := Aside0.mk ((by rw [hg]; exact Nat.ne_of_lt (blk_lt (g := gb346) (o := .cells #[.int .i64 t342, .int .i64 t343, .int .i64 t344, .int .i64 t345] 26 (0, 0)) (by (with_reducible repeat (first | refine blk_drewN ?_ _ | refine blk_drew ?_ | refine blk_alloc ?_ _)); exact BK346.out)) : gb346 ≠ gb352)); have n8_ := Aside0.mk ((by rw [hg]; exact Nat.ne_of_gt (blk_lt (g := gb346) (o := .cells #[.int .i64 t342, .int .i64 t343, .int .i64 t344, .int .i64 t345] 26 (0, 0)) (by (with_reducible repeat (first | refine blk_drewN ?_ _ | refine blk_drew ?_ | refine blk_alloc ?_ _)); exact BK346.out)) : gb352 ≠ gb346)); clear HO341; clear HO349; clear BK346; clear HB; have HO341 := n0_; have HO349 := n1_; have BK346 := n2_; have HB := n3_; have BK352 := n4_; have GW352 := n5_; have GE352 := n6_; have NB346_352 := n7_; have NB352_346 := n8_; clear n0_ n1_ n2_ n3_ n4_ n5_ n6_ n7_ n8_; clear hb hbox hg; have hnb16 := NB352_346.out; have hnc16 := NB346_352.out; have hcz17_0 : w15.cell? ⟨gb352, 0, none⟩ = some (.int .i64 0) := (blk_cell BK352.out 0).trans rfl; have hcz17_1 : w15.cell? ⟨gb352, 1, none⟩ = some (.int .i64 0) := (blk_cell BK352.out 1).trans rfl; have hfz17_0 := blk_frozen BK352.out 0; have hfz17_1 := blk_frozen BK352.out 1))
    (try simp only [Act.put, List.setIfInBounds_toArray, List.set_cons_zero, List.set_cons_succ])
    go_cut [48] (fun v48 wc => ∃ (kq : Nat) (x48_8 : Bool), v48 = .bool x48_8 ∧ Aside0 (dragomanlaw7_JlexCuts.j0 kq t339 t347 x48_8 = some r) ∧ Aside0 (kq ≤ k) ∧ Aside0 (Kd.R k30 30 wc w.heap.size (fun _ => True) v340 t339) ∧ Aside0 (Kd.R k53 53 wc w.heap.size (fun _ => True) v348 t347) ∧ Aside0 (wc.heap[gb346]? = some (.cells #[.int .i64 t342, .int .i64 t343, .int .i64 t344, .int .i64 t345] 26 (0, 0))) ∧ Aside0 (wc.heap[gb352]? = some (.cells #[.int .i64 t350, .int .i64 t351] 49 (0, 0))) ∧ Aside0 (Below w.heap.size w wc))
    case first =>
     have H := HC9.out
     clear HC9
     by_cases c18 : (!(t342 == 0) || (!(t343 == 0) || (!(t344 == 0) || (!(t345 == 0))))) = true
     ·exact absurd (show dragomanlaw7_JlexCuts.j0 k t339 t347 true = some r by rw [if_pos c18] at H; exact H) (by rw [HR.out]; cases k <;> simp [dragomanlaw7_JlexCuts.j0])
     ·rw [if_neg c18] at H
      have c18b0 : (!(t342 == 0) || (!(t343 == 0) || (!(t344 == 0) || (!(t345 == 0))))) = false := by simpa using c18
      clear c18
      (first | rw [c18b0] | (simp only [i64_w, i32_w]; rw [c18b0]) | skip)
      have H' := Aside0.mk H
      clear H
      have hnb21 := NB346_352.out
      have hnc21 := NB352_346.out
      have hcz22_0 : w15.cell? ⟨gb346, 0, none⟩ = some (.int .i64 t342) := (blk_cell BK346.out 0).trans rfl
      have hcz22_1 : w15.cell? ⟨gb346, 1, none⟩ = some (.int .i64 t343) := (blk_cell BK346.out 1).trans rfl
      have hcz22_2 : w15.cell? ⟨gb346, 2, none⟩ = some (.int .i64 t344) := (blk_cell BK346.out 2).trans rfl
      have hcz22_3 : w15.cell? ⟨gb346, 3, none⟩ = some (.int .i64 t345) := (blk_cell BK346.out 3).trans rfl
      have hfz22_0 := blk_frozen BK346.out 0
      have hfz22_1 := blk_frozen BK346.out 1
      have hfz22_2 := blk_frozen BK346.out 2
      have hfz22_3 := blk_frozen BK346.out 3
      obtain ⟨Ao23, co23, eo23⟩ := Kd.R_slice HO341.out
      subst eo23
      obtain ⟨Ao24, co24, eo24⟩ := Kd.R_slice HO349.out
      subst eo24
      go_wp2
      go_meet
      case rel => exact ⟨_, (((t339.length : Int) != (t347.length : Int))), (by first | rfl | (simp; done) | (simp [*]; done)), H', ⟨by first | omega | exact Nat.le_refl _⟩, ⟨by (with_reducible repeat (first | apply Kd.R_alloc | apply Kd.R_drewN | apply Kd.R_drew)); exact Kd.R_mono (Kd.R_far (p := ⟨gb352, 1, none⟩) (Kd.R_far (p := ⟨gb352, 0, none⟩) (Kd.R_types HO341.out BK352.out (by decide)) (fun _ hk => hk.2) (.int .i64 t350)) (fun _ hk => hk.2) (.int .i64 t351)) (fun _ hk => trivial)⟩, ⟨by (with_reducible repeat (first | apply Kd.R_alloc | apply Kd.R_drewN | apply Kd.R_drew)); exact Kd.R_mono (Kd.R_far (p := ⟨gb352, 1, none⟩) (Kd.R_far (p := ⟨gb352, 0, none⟩) (Kd.R_types HO349.out BK352.out (by decide)) (fun _ hk => hk.2) (.int .i64 t350)) (fun _ hk => hk.2) (.int .i64 t351)) (fun _ hk => trivial)⟩, ⟨by (with_reducible repeat (first | refine blk_drewN ?_ _ | refine blk_drew ?_ | refine blk_alloc ?_ _)); refine blk_far ?_ NB346_352.out _; (with_reducible repeat (first | refine blk_drewN ?_ _ | refine blk_drew ?_ | refine blk_alloc ?_ _)); refine blk_far ?_ NB346_352.out _; (with_reducible repeat (first | refine blk_drewN ?_ _ | refine blk_drew ?_ | refine blk_alloc ?_ _)); exact BK346.out⟩, ⟨by (with_reducible repeat (first | refine blk_drewN ?_ _ | refine blk_drew ?_ | refine blk_alloc ?_ _)); refine blk_put (cs := #[.int .i64 t350, .int .i64 0]) ?_ 1 _ rfl; (with_reducible repeat (first | refine blk_drewN ?_ _ | refine blk_drew ?_ | refine blk_alloc ?_ _)); refine blk_put (cs := #[.int .i64 0, .int .i64 0]) ?_ 0 _ rfl; (with_reducible repeat (first | refine blk_drewN ?_ _ | refine blk_drew ?_ | refine blk_alloc ?_ _)); exact BK352.out⟩, ⟨by repeat (first | (with_reducible first | exact HB.out | apply below_alloc | apply pw_below_drewN | apply below_drew1 | refine below_set ?_ GE346.out | refine below_set ?_ GE352.out) | exact HB.out)⟩⟩
    case rest =>
     clear HC9
     try clear c1
     try clear c2
     try clear p2
     try clear c3
     try clear c4
     try clear c4b0
     try clear c4b1
     try clear c8
     try clear c8b0
     try clear c8b1
     try clear c10
     try clear c12
     try clear c13
     try clear c16
     try clear c18
     try clear c18b0
     try clear c19
     try clear c21
     try clear hcz13_0
     try clear hcz13_1
     try clear hcz13_2
     try clear hcz13_3
     try clear hcz17_0
     try clear hcz17_1
     try clear hcz20_0
     try clear hcz20_1
     try clear hcz20_2
     try clear hcz20_3
     try clear hcz22_0
     try clear hcz22_1
     try clear hcz22_2
     try clear hcz22_3
     try clear hfz13_0
     try clear hfz13_1
     try clear hfz13_2
     try clear hfz13_3
     try clear hfz17_0
     try clear hfz17_1
     try clear hfz20_0
     try clear hfz20_1
     try clear hfz20_2
     try clear hfz20_3
     try clear hfz22_0
     try clear hfz22_1
     try clear hfz22_2
     try clear hfz22_3
     obtain ⟨kq, x48_8, rfl, HA, HJ8, HO_3, HO_5, BK346, BK352, HB⟩ := hcut
     cases kq with
     | zero => exact absurd HA.out (by simp [dragomanlaw7_JlexCuts.j0])
     | succ kj8 =>
      have H := HA.out
      clear HA
      simp only [dragomanlaw7_JlexCuts.j0] at H
      by_cases c25 : x48_8 = true
      ·subst c25
       rw [if_pos rfl] at H
       obtain rfl := Option.some.inj H
       exact absurd HR.out (by decide)
      ·replace c25 := Bool.eq_false_iff.mpr c25
       subst c25
       rw [if_neg (show ¬ (false = true) by decide)] at H
       have H' := Aside0.mk H
       clear H
       go_wp2
       go_loopg [7] kj8 (fun kq v7 w' => ∃ (x7_2 : Int), v7 = .int .i64 x7_2 ∧ Aside0 (dragomanlaw7_JlexCuts.l0 kq t339 t347 x7_2 = some r) ∧ Aside0 (kq ≤ kj8) ∧ Aside0 (Kd.R k30 30 w' w.heap.size (fun _ => True) v340 t339) ∧ Aside0 (Kd.R k53 53 w' w.heap.size (fun _ => True) v348 t347) ∧ Aside0 (w'.heap[gb346]? = some (.cells #[.int .i64 t342, .int .i64 t343, .int .i64 t344, .int .i64 t345] 26 (0, 0))) ∧ Aside0 (w'.heap[gb352]? = some (.cells #[.int .i64 t350, .int .i64 t351] 49 (0, 0))) ∧ Aside0 (Below w.heap.size w w'))
       case atStart => exact ⟨(0), (by first | rfl | (simp; done) | (simp [*]; done)), H', ⟨Nat.le_refl _⟩, ⟨by (with_reducible repeat (first | apply Kd.R_alloc | apply Kd.R_drewN | apply Kd.R_drew)); exact HO_3.out⟩, ⟨by (with_reducible repeat (first | apply Kd.R_alloc | apply Kd.R_drewN | apply Kd.R_drew)); exact HO_5.out⟩, ⟨by (with_reducible repeat (first | refine blk_drewN ?_ _ | refine blk_drew ?_ | refine blk_alloc ?_ _)); exact BK346.out⟩, ⟨by (with_reducible repeat (first | refine blk_drewN ?_ _ | refine blk_drew ?_ | refine blk_alloc ?_ _)); exact BK352.out⟩, ⟨by repeat (first | (with_reducible first | exact HB.out | apply below_alloc | apply pw_below_drewN | apply below_drew1 | refine below_set ?_ GE346.out | refine below_set ?_ GE352.out) | exact HB.out)⟩⟩
       case round =>
        clear H'
        try clear c1
        try clear c2
        try clear p2
        try clear c3
        try clear c4
        try clear c4b0
        try clear c4b1
        try clear c8
        try clear c8b0
        try clear c8b1
        try clear c10
        try clear c12
        try clear c13
        try clear c16
        try clear c18
        try clear c18b0
        try clear c19
        try clear c21
        try clear c25
        try clear hcz13_0
        try clear hcz13_1
        try clear hcz13_2
        try clear hcz13_3
        try clear hcz17_0
        try clear hcz17_1
        try clear hcz20_0
        try clear hcz20_1
        try clear hcz20_2
        try clear hcz20_3
        try clear hcz22_0
        try clear hcz22_1
        try clear hcz22_2
        try clear hcz22_3
        try clear hfz13_0
        try clear hfz13_1
        try clear hfz13_2
        try clear hfz13_3
        try clear hfz17_0
        try clear hfz17_1
        try clear hfz20_0
        try clear hfz20_1
        try clear hfz20_2
        try clear hfz20_3
        try clear hfz22_0
        try clear hfz22_1
        try clear hfz22_2
        try clear hfz22_3
        try clear p2
        obtain ⟨x7_2, rfl, HA, HK2, HO_3, HO_5, BK346, BK352, HB⟩ := hrel
        cases gk with
        | zero => exact absurd HA.out (by simp [dragomanlaw7_JlexCuts.l0])
        | succ k2 =>
         have H := HA.out
         clear HA
         simp only [dragomanlaw7_JlexCuts.l0] at H
         by_cases c26 : x7_2 < (t339.length : Int)
         ·rw [if_pos c26] at H
          have c26b0 : decide (x7_2 < (t339.length : Int)) = true := decide_eq_true c26
          clear c26
          by_cases c27 : 0 ≤ x7_2
          ·rw [if_pos c27] at H
           have c27b0 : decide (0 ≤ x7_2) = true := decide_eq_true c27
           clear c27
           by_cases c28 : x7_2 < (t347.length : Int)
           ·rw [if_pos c28] at H
            have c28b0 : decide (x7_2 < (t347.length : Int)) = true := decide_eq_true c28
            clear c28
            by_cases c29 : ((rd_T30 t339 x7_2).f0) = ((rd_T53 t347 x7_2).f0)
            ·rw [if_pos c29] at H
             have c29b0 : (((rd_T30 t339 x7_2).f0) == ((rd_T53 t347 x7_2).f0)) = true := beq_iff_eq.mpr c29
             have c29b1 : (((rd_T30 t339 x7_2).f0) != ((rd_T53 t347 x7_2).f0)) = false := bne_eq_false_iff_eq.mpr c29
             clear c29
             by_cases c30 : ((rd_T30 t339 x7_2).f1).toList = ((rd_T53 t347 x7_2).f1).toList
             ·rw [if_pos c30] at H
              have c30b0 : (((rd_T30 t339 x7_2).f1).toList == ((rd_T53 t347 x7_2).f1).toList) = true := beq_iff_eq.mpr c30
              have c30b1 : (((rd_T30 t339 x7_2).f1).toList != ((rd_T53 t347 x7_2).f1).toList) = false := bne_eq_false_iff_eq.mpr c30
              clear c30
              by_cases c31 : ((rd_T30 t339 x7_2).f2) = ((rd_T53 t347 x7_2).f2)
              ·rw [if_pos c31] at H
               have c31b0 : (((rd_T30 t339 x7_2).f2) == ((rd_T53 t347 x7_2).f2)) = true := beq_iff_eq.mpr c31
               have c31b1 : (((rd_T30 t339 x7_2).f2) != ((rd_T53 t347 x7_2).f2)) = false := bne_eq_false_iff_eq.mpr c31
               clear c31
               have H' := Aside0.mk H
               clear H
               obtain ⟨Ao32, co32, eo32⟩ := Kd.R_slice HO_3.out
               subst eo32
               try go_wp2
               have n0_ := Aside0.mk (Kd.R_drew HO_3.out)
               have n1_ := Aside0.mk (Kd.R_drew HO_5.out)
               have n2_ := Aside0.mk (blk_drew BK346.out)
               have n3_ := Aside0.mk (blk_drew BK352.out)
               have n4_ := Aside0.mk (below_drew1 HB.out)
               clear HO_3
               clear HO_5
               clear BK346
               clear BK352
               clear HB
               have HO_3 := n0_
               have HO_5 := n1_
               have BK346 := n2_
               have BK352 := n3_
               have HB := n4_
               clear n0_ n1_ n2_ n3_ n4_
               have p357 : 0 ≤ (x7_2 : Int) := of_decide_eq_true (by first | (with_reducible assumption) | assumption)
               have q357 : x7_2 < (t339.length : Int) := of_decide_eq_true (by first | (with_reducible assumption) | assumption)
               obtain ⟨ad357, e357, hx357_0, hx357_1, hx357_2⟩ := at_T30 (Kd.R_reads' HO_3.out).2.2 x7_2 p357 q357
               cases e357
               replace p357 := eq_true p357
               replace q357 := eq_true q357
               obtain ⟨Ao34, co34, eo34⟩ := Kd.R_slice HO_5.out
               (first | subst eo34 | (injection eo34 with f1_ f2_ f3_; have f4_ := f1_.symm; have f5_ := f3_.symm; clear f1_ f2_ f3_; subst f4_; subst f5_))
               have p358 : 0 ≤ (x7_2 : Int) := of_decide_eq_true (by first | (with_reducible assumption) | assumption)
               have q358 : x7_2 < (t347.length : Int) := of_decide_eq_true (by first | (with_reducible assumption) | assumption)
               obtain ⟨ad358, e358, hx358_0, hx358_1, hx358_2⟩ := at_T53 (Kd.R_reads' HO_5.out).2.2 x7_2 p358 q358
               cases e358
               replace p358 := eq_true p358
               replace q358 := eq_true q358
               have p359 : 0 ≤ (x7_2 : Int) := of_decide_eq_true (by first | (with_reducible assumption) | assumption)
               have q359 : x7_2 < (t339.length : Int) := of_decide_eq_true (by first | (with_reducible assumption) | assumption)
               obtain ⟨ad359, e359, hx359_0, hx359_1, hx359_2⟩ := at_T30 (Kd.R_reads' HO_3.out).2.2 x7_2 p359 q359
               obtain rfl : ad357 = ad359 := (by injection e359)
               replace p359 := eq_true p359
               replace q359 := eq_true q359
               have p360 : 0 ≤ (x7_2 : Int) := of_decide_eq_true (by first | (with_reducible assumption) | assumption)
               have q360 : x7_2 < (t347.length : Int) := of_decide_eq_true (by first | (with_reducible assumption) | assumption)
               obtain ⟨ad360, e360, hx360_0, hx360_1, hx360_2⟩ := at_T53 (Kd.R_reads' HO_5.out).2.2 x7_2 p360 q360
               obtain rfl : ad358 = ad360 := (by injection e360)
               replace p360 := eq_true p360
               replace q360 := eq_true q360
               have p361 : 0 ≤ (x7_2 : Int) := of_decide_eq_true (by first | (with_reducible assumption) | assumption)
               have q361 : x7_2 < (t339.length : Int) := of_decide_eq_true (by first | (with_reducible assumption) | assumption)
               obtain ⟨ad361, e361, hx361_0, hx361_1, hx361_2⟩ := at_T30 (Kd.R_reads' HO_3.out).2.2 x7_2 p361 q361
               obtain rfl : ad357 = ad361 := (by injection e361)
               replace p361 := eq_true p361
               replace q361 := eq_true q361
               have p362 : 0 ≤ (x7_2 : Int) := of_decide_eq_true (by first | (with_reducible assumption) | assumption)
               have q362 : x7_2 < (t347.length : Int) := of_decide_eq_true (by first | (with_reducible assumption) | assumption)
               obtain ⟨ad362, e362, hx362_0, hx362_1, hx362_2⟩ := at_T53 (Kd.R_reads' HO_5.out).2.2 x7_2 p362 q362
               obtain rfl : ad358 = ad362 := (by injection e362)
               replace p362 := eq_true p362
               replace q362 := eq_true q362
               refine start_ (n := 37) (S := fun w' => w'.cell? (ad357.add ((x7_2).toNat * 3)) = some (.int .i64 ((rd_T30 t339 x7_2).f0)) ∧ w'.cell? ⟨(ad357.add ((x7_2).toNat * 3)).block, (ad357.add ((x7_2).toNat * 3)).off + 1, none⟩ = some (.string ((rd_T30 t339 x7_2).f1)) ∧ w'.cell? ⟨(ad357.add ((x7_2).toNat * 3)).block, (ad357.add ((x7_2).toNat * 3)).off + 2, none⟩ = some (.int .i64 ((rd_T30 t339 x7_2).f2)) ∧ w'.cell? (ad358.add ((x7_2).toNat * 3)) = some (.int .i64 ((rd_T53 t347 x7_2).f0)) ∧ w'.cell? ⟨(ad358.add ((x7_2).toNat * 3)).block, (ad358.add ((x7_2).toNat * 3)).off + 1, none⟩ = some (.string ((rd_T53 t347 x7_2).f1)) ∧ w'.cell? ⟨(ad358.add ((x7_2).toNat * 3)).block, (ad358.add ((x7_2).toNat * 3)).off + 2, none⟩ = some (.int .i64 ((rd_T53 t347 x7_2).f2)) ∧ w'.cell? (ad357.add ((x7_2).toNat * 3)) = some (.int .i64 ((rd_T30 t339 x7_2).f0)) ∧ w'.cell? ⟨(ad357.add ((x7_2).toNat * 3)).block, (ad357.add ((x7_2).toNat * 3)).off + 1, none⟩ = some (.string ((rd_T30 t339 x7_2).f1)) ∧ w'.cell? ⟨(ad357.add ((x7_2).toNat * 3)).block, (ad357.add ((x7_2).toNat * 3)).off + 2, none⟩ = some (.int .i64 ((rd_T30 t339 x7_2).f2)) ∧ w'.cell? (ad358.add ((x7_2).toNat * 3)) = some (.int .i64 ((rd_T53 t347 x7_2).f0)) ∧ w'.cell? ⟨(ad358.add ((x7_2).toNat * 3)).block, (ad358.add ((x7_2).toNat * 3)).off + 1, none⟩ = some (.string ((rd_T53 t347 x7_2).f1)) ∧ w'.cell? ⟨(ad358.add ((x7_2).toNat * 3)).block, (ad358.add ((x7_2).toNat * 3)).off + 2, none⟩ = some (.int .i64 ((rd_T53 t347 x7_2).f2)) ∧ w'.cell? (ad357.add ((x7_2).toNat * 3)) = some (.int .i64 ((rd_T30 t339 x7_2).f0)) ∧ w'.cell? ⟨(ad357.add ((x7_2).toNat * 3)).block, (ad357.add ((x7_2).toNat * 3)).off + 1, none⟩ = some (.string ((rd_T30 t339 x7_2).f1)) ∧ w'.cell? ⟨(ad357.add ((x7_2).toNat * 3)).block, (ad357.add ((x7_2).toNat * 3)).off + 2, none⟩ = some (.int .i64 ((rd_T30 t339 x7_2).f2)) ∧ w'.cell? (ad358.add ((x7_2).toNat * 3)) = some (.int .i64 ((rd_T53 t347 x7_2).f0)) ∧ w'.cell? ⟨(ad358.add ((x7_2).toNat * 3)).block, (ad358.add ((x7_2).toNat * 3)).off + 1, none⟩ = some (.string ((rd_T53 t347 x7_2).f1)) ∧ w'.cell? ⟨(ad358.add ((x7_2).toNat * 3)).block, (ad358.add ((x7_2).toNat * 3)).off + 2, none⟩ = some (.int .i64 ((rd_T53 t347 x7_2).f2))) (ds := []) #[false, false, false, false, false, false, false, false, false, false, false, false, false, false, false, false, false, false, false, false, false, false, false, false, false, false, false, false, false, false, false, false, false, false, false, false, false] (by kernel_rfl) rfl rfl ⟨hx357_0, hx357_1, hx357_2, hx358_0, hx358_1, hx358_2, hx359_0, hx359_1, hx359_2, hx360_0, hx360_1, hx360_2, hx361_0, hx361_1, hx361_2, hx362_0, hx362_1, hx362_2⟩ (fun hHeld => ?_); refine with_tabW dragomanlaw7_JlexCuts.tab14 dragomanlaw7_JlexCuts.bits14 (fun HT_ HW_ => ?_)
               generalize wr.drew = w33 at HO_3 HO_5 BK346 BK352 HB hx357_0 hx357_1 hx357_2 hx358_0 hx358_1 hx358_2 hx359_0 hx359_1 hx359_2 hx360_0 hx360_1 hx360_2 hx361_0 hx361_1 hx361_2 hx362_0 hx362_1 hx362_2 hHeld ⊢
               refine pure_ (i := 0) (N := some 55) (v := ?_) (a' := ?_) #[true, false, false, false, false, false, false, false, false, false, false, false, false, false, false, false, false, false, false, false, false, false, false, false, false, false, false, false, false, false, false, false, false, false, false, false, false] rfl rfl (any_of HT_.out (by kernel_rfl)) (fun _ _ _ h => h) (Or.inl ⟨by rfl, ?_⟩) ?_ ?_
               rotate_left
               ·intro w'
                go_simp
                with_reducible rfl
               rotate_left
               ·simp only [Act.put, List.setIfInBounds_toArray, List.set_cons_zero, List.set_cons_succ, i64_w, i32_w]
                rfl
               refine pure_ (i := 1) (N := some 56) (v := ?_) (a' := ?_) #[true, true, false, false, false, false, false, false, false, false, false, false, false, false, false, false, false, false, false, false, false, false, false, false, false, false, false, false, false, false, false, false, false, false, false, false, false] rfl rfl (any_of HT_.out (by kernel_rfl)) (fun _ _ _ h => h) (Or.inl ⟨by rfl, ?_⟩) ?_ ?_
               rotate_left
               ·intro w'
                go_simp
                with_reducible rfl
               rotate_left
               ·simp only [Act.put, List.setIfInBounds_toArray, List.set_cons_zero, List.set_cons_succ, i64_w, i32_w]
                rfl
               refine pure_ (i := 2) (N := some 57) (v := ?_) (a' := ?_) #[true, true, true, false, false, false, false, false, false, false, false, false, false, false, false, false, false, false, false, false, false, false, false, false, false, false, false, false, false, false, false, false, false, false, false, false, false] rfl rfl (any_of HT_.out (by kernel_rfl)) (fun _ _ _ h => h) (Or.inl ⟨by rfl, ?_⟩) ?_ ?_
               rotate_left
               ·intro w'
                go_simp
                with_reducible rfl
               rotate_left
               ·simp only [Act.put, List.setIfInBounds_toArray, List.set_cons_zero, List.set_cons_succ, i64_w, i32_w]
                rfl
               refine pure_ (i := 3) (N := some 58) (v := ?_) (a' := ?_) #[true, true, true, true, false, false, false, false, false, false, false, false, false, false, false, false, false, false, false, false, false, false, false, false, false, false, false, false, false, false, false, false, false, false, false, false, false] rfl rfl (any_of HT_.out (by kernel_rfl)) (fun _ _ _ h => h) (Or.inl ⟨by rfl, ?_⟩) ?_ ?_
               rotate_left
               ·intro w'
                go_simp
                with_reducible rfl
               rotate_left
               ·simp only [Act.put, List.setIfInBounds_toArray, List.set_cons_zero, List.set_cons_succ, i64_w, i32_w]
                rfl
               refine pure_ (i := 5) (N := some 60) (v := ?_) (a' := ?_) #[true, true, true, true, false, true, false, false, false, false, false, false, false, false, false, false, false, false, false, false, false, false, false, false, false, false, false, false, false, false, false, false, false, false, false, false, false] rfl rfl (any_of HT_.out (by kernel_rfl)) (fun _ _ _ h => h) (Or.inl ⟨by rfl, ?_⟩) ?_ ?_
               rotate_left
               ·intro w'
                go_simp
                with_reducible rfl
               rotate_left
               ·simp only [Act.put, List.setIfInBounds_toArray, List.set_cons_zero, List.set_cons_succ, i64_w, i32_w]
                rfl
               refine pure_ (i := 6) (N := some 61) (v := ?_) (a' := ?_) #[true, true, true, true, false, true, true, false, false, false, false, false, false, false, false, false, false, false, false, false, false, false, false, false, false, false, false, false, false, false, false, false, false, false, false, false, false] rfl rfl (any_of HT_.out (by kernel_rfl)) (fun _ _ _ h => h) (Or.inl ⟨by rfl, ?_⟩) ?_ ?_
               rotate_left
               ·intro w'
                go_simp
                with_reducible rfl
               rotate_left
               ·simp only [Act.put, List.setIfInBounds_toArray, List.set_cons_zero, List.set_cons_succ, i64_w, i32_w]
                rfl
               refine pure_ (i := 7) (N := some 62) (v := ?_) (a' := ?_) #[true, true, true, true, false, true, true, true, false, false, false, false, false, false, false, false, false, false, false, false, false, false, false, false, false, false, false, false, false, false, false, false, false, false, false, false, false] rfl rfl (any_of HT_.out (by kernel_rfl)) (fun _ _ _ h => h) (Or.inl ⟨by rfl, ?_⟩) ?_ ?_
               rotate_left
               ·intro w'
                go_simp
                with_reducible rfl
               rotate_left
               ·simp only [Act.put, List.setIfInBounds_toArray, List.set_cons_zero, List.set_cons_succ, i64_w, i32_w]
                rfl
               refine pure_ (i := 8) (N := some 63) (v := ?_) (a' := ?_) #[true, true, true, true, false, true, true, true, true, false, false, false, false, false, false, false, false, false, false, false, false, false, false, false, false, false, false, false, false, false, false, false, false, false, false, false, false] rfl rfl (any_of HT_.out (by kernel_rfl)) (fun _ _ _ h => h) (Or.inl ⟨by rfl, ?_⟩) ?_ ?_
               rotate_left
               ·intro w'
                go_simp
                with_reducible rfl
               rotate_left
               ·simp only [Act.put, List.setIfInBounds_toArray, List.set_cons_zero, List.set_cons_succ, i64_w, i32_w]
                rfl
               refine take_ (i := 4) (N := some 59) (v := ?_) (a' := ?_) #[true, true, true, true, true, true, true, true, true, false, false, false, false, false, false, false, false, false, false, false, false, false, false, false, false, false, false, false, false, false, false, false, false, false, false, false, false] rfl rfl (take_ofW HT_.out HW_.out (by kernel_rfl)) (fun _ _ _ h => h) (Or.inl ⟨by rfl, ?_⟩) hHeld ?_ ?_
               rotate_left
               ·rintro w' ⟨s0, s1, s2, s3, s4, s5, s6, s7, s8, s9, s10, s11, s12, s13, s14, s15, s16, s17⟩
                go_simp
                with_reducible rfl
               rotate_left
               ·simp only [Act.put, List.setIfInBounds_toArray, List.set_cons_zero, List.set_cons_succ, i64_w, i32_w]
                rfl
               refine take_ (i := 9) (N := some 64) (v := ?_) (a' := ?_) #[true, true, true, true, true, true, true, true, true, true, false, false, false, false, false, false, false, false, false, false, false, false, false, false, false, false, false, false, false, false, false, false, false, false, false, false, false] rfl rfl (take_ofW HT_.out HW_.out (by kernel_rfl)) (fun _ _ _ h => h) (Or.inl ⟨by rfl, ?_⟩) hHeld ?_ ?_
               rotate_left
               ·rintro w' ⟨s0, s1, s2, s3, s4, s5, s6, s7, s8, s9, s10, s11, s12, s13, s14, s15, s16, s17⟩
                go_simp
                with_reducible rfl
               rotate_left
               ·simp only [Act.put, List.setIfInBounds_toArray, List.set_cons_zero, List.set_cons_succ, i64_w, i32_w]
                rfl
               refine pure_ (i := 10) (N := some 65) (v := ?_) (a' := ?_) #[true, true, true, true, true, true, true, true, true, true, true, false, false, false, false, false, false, false, false, false, false, false, false, false, false, false, false, false, false, false, false, false, false, false, false, false, false] rfl rfl (any_of HT_.out (by kernel_rfl)) (fun _ _ _ h => h) (Or.inl ⟨by rfl, ?_⟩) ?_ ?_
               rotate_left
               ·intro w'
                go_simp
                with_reducible rfl
               rotate_left
               ·simp only [Act.put, List.setIfInBounds_toArray, List.set_cons_zero, List.set_cons_succ, i64_w, i32_w]
                rfl
               refine pure_ (i := 11) (N := some 66) (v := ?_) (a' := ?_) #[true, true, true, true, true, true, true, true, true, true, true, true, false, false, false, false, false, false, false, false, false, false, false, false, false, false, false, false, false, false, false, false, false, false, false, false, false] rfl rfl (any_of HT_.out (by kernel_rfl)) (fun _ _ _ h => h) (Or.inl ⟨by rfl, ?_⟩) ?_ ?_
               rotate_left
               ·intro w'
                go_simp
                with_reducible rfl
               rotate_left
               ·simp only [Act.put, List.setIfInBounds_toArray, List.set_cons_zero, List.set_cons_succ, i64_w, i32_w]
                rfl
               refine pure_ (i := 12) (N := some 67) (v := ?_) (a' := ?_) #[true, true, true, true, true, true, true, true, true, true, true, true, true, false, false, false, false, false, false, false, false, false, false, false, false, false, false, false, false, false, false, false, false, false, false, false, false] rfl rfl (any_of HT_.out (by kernel_rfl)) (fun _ _ _ h => h) (Or.inl ⟨by rfl, ?_⟩) ?_ ?_
               rotate_left
               ·intro w'
                go_simp
                with_reducible rfl
               rotate_left
               ·simp only [Act.put, List.setIfInBounds_toArray, List.set_cons_zero, List.set_cons_succ, i64_w, i32_w]
                rfl
               refine pure_ (i := 13) (N := some 68) (v := ?_) (a' := ?_) #[true, true, true, true, true, true, true, true, true, true, true, true, true, true, false, false, false, false, false, false, false, false, false, false, false, false, false, false, false, false, false, false, false, false, false, false, false] rfl rfl (any_of HT_.out (by kernel_rfl)) (fun _ _ _ h => h) (Or.inl ⟨by rfl, ?_⟩) ?_ ?_
               rotate_left
               ·intro w'
                go_simp
                with_reducible rfl
               rotate_left
               ·simp only [Act.put, List.setIfInBounds_toArray, List.set_cons_zero, List.set_cons_succ, i64_w, i32_w]
                rfl
               refine pure_ (i := 14) (N := some 69) (v := ?_) (a' := ?_) #[true, true, true, true, true, true, true, true, true, true, true, true, true, true, true, false, false, false, false, false, false, false, false, false, false, false, false, false, false, false, false, false, false, false, false, false, false] rfl rfl (any_of HT_.out (by kernel_rfl)) (fun _ _ _ h => h) (Or.inl ⟨by rfl, ?_⟩) ?_ ?_
               rotate_left
               ·intro w'
                go_simp
                with_reducible rfl
               rotate_left
               ·simp only [Act.put, List.setIfInBounds_toArray, List.set_cons_zero, List.set_cons_succ, i64_w, i32_w]
                rfl
               refine pure_ (i := 15) (N := some 70) (v := ?_) (a' := ?_) #[true, true, true, true, true, true, true, true, true, true, true, true, true, true, true, true, false, false, false, false, false, false, false, false, false, false, false, false, false, false, false, false, false, false, false, false, false] rfl rfl (any_of HT_.out (by kernel_rfl)) (fun _ _ _ h => h) (Or.inl ⟨by rfl, ?_⟩) ?_ ?_
               rotate_left
               ·intro w'
                go_simp
                with_reducible rfl
               rotate_left
               ·simp only [Act.put, List.setIfInBounds_toArray, List.set_cons_zero, List.set_cons_succ, i64_w, i32_w]
                rfl
               refine pure_ (i := 17) (N := some 72) (v := ?_) (a' := ?_) #[true, true, true, true, true, true, true, true, true, true, true, true, true, true, true, true, false, true, false, false, false, false, false, false, false, false, false, false, false, false, false, false, false, false, false, false, false] rfl rfl (any_of HT_.out (by kernel_rfl)) (fun _ _ _ h => h) (Or.inl ⟨by rfl, ?_⟩) ?_ ?_
               rotate_left
               ·intro w'
                go_simp
                with_reducible rfl
               rotate_left
               ·simp only [Act.put, List.setIfInBounds_toArray, List.set_cons_zero, List.set_cons_succ, i64_w, i32_w]
                rfl
               refine pure_ (i := 18) (N := some 73) (v := ?_) (a' := ?_) #[true, true, true, true, true, true, true, true, true, true, true, true, true, true, true, true, false, true, true, false, false, false, false, false, false, false, false, false, false, false, false, false, false, false, false, false, false] rfl rfl (any_of HT_.out (by kernel_rfl)) (fun _ _ _ h => h) (Or.inl ⟨by rfl, ?_⟩) ?_ ?_
               rotate_left
               ·intro w'
                go_simp
                with_reducible rfl
               rotate_left
               ·simp only [Act.put, List.setIfInBounds_toArray, List.set_cons_zero, List.set_cons_succ, i64_w, i32_w]
                rfl
               refine pure_ (i := 19) (N := some 74) (v := ?_) (a' := ?_) #[true, true, true, true, true, true, true, true, true, true, true, true, true, true, true, true, false, true, true, true, false, false, false, false, false, false, false, false, false, false, false, false, false, false, false, false, false] rfl rfl (any_of HT_.out (by kernel_rfl)) (fun _ _ _ h => h) (Or.inl ⟨by rfl, ?_⟩) ?_ ?_
               rotate_left
               ·intro w'
                go_simp
                with_reducible rfl
               rotate_left
               ·simp only [Act.put, List.setIfInBounds_toArray, List.set_cons_zero, List.set_cons_succ, i64_w, i32_w]
                rfl
               refine pure_ (i := 20) (N := some 75) (v := ?_) (a' := ?_) #[true, true, true, true, true, true, true, true, true, true, true, true, true, true, true, true, false, true, true, true, true, false, false, false, false, false, false, false, false, false, false, false, false, false, false, false, false] rfl rfl (any_of HT_.out (by kernel_rfl)) (fun _ _ _ h => h) (Or.inl ⟨by rfl, ?_⟩) ?_ ?_
               rotate_left
               ·intro w'
                go_simp
                with_reducible rfl
               rotate_left
               ·simp only [Act.put, List.setIfInBounds_toArray, List.set_cons_zero, List.set_cons_succ, i64_w, i32_w]
                rfl
               refine take_ (i := 16) (N := some 71) (v := ?_) (a' := ?_) #[true, true, true, true, true, true, true, true, true, true, true, true, true, true, true, true, true, true, true, true, true, false, false, false, false, false, false, false, false, false, false, false, false, false, false, false, false] rfl rfl (take_ofW HT_.out HW_.out (by kernel_rfl)) (fun _ _ _ h => h) (Or.inl ⟨by rfl, ?_⟩) hHeld ?_ ?_
               rotate_left
               ·rintro w' ⟨s0, s1, s2, s3, s4, s5, s6, s7, s8, s9, s10, s11, s12, s13, s14, s15, s16, s17⟩
                go_simp
                with_reducible rfl
               rotate_left
               ·simp only [Act.put, List.setIfInBounds_toArray, List.set_cons_zero, List.set_cons_succ, i64_w, i32_w]
                rfl
               refine take_ (i := 21) (N := some 76) (v := ?_) (a' := ?_) #[true, true, true, true, true, true, true, true, true, true, true, true, true, true, true, true, true, true, true, true, true, true, false, false, false, false, false, false, false, false, false, false, false, false, false, false, false] rfl rfl (take_ofW HT_.out HW_.out (by kernel_rfl)) (fun _ _ _ h => h) (Or.inl ⟨by rfl, ?_⟩) hHeld ?_ ?_
               rotate_left
               ·rintro w' ⟨s0, s1, s2, s3, s4, s5, s6, s7, s8, s9, s10, s11, s12, s13, s14, s15, s16, s17⟩
                go_simp
                with_reducible rfl
               rotate_left
               ·simp only [Act.put, List.setIfInBounds_toArray, List.set_cons_zero, List.set_cons_succ, i64_w, i32_w]
                rfl
               refine pure_ (i := 22) (N := some 77) (v := ?_) (a' := ?_) #[true, true, true, true, true, true, true, true, true, true, true, true, true, true, true, true, true, true, true, true, true, true, true, false, false, false, false, false, false, false, false, false, false, false, false, false, false] rfl rfl (any_of HT_.out (by kernel_rfl)) (fun _ _ _ h => h) (Or.inl ⟨by rfl, ?_⟩) ?_ ?_
               rotate_left
               ·intro w'
                go_simp
                with_reducible rfl
               rotate_left
               ·simp only [Act.put, List.setIfInBounds_toArray, List.set_cons_zero, List.set_cons_succ, i64_w, i32_w]
                rfl
               refine pure_ (i := 23) (N := some 78) (v := ?_) (a' := ?_) #[true, true, true, true, true, true, true, true, true, true, true, true, true, true, true, true, true, true, true, true, true, true, true, true, false, false, false, false, false, false, false, false, false, false, false, false, false] rfl rfl (any_of HT_.out (by kernel_rfl)) (fun _ _ _ h => h) (Or.inl ⟨by rfl, ?_⟩) ?_ ?_
               rotate_left
               ·intro w'
                go_simp
                with_reducible rfl
               rotate_left
               ·simp only [Act.put, List.setIfInBounds_toArray, List.set_cons_zero, List.set_cons_succ, i64_w, i32_w]
                rfl
               refine pure_ (i := 24) (N := some 79) (v := ?_) (a' := ?_) #[true, true, true, true, true, true, true, true, true, true, true, true, true, true, true, true, true, true, true, true, true, true, true, true, true, false, false, false, false, false, false, false, false, false, false, false, false] rfl rfl (any_of HT_.out (by kernel_rfl)) (fun _ _ _ h => h) (Or.inl ⟨by rfl, ?_⟩) ?_ ?_
               rotate_left
               ·intro w'
                go_simp
                with_reducible rfl
               rotate_left
               ·simp only [Act.put, List.setIfInBounds_toArray, List.set_cons_zero, List.set_cons_succ, i64_w, i32_w]
                rfl
               refine pure_ (i := 25) (N := some 80) (v := ?_) (a' := ?_) #[true, true, true, true, true, true, true, true, true, true, true, true, true, true, true, true, true, true, true, true, true, true, true, true, true, true, false, false, false, false, false, false, false, false, false, false, false] rfl rfl (any_of HT_.out (by kernel_rfl)) (fun _ _ _ h => h) (Or.inl ⟨by rfl, ?_⟩) ?_ ?_
               rotate_left
               ·intro w'
                go_simp
                with_reducible rfl
               rotate_left
               ·simp only [Act.put, List.setIfInBounds_toArray, List.set_cons_zero, List.set_cons_succ, i64_w, i32_w]
                rfl
               refine pure_ (i := 26) (N := some 81) (v := ?_) (a' := ?_) #[true, true, true, true, true, true, true, true, true, true, true, true, true, true, true, true, true, true, true, true, true, true, true, true, true, true, true, false, false, false, false, false, false, false, false, false, false] rfl rfl (any_of HT_.out (by kernel_rfl)) (fun _ _ _ h => h) (Or.inl ⟨by rfl, ?_⟩) ?_ ?_
               rotate_left
               ·intro w'
                go_simp
                with_reducible rfl
               rotate_left
               ·simp only [Act.put, List.setIfInBounds_toArray, List.set_cons_zero, List.set_cons_succ, i64_w, i32_w]
                rfl
               refine pure_ (i := 27) (N := some 82) (v := ?_) (a' := ?_) #[true, true, true, true, true, true, true, true, true, true, true, true, true, true, true, true, true, true, true, true, true, true, true, true, true, true, true, true, false, false, false, false, false, false, false, false, false] rfl rfl (any_of HT_.out (by kernel_rfl)) (fun _ _ _ h => h) (Or.inl ⟨by rfl, ?_⟩) ?_ ?_
               rotate_left
               ·intro w'
                go_simp
                with_reducible rfl
               rotate_left
               ·simp only [Act.put, List.setIfInBounds_toArray, List.set_cons_zero, List.set_cons_succ, i64_w, i32_w]
                rfl
               refine pure_ (i := 28) (N := some 83) (v := ?_) (a' := ?_) #[true, true, true, true, true, true, true, true, true, true, true, true, true, true, true, true, true, true, true, true, true, true, true, true, true, true, true, true, true, false, false, false, false, false, false, false, false] rfl rfl (any_of HT_.out (by kernel_rfl)) (fun _ _ _ h => h) (Or.inl ⟨by rfl, ?_⟩) ?_ ?_
               rotate_left
               ·intro w'
                go_simp
                with_reducible rfl
               rotate_left
               ·simp only [Act.put, List.setIfInBounds_toArray, List.set_cons_zero, List.set_cons_succ, i64_w, i32_w]
                rfl
               refine pure_ (i := 30) (N := some 85) (v := ?_) (a' := ?_) #[true, true, true, true, true, true, true, true, true, true, true, true, true, true, true, true, true, true, true, true, true, true, true, true, true, true, true, true, true, false, true, false, false, false, false, false, false] rfl rfl (any_of HT_.out (by kernel_rfl)) (fun _ _ _ h => h) (Or.inl ⟨by rfl, ?_⟩) ?_ ?_
               rotate_left
               ·intro w'
                go_simp
                with_reducible rfl
               rotate_left
               ·simp only [Act.put, List.setIfInBounds_toArray, List.set_cons_zero, List.set_cons_succ, i64_w, i32_w]
                rfl
               refine pure_ (i := 31) (N := some 86) (v := ?_) (a' := ?_) #[true, true, true, true, true, true, true, true, true, true, true, true, true, true, true, true, true, true, true, true, true, true, true, true, true, true, true, true, true, false, true, true, false, false, false, false, false] rfl rfl (any_of HT_.out (by kernel_rfl)) (fun _ _ _ h => h) (Or.inl ⟨by rfl, ?_⟩) ?_ ?_
               rotate_left
               ·intro w'
                go_simp
                with_reducible rfl
               rotate_left
               ·simp only [Act.put, List.setIfInBounds_toArray, List.set_cons_zero, List.set_cons_succ, i64_w, i32_w]
                rfl
               refine pure_ (i := 32) (N := some 87) (v := ?_) (a' := ?_) #[true, true, true, true, true, true, true, true, true, true, true, true, true, true, true, true, true, true, true, true, true, true, true, true, true, true, true, true, true, false, true, true, true, false, false, false, false] rfl rfl (any_of HT_.out (by kernel_rfl)) (fun _ _ _ h => h) (Or.inl ⟨by rfl, ?_⟩) ?_ ?_
               rotate_left
               ·intro w'
                go_simp
                with_reducible rfl
               rotate_left
               ·simp only [Act.put, List.setIfInBounds_toArray, List.set_cons_zero, List.set_cons_succ, i64_w, i32_w]
                rfl
               refine pure_ (i := 33) (N := some 88) (v := ?_) (a' := ?_) #[true, true, true, true, true, true, true, true, true, true, true, true, true, true, true, true, true, true, true, true, true, true, true, true, true, true, true, true, true, false, true, true, true, true, false, false, false] rfl rfl (any_of HT_.out (by kernel_rfl)) (fun _ _ _ h => h) (Or.inl ⟨by rfl, ?_⟩) ?_ ?_
               rotate_left
               ·intro w'
                go_simp
                with_reducible rfl
               rotate_left
               ·simp only [Act.put, List.setIfInBounds_toArray, List.set_cons_zero, List.set_cons_succ, i64_w, i32_w]
                rfl
               refine take_ (i := 29) (N := some 84) (v := ?_) (a' := ?_) #[true, true, true, true, true, true, true, true, true, true, true, true, true, true, true, true, true, true, true, true, true, true, true, true, true, true, true, true, true, true, true, true, true, true, false, false, false] rfl rfl (take_ofW HT_.out HW_.out (by kernel_rfl)) (fun _ _ _ h => h) (Or.inl ⟨by rfl, ?_⟩) hHeld ?_ ?_
               rotate_left
               ·rintro w' ⟨s0, s1, s2, s3, s4, s5, s6, s7, s8, s9, s10, s11, s12, s13, s14, s15, s16, s17⟩
                go_simp
                with_reducible rfl
               rotate_left
               ·simp only [Act.put, List.setIfInBounds_toArray, List.set_cons_zero, List.set_cons_succ, i64_w, i32_w]
                rfl
               refine take_ (i := 34) (N := some 89) (v := ?_) (a' := ?_) #[true, true, true, true, true, true, true, true, true, true, true, true, true, true, true, true, true, true, true, true, true, true, true, true, true, true, true, true, true, true, true, true, true, true, true, false, false] rfl rfl (take_ofW HT_.out HW_.out (by kernel_rfl)) (fun _ _ _ h => h) (Or.inl ⟨by rfl, ?_⟩) hHeld ?_ ?_
               rotate_left
               ·rintro w' ⟨s0, s1, s2, s3, s4, s5, s6, s7, s8, s9, s10, s11, s12, s13, s14, s15, s16, s17⟩
                go_simp
                with_reducible rfl
               rotate_left
               ·simp only [Act.put, List.setIfInBounds_toArray, List.set_cons_zero, List.set_cons_succ, i64_w, i32_w]
                rfl
               refine pure_ (i := 35) (N := some 90) (v := ?_) (a' := ?_) #[true, true, true, true, true, true, true, true, true, true, true, true, true, true, true, true, true, true, true, true, true, true, true, true, true, true, true, true, true, true, true, true, true, true, true, true, false] rfl rfl (any_of HT_.out (by kernel_rfl)) (fun _ _ _ h => h) (Or.inl ⟨by rfl, ?_⟩) ?_ ?_
               rotate_left
               ·intro w'
                go_simp
                with_reducible rfl
               rotate_left
               ·simp only [Act.put, List.setIfInBounds_toArray, List.set_cons_zero, List.set_cons_succ, i64_w, i32_w]
                rfl
               refine pure_ (i := 36) (N := some 91) (v := ?_) (a' := ?_) #[true, true, true, true, true, true, true, true, true, true, true, true, true, true, true, true, true, true, true, true, true, true, true, true, true, true, true, true, true, true, true, true, true, true, true, true, true] rfl rfl (any_of HT_.out (by kernel_rfl)) (fun _ _ _ h => h) (Or.inl ⟨by rfl, ?_⟩) ?_ ?_
               rotate_left
               ·intro w'
                go_simp
                with_reducible rfl
               rotate_left
               ·simp only [Act.put, List.setIfInBounds_toArray, List.set_cons_zero, List.set_cons_succ, i64_w, i32_w]
                rfl
               refine done_ (done_of HT_.out (by kernel_rfl)) ?_
               try go_wp2
               go_roundg k2
               case measure => have := HJ8.out; have := HK2.out; omega
               case rel => exact ⟨(wrap64 (x7_2 + 1)), (by first | rfl | (simp; done) | (simp [*]; done)), H', ⟨by have := HJ8.out; have := HK2.out; omega⟩, ⟨by (with_reducible repeat (first | apply Kd.R_alloc | apply Kd.R_drewN | apply Kd.R_drew)); exact HO_3.out⟩, ⟨by (with_reducible repeat (first | apply Kd.R_alloc | apply Kd.R_drewN | apply Kd.R_drew)); exact HO_5.out⟩, ⟨by (with_reducible repeat (first | refine blk_drewN ?_ _ | refine blk_drew ?_ | refine blk_alloc ?_ _)); exact BK346.out⟩, ⟨by (with_reducible repeat (first | refine blk_drewN ?_ _ | refine blk_drew ?_ | refine blk_alloc ?_ _)); exact BK352.out⟩, ⟨by repeat (first | (with_reducible first | exact HB.out | apply below_alloc | apply pw_below_drewN | apply below_drew1 | refine below_set ?_ GE346.out | refine below_set ?_ GE352.out) | exact HB.out)⟩⟩
              ·rw [if_neg c31] at H
               have c31b0 : (((rd_T30 t339 x7_2).f2) == ((rd_T53 t347 x7_2).f2)) = false := beq_eq_false_iff_ne.mpr c31
               have c31b1 : (((rd_T30 t339 x7_2).f2) != ((rd_T53 t347 x7_2).f2)) = true := bne_iff_ne.mpr c31
               obtain rfl := Option.some.inj H
               exact absurd HR.out (by decide)
             ·rw [if_neg c30] at H
              have c30b0 : (((rd_T30 t339 x7_2).f1).toList == ((rd_T53 t347 x7_2).f1).toList) = false := beq_eq_false_iff_ne.mpr c30
              have c30b1 : (((rd_T30 t339 x7_2).f1).toList != ((rd_T53 t347 x7_2).f1).toList) = true := bne_iff_ne.mpr c30
              obtain rfl := Option.some.inj H
              exact absurd HR.out (by decide)
            ·rw [if_neg c29] at H
             have c29b0 : (((rd_T30 t339 x7_2).f0) == ((rd_T53 t347 x7_2).f0)) = false := beq_eq_false_iff_ne.mpr c29
             have c29b1 : (((rd_T30 t339 x7_2).f0) != ((rd_T53 t347 x7_2).f0)) = true := bne_iff_ne.mpr c29
             obtain rfl := Option.some.inj H
             exact absurd HR.out (by decide)
           ·rw [if_neg c28] at H
            exact absurd H (by simp)
          ·rw [if_neg c27] at H
           exact absurd H (by simp)
         ·rw [if_neg c26] at H
          have c26b0 : decide (x7_2 < (t339.length : Int)) = false := decide_eq_false c26
          clear c26
          obtain rfl := Option.some.inj H
          obtain ⟨Ao44, co44, eo44⟩ := Kd.R_slice HO_3.out
          subst eo44
          go_wp2
          go_ret
          exact ⟨by first | rfl | (simp [errW_none, errW_some] <;> rfl) | (simp [*, errW_none, errW_some, bne]; done) | (simp [*, errW_none, errW_some] <;> rfl), by repeat (first | (with_reducible first | exact HB.out | apply below_alloc | apply pw_below_drewN | apply below_drew1 | refine below_set ?_ GE346.out | refine below_set ?_ GE352.out) | exact HB.out)⟩
   ·rw [if_neg c8] at H
    have c8b0 : (t350 == 0) = false := beq_eq_false_iff_ne.mpr c8
    have c8b1 : (t350 != 0) = true := bne_iff_ne.mpr c8
    replace H := Option.bind_eq_some_iff.mp H
    obtain ⟨⟨t353, t354, t355, t356⟩, A450, H⟩ := H
    (try dsimp only at H)
    have A45 := Aside0.mk A450
    clear A450
    by_cases c46 : (t342 == t353 && (t343 == t354 && (t344 == t355 && (t345 == t356)))) = true
    ·rw [if_pos c46] at H
     have c46b0 : (t342 == t353 && (t343 == t354 && (t344 == t355 && (t345 == t356)))) = true := c46
     (try (have c46b1 : decide (t342 = t353 && (t343 == t354 && (t344 == t355 && (t345 == t356)))) = true := by simpa using c46))
     (try (have c46b2 : (t342 == t353 && (t343 == t354 && (t344 == t355 && (t345 == t356)))) = true := by simpa using c46))
     clear c46
     obtain rfl := Option.some.inj H
     go_enter Tryd.func10, Tryd.ntmps10
     try go_wp2_with (first | ((with_reducible refine gate_callee (f := 12) rfl ?_); refine goesL_ (some 8) rfl rfl Tryd.func12 (by kernel_rfl) rfl #[] rfl (by (try simp only [List.map_toArray, List.map_cons, List.map_nil]); first | done | rfl | (simp only [List.length_drop, List.length_take]; rfl)) ?_; (with_reducible refine (dragomanlaw7_awake.calls  true _ A2.out).mono ?_); rintro e w47 ⟨rfl, hb⟩; refine ⟨_, rfl, ?_⟩; have n0_ := Aside0.mk (below_step (by repeat (first | (with_reducible first | exact HB.out | apply below_alloc | apply pw_below_drewN | apply below_drew1) | exact HB.out)) hb); clear HB; have HB := n0_; clear n0_; (try clear hb); (try clear hb2); (try clear hk); (try clear hi)) | ((with_reducible refine gate_callee (f := 13) rfl ?_); refine goesL_ (some 15) rfl rfl Tryd.func13 (by kernel_rfl) rfl #[.string a0] rfl (by (try simp only [List.map_toArray, List.map_cons, List.map_nil]); first | done | rfl | (simp only [List.length_drop, List.length_take]; rfl)) ?_; (with_reducible refine (jlex_Cut.calls k a0 t339 t342 t343 t344 t345 _ A6.out).mono ?_); rintro e w48 ⟨v340, rfl, ho0, hb⟩; refine ⟨_, rfl, ?_⟩; have n0_ := Aside0.mk (Kd.R_lower ho0 (below_size (by repeat (first | (with_reducible first | exact HB.out | apply below_alloc | apply pw_below_drewN | apply below_drew1) | exact HB.out)))); have n1_ := Aside0.mk (below_step (by repeat (first | (with_reducible first | exact HB.out | apply below_alloc | apply pw_below_drewN | apply below_drew1) | exact HB.out)) hb); clear HB; have HO341 := n0_; have HB := n1_; clear n0_ n1_; (try clear hb); (try clear hb2); (try clear hk); (try clear hi); (try clear ho0)) | ((with_reducible refine gate_dst (N := 4) rfl ?_); (try (refine gate_guard (by rfl) ?_; dsimp only)); refine box_event ?hg (N := 4) ?hd (cs := #[.int .i64 0, .int .i64 0, .int .i64 0, .int .i64 0]) (t := 26) ?hr ?_; (case hd => rfl); (case hg => rfl); (case hr => first | (go_simp; done) | (go_simp; rfl)); intro gb346 hg w49 hbox hb; have n0_ := Aside0.mk (Kd.R_below (by (with_reducible repeat (first | apply Kd.R_alloc | apply Kd.R_drewN | apply Kd.R_drew)); exact HO341.out) hb); have n1_ := Aside0.mk (below_step (by repeat (first | (with_reducible first | exact HB.out | apply below_alloc | apply pw_below_drewN | apply below_drew1) | exact HB.out)) hb); have n2_ := Aside0.mk (hbox); have n3_ := Aside0.mk ((by rw [hg]; exact (below_size (by repeat (first | (with_reducible first | exact HB.out | apply below_alloc | apply pw_below_drewN | apply below_drew1) | exact HB.out))) : w.heap.size ≤ gb346)); have n4_ := Aside0.mk ((by rw [hg]; exact (below_size (by repeat (first | (with_reducible first | exact HB.out | apply below_alloc | apply pw_below_drewN | apply below_drew1) | exact HB.out))) : w.heap.size ≤ gb346)); clear HO341; clear HB; have HO341 := n0_; have HB := n1_; have BK346 := n2_; have GW346 := n3_; have GE346 := n4_; clear n0_ n1_ n2_ n3_ n4_; clear hb hbox hg; have hcz50_0 : w49.cell? ⟨gb346, 0, none⟩ = some (.int .i64 0) := (blk_cell BK346.out 0).trans rfl; have hcz50_1 : w49.cell? ⟨gb346, 1, none⟩ = some (.int .i64 0) := (blk_cell BK346.out 1).trans rfl; have hcz50_2 : w49.cell? ⟨gb346, 2, none⟩ = some (.int .i64 0) := (blk_cell BK346.out 2).trans rfl; have hcz50_3 : w49.cell? ⟨gb346, 3, none⟩ = some (.int .i64 0) := (blk_cell BK346.out 3).trans rfl; have hfz50_0 := blk_frozen BK346.out 0; have hfz50_1 := blk_frozen BK346.out 1; have hfz50_2 := blk_frozen BK346.out 2; have hfz50_3 := blk_frozen BK346.out 3) | ((with_reducible refine gate_callee (f := 29) rfl ?_); refine goesL_ (some 20) rfl rfl Tryd.func29 (by kernel_rfl) rfl #[.string a0] rfl (by (try simp only [List.map_toArray, List.map_cons, List.map_nil]); first | done | rfl | (simp only [List.length_drop, List.length_take]; rfl)) ?_; (with_reducible refine (dragomanref8_Cut.calls k a0 t347 t350 t351 _ A7.out).mono ?_); rintro e w51 ⟨v348, rfl, ho0, hb⟩; refine ⟨_, rfl, ?_⟩; have n0_ := Aside0.mk (Kd.R_below (by (with_reducible repeat (first | apply Kd.R_alloc | apply Kd.R_drewN | apply Kd.R_drew)); exact (Kd.R_mono (Kd.R_far (p := ⟨gb346, 3, none⟩) (Kd.R_far (p := ⟨gb346, 2, none⟩) (Kd.R_far (p := ⟨gb346, 1, none⟩) (Kd.R_far (p := ⟨gb346, 0, none⟩) (Kd.R_types HO341.out BK346.out (by decide)) (fun _ hk => hk.2) (.int .i64 t342)) (fun _ hk => hk.2) (.int .i64 t343)) (fun _ hk => hk.2) (.int .i64 t344)) (fun _ hk => hk.2) (.int .i64 t345)) (fun _ h_ => h_.1))) hb); have n1_ := Aside0.mk (Kd.R_lower ho0 (below_size (by repeat (first | (with_reducible first | exact HB.out | apply below_alloc | apply pw_below_drewN | apply below_drew1 | refine below_set ?_ GE346.out) | exact HB.out)))); have n2_ := Aside0.mk (blk_below (g := gb346) (o := .cells #[.int .i64 t342, .int .i64 t343, .int .i64 t344, .int .i64 t345] 26 (0, 0)) (by (with_reducible repeat (first | refine blk_drewN ?_ _ | refine blk_drew ?_ | refine blk_alloc ?_ _)); refine blk_put (cs := #[.int .i64 t342, .int .i64 t343, .int .i64 t344, .int .i64 0]) ?_ 3 _ rfl; (with_reducible repeat (first | refine blk_drewN ?_ _ | refine blk_drew ?_ | refine blk_alloc ?_ _)); refine blk_put (cs := #[.int .i64 t342, .int .i64 t343, .int .i64 0, .int .i64 0]) ?_ 2 _ rfl; (with_reducible repeat (first | refine blk_drewN ?_ _ | refine blk_drew ?_ | refine blk_alloc ?_ _)); refine blk_put (cs := #[.int .i64 t342, .int .i64 0, .int .i64 0, .int .i64 0]) ?_ 1 _ rfl; (with_reducible repeat (first | refine blk_drewN ?_ _ | refine blk_drew ?_ | refine blk_alloc ?_ _)); refine blk_put (cs := #[.int .i64 0, .int .i64 0, .int .i64 0, .int .i64 0]) ?_ 0 _ rfl; (with_reducible repeat (first | refine blk_drewN ?_ _ | refine blk_drew ?_ | refine blk_alloc ?_ _)); exact BK346.out) hb); have n3_ := Aside0.mk (below_step (by repeat (first | (with_reducible first | exact HB.out | apply below_alloc | apply pw_below_drewN | apply below_drew1 | refine below_set ?_ GE346.out) | exact HB.out)) hb); clear HO341; clear BK346; clear HB; have HO341 := n0_; have HO349 := n1_; have BK346 := n2_; have HB := n3_; clear n0_ n1_ n2_ n3_; (try clear hb); (try clear hb2); (try clear hk); (try clear hi); (try clear ho0)) | ((with_reducible refine gate_dst (N := 6) rfl ?_); (try (refine gate_guard (by rfl) ?_; dsimp only)); refine box_event ?hg (N := 6) ?hd (cs := #[.int .i64 0, .int .i64 0]) (t := 49) ?hr ?_; (case hd => rfl); (case hg => rfl); (case hr => first | (go_simp; done) | (go_simp; rfl)); intro gb352 hg w52 hbox hb; have n0_ := Aside0.mk (Kd.R_below (by (with_reducible repeat (first | apply Kd.R_alloc | apply Kd.R_drewN | apply Kd.R_drew)); exact HO341.out) hb); have n1_ := Aside0.mk (Kd.R_below (by (with_reducible repeat (first | apply Kd.R_alloc | apply Kd.R_drewN | apply Kd.R_drew)); exact HO349.out) hb); have n2_ := Aside0.mk (blk_below (g := gb346) (o := .cells #[.int .i64 t342, .int .i64 t343, .int .i64 t344, .int .i64 t345] 26 (0, 0)) (by (with_reducible repeat (first | refine blk_drewN ?_ _ | refine blk_drew ?_ | refine blk_alloc ?_ _)); exact BK346.out) hb); have n3_ := Aside0.mk (below_step (by repeat (first | (with_reducible first | exact HB.out | apply below_alloc | apply pw_below_drewN | apply below_drew1 | refine below_set ?_ GE346.out) | exact HB.out)) hb); have n4_ := Aside0.mk (hbox); have n5_ := Aside0.mk ((by rw [hg]; exact (below_size (by repeat (first | (with_reducible first | exact HB.out | apply below_alloc | apply pw_below_drewN | apply below_drew1 | refine below_set ?_ GE346.out) | exact HB.out))) : w.heap.size ≤ gb352)); have n6_ := Aside0.mk ((by rw [hg]; exact (below_size (by repeat (first | (with_reducible first | exact HB.out | apply below_alloc | apply pw_below_drewN | apply below_drew1 | refine below_set ?_ GE346.out) | exact HB.out))) : w.heap.size ≤ gb352)); have n7_ := Aside0.mk ((by rw [hg]; exact Nat.ne_of_lt (blk_lt (g := gb346) (o := .cells #[.int .i64 t342, .int .i64 t343, .int .i64 t344, .int .i64 t345] 26 (0, 0)) (by (with_reducible repeat (first | refine blk_drewN ?_ _ | refine blk_drew ?_ | refine blk_alloc ?_ _)); exact BK346.out)) : gb346 ≠ gb352)); have n8_ := Aside0.mk ((by rw [hg]; exact Nat.ne_of_gt (blk_lt (g := gb346) (o := .cells #[.int .i64 t342, .int .i64 t343, .int .i64 t344, .int .i64 t345] 26 (0, 0)) (by (with_reducible repeat (first | refine blk_drewN ?_ _ | refine blk_drew ?_ | refine blk_alloc ?_ _)); exact BK346.out)) : gb352 ≠ gb346)); clear HO341; clear HO349; clear BK346; clear HB; have HO341 := n0_; have HO349 := n1_; have BK346 := n2_; have HB := n3_; have BK352 := n4_; have GW352 := n5_; have GE352 := n6_; have NB346_352 := n7_; have NB352_346 := n8_; clear n0_ n1_ n2_ n3_ n4_ n5_ n6_ n7_ n8_; clear hb hbox hg; have hnb53 := NB352_346.out; have hnc53 := NB346_352.out; have hcz54_0 : w52.cell? ⟨gb352, 0, none⟩ = some (.int .i64 0) := (blk_cell BK352.out 0).trans rfl; have hcz54_1 : w52.cell? ⟨gb352, 1, none⟩ = some (.int .i64 0) := (blk_cell BK352.out 1).trans rfl; have hfz54_0 := blk_frozen BK352.out 0; have hfz54_1 := blk_frozen BK352.out 1))
     have n0_ : Aside0 (Kd.R k30 30 ((w52.setCell ⟨gb352, 0, none⟩ (.int .i64 t350)).setCell ⟨gb352, 1, none⟩ (.int .i64 t351)) w.heap.size (fun _ => True) v340 t339) := ⟨by (with_reducible repeat (first | apply Kd.R_alloc | apply Kd.R_drewN | apply Kd.R_drew)); exact Kd.R_mono (Kd.R_far (p := ⟨gb352, 1, none⟩) (Kd.R_far (p := ⟨gb352, 0, none⟩) (Kd.R_types HO341.out BK352.out (by decide)) (fun _ hk => hk.2) (.int .i64 t350)) (fun _ hk => hk.2) (.int .i64 t351)) (fun _ hk => trivial)⟩
     have n1_ : Aside0 (Kd.R k53 53 ((w52.setCell ⟨gb352, 0, none⟩ (.int .i64 t350)).setCell ⟨gb352, 1, none⟩ (.int .i64 t351)) w.heap.size (fun _ => True) v348 t347) := ⟨by (with_reducible repeat (first | apply Kd.R_alloc | apply Kd.R_drewN | apply Kd.R_drew)); exact Kd.R_mono (Kd.R_far (p := ⟨gb352, 1, none⟩) (Kd.R_far (p := ⟨gb352, 0, none⟩) (Kd.R_types HO349.out BK352.out (by decide)) (fun _ hk => hk.2) (.int .i64 t350)) (fun _ hk => hk.2) (.int .i64 t351)) (fun _ hk => trivial)⟩
     have n2_ : Aside0 (((w52.setCell ⟨gb352, 0, none⟩ (.int .i64 t350)).setCell ⟨gb352, 1, none⟩ (.int .i64 t351)).heap[gb346]? = some (.cells #[.int .i64 t342, .int .i64 t343, .int .i64 t344, .int .i64 t345] 26 (0, 0))) := ⟨by (with_reducible repeat (first | refine blk_drewN ?_ _ | refine blk_drew ?_ | refine blk_alloc ?_ _)); refine blk_far ?_ NB346_352.out _; (with_reducible repeat (first | refine blk_drewN ?_ _ | refine blk_drew ?_ | refine blk_alloc ?_ _)); refine blk_far ?_ NB346_352.out _; (with_reducible repeat (first | refine blk_drewN ?_ _ | refine blk_drew ?_ | refine blk_alloc ?_ _)); exact BK346.out⟩
     have n3_ : Aside0 (((w52.setCell ⟨gb352, 0, none⟩ (.int .i64 t350)).setCell ⟨gb352, 1, none⟩ (.int .i64 t351)).heap[gb352]? = some (.cells #[.int .i64 t350, .int .i64 t351] 49 (0, 0))) := ⟨by (with_reducible repeat (first | refine blk_drewN ?_ _ | refine blk_drew ?_ | refine blk_alloc ?_ _)); refine blk_put (cs := #[.int .i64 t350, .int .i64 0]) ?_ 1 _ rfl; (with_reducible repeat (first | refine blk_drewN ?_ _ | refine blk_drew ?_ | refine blk_alloc ?_ _)); refine blk_put (cs := #[.int .i64 0, .int .i64 0]) ?_ 0 _ rfl; (with_reducible repeat (first | refine blk_drewN ?_ _ | refine blk_drew ?_ | refine blk_alloc ?_ _)); exact BK352.out⟩
     have n4_ : Aside0 (Below w.heap.size w ((w52.setCell ⟨gb352, 0, none⟩ (.int .i64 t350)).setCell ⟨gb352, 1, none⟩ (.int .i64 t351))) := ⟨by repeat (first | (with_reducible first | exact HB.out | apply below_alloc | apply pw_below_drewN | apply below_drew1 | refine below_set ?_ GE346.out | refine below_set ?_ GE352.out) | exact HB.out)⟩
     (try clear HO341)
     (try clear HO349)
     (try clear BK346)
     (try clear BK352)
     (try clear HB)
     generalize ((w52.setCell ⟨gb352, 0, none⟩ (.int .i64 t350)).setCell ⟨gb352, 1, none⟩ (.int .i64 t351)) = w55 at n0_ n1_ n2_ n3_ n4_ ⊢
     have HO341 := n0_
     have HO349 := n1_
     have BK346 := n2_
     have BK352 := n3_
     have HB := n4_
     clear n0_ n1_ n2_ n3_ n4_
     have n0_ := Aside0.mk (Kd.R_drew HO341.out)
     have n1_ := Aside0.mk (Kd.R_drew HO349.out)
     have n2_ := Aside0.mk (blk_drew BK346.out)
     have n3_ := Aside0.mk (blk_drew BK352.out)
     have n4_ := Aside0.mk (below_drew1 HB.out)
     clear HO341
     clear HO349
     clear BK346
     clear BK352
     clear HB
     have HO341 := n0_
     have HO349 := n1_
     have BK346 := n2_
     have BK352 := n3_
     have HB := n4_
     clear n0_ n1_ n2_ n3_ n4_
     refine start_ (n := 14) (S := fun w' => w'.cell? ⟨gb346, 0, none⟩ = some (.int .i64 t342) ∧ w'.cell? ⟨gb346, 1, none⟩ = some (.int .i64 t343) ∧ w'.cell? ⟨gb346, 2, none⟩ = some (.int .i64 t344) ∧ w'.cell? ⟨gb346, 3, none⟩ = some (.int .i64 t345) ∧ w'.cell? ⟨gb352, 0, none⟩ = some (.int .i64 t350) ∧ w'.cell? ⟨gb352, 1, none⟩ = some (.int .i64 t351)) (ds := []) #[false, false, false, false, false, false, false, false, false, false, false, false, false, false] (by kernel_rfl) rfl rfl ⟨(blk_cell BK346.out 0).trans rfl, (blk_cell BK346.out 1).trans rfl, (blk_cell BK346.out 2).trans rfl, (blk_cell BK346.out 3).trans rfl, (blk_cell BK352.out 0).trans rfl, (blk_cell BK352.out 1).trans rfl⟩ (fun hHeld => ?_); refine with_tabW dragomanlaw7_JlexCuts.tab8 dragomanlaw7_JlexCuts.bits8 (fun HT_ HW_ => ?_)
     generalize w55.drew = w56 at HO341 HO349 BK346 BK352 HB hHeld ⊢
     refine pure_ (i := 1) (N := some 27) (v := ?_) (a' := ?_) #[false, true, false, false, false, false, false, false, false, false, false, false, false, false] rfl rfl (any_of HT_.out (by kernel_rfl)) (fun _ _ _ h => h) (Or.inl ⟨by rfl, ?_⟩) ?_ ?_
     rotate_left
     ·intro w'
      go_simp
      with_reducible rfl
     rotate_left
     ·simp only [Act.put, List.setIfInBounds_toArray, List.set_cons_zero, List.set_cons_succ, i64_w, i32_w]
      rfl
     refine pure_ (i := 2) (N := some 28) (v := ?_) (a' := ?_) #[false, true, true, false, false, false, false, false, false, false, false, false, false, false] rfl rfl (any_of HT_.out (by kernel_rfl)) (fun _ _ _ h => h) (Or.inl ⟨by rfl, ?_⟩) ?_ ?_
     rotate_left
     ·intro w'
      go_simp
      with_reducible rfl
     rotate_left
     ·simp only [Act.put, List.setIfInBounds_toArray, List.set_cons_zero, List.set_cons_succ, i64_w, i32_w]
      rfl
     refine pure_ (i := 4) (N := some 30) (v := ?_) (a' := ?_) #[false, true, true, false, true, false, false, false, false, false, false, false, false, false] rfl rfl (any_of HT_.out (by kernel_rfl)) (fun _ _ _ h => h) (Or.inl ⟨by rfl, ?_⟩) ?_ ?_
     rotate_left
     ·intro w'
      go_simp
      with_reducible rfl
     rotate_left
     ·simp only [Act.put, List.setIfInBounds_toArray, List.set_cons_zero, List.set_cons_succ, i64_w, i32_w]
      rfl
     refine take_ (i := 0) (N := some 26) (v := ?_) (a' := ?_) #[true, true, true, false, true, false, false, false, false, false, false, false, false, false] rfl rfl (take_ofW HT_.out HW_.out (by kernel_rfl)) (fun _ _ _ h => h) (Or.inl ⟨by rfl, ?_⟩) hHeld ?_ ?_
     rotate_left
     ·rintro w' ⟨s0, s1, s2, s3, s4, s5⟩
      go_simp
      with_reducible rfl
     rotate_left
     ·simp only [Act.put, List.setIfInBounds_toArray, List.set_cons_zero, List.set_cons_succ, i64_w, i32_w]
      rfl
     refine take_ (i := 3) (N := some 29) (v := ?_) (a' := ?_) #[true, true, true, true, true, false, false, false, false, false, false, false, false, false] rfl rfl (take_ofW HT_.out HW_.out (by kernel_rfl)) (fun _ _ _ h => h) (Or.inl ⟨by rfl, ?_⟩) hHeld ?_ ?_
     rotate_left
     ·rintro w' ⟨s0, s1, s2, s3, s4, s5⟩
      go_simp
      with_reducible rfl
     rotate_left
     ·simp only [Act.put, List.setIfInBounds_toArray, List.set_cons_zero, List.set_cons_succ, i64_w, i32_w]
      rfl
     refine take_ (i := 5) (N := some 31) (v := ?_) (a' := ?_) #[true, true, true, true, true, true, false, false, false, false, false, false, false, false] rfl rfl (take_ofW HT_.out HW_.out (by kernel_rfl)) (fun _ _ _ h => h) (Or.inl ⟨by rfl, ?_⟩) hHeld ?_ ?_
     rotate_left
     ·rintro w' ⟨s0, s1, s2, s3, s4, s5⟩
      go_simp
      with_reducible rfl
     rotate_left
     ·simp only [Act.put, List.setIfInBounds_toArray, List.set_cons_zero, List.set_cons_succ, i64_w, i32_w]
      rfl
     refine one_ (i := 6) (N := some 32) #[true, true, true, true, true, true, true, false, false, false, false, false, false, false] rfl rfl (one_of HT_.out (by kernel_rfl)) (by decide) (fun K hK => ?_)
     refine goes_ Tryd.func30 (by kernel_rfl) rfl #[.string a0, .int .i64 t351, .int .i64 t350] (by rfl) rfl rfl (by (try simp only [List.map_toArray, List.map_cons, List.map_nil]); first | done | rfl | (simp only [List.length_drop, List.length_take]; rfl)) ?_
     with_reducible refine (dragomanref1_Fault.calls k a0 t351 t350 t353 t354 t355 t356 _ A45.out).mono ?_
     rintro e w57 ⟨rfl, hb⟩
     refine ⟨_, rfl, ?_⟩
     have n0_ := Aside0.mk (Kd.R_below (by (with_reducible repeat (first | apply Kd.R_alloc | apply Kd.R_drewN | apply Kd.R_drew)); exact HO341.out) hb)
     have n1_ := Aside0.mk (Kd.R_below (by (with_reducible repeat (first | apply Kd.R_alloc | apply Kd.R_drewN | apply Kd.R_drew)); exact HO349.out) hb)
     have n2_ := Aside0.mk (blk_below (g := gb346) (o := .cells #[.int .i64 t342, .int .i64 t343, .int .i64 t344, .int .i64 t345] 26 (0, 0)) (by (with_reducible repeat (first | refine blk_drewN ?_ _ | refine blk_drew ?_ | refine blk_alloc ?_ _)); exact BK346.out) hb)
     have n3_ := Aside0.mk (blk_below (g := gb352) (o := .cells #[.int .i64 t350, .int .i64 t351] 49 (0, 0)) (by (with_reducible repeat (first | refine blk_drewN ?_ _ | refine blk_drew ?_ | refine blk_alloc ?_ _)); exact BK352.out) hb)
     have n4_ := Aside0.mk (below_step (by repeat (first | (with_reducible first | exact HB.out | apply below_alloc | apply pw_below_drewN | apply below_drew1 | refine below_set ?_ GE346.out | refine below_set ?_ GE352.out) | exact HB.out)) hb)
     clear HO341
     clear HO349
     clear BK346
     clear BK352
     clear HB
     have HO341 := n0_
     have HO349 := n1_
     have BK346 := n2_
     have BK352 := n3_
     have HB := n4_
     clear n0_ n1_ n2_ n3_ n4_
     (try clear hb)
     (try clear hb2)
     (try clear hk)
     (try clear hi)
     obtain ⟨Ao58, co58, eo58⟩ := Kd.R_slice HO341.out
     (first | subst eo58 | (injection eo58 with f1_ f2_ f3_; have f4_ := f1_.symm; have f5_ := f3_.symm; clear f1_ f2_ f3_; subst f4_; subst f5_))
     refine hK.out _ _ ⟨(blk_cell BK346.out 0).trans rfl, (blk_cell BK346.out 1).trans rfl, (blk_cell BK346.out 2).trans rfl, (blk_cell BK346.out 3).trans rfl, (blk_cell BK352.out 0).trans rfl, (blk_cell BK352.out 1).trans rfl⟩ (fun hHeld => ?_)
     clear hK K
     refine norm_ (a' := ?_) ?_ ?_
     rotate_left
     ·show Act.put _ (some 32) _ = _
      simp only [Act.put, List.setIfInBounds_toArray, List.set_cons_zero, List.set_cons_succ, i64_w, i32_w]
      rfl
     refine pure_ (i := 7) (N := some 33) (v := ?_) (a' := ?_) #[true, true, true, true, true, true, true, true, false, false, false, false, false, false] rfl rfl (any_of HT_.out (by kernel_rfl)) (fun _ _ _ h => h) (Or.inl ⟨by rfl, ?_⟩) ?_ ?_
     rotate_left
     ·intro w'
      go_simp
      with_reducible rfl
     rotate_left
     ·simp only [Act.put, List.setIfInBounds_toArray, List.set_cons_zero, List.set_cons_succ, i64_w, i32_w]
      rfl
     refine pure_ (i := 8) (N := some 34) (v := ?_) (a' := ?_) #[true, true, true, true, true, true, true, true, true, false, false, false, false, false] rfl rfl (any_of HT_.out (by kernel_rfl)) (fun _ _ _ h => h) (Or.inl ⟨by rfl, ?_⟩) ?_ ?_
     rotate_left
     ·intro w'
      go_simp
      with_reducible rfl
     rotate_left
     ·simp only [Act.put, List.setIfInBounds_toArray, List.set_cons_zero, List.set_cons_succ, i64_w, i32_w]
      rfl
     refine pure_ (i := 9) (N := some 35) (v := ?_) (a' := ?_) #[true, true, true, true, true, true, true, true, true, true, false, false, false, false] rfl rfl (any_of HT_.out (by kernel_rfl)) (fun _ _ _ h => h) (Or.inl ⟨by rfl, ?_⟩) ?_ ?_
     rotate_left
     ·intro w'
      go_simp
      with_reducible rfl
     rotate_left
     ·simp only [Act.put, List.setIfInBounds_toArray, List.set_cons_zero, List.set_cons_succ, i64_w, i32_w]
      rfl
     refine pure_ (i := 10) (N := some 36) (v := ?_) (a' := ?_) #[true, true, true, true, true, true, true, true, true, true, true, false, false, false] rfl rfl (any_of HT_.out (by kernel_rfl)) (fun _ _ _ h => h) (Or.inl ⟨by rfl, ?_⟩) ?_ ?_
     rotate_left
     ·intro w'
      go_simp
      with_reducible rfl
     rotate_left
     ·simp only [Act.put, List.setIfInBounds_toArray, List.set_cons_zero, List.set_cons_succ, i64_w, i32_w]
      rfl
     refine pure_ (i := 11) (N := some 37) (v := ?_) (a' := ?_) #[true, true, true, true, true, true, true, true, true, true, true, true, false, false] rfl rfl (any_of HT_.out (by kernel_rfl)) (fun _ _ _ h => h) (Or.inl ⟨by rfl, ?_⟩) ?_ ?_
     rotate_left
     ·intro w'
      go_simp
      with_reducible rfl
     rotate_left
     ·simp only [Act.put, List.setIfInBounds_toArray, List.set_cons_zero, List.set_cons_succ, i64_w, i32_w]
      rfl
     refine pure_ (i := 12) (N := some 38) (v := ?_) (a' := ?_) #[true, true, true, true, true, true, true, true, true, true, true, true, true, false] rfl rfl (any_of HT_.out (by kernel_rfl)) (fun _ _ _ h => h) (Or.inl ⟨by rfl, ?_⟩) ?_ ?_
     rotate_left
     ·intro w'
      go_simp
      with_reducible rfl
     rotate_left
     ·simp only [Act.put, List.setIfInBounds_toArray, List.set_cons_zero, List.set_cons_succ, i64_w, i32_w]
      rfl
     refine pure_ (i := 13) (N := some 2) (v := ?_) (a' := ?_) #[true, true, true, true, true, true, true, true, true, true, true, true, true, true] rfl rfl (any_of HT_.out (by kernel_rfl)) (fun _ _ _ h => h) (Or.inl ⟨by rfl, ?_⟩) ?_ ?_
     rotate_left
     ·intro w'
      go_simp
      with_reducible rfl
     rotate_left
     ·simp only [Act.put, List.setIfInBounds_toArray, List.set_cons_zero, List.set_cons_succ, i64_w, i32_w]
      rfl
     refine done_ (done_of HT_.out (by kernel_rfl)) ?_
     try go_wp2
     go_ret
     exact ⟨by first | rfl | (simp [errW_none, errW_some] <;> rfl) | (simp [*, errW_none, errW_some, bne]; done) | (simp [*, errW_none, errW_some] <;> rfl), by repeat (first | (with_reducible first | exact HB.out | apply below_alloc | apply pw_below_drewN | apply below_drew1 | refine below_set ?_ GE346.out | refine below_set ?_ GE352.out) | exact HB.out)⟩
    ·rw [if_neg c46] at H
     have c46b0 : (t342 == t353 && (t343 == t354 && (t344 == t355 && (t345 == t356)))) = false := by simpa using c46
     (try (have c46b1 : decide (t342 = t353 && (t343 == t354 && (t344 == t355 && (t345 == t356)))) = false := by simpa using c46))
     (try (have c46b2 : (t342 == t353 && (t343 == t354 && (t344 == t355 && (t345 == t356)))) = false := by simpa using c46))
     (try (have c46b3 : ¬ (t342 = t353 && (t343 == t354 && (t344 == t355 && (t345 == t356)))) := by simpa using c46))
     clear c46
     obtain rfl := Option.some.inj H
     exact absurd HR.out (by decide)
 ·replace c3 := Bool.eq_false_iff.mpr c3
  subst c3
  rw [if_neg (show ¬ (false = true) by decide)] at H
  obtain rfl := Option.some.inj H
  exact absurd HR.out (by decide)
/-- THE ONE PURE STATEMENT of dragomanlaw7_JlexCuts: yours. -/
def dragomanlaw7_JlexCuts.Pure : Prop := ∀ (a0 : ByteArray), a0.size ≤ 140737488351232 → ∃ k, dragomanlaw7_JlexCuts.f k a0 = some true
theorem dragomanlaw7_JlexCuts.walk (P : dragomanlaw7_JlexCuts.Pure) (a0 : ByteArray) (w : World) (w0 : a0.size ≤ 140737488351232) :
  Calls Tryd.prog 10 #[.string a0] w fun e w' => e = .returned (.bool true) ∧ Below w.heap.size w w' := by
 obtain ⟨k, h⟩ := P a0 w0
 refine (dragomanlaw7_JlexCuts.calls k a0 true w ⟨rfl⟩ h).mono ?_
 rintro e w' ⟨rfl, hd⟩
 exact ⟨rfl, hd⟩
end Go.Proofs.YtoanbmggffkmgaaDoor.P
end
section
namespace Go.Proofs.YtoanbmggffkmgaaDoor.La
open Go.RowKit Go.Proofs.YtoanbmggffkmgaaDoor.P Go.Proofs.YtoanbmggffkmgaaDoorW.PrintWords Go.Proofs.YtoanbmggffkmgaaDoorW.PrintLast Go.Proofs.YtoanbmggffkmgaaDoorW.PrintMore
/-- What stands behind a number's e (nothing: it has none); none: it has no number's form. -/
def nexp : List Int → Option (List Int)
 | [] => some []
 | c :: p => if c ≠ 101 ∧ c ≠ 69 then none else if noSign p = [] ∨ digs (noSign p) ≠ (noSign p).length then none else some p
def nfrac (l : List Int) : Option (List Int) :=
 if l.head? = some 46 then (if digs (l.drop 1) = 0 then none else some (l.drop (1 + digs (l.drop 1)))) else some l
def nwhole (l : List Int) : Option (List Int) :=
 if digs l = 0 ∨ (1 < digs l ∧ l.head? = some 48) then none else some (l.drop (digs l))
def nneg (l : List Int) : List Int := if l.head? = some 45 then l.drop 1 else l
def nform (l : List Int) : Option (List Int) := (nwhole (nneg l)).bind fun a => (nfrac a).bind nexp
/-- Is the power not too great? -/
def fits (p : List Int) : Bool := (powV 0 (noSign p)).isSome
def ngood (l : List Int) : Bool := (nform l).elim false fits
theorem head_of (s : ByteArray) (h : 0 < s.size) : (bytesOf s).head? = some (bt s 0) := by
 rw [bt_get]
 have : 0 < (bytesOf s).length := by rw [size_of]; exact h
 cases hl : bytesOf s with
 | nil => rw [hl] at this; simp at this
 | cons a t => rfl
theorem cons_of (s : ByteArray) {c : Int} {p : List Int} (h : bytesOf s = c :: p) : 0 < s.size ∧ bt s 0 = c ∧ bytesOf (s.extract 1 s.size) = p ∧ s.size = p.length + 1 := by
 have hz : s.size = p.length + 1 := by rw [← size_of, h]; rfl
 refine ⟨by omega, by rw [bt_get, h]; rfl, by rw [bytesOf_drop, h]; rfl, hz⟩
theorem cutMinus (s : ByteArray) : strings_CutPrefix.f s (⟨#[45]⟩ : ByteArray) = some (if (bytesOf s).head? = some 45 then (s.extract 1 s.size, true) else (s, false)) := by
 unfold strings_CutPrefix.f stringslite_CutPrefix.f
 have h1 : stringslite_HasPrefix.f s (⟨#[45]⟩ : ByteArray) = some (decide ((bytesOf s).head? = some 45)) := by
  have := hasPrefix_eq s (⟨#[45]⟩ : ByteArray)
  unfold strings_HasPrefix.f at this
  have h2 : stringslite_HasPrefix.f s (⟨#[45]⟩ : ByteArray) = (stringslite_HasPrefix.f s (⟨#[45]⟩ : ByteArray)).bind fun t => some t := by cases stringslite_HasPrefix.f s (⟨#[45]⟩ : ByteArray) <;> rfl
  rw [h2, this]
  congr 1
  rw [decide_eq_decide]
  cases bytesOf s with
  | nil => simp [bytesOf]
  | cons a t => simp [bytesOf, ByteArray.size]
 rw [h1, Option.bind_some]
 by_cases h : (bytesOf s).head? = some 45
 ·have hz : 0 < s.size := by
   rw [← size_of]
   cases hl : bytesOf s with
   | nil => rw [hl] at h; cases h
   | cons a t => simp
  rw [decide_eq_true h, if_pos rfl, if_pos (by show (0 : Int) ≤ 1; omega), if_pos (by show (1 : Int) ≤ _; omega), Option.bind_some, if_pos h]
  rfl
 ·rw [decide_eq_false h, if_neg (by decide), Option.bind_some, if_neg h]
theorem powR_snd (l : List Int) : (powR l).2 = (decide (noSign l ≠ [] ∧ digs (noSign l) = (noSign l).length) && fits l) := by
 unfold powR powT fits
 by_cases h : noSign l = [] ∨ digs (noSign l) ≠ (noSign l).length
 ·rw [if_pos h, decide_eq_false (by rintro ⟨h1, h2⟩; exact h.elim h1 (fun g => g h2))]
  rfl
 ·have h1 : noSign l ≠ [] := fun e => h (.inl e)
  have h2 : digs (noSign l) = (noSign l).length := Classical.byContradiction fun e => h (.inr e)
  rw [if_neg h, decide_eq_true (show noSign l ≠ [] ∧ digs (noSign l) = (noSign l).length from And.intro h1 h2)]
  cases powV 0 (noSign l) <;> rfl
theorem one48 : (⟨#[48]⟩ : ByteArray).size < 4294967281 := by
 have h : (⟨#[48]⟩ : ByteArray).size = 1 := rfl
 rw [h]
 omega
theorem asc48 : ascii (bytesOf (⟨#[48]⟩ : ByteArray)) = true := by decide
theorem bts48 : bytesOf (⟨#[48]⟩ : ByteArray) = [48] := rfl
theorem trimL0 (s : ByteArray) : strings_TrimLeft.f s (⟨#[48]⟩ : ByteArray) = some (strOfNums (trimL [48] (bytesOf s))) := by
 unfold strings_TrimLeft.f
 rw [if_pos (And.intro one48 asc48), bts48]
theorem trimR0 (s : ByteArray) (h : s.size ≤ 140737488355328) : strings_TrimRight.f s (⟨#[48]⟩ : ByteArray) = some (strOfNums (trimR [48] (bytesOf s))) := by
 unfold strings_TrimRight.f
 rw [if_pos (And.intro h (And.intro one48 asc48)), bts48]
theorem trimL_len (cs l : List Int) : (trimL cs l).length ≤ l.length := (List.dropWhile_suffix _).length_le
theorem parse_j3 (x5 : Bool) (x7 x8 : ByteArray) (x9 : Int) (h7 : x7.size ≤ 1000) (h8 : x8.size ≤ 1000) : ∃ r, r.2.2.2 = true ∧ Ev (fun k => dec_parse.j3 k x5 x7 x8 x9) r := by
 have hsz : (strOfNums (trimL [48] (bytesOf (x7 ++ x8)))).size ≤ 140737488355328 := by
  rw [size_strOfNums (trimL_bytes (bytes_of _))]
  have := trimL_len [48] (bytesOf (x7 ++ x8))
  rw [size_of, size_append'] at this
  omega
 by_cases h : (strOfNums (trimL [48] (bytesOf (x7 ++ x8)))).toList = ([] : List UInt8)
 ·refine ⟨_, ?_, Ev.step (fun k => by rw [dec_parse.j3, if_pos (by omega), trimL0, Option.bind_some, if_pos h]) (Ev.now _)⟩
  rfl
 ·refine ⟨_, ?_, Ev.step (fun k => by rw [dec_parse.j3, if_pos (by omega), trimL0, Option.bind_some, if_neg h, trimR0 _ hsz, Option.bind_some]) (Ev.now _)⟩
  rfl
theorem parse_j1 (x4 : ByteArray) (x5 : Bool) (x7 x8 : ByteArray) (h4 : x4.size ≤ 1000) (h7 : x7.size ≤ 1000) (h8 : x8.size ≤ 1000) : ∃ r, r.2.2.2 = (nexp (bytesOf x4)).elim false fits ∧ Ev (fun k => dec_parse.j1 k x4 x5 x7 x8 0) r := by
 cases hl : bytesOf x4 with
 | nil =>
  obtain ⟨r, hr, he⟩ := parse_j3 x5 x7 x8 0 h7 h8
  refine ⟨r, by rw [hr]; rfl, Ev.step (fun k => by rw [dec_parse.j1, if_pos ((toList_nil_iff _).2 hl)]) he⟩
 | cons c p =>
  obtain ⟨hz, hb, hp, hn⟩ := cons_of x4 hl
  have hne : ¬ x4.toList = ([] : List UInt8) := fun e => by rw [toList_nil_iff, hl] at e; cases e
  have hj2 : ∃ r, r.2.2.2 = (nexp (c :: p)).elim false fits ∧ Ev (fun k => dec_parse.j2 k x4 x5 x7 x8 (decide (c ≠ 101 ∧ c ≠ 69))) r := by
   by_cases hc : c ≠ 101 ∧ c ≠ 69
   ·refine ⟨_, ?_, Ev.step (fun k => by rw [dec_parse.j2, if_pos (decide_eq_true hc)]) (Ev.now _)⟩
    simp only [nexp]
    rw [if_pos hc]
    rfl
   ·have hpw : dec_power.f (x4.extract 1 x4.size) = some (powR p) := by
     unfold dec_power.f
     rw [if_pos (by rw [size_drop]; omega), hp]
    have h2 := powR_snd p
    simp only [nexp]
    rw [if_neg hc]
    by_cases hq : noSign p = [] ∨ digs (noSign p) ≠ (noSign p).length
    ·rw [decide_eq_false (by rintro ⟨h1, h2⟩; exact hq.elim h1 (fun g => g h2)), Bool.false_and] at h2
     refine ⟨_, ?_, Ev.step (fun k => by rw [dec_parse.j2, if_neg (by simpa using hc), if_pos (by omega), hpw, Option.bind_some, if_neg (by rw [h2]; decide)]) (Ev.now _)⟩
     rw [if_pos hq]
     rfl
    ·rw [decide_eq_true ⟨fun e => hq (.inl e), Classical.byContradiction fun e => hq (.inr e)⟩, Bool.true_and] at h2
     rw [if_neg hq]
     simp only [Option.elim_some]
     cases hf : fits p with
     | false =>
      rw [hf] at h2
      refine ⟨_, ?_, Ev.step (fun k => by rw [dec_parse.j2, if_neg (by simpa using hc), if_pos (by omega), hpw, Option.bind_some, if_neg (by rw [h2]; decide)]) (Ev.now _)⟩
      rfl
     | true =>
      rw [hf] at h2
      obtain ⟨r, hr, he⟩ := parse_j3 x5 x7 x8 (powR p).1 h7 h8
      exact ⟨r, hr, Ev.step (fun k => by rw [dec_parse.j2, if_neg (by simpa using hc), if_pos (by omega), hpw, Option.bind_some, if_pos h2]) he⟩
  obtain ⟨r, hr, he⟩ := hj2
  refine ⟨r, hr, Ev.step (fun k => by rw [dec_parse.j1, if_neg hne, if_pos (by omega), hb]) ?_⟩
  by_cases h1 : c = 101
  ·rw [decide_eq_false (by simp [h1])] at he
   simp only [if_pos h1]
   exact he
  ·simp only [if_neg h1]
   have : (c != 69) = decide (c ≠ 101 ∧ c ≠ 69) := by rw [Bool.eq_iff_iff]; simp [h1]
   rw [this]
   exact he
theorem hasDot (s : ByteArray) : strings_HasPrefix.f s (⟨#[46]⟩ : ByteArray) = some (decide ((bytesOf s).head? = some 46)) := by
 rw [hasPrefix_eq]
 congr 1
 rw [decide_eq_decide]
 cases bytesOf s with
 | nil => simp [bytesOf]
 | cons a t => simp [bytesOf, ByteArray.size]
theorem extract_mid (s : ByteArray) (n : Nat) (_h : 1 + n ≤ s.size) : (s.extract 1 (1 + n)).size ≤ s.size := by
 rw [← size_of, bytesOf_extract, List.length_drop, List.length_take, size_of]
 omega
theorem parse_j0 (x4 : ByteArray) (x5 : Bool) (h4 : x4.size ≤ 1000) : ∃ r, r.2.2.2 = ((nfrac ((bytesOf x4).drop (digs (bytesOf x4)))).bind nexp).elim false fits ∧ Ev (fun k => dec_parse.j0 k x4 x5 (digs (bytesOf x4) : Int) false) r := by
 have hd := digs_le (bytesOf x4)
 rw [size_of] at hd
 generalize hn : digs (bytesOf x4) = n at hd
 have hx : bytesOf (x4.extract ((n : Int)).toNat x4.size) = (bytesOf x4).drop n := by rw [Int.toNat_natCast, bytesOf_drop]
 have hxz : (x4.extract ((n : Int)).toNat x4.size).size = x4.size - n := by rw [Int.toNat_natCast, size_drop]
 generalize hy : x4.extract ((n : Int)).toNat x4.size = y at hx hxz
 rw [← hx]
 have hsz7 : (x4.extract 0 ((n : Int)).toNat).size ≤ 1000 := by rw [Int.toNat_natCast, size_take _ hd]; omega
 generalize hx7 : x4.extract 0 ((n : Int)).toNat = x7 at hsz7
 unfold nfrac
 by_cases hdot : (bytesOf y).head? = some 46
 ·rw [if_pos hdot]
  have hy0 : 0 < y.size := by
   rw [← size_of]
   cases hl : bytesOf y with
   | nil => rw [hl] at hdot; cases hdot
   | cons a t => simp
  have hdg := digits_ev (y.extract 1 y.size) (by rw [size_drop]; omega)
  rw [bytesOf_drop] at hdg
  have hdl := digs_le ((bytesOf y).drop 1)
  rw [List.length_drop, size_of] at hdl
  generalize digs ((bytesOf y).drop 1) = m at hdg hdl
  by_cases hm : m = 0
  ·rw [if_pos hm]
   refine ⟨(false, ⟨#[]⟩, 0, false), rfl, Ev.step (fun k => by rw [dec_parse.j0, if_neg (by decide), if_pos (by omega), if_pos (by omega), hy, hx7, hasDot, Option.bind_some, if_pos (decide_eq_true hdot), if_pos (by omega)]) ?_⟩
   refine Ev.bind hdg ?_
   simp only [hm, Int.natCast_zero, if_true]
   exact Ev.now _
  ·rw [if_neg hm]
   have hw : wrap64 ((m : Int) + 1) = ((1 + m : Nat) : Int) := by rw [wrap_id (by omega) (by omega)]; omega
   have hz8 : (y.extract 1 (1 + m)).size ≤ 1000 := by have := extract_mid y m (by omega); omega
   have hz4 : (y.extract (1 + m) y.size).size ≤ 1000 := by rw [size_drop]; omega
   obtain ⟨r, hr, he⟩ := parse_j1 (y.extract (1 + m) y.size) x5 x7 (y.extract 1 (1 + m)) hz4 hsz7 hz8
   rw [bytesOf_drop] at hr
   refine ⟨r, hr, Ev.step (fun k => by rw [dec_parse.j0, if_neg (by decide), if_pos (by omega), if_pos (by omega), hy, hx7, hasDot, Option.bind_some, if_pos (decide_eq_true hdot), if_pos (by omega)]) ?_⟩
   refine Ev.bind hdg ?_
   simp only [hw, if_neg (show ¬ ((m : Int) = 0) by omega), if_pos (show (1 : Int) ≤ ((1 + m : Nat) : Int) by omega), if_pos (show ((1 + m : Nat) : Int) ≤ (y.size : Int) by omega), if_pos (show (0 : Int) ≤ ((1 + m : Nat) : Int) by omega), Int.toNat_natCast]
   exact he
 ·rw [if_neg hdot]
  obtain ⟨r, hr, he⟩ := parse_j1 y x5 x7 (⟨#[]⟩) (by omega) hsz7 (by show 0 ≤ 1000; omega)
  exact ⟨r, hr, Ev.step (fun k => by rw [dec_parse.j0, if_neg (by decide), if_pos (by omega), if_pos (by omega), hy, hx7, hasDot, Option.bind_some, if_neg (by rw [decide_eq_false hdot]; decide)]) he⟩
theorem parse_ev (s : ByteArray) (hs : s.size ≤ 400) : ∃ r, r.2.2.2 = ngood (bytesOf s) ∧ Ev (fun k => dec_parse.f k s) r := by
 have key : ∀ (y : ByteArray) (b : Bool), y.size ≤ 1000 → ∃ r, r.2.2.2 = ((nwhole (bytesOf y)).bind fun a => (nfrac a).bind nexp).elim false fits ∧
   Ev (fun k => (dec_digits.f k y).bind fun t187 => (if t187 = 0 then (dec_parse.j0 k y b t187 true) else (if t187 > 1 then (if 0 < (y.size : Int) then (dec_parse.j0 k y b t187 ((bt y 0) == 48)) else (none)) else (dec_parse.j0 k y b t187 false)))) r := by
  intro y b hy
  have hdg := digits_ev y (by omega)
  have hd := digs_le (bytesOf y)
  rw [size_of] at hd
  unfold nwhole
  have bad : ∀ t : Int, Ev (fun k => dec_parse.j0 k y b t true) (false, (⟨#[]⟩ : ByteArray), 0, false) := fun t => Ev.step (fun k => by rw [dec_parse.j0, if_pos rfl]) (Ev.now _)
  by_cases h0 : digs (bytesOf y) = 0
  ·rw [if_pos (.inl h0)]
   refine ⟨(false, ⟨#[]⟩, 0, false), rfl, Ev.bind hdg ?_⟩
   simp only [if_pos (show (digs (bytesOf y) : Int) = 0 by omega)]
   exact bad _
  ·have hz : 0 < y.size := by omega
   have hh := head_of y hz
   by_cases h1 : 1 < digs (bytesOf y)
   ·by_cases h48 : bt y 0 = 48
    ·rw [if_pos (.inr ⟨h1, by rw [hh, h48]⟩)]
     refine ⟨(false, ⟨#[]⟩, 0, false), rfl, Ev.bind hdg ?_⟩
     simp only [if_neg (show ¬ (digs (bytesOf y) : Int) = 0 by omega), if_pos (show (digs (bytesOf y) : Int) > 1 by omega), if_pos (show (0 : Int) < (y.size : Int) by omega), h48, beq_self_eq_true]
     exact bad _
    ·rw [if_neg (by rintro (h | ⟨_, h⟩); exact h0 h; rw [hh] at h; exact h48 (Option.some.inj h)), Option.bind_some]
     obtain ⟨r, hr, he⟩ := parse_j0 y b hy
     refine ⟨r, hr, Ev.bind hdg ?_⟩
     simp only [if_neg (show ¬ (digs (bytesOf y) : Int) = 0 by omega), if_pos (show (digs (bytesOf y) : Int) > 1 by omega), if_pos (show (0 : Int) < (y.size : Int) by omega), beq_eq_false_iff_ne.2 h48]
     exact he
   ·rw [if_neg (by rintro (h | ⟨h, _⟩); exact h0 h; exact h1 h), Option.bind_some]
    obtain ⟨r, hr, he⟩ := parse_j0 y b hy
    refine ⟨r, hr, Ev.bind hdg ?_⟩
    simp only [if_neg (show ¬ (digs (bytesOf y) : Int) = 0 by omega), if_neg (show ¬ (digs (bytesOf y) : Int) > 1 by omega)]
    exact he
 unfold ngood nform nneg
 by_cases h : (bytesOf s).head? = some 45
 ·rw [if_pos h]
  obtain ⟨r, hr, he⟩ := key (s.extract 1 s.size) true (by rw [size_drop]; omega)
  rw [bytesOf_drop] at hr
  exact ⟨r, hr, Ev.congr (fun k => by rw [dec_parse.f, if_neg (by omega), cutMinus, if_pos h, Option.bind_some]) he⟩
 ·rw [if_neg h]
  obtain ⟨r, hr, he⟩ := key s false (by omega)
  exact ⟨r, hr, Ev.congr (fun k => by rw [dec_parse.f, if_neg (by omega), cutMinus, if_neg h, Option.bind_some]) he⟩
theorem good_ev (s : ByteArray) (hs : s.size ≤ 400) : Ev (fun k => dec_Good.f k s) (ngood (bytesOf s)) := by
 obtain ⟨r, hr, he⟩ := parse_ev s hs
 refine Ev.congr (fun k => by rw [dec_Good.f]) (Ev.bind he ?_)
 rw [hr]
 exact Ev.now _
end Go.Proofs.YtoanbmggffkmgaaDoor.La
end
