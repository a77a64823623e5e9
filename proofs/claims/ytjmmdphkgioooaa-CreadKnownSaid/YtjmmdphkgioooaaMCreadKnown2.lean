/- The parts of this claim's proof, in one text: what each Go function answers and that its call comes to it; plain facts of lists of numbers. Conditions as each theorem names them. -/
import Derived.ArgAppend
import Derived.Below
import Derived.BigCall
import Derived.BigQuiet
import Derived.Deep.AppendLies
import Derived.Deep.CutBlock
import Derived.Deep.DeepCutAuto
import Derived.Deep.Draws
import Derived.Deep.LoopGhost
import Derived.Deep.OwnRows
import Derived.Deep.QuietTactic
import Derived.Deep.RegionHeld3
import Derived.Deep.RegionWith
import Derived.Defers
import Derived.KernelRfl
import Derived.Laws.BitsLemmas
import Derived.Laws.BytesArg
import Derived.Laws.IdiomCopy
import Derived.Laws.MakeOwn
import Derived.Laws.OwnMore
import Derived.Laws.RangeAny
import Derived.Laws.Rows
import Derived.Laws.Runes
import Derived.Laws.Slices
import Derived.Lib.AppendStr
import Derived.Lib.Bytealg
import Derived.Lib.Bytes
import Derived.Lib.ConvBytes
import Derived.Lib.Hide
import Derived.Maps.AppendAt
import Derived.OrdersHeld
import Derived.Outline
import Derived.OwnWalk
import Derived.Recover
import Derived.RowKit
import Derived.RowKit3
import Derived.Shelf.LaysM
import Derived.Shelf.Small.Strs
import Derived.Shelf.Small.Utf8
import Derived.Shelf.Strings.AsciiSet
import Derived.Shelf.Strings.Builder1
import Derived.Shelf.Strings.BuilderF
import Derived.Shelf.Strings.BuilderK
import Derived.Shelf.Strings.Count
import Derived.Shelf.Strings.IndexAny
import Derived.Shelf.Strings.IndexAnyAll
import Derived.Shelf.Strings.Prefix
import Derived.Shelf.Strings.Runes
import Derived.Shelf.Strings.Search1
import Derived.Shelf.Strings.Search2
import Derived.Shelf.Strings.Search3
import Derived.Shelf.Strings.Shaped
import Derived.Shelf.Strings.Split
import Derived.Tactics
import Derived.Tactics2
import Derived.WalkKit
import Derived.WalkSmall
import Derived.WideLaws
import Derived.Test.YtjmmdphkgioooaaProg
import Derived.Test.YtjmmdphkgioooaaWApart
import Derived.Test.YtjmmdphkgioooaaWArr
import Derived.Test.YtjmmdphkgioooaaWAt
import Derived.Test.YtjmmdphkgioooaaWEqStruct
import Derived.Test.YtjmmdphkgioooaaWFoot
import Derived.Test.YtjmmdphkgioooaaWFootNe
import Derived.Test.YtjmmdphkgioooaaWFour
import Derived.Test.YtjmmdphkgioooaaWGuard
import Derived.Test.YtjmmdphkgioooaaWInv
import Derived.Test.YtjmmdphkgioooaaWInvWords
import Derived.Test.YtjmmdphkgioooaaWKept
import Derived.Test.YtjmmdphkgioooaaWLast
import Derived.Test.YtjmmdphkgioooaaWMake0
import Derived.Test.YtjmmdphkgioooaaWMore
import Derived.Test.YtjmmdphkgioooaaWN
import Derived.Test.YtjmmdphkgioooaaWNEv
import Derived.Test.YtjmmdphkgioooaaWQPut
import Derived.Test.YtjmmdphkgioooaaWRepsOne
import Derived.Test.YtjmmdphkgioooaaWShare
import Derived.Test.YtjmmdphkgioooaaWTab
import Derived.Test.YtjmmdphkgioooaaWWords
import Derived.Test.YtjmmdphkgioooaaWZeros
import Derived.Test.YtjmmdphkgioooaaMCreadKnown1
section
namespace Go.Proofs.Ytjmmdphkgioooaa.P
open Go.RowKit Go.Proofs.YtjmmdphkgioooaaW.PrintWords Go.Proofs.YtjmmdphkgioooaaW.PrintLast Go.Proofs.YtjmmdphkgioooaaW.PrintMore
attribute [local go_sem] max2_int min2_int max_two min_two max_three min_three max_four min_four   -- for this text's walks alone
set_option linter.unusedVariables false
set_option linter.unusedSimpArgs false
/-! ### cread_Fields: function 15 -/
def cread_Fields.f (k : Nat) (a0 : ByteArray) : Option ((List (List (S47))) × Int × Int × Int × Int) := (jlex_Judge.f k a0).bind fun bt141 => (if bt141.1 = 0 then ((cread_whole.f a0).bind fun bt146 => (some (bt146.1, bt146.2.1, bt146.2.2.1, bt146.2.2.2.1, bt146.2.2.2.2))) else (some (([] : List (List (S47))), bt141.1, bt141.2.1, bt141.2.2.1, bt141.2.2.2)))
set_option maxHeartbeats 8000000 in
set_option maxRecDepth 100000 in
theorem cread_Fields.calls (k : Nat) (a0 : ByteArray) (r1 : List (List (S47))) (r2 : Int) (r3 : Int) (r4 : Int) (r5 : Int) (w : World) (h : cread_Fields.f k a0 = some (r1, r2, r3, r4, r5)) :
  Calls Try.prog 15 #[.string a0] w fun e w' => ∃ v0_ : Value, e = .returned (.tuple #[v0_, .agg #[.int .i64 r2, .int .i64 r3, .int .i64 r4, .int .i64 r5]]) ∧ Kd.S (Kd.slice 47 k47) 45 w' w.heap.size (fun _ => True) v0_ r1 ∧ Below w.heap.size w w' := by
 have hu26 := Try.underlying26
 have HB := Aside0.mk (Below.refl w.heap.size w)
 have H : ((jlex_Judge.f k a0).bind fun bt141 => (if bt141.1 = 0 then ((cread_whole.f a0).bind fun bt146 => (some (bt146.1, bt146.2.1, bt146.2.2.1, bt146.2.2.2.1, bt146.2.2.2.2))) else (some (([] : List (List (S47))), bt141.1, bt141.2.1, bt141.2.2.1, bt141.2.2.2)))) = some (r1, r2, r3, r4, r5) := h
 clear h
 replace H := Option.bind_eq_some_iff.mp H
 obtain ⟨⟨t141, t142, t143, t144⟩, A20, H⟩ := H
 replace H : (if t141 = 0 then ((cread_whole.f a0).bind fun bt146 => (some (bt146.1, bt146.2.1, bt146.2.2.1, bt146.2.2.2.1, bt146.2.2.2.2))) else (some (([] : List (List (S47))), t141, t142, t143, t144))) = some (r1, r2, r3, r4, r5) := H
 have A2 := Aside0.mk A20
 clear A20
 by_cases c3 : t141 = 0
 ·rw [if_pos c3] at H
  have c3b0 : (t141 == 0) = true := beq_iff_eq.mpr c3
  have c3b1 : (t141 != 0) = false := bne_eq_false_iff_eq.mpr c3
  clear c3
  replace H := Option.bind_eq_some_iff.mp H
  obtain ⟨⟨t146, t149, t150, t151, t152⟩, A40, H⟩ := H
  replace H : (some (t146, t149, t150, t151, t152)) = some (r1, r2, r3, r4, r5) := H
  have A4 := Aside0.mk A40
  clear A40
  simp only [Option.some.injEq, Prod.mk.injEq] at H
  obtain ⟨rfl, rfl, rfl, rfl, rfl⟩ := H
  go_enter Try.func15, Try.ntmps15
  go_wp2_with (first | ((with_reducible refine gate_dst (N := 3) rfl ?_); refine box_event ?hg (N := 3) ?hd (cs := #[.int .i64 0, .int .i64 0, .int .i64 0, .int .i64 0]) (t := 26) ?hr ?_; (case hd => rfl); (case hg => rfl); (case hr => first | (go_simp; done) | (go_simp; rfl)); intro gb140 hg w5 hbox hb; have n0_ := Aside0.mk (below_step (by repeat (first | (with_reducible first | exact HB.out | apply below_alloc | apply pw_below_drewN | apply below_drew1) | exact HB.out)) hb); have n1_ := Aside0.mk (hbox); have n2_ := Aside0.mk ((by rw [hg]; exact (below_size (by repeat (first | (with_reducible first | exact HB.out | apply below_alloc | apply pw_below_drewN | apply below_drew1) | exact HB.out))) : w.heap.size ≤ gb140)); have n3_ := Aside0.mk ((by rw [hg]; exact (below_size (by repeat (first | (with_reducible first | exact HB.out | apply below_alloc | apply pw_below_drewN | apply below_drew1) | exact HB.out))) : w.heap.size ≤ gb140)); clear HB; have HB := n0_; have BK140 := n1_; have GW140 := n2_; have GE140 := n3_; clear n0_ n1_ n2_ n3_; clear hb hbox hg) | ((with_reducible refine gate_callee (f := 22) rfl ?_); refine goesL_ (some 6) rfl rfl Try.func22 (by kernel_rfl) rfl #[.string a0] rfl (by (try simp only [List.map_toArray, List.map_cons, List.map_nil]); first | done | rfl | (simp only [List.length_drop, List.length_take]; rfl)) ?_; (with_reducible refine (jlex_Judge.calls k a0 t141 t142 t143 t144 _ A2.out).mono ?_); rintro e w6 ⟨rfl, hb⟩; refine ⟨_, rfl, ?_⟩; have n0_ := Aside0.mk (blk_below (g := gb140) (o := .cells #[.int .i64 0, .int .i64 0, .int .i64 0, .int .i64 0] 26 (0, 0)) (by (with_reducible repeat (first | refine blk_drewN ?_ _ | refine blk_drew ?_ | refine blk_alloc ?_ _)); exact BK140.out) hb); have n1_ := Aside0.mk (below_step (by repeat (first | (with_reducible first | exact HB.out | apply below_alloc | apply pw_below_drewN | apply below_drew1 | refine below_set ?_ GE140.out) | exact HB.out)) hb); clear BK140; clear HB; have BK140 := n0_; have HB := n1_; clear n0_ n1_; (try clear hb); (try clear hb2); (try clear hk); (try clear hi)) | ((with_reducible refine gate_dst (N := 4) rfl ?_); refine box_event ?hg (N := 4) ?hd (cs := #[.int .i64 0, .int .i64 0, .int .i64 0, .int .i64 0]) (t := 26) ?hr ?_; (case hd => rfl); (case hg => rfl); (case hr => first | (go_simp; done) | (go_simp; rfl)); intro gb145 hg w7 hbox hb; have n0_ := Aside0.mk (blk_below (g := gb140) (o := .cells #[.int .i64 0, .int .i64 0, .int .i64 0, .int .i64 0] 26 (0, 0)) (by (with_reducible repeat (first | refine blk_drewN ?_ _ | refine blk_drew ?_ | refine blk_alloc ?_ _)); exact BK140.out) hb); have n1_ := Aside0.mk (below_step (by repeat (first | (with_reducible first | exact HB.out | apply below_alloc | apply pw_below_drewN | apply below_drew1 | refine below_set ?_ GE140.out) | exact HB.out)) hb); have n2_ := Aside0.mk (hbox); have n3_ := Aside0.mk ((by rw [hg]; exact (below_size (by repeat (first | (with_reducible first | exact HB.out | apply below_alloc | apply pw_below_drewN | apply below_drew1 | refine below_set ?_ GE140.out) | exact HB.out))) : w.heap.size ≤ gb145)); have n4_ := Aside0.mk ((by rw [hg]; exact (below_size (by repeat (first | (with_reducible first | exact HB.out | apply below_alloc | apply pw_below_drewN | apply below_drew1 | refine below_set ?_ GE140.out) | exact HB.out))) : w.heap.size ≤ gb145)); have n5_ := Aside0.mk ((by rw [hg]; exact Nat.ne_of_lt (blk_lt (g := gb140) (o := .cells #[.int .i64 0, .int .i64 0, .int .i64 0, .int .i64 0] 26 (0, 0)) (by (with_reducible repeat (first | refine blk_drewN ?_ _ | refine blk_drew ?_ | refine blk_alloc ?_ _)); exact BK140.out)) : gb140 ≠ gb145)); have n6_ := Aside0.mk ((by rw [hg]; exact Nat.ne_of_gt (blk_lt (g := gb140) (o := .cells #[.int .i64 0, .int .i64 0, .int .i64 0, .int .i64 0] 26 (0, 0)) (by (with_reducible repeat (first | refine blk_drewN ?_ _ | refine blk_drew ?_ | refine blk_alloc ?_ _)); exact BK140.out)) : gb145 ≠ gb140)); clear BK140; clear HB; have BK140 := n0_; have HB := n1_; have BK145 := n2_; have GW145 := n3_; have GE145 := n4_; have NB140_145 := n5_; have NB145_140 := n6_; clear n0_ n1_ n2_ n3_ n4_ n5_ n6_; clear hb hbox hg; have hnb8 := NB145_140.out; have hnc8 := NB140_145.out; have hcz9_0 : w7.cell? ⟨gb145, 0, none⟩ = some (.int .i64 0) := (blk_cell BK145.out 0).trans rfl; have hcz9_1 : w7.cell? ⟨gb145, 1, none⟩ = some (.int .i64 0) := (blk_cell BK145.out 1).trans rfl; have hcz9_2 : w7.cell? ⟨gb145, 2, none⟩ = some (.int .i64 0) := (blk_cell BK145.out 2).trans rfl; have hcz9_3 : w7.cell? ⟨gb145, 3, none⟩ = some (.int .i64 0) := (blk_cell BK145.out 3).trans rfl; have hfz9_0 := blk_frozen BK145.out 0; have hfz9_1 := blk_frozen BK145.out 1; have hfz9_2 := blk_frozen BK145.out 2; have hfz9_3 := blk_frozen BK145.out 3) | ((with_reducible refine gate_callee (f := 23) rfl ?_); refine goesL_ (some 12) rfl rfl Try.func23 (by kernel_rfl) rfl #[.string a0] rfl (by (try simp only [List.map_toArray, List.map_cons, List.map_nil]); first | done | rfl | (simp only [List.length_drop, List.length_take]; rfl)) ?_; (with_reducible refine (cread_whole.calls a0 t146 t149 t150 t151 t152 _ A4.out).mono ?_); rintro e w10 ⟨v147, rfl, ho0, hb⟩; refine ⟨_, rfl, ?_⟩; have n0_ := Aside0.mk (Kd.S_lower ho0 (below_size (by repeat (first | (with_reducible first | exact HB.out | apply below_alloc | apply pw_below_drewN | apply below_drew1 | refine below_set ?_ GE140.out | refine below_set ?_ GE145.out) | exact HB.out)))); have n1_ := Aside0.mk (blk_below (g := gb140) (o := .cells #[.int .i64 0, .int .i64 0, .int .i64 0, .int .i64 0] 26 (0, 0)) (by (with_reducible repeat (first | refine blk_drewN ?_ _ | refine blk_drew ?_ | refine blk_alloc ?_ _)); refine blk_far ?_ NB140_145.out _; (with_reducible repeat (first | refine blk_drewN ?_ _ | refine blk_drew ?_ | refine blk_alloc ?_ _)); refine blk_far ?_ NB140_145.out _; (with_reducible repeat (first | refine blk_drewN ?_ _ | refine blk_drew ?_ | refine blk_alloc ?_ _)); refine blk_far ?_ NB140_145.out _; (with_reducible repeat (first | refine blk_drewN ?_ _ | refine blk_drew ?_ | refine blk_alloc ?_ _)); refine blk_far ?_ NB140_145.out _; (with_reducible repeat (first | refine blk_drewN ?_ _ | refine blk_drew ?_ | refine blk_alloc ?_ _)); exact BK140.out) hb); have n2_ := Aside0.mk (blk_below (g := gb145) (o := .cells #[.int .i64 t141, .int .i64 t142, .int .i64 t143, .int .i64 t144] 26 (0, 0)) (by (with_reducible repeat (first | refine blk_drewN ?_ _ | refine blk_drew ?_ | refine blk_alloc ?_ _)); refine blk_put (cs := #[.int .i64 t141, .int .i64 t142, .int .i64 t143, .int .i64 0]) ?_ 3 _ rfl; (with_reducible repeat (first | refine blk_drewN ?_ _ | refine blk_drew ?_ | refine blk_alloc ?_ _)); refine blk_put (cs := #[.int .i64 t141, .int .i64 t142, .int .i64 0, .int .i64 0]) ?_ 2 _ rfl; (with_reducible repeat (first | refine blk_drewN ?_ _ | refine blk_drew ?_ | refine blk_alloc ?_ _)); refine blk_put (cs := #[.int .i64 t141, .int .i64 0, .int .i64 0, .int .i64 0]) ?_ 1 _ rfl; (with_reducible repeat (first | refine blk_drewN ?_ _ | refine blk_drew ?_ | refine blk_alloc ?_ _)); refine blk_put (cs := #[.int .i64 0, .int .i64 0, .int .i64 0, .int .i64 0]) ?_ 0 _ rfl; (with_reducible repeat (first | refine blk_drewN ?_ _ | refine blk_drew ?_ | refine blk_alloc ?_ _)); exact BK145.out) hb); have n3_ := Aside0.mk (below_step (by repeat (first | (with_reducible first | exact HB.out | apply below_alloc | apply pw_below_drewN | apply below_drew1 | refine below_set ?_ GE140.out | refine below_set ?_ GE145.out) | exact HB.out)) hb); clear BK140; clear BK145; clear HB; have HO148 := n0_; have BK140 := n1_; have BK145 := n2_; have HB := n3_; clear n0_ n1_ n2_ n3_; (try clear hb); (try clear hb2); (try clear hk); (try clear hi); (try clear ho0); have hcz11_0 : w10.cell? ⟨gb140, 0, none⟩ = some (.int .i64 0) := (blk_cell BK140.out 0).trans rfl; have hcz11_1 : w10.cell? ⟨gb140, 1, none⟩ = some (.int .i64 0) := (blk_cell BK140.out 1).trans rfl; have hcz11_2 : w10.cell? ⟨gb140, 2, none⟩ = some (.int .i64 0) := (blk_cell BK140.out 2).trans rfl; have hcz11_3 : w10.cell? ⟨gb140, 3, none⟩ = some (.int .i64 0) := (blk_cell BK140.out 3).trans rfl; have hfz11_0 := blk_frozen BK140.out 0; have hfz11_1 := blk_frozen BK140.out 1; have hfz11_2 := blk_frozen BK140.out 2; have hfz11_3 := blk_frozen BK140.out 3))
  refine bodyPost_ret (results_tc rfl _ _ gb140 26 #[.int .i64 t149, .int .i64 t150, .int .i64 t151, .int .i64 t152] (0, 0) _ rfl (by (with_reducible repeat (first | refine blk_drewN ?_ _ | refine blk_drew ?_ | refine blk_alloc ?_ _)); refine blk_put (cs := #[.int .i64 t149, .int .i64 t150, .int .i64 t151, .int .i64 0]) ?_ 3 _ rfl; (with_reducible repeat (first | refine blk_drewN ?_ _ | refine blk_drew ?_ | refine blk_alloc ?_ _)); refine blk_put (cs := #[.int .i64 t149, .int .i64 t150, .int .i64 0, .int .i64 0]) ?_ 2 _ rfl; (with_reducible repeat (first | refine blk_drewN ?_ _ | refine blk_drew ?_ | refine blk_alloc ?_ _)); refine blk_put (cs := #[.int .i64 t149, .int .i64 0, .int .i64 0, .int .i64 0]) ?_ 1 _ rfl; (with_reducible repeat (first | refine blk_drewN ?_ _ | refine blk_drew ?_ | refine blk_alloc ?_ _)); refine blk_put (cs := #[.int .i64 0, .int .i64 0, .int .i64 0, .int .i64 0]) ?_ 0 _ rfl; (with_reducible repeat (first | refine blk_drewN ?_ _ | refine blk_drew ?_ | refine blk_alloc ?_ _)); exact BK140.out) Try.underlying26 rfl (by kernel_rfl)) rfl ?_
  exact ⟨_, by first | rfl | (simp [errW_none, errW_some] <;> rfl) | (simp [*, errW_none, errW_some, bne]; done) | (simp [*, errW_none, errW_some] <;> rfl), by (with_reducible repeat (first | apply Kd.S_alloc | apply Kd.S_drewN | apply Kd.S_drew)); exact Kd.S_mono (Kd.S_far (p := ⟨gb140, 3, none⟩) (Kd.S_far (p := ⟨gb140, 2, none⟩) (Kd.S_far (p := ⟨gb140, 1, none⟩) (Kd.S_far (p := ⟨gb140, 0, none⟩) (Kd.S_types HO148.out BK140.out (by decide)) (fun _ hk => hk.2) (.int .i64 t149)) (fun _ hk => hk.2) (.int .i64 t150)) (fun _ hk => hk.2) (.int .i64 t151)) (fun _ hk => hk.2) (.int .i64 t152)) (fun _ hk => trivial), by repeat (first | (with_reducible first | exact HB.out | apply below_alloc | apply pw_below_drewN | apply below_drew1 | refine below_set ?_ GE140.out | refine below_set ?_ GE145.out) | exact HB.out)⟩
 ·rw [if_neg c3] at H
  have c3b0 : (t141 == 0) = false := beq_eq_false_iff_ne.mpr c3
  have c3b1 : (t141 != 0) = true := bne_iff_ne.mpr c3
  simp only [Option.some.injEq, Prod.mk.injEq] at H
  obtain ⟨rfl, rfl, rfl, rfl, rfl⟩ := H
  go_enter Try.func15, Try.ntmps15
  try go_wp2_with (first | ((with_reducible refine gate_dst (N := 3) rfl ?_); refine box_event ?hg (N := 3) ?hd (cs := #[.int .i64 0, .int .i64 0, .int .i64 0, .int .i64 0]) (t := 26) ?hr ?_; (case hd => rfl); (case hg => rfl); (case hr => first | (go_simp; done) | (go_simp; rfl)); intro gb140 hg w12 hbox hb; have n0_ := Aside0.mk (below_step (by repeat (first | (with_reducible first | exact HB.out | apply below_alloc | apply pw_below_drewN | apply below_drew1) | exact HB.out)) hb); have n1_ := Aside0.mk (hbox); have n2_ := Aside0.mk ((by rw [hg]; exact (below_size (by repeat (first | (with_reducible first | exact HB.out | apply below_alloc | apply pw_below_drewN | apply below_drew1) | exact HB.out))) : w.heap.size ≤ gb140)); have n3_ := Aside0.mk ((by rw [hg]; exact (below_size (by repeat (first | (with_reducible first | exact HB.out | apply below_alloc | apply pw_below_drewN | apply below_drew1) | exact HB.out))) : w.heap.size ≤ gb140)); clear HB; have HB := n0_; have BK140 := n1_; have GW140 := n2_; have GE140 := n3_; clear n0_ n1_ n2_ n3_; clear hb hbox hg) | ((with_reducible refine gate_callee (f := 22) rfl ?_); refine goesL_ (some 6) rfl rfl Try.func22 (by kernel_rfl) rfl #[.string a0] rfl (by (try simp only [List.map_toArray, List.map_cons, List.map_nil]); first | done | rfl | (simp only [List.length_drop, List.length_take]; rfl)) ?_; (with_reducible refine (jlex_Judge.calls k a0 t141 t142 t143 t144 _ A2.out).mono ?_); rintro e w13 ⟨rfl, hb⟩; refine ⟨_, rfl, ?_⟩; have n0_ := Aside0.mk (blk_below (g := gb140) (o := .cells #[.int .i64 0, .int .i64 0, .int .i64 0, .int .i64 0] 26 (0, 0)) (by (with_reducible repeat (first | refine blk_drewN ?_ _ | refine blk_drew ?_ | refine blk_alloc ?_ _)); exact BK140.out) hb); have n1_ := Aside0.mk (below_step (by repeat (first | (with_reducible first | exact HB.out | apply below_alloc | apply pw_below_drewN | apply below_drew1 | refine below_set ?_ GE140.out) | exact HB.out)) hb); clear BK140; clear HB; have BK140 := n0_; have HB := n1_; clear n0_ n1_; (try clear hb); (try clear hb2); (try clear hk); (try clear hi)) | ((with_reducible refine gate_dst (N := 4) rfl ?_); refine box_event ?hg (N := 4) ?hd (cs := #[.int .i64 0, .int .i64 0, .int .i64 0, .int .i64 0]) (t := 26) ?hr ?_; (case hd => rfl); (case hg => rfl); (case hr => first | (go_simp; done) | (go_simp; rfl)); intro gb145 hg w14 hbox hb; have n0_ := Aside0.mk (blk_below (g := gb140) (o := .cells #[.int .i64 0, .int .i64 0, .int .i64 0, .int .i64 0] 26 (0, 0)) (by (with_reducible repeat (first | refine blk_drewN ?_ _ | refine blk_drew ?_ | refine blk_alloc ?_ _)); exact BK140.out) hb); have n1_ := Aside0.mk (below_step (by repeat (first | (with_reducible first | exact HB.out | apply below_alloc | apply pw_below_drewN | apply below_drew1 | refine below_set ?_ GE140.out) | exact HB.out)) hb); have n2_ := Aside0.mk (hbox); have n3_ := Aside0.mk ((by rw [hg]; exact (below_size (by repeat (first | (with_reducible first | exact HB.out | apply below_alloc | apply pw_below_drewN | apply below_drew1 | refine below_set ?_ GE140.out) | exact HB.out))) : w.heap.size ≤ gb145)); have n4_ := Aside0.mk ((by rw [hg]; exact (below_size (by repeat (first | (with_reducible first | exact HB.out | apply below_alloc | apply pw_below_drewN | apply below_drew1 | refine below_set ?_ GE140.out) | exact HB.out))) : w.heap.size ≤ gb145)); have n5_ := Aside0.mk ((by rw [hg]; exact Nat.ne_of_lt (blk_lt (g := gb140) (o := .cells #[.int .i64 0, .int .i64 0, .int .i64 0, .int .i64 0] 26 (0, 0)) (by (with_reducible repeat (first | refine blk_drewN ?_ _ | refine blk_drew ?_ | refine blk_alloc ?_ _)); exact BK140.out)) : gb140 ≠ gb145)); have n6_ := Aside0.mk ((by rw [hg]; exact Nat.ne_of_gt (blk_lt (g := gb140) (o := .cells #[.int .i64 0, .int .i64 0, .int .i64 0, .int .i64 0] 26 (0, 0)) (by (with_reducible repeat (first | refine blk_drewN ?_ _ | refine blk_drew ?_ | refine blk_alloc ?_ _)); exact BK140.out)) : gb145 ≠ gb140)); clear BK140; clear HB; have BK140 := n0_; have HB := n1_; have BK145 := n2_; have GW145 := n3_; have GE145 := n4_; have NB140_145 := n5_; have NB145_140 := n6_; clear n0_ n1_ n2_ n3_ n4_ n5_ n6_; clear hb hbox hg; have hnb15 := NB145_140.out; have hnc15 := NB140_145.out; have hcz16_0 : w14.cell? ⟨gb145, 0, none⟩ = some (.int .i64 0) := (blk_cell BK145.out 0).trans rfl; have hcz16_1 : w14.cell? ⟨gb145, 1, none⟩ = some (.int .i64 0) := (blk_cell BK145.out 1).trans rfl; have hcz16_2 : w14.cell? ⟨gb145, 2, none⟩ = some (.int .i64 0) := (blk_cell BK145.out 2).trans rfl; have hcz16_3 : w14.cell? ⟨gb145, 3, none⟩ = some (.int .i64 0) := (blk_cell BK145.out 3).trans rfl; have hfz16_0 := blk_frozen BK145.out 0; have hfz16_1 := blk_frozen BK145.out 1; have hfz16_2 := blk_frozen BK145.out 2; have hfz16_3 := blk_frozen BK145.out 3))
  have n0_ : Aside0 (((((w14.setCell ⟨gb145, 0, none⟩ (.int .i64 t141)).setCell ⟨gb145, 1, none⟩ (.int .i64 t142)).setCell ⟨gb145, 2, none⟩ (.int .i64 t143)).setCell ⟨gb145, 3, none⟩ (.int .i64 t144)).heap[gb140]? = some (.cells #[.int .i64 0, .int .i64 0, .int .i64 0, .int .i64 0] 26 (0, 0))) := ⟨by (with_reducible repeat (first | refine blk_drewN ?_ _ | refine blk_drew ?_ | refine blk_alloc ?_ _)); refine blk_far ?_ NB140_145.out _; (with_reducible repeat (first | refine blk_drewN ?_ _ | refine blk_drew ?_ | refine blk_alloc ?_ _)); refine blk_far ?_ NB140_145.out _; (with_reducible repeat (first | refine blk_drewN ?_ _ | refine blk_drew ?_ | refine blk_alloc ?_ _)); refine blk_far ?_ NB140_145.out _; (with_reducible repeat (first | refine blk_drewN ?_ _ | refine blk_drew ?_ | refine blk_alloc ?_ _)); refine blk_far ?_ NB140_145.out _; (with_reducible repeat (first | refine blk_drewN ?_ _ | refine blk_drew ?_ | refine blk_alloc ?_ _)); exact BK140.out⟩
  have n1_ : Aside0 (((((w14.setCell ⟨gb145, 0, none⟩ (.int .i64 t141)).setCell ⟨gb145, 1, none⟩ (.int .i64 t142)).setCell ⟨gb145, 2, none⟩ (.int .i64 t143)).setCell ⟨gb145, 3, none⟩ (.int .i64 t144)).heap[gb145]? = some (.cells #[.int .i64 t141, .int .i64 t142, .int .i64 t143, .int .i64 t144] 26 (0, 0))) := ⟨by (with_reducible repeat (first | refine blk_drewN ?_ _ | refine blk_drew ?_ | refine blk_alloc ?_ _)); refine blk_put (cs := #[.int .i64 t141, .int .i64 t142, .int .i64 t143, .int .i64 0]) ?_ 3 _ rfl; (with_reducible repeat (first | refine blk_drewN ?_ _ | refine blk_drew ?_ | refine blk_alloc ?_ _)); refine blk_put (cs := #[.int .i64 t141, .int .i64 t142, .int .i64 0, .int .i64 0]) ?_ 2 _ rfl; (with_reducible repeat (first | refine blk_drewN ?_ _ | refine blk_drew ?_ | refine blk_alloc ?_ _)); refine blk_put (cs := #[.int .i64 t141, .int .i64 0, .int .i64 0, .int .i64 0]) ?_ 1 _ rfl; (with_reducible repeat (first | refine blk_drewN ?_ _ | refine blk_drew ?_ | refine blk_alloc ?_ _)); refine blk_put (cs := #[.int .i64 0, .int .i64 0, .int .i64 0, .int .i64 0]) ?_ 0 _ rfl; (with_reducible repeat (first | refine blk_drewN ?_ _ | refine blk_drew ?_ | refine blk_alloc ?_ _)); exact BK145.out⟩
  have n2_ : Aside0 (Below w.heap.size w ((((w14.setCell ⟨gb145, 0, none⟩ (.int .i64 t141)).setCell ⟨gb145, 1, none⟩ (.int .i64 t142)).setCell ⟨gb145, 2, none⟩ (.int .i64 t143)).setCell ⟨gb145, 3, none⟩ (.int .i64 t144))) := ⟨by repeat (first | (with_reducible first | exact HB.out | apply below_alloc | apply pw_below_drewN | apply below_drew1 | refine below_set ?_ GE140.out | refine below_set ?_ GE145.out) | exact HB.out)⟩
  (try clear BK140)
  (try clear BK145)
  (try clear HB)
  generalize ((((w14.setCell ⟨gb145, 0, none⟩ (.int .i64 t141)).setCell ⟨gb145, 1, none⟩ (.int .i64 t142)).setCell ⟨gb145, 2, none⟩ (.int .i64 t143)).setCell ⟨gb145, 3, none⟩ (.int .i64 t144)) = w17 at n0_ n1_ n2_ ⊢
  have BK140 := n0_
  have BK145 := n1_
  have HB := n2_
  clear n0_ n1_ n2_
  have n0_ := Aside0.mk (blk_drew BK140.out)
  have n1_ := Aside0.mk (blk_drew BK145.out)
  have n2_ := Aside0.mk (below_drew1 HB.out)
  clear BK140
  clear BK145
  clear HB
  have BK140 := n0_
  have BK145 := n1_
  have HB := n2_
  clear n0_ n1_ n2_
  refine start_ (n := 3) (S := fun w' => w'.cell? ⟨gb145, 0, none⟩ = some (.int .i64 t141) ∧ w'.cell? ⟨gb145, 1, none⟩ = some (.int .i64 t142) ∧ w'.cell? ⟨gb145, 2, none⟩ = some (.int .i64 t143) ∧ w'.cell? ⟨gb145, 3, none⟩ = some (.int .i64 t144)) (ds := []) #[false, false, false] (by kernel_rfl) rfl rfl ⟨(blk_cell BK145.out 0).trans rfl, (blk_cell BK145.out 1).trans rfl, (blk_cell BK145.out 2).trans rfl, (blk_cell BK145.out 3).trans rfl⟩ (fun hHeld => ?_)
  generalize w17.drew = w18 at BK140 BK145 HB hHeld ⊢
  refine pure_ (i := 1) (N := some 2) (v := ?_) (a' := ?_) #[false, true, false] rfl rfl (by kernel_rfl) (fun _ _ _ h => h) (Or.inl ⟨by rfl, ?_⟩) ?_ ?_
  rotate_left
  ·intro w'
   go_simp
   with_reducible rfl
  rotate_left
  ·simp only [Act.put, List.setIfInBounds_toArray, List.set_cons_zero, List.set_cons_succ, i64_w, i32_w]
   rfl
  refine take_ (i := 0) (N := some 10) (v := ?_) (a' := ?_) #[true, true, false] rfl rfl (by kernel_rfl) (fun _ _ _ h => h) (Or.inl ⟨by rfl, ?_⟩) hHeld ?_ ?_
  rotate_left
  ·rintro w' ⟨s0, s1, s2, s3⟩
   go_simp
   with_reducible rfl
  rotate_left
  ·simp only [Act.put, List.setIfInBounds_toArray, List.set_cons_zero, List.set_cons_succ, i64_w, i32_w]
   rfl
  refine one_ (i := 2) (N := none) #[true, true, true] rfl rfl (by kernel_rfl) (by decide) (fun K hK => ?_)
  have hs19 : w18.cell? ⟨gb140, 0, none⟩ = some (.int .i64 0) := (blk_cell BK140.out 0).trans rfl
  have hfs19 := blk_frozen BK140.out 0
  have hns19_1 := NB145_140.out
  have hms19_1 := NB140_145.out
  have hs20 : w18.cell? ⟨gb140, 1, none⟩ = some (.int .i64 0) := (blk_cell BK140.out 1).trans rfl
  have hfs20 := blk_frozen BK140.out 1
  have hns20_1 := NB145_140.out
  have hms20_1 := NB140_145.out
  have hs21 : w18.cell? ⟨gb140, 2, none⟩ = some (.int .i64 0) := (blk_cell BK140.out 2).trans rfl
  have hfs21 := blk_frozen BK140.out 2
  have hns21_1 := NB145_140.out
  have hms21_1 := NB140_145.out
  have hs22 : w18.cell? ⟨gb140, 3, none⟩ = some (.int .i64 0) := (blk_cell BK140.out 3).trans rfl
  have hfs22 := blk_frozen BK140.out 3
  have hns22_1 := NB145_140.out
  have hms22_1 := NB140_145.out
  refine skip_ (w1 := ?_) (by rfl) rfl ?_ ?_
  rotate_left
  ·go_simp
   rfl
  refine hK.out _ _ ⟨((cell_far (p := ⟨gb140, _, none⟩) NB145_140.out _).trans (((cell_far (p := ⟨gb140, _, none⟩) NB145_140.out _).trans (((cell_far (p := ⟨gb140, _, none⟩) NB145_140.out _).trans (((cell_far (p := ⟨gb140, _, none⟩) NB145_140.out _).trans (hHeld.1)))))))), ((cell_far (p := ⟨gb140, _, none⟩) NB145_140.out _).trans (((cell_far (p := ⟨gb140, _, none⟩) NB145_140.out _).trans (((cell_far (p := ⟨gb140, _, none⟩) NB145_140.out _).trans (((cell_far (p := ⟨gb140, _, none⟩) NB145_140.out _).trans (hHeld.2.1)))))))), ((cell_far (p := ⟨gb140, _, none⟩) NB145_140.out _).trans (((cell_far (p := ⟨gb140, _, none⟩) NB145_140.out _).trans (((cell_far (p := ⟨gb140, _, none⟩) NB145_140.out _).trans (((cell_far (p := ⟨gb140, _, none⟩) NB145_140.out _).trans (hHeld.2.2.1)))))))), ((cell_far (p := ⟨gb140, _, none⟩) NB145_140.out _).trans (((cell_far (p := ⟨gb140, _, none⟩) NB145_140.out _).trans (((cell_far (p := ⟨gb140, _, none⟩) NB145_140.out _).trans (((cell_far (p := ⟨gb140, _, none⟩) NB145_140.out _).trans (hHeld.2.2.2))))))))⟩ (fun hHeld => ?_)
  clear hK K
  refine done_ (by kernel_rfl) ?_
  try go_wp2
  refine bodyPost_ret (results_tc rfl _ _ gb140 26 #[.int .i64 t141, .int .i64 t142, .int .i64 t143, .int .i64 t144] (0, 0) _ rfl (by (with_reducible repeat (first | refine blk_drewN ?_ _ | refine blk_drew ?_ | refine blk_alloc ?_ _)); refine blk_put (cs := #[.int .i64 t141, .int .i64 t142, .int .i64 t143, .int .i64 0]) ?_ 3 _ rfl; (with_reducible repeat (first | refine blk_drewN ?_ _ | refine blk_drew ?_ | refine blk_alloc ?_ _)); refine blk_put (cs := #[.int .i64 t141, .int .i64 t142, .int .i64 0, .int .i64 0]) ?_ 2 _ rfl; (with_reducible repeat (first | refine blk_drewN ?_ _ | refine blk_drew ?_ | refine blk_alloc ?_ _)); refine blk_put (cs := #[.int .i64 t141, .int .i64 0, .int .i64 0, .int .i64 0]) ?_ 1 _ rfl; (with_reducible repeat (first | refine blk_drewN ?_ _ | refine blk_drew ?_ | refine blk_alloc ?_ _)); refine blk_put (cs := #[.int .i64 0, .int .i64 0, .int .i64 0, .int .i64 0]) ?_ 0 _ rfl; (with_reducible repeat (first | refine blk_drewN ?_ _ | refine blk_drew ?_ | refine blk_alloc ?_ _)); exact BK140.out) Try.underlying26 rfl (by kernel_rfl)) rfl ?_
  exact ⟨_, by first | rfl | (simp [errW_none, errW_some] <;> rfl) | (simp [*, errW_none, errW_some, bne]; done) | (simp [*, errW_none, errW_some] <;> rfl), by first | exact Kd.S_nil _ _ _ _ _ | exact Kd.N_nil _ _ _ _ _ | exact Kd.V_nil _ _ _ _ _ | exact Kd.Q_nil _ _ _ _ _ | exact Kd.R_nil _ _ _ _ _, by repeat (first | (with_reducible first | exact HB.out | apply below_alloc | apply pw_below_drewN | apply below_drew1 | refine below_set ?_ GE140.out | refine below_set ?_ GE145.out) | exact HB.out)⟩
end Go.Proofs.Ytjmmdphkgioooaa.P
end
section
namespace Go.Proofs.Ytjmmdphkgioooaa.La
open Go.RowKit Go.Proofs.Ytjmmdphkgioooaa.P Go.Proofs.YtjmmdphkgioooaaW.PrintWords Go.Proofs.YtjmmdphkgioooaaW.PrintLast Go.Proofs.YtjmmdphkgioooaaW.PrintMore
def judgeR (s : ByteArray) : Int × Int × Int × Int :=
 if 65536 < s.size then faultR s s.size 2 else match bad (bytesOf s) with
  | none => (0, 0, 0, 0)
  | some p => faultR s p 3
theorem judge_ev (s : ByteArray) (hs : s.size ≤ 8796093022208) : Ev (fun k => jlex_Judge.f k s) (judgeR s) := by
 unfold judgeR
 by_cases hz : 65536 < s.size
 ·rw [if_pos hz]
  refine Ev.congr (fun k => by rw [jlex_Judge.f, if_pos (by omega)]) (Ev.bind (fault_ev s hs s.size 2) (Ev.now _))
 ·rw [if_neg hz]
  refine Ev.congr (fun k => by rw [jlex_Judge.f, if_neg (by omega)]) (Ev.bind (valid_ev s (by omega)) ?_)
  cases hb : bad (bytesOf s) with
  | none =>
   simp only [badR, if_true]
   exact Ev.now _
  | some p =>
   simp only [badR, Bool.false_eq_true, if_false, Nat.zero_add]
   exact Ev.bind (fault_ev s (by omega) (p : Int) 3) (Ev.now _)
def fieldsR (s : ByteArray) : List (List S47) × Int × Int × Int × Int :=
 if 65536 < s.size then ([], faultR s s.size 2) else match bad (bytesOf s) with
  | some p => ([], faultR s p 3)
  | none => wholeR s (wholeS 513 [] (bytesOf s) 0)
theorem fields_ev (s : ByteArray) (hs : s.size ≤ 8796093022208) : Ev (fun k => cread_Fields.f k s) (fieldsR s) := by
 refine Ev.congr (fun k => by rw [cread_Fields.f]) (Ev.bind (judge_ev s hs) ?_)
 unfold judgeR fieldsR
 by_cases hz : 65536 < s.size
 ·rw [if_pos hz, if_pos hz]
  exact Ev.congr (fun k => if_neg (show ¬ (2 : Int) = 0 by decide)) (Ev.now _)
 ·rw [if_neg hz, if_neg hz]
  cases hb : bad (bytesOf s) with
  | none =>
   simp only [if_true]
   unfold cread_whole.f
   rw [if_pos (by omega)]
   exact Ev.now _
  | some p =>
   exact Ev.congr (fun k => if_neg (show ¬ (3 : Int) = 0 by decide)) (Ev.now _)
theorem rowS_bound : ∀ (k : Nat) (acc : List S47) (l : List Int) (i : Nat) (r : List S47) (l2 : List Int) (j : Nat), rowS k acc l i = .inr (r, l2, j) → r.length ≤ acc.length + k
 | 0, _, _, _, _, _, _, h => by cases h
 | k + 1, acc, l, i, r, l2, j, h => by
  rw [rowS] at h
  cases hf : fieldS l i with
  | inl e => rw [hf] at h; cases h
  | inr p =>
   rw [hf] at h
   simp only at h
   split at h
   ·have := rowS_bound k _ _ _ _ _ _ h
    rw [List.length_append, List.length_singleton] at this
    omega
   ·have h6 := (Prod.mk.inj (Sum.inr.inj h)).1
    rw [← h6, List.length_append, List.length_singleton]
    omega
theorem wholeS_bound : ∀ (n : Nat) (rows : List (List S47)) (l : List Int) (i : Nat) (r : List (List S47)), wholeS n rows l i = .inr r → r.length ≤ rows.length + n ∧ ∀ R ∈ r, R ∈ rows ∨ R.length ≤ 64
 | 0, rows, l, i, r, h => by
  rw [wholeS] at h
  split at h
  ·obtain rfl := Sum.inr.inj h
   exact ⟨by omega, fun R hR => .inl hR⟩
  ·cases h
 | n + 1, rows, l, i, r, h => by
  rw [wholeS] at h
  split at h
  ·obtain rfl := Sum.inr.inj h
   exact ⟨by omega, fun R hR => .inl hR⟩
  ·cases hr : rowS 64 [] l i with
   | inl e => rw [hr] at h; cases h
   | inr x =>
    obtain ⟨a, l2, j⟩ := x
    rw [hr] at h
    simp only at h
    split at h
    ·cases h
    ·obtain ⟨h1, h2⟩ := wholeS_bound n _ _ _ _ h
     have h3 := rowS_bound 64 [] l i a l2 j hr
     rw [List.length_append, List.length_singleton] at h1
     refine ⟨by omega, fun R hR => ?_⟩
     rcases h2 R hR with h4 | h4
     ·rcases List.mem_append.1 h4 with h5 | h5
      ·exact .inl h5
      ·rw [List.mem_singleton.1 h5]
       exact .inr (by simpa using h3)
     ·exact .inr h4
theorem fieldsR_bound (s : ByteArray) : (fieldsR s).1.length ≤ 513 ∧ ∀ R ∈ (fieldsR s).1, R.length ≤ 64 := by
 unfold fieldsR
 split
 ·exact ⟨by simp, fun R hR => by cases hR⟩
 ·split
  ·exact ⟨by simp, fun R hR => by cases hR⟩
  ·cases hw : wholeS 513 [] (bytesOf s) 0 with
   | inl e => exact ⟨by simp [wholeR], fun R hR => by cases hR⟩
   | inr r =>
    obtain ⟨h1, h2⟩ := wholeS_bound 513 [] _ _ _ hw
    refine ⟨by simpa [wholeR] using h1, fun R hR => ?_⟩
    rcases h2 R hR with h | h
    ·cases h
    ·exact h
/-- What cread.Rows answers. -/
def readR (s : ByteArray) : List (List ByteArray) × Int × Int × Int × Int := ((fieldsR s).1.map (·.map S47.f0), (fieldsR s).2)
end Go.Proofs.Ytjmmdphkgioooaa.La
end
section
namespace Go.Proofs.Ytjmmdphkgioooaa.P
open Go.RowKit Go.Proofs.YtjmmdphkgioooaaW.PrintWords Go.Proofs.YtjmmdphkgioooaaW.PrintLast Go.Proofs.YtjmmdphkgioooaaW.PrintMore
attribute [local go_sem] max2_int min2_int max_two min_two max_three min_three max_four min_four   -- for this text's walks alone
set_option linter.unusedVariables false
set_option linter.unusedSimpArgs false
theorem eqA26 (d : Nat) (w : World) (x0 y0 : Int) (x1 y1 : Int) (x2 y2 : Int) (x3 y3 : Int) :
  (Op.equalIn (d + 2) 26 (.agg #[.int .i64 x0, .int .i64 x1, .int .i64 x2, .int .i64 x3]) (.agg #[.int .i64 y0, .int .i64 y1, .int .i64 y2, .int .i64 y3])).run Try.prog w = .ok (x0 == y0 && (x1 == y1 && (x2 == y2 && (x3 == y3)))) w := by
 refine eqA_of Try.underlying26 (by kernel_rfl) ?_
 refine eqf_cons (by rfl) (by go_simp; rfl) (by go_simp; rfl) (by go_simp) ?_
 refine eqf_cons (by rfl) (by go_simp; rfl) (by go_simp; rfl) (by go_simp) ?_
 refine eqf_cons (by rfl) (by go_simp; rfl) (by go_simp; rfl) (by go_simp) ?_
 exact eqf_last (by rfl) (by go_simp; rfl) (by go_simp; rfl) (by go_simp)
end Go.Proofs.Ytjmmdphkgioooaa.P
end
section
namespace Go.Proofs.Ytjmmdphkgioooaa.P
open Go.RowKit Go.Proofs.YtjmmdphkgioooaaW.PrintWords Go.Proofs.YtjmmdphkgioooaaW.PrintLast Go.Proofs.YtjmmdphkgioooaaW.PrintMore
attribute [local go_sem] max2_int min2_int max_two min_two max_three min_three max_four min_four   -- for this text's walks alone
set_option linter.unusedVariables false
set_option linter.unusedSimpArgs false
/-! ### cread_Valid: function 12 -/
def cread_Valid.f (k : Nat) (a0 : ByteArray) : Option (Bool) := (cread_Fields.f k a0).bind fun bt153 => (some (bt153.2.1 == 0))
set_option maxHeartbeats 8000000 in
set_option maxRecDepth 100000 in
theorem cread_Valid.calls (k : Nat) (a0 : ByteArray) (r : Bool) (w : World) (h : cread_Valid.f k a0 = some r) :
  Calls Try.prog 12 #[.string a0] w fun e w' => e = .returned (.bool r) ∧ Below w.heap.size w w' := by
 have hu26 := Try.underlying26
 have HB := Aside0.mk (Below.refl w.heap.size w)
 have H : ((cread_Fields.f k a0).bind fun bt153 => (some (bt153.2.1 == 0))) = some r := h
 clear h
 replace H := Option.bind_eq_some_iff.mp H
 obtain ⟨⟨t153, t156, t157, t158, t159⟩, A20, H⟩ := H
 replace H : (some (t156 == 0)) = some r := H
 have A2 := Aside0.mk A20
 clear A20
 obtain rfl := Option.some.inj H
 go_enter Try.func12, Try.ntmps12
 go_wp2_with (first | ((with_reducible refine gate_callee (f := 15) rfl ?_); refine goesL_ (some 7) rfl rfl Try.func15 (by kernel_rfl) rfl #[.string a0] rfl (by (try simp only [List.map_toArray, List.map_cons, List.map_nil]); first | done | rfl | (simp only [List.length_drop, List.length_take]; rfl)) ?_; (with_reducible refine (cread_Fields.calls k a0 t153 t156 t157 t158 t159 _ A2.out).mono ?_); rintro e w3 ⟨v154, rfl, ho0, hb⟩; refine ⟨_, rfl, ?_⟩; have n0_ := Aside0.mk (Kd.S_lower ho0 (below_size (by repeat (first | (with_reducible first | exact HB.out | apply below_alloc | apply pw_below_drewN | apply below_drew1) | exact HB.out)))); have n1_ := Aside0.mk (below_step (by repeat (first | (with_reducible first | exact HB.out | apply below_alloc | apply pw_below_drewN | apply below_drew1) | exact HB.out)) hb); clear HB; have HO155 := n0_; have HB := n1_; clear n0_ n1_; (try clear hb); (try clear hb2); (try clear hk); (try clear hi); (try clear ho0)) | ((with_reducible refine gate_dst (N := 4) rfl ?_); refine box_event ?hg (N := 4) ?hd (cs := #[.int .i64 0, .int .i64 0, .int .i64 0, .int .i64 0]) (t := 26) ?hr ?_; (case hd => rfl); (case hg => rfl); (case hr => first | (go_simp; done) | (go_simp; rfl)); intro gb160 hg w4 hbox hb; have n0_ := Aside0.mk (Kd.S_below (by (with_reducible repeat (first | apply Kd.S_alloc | apply Kd.S_drewN | apply Kd.S_drew)); exact HO155.out) hb); have n1_ := Aside0.mk (below_step (by repeat (first | (with_reducible first | exact HB.out | apply below_alloc | apply pw_below_drewN | apply below_drew1) | exact HB.out)) hb); have n2_ := Aside0.mk (hbox); have n3_ := Aside0.mk ((by rw [hg]; exact (below_size (by repeat (first | (with_reducible first | exact HB.out | apply below_alloc | apply pw_below_drewN | apply below_drew1) | exact HB.out))) : w.heap.size ≤ gb160)); have n4_ := Aside0.mk ((by rw [hg]; exact (below_size (by repeat (first | (with_reducible first | exact HB.out | apply below_alloc | apply pw_below_drewN | apply below_drew1) | exact HB.out))) : w.heap.size ≤ gb160)); clear HO155; clear HB; have HO155 := n0_; have HB := n1_; have BK160 := n2_; have GW160 := n3_; have GE160 := n4_; clear n0_ n1_ n2_ n3_ n4_; clear hb hbox hg; have hcz5_0 : w4.cell? ⟨gb160, 0, none⟩ = some (.int .i64 0) := (blk_cell BK160.out 0).trans rfl; have hcz5_1 : w4.cell? ⟨gb160, 1, none⟩ = some (.int .i64 0) := (blk_cell BK160.out 1).trans rfl; have hcz5_2 : w4.cell? ⟨gb160, 2, none⟩ = some (.int .i64 0) := (blk_cell BK160.out 2).trans rfl; have hcz5_3 : w4.cell? ⟨gb160, 3, none⟩ = some (.int .i64 0) := (blk_cell BK160.out 3).trans rfl; have hfz5_0 := blk_frozen BK160.out 0; have hfz5_1 := blk_frozen BK160.out 1; have hfz5_2 := blk_frozen BK160.out 2; have hfz5_3 := blk_frozen BK160.out 3))
 go_ret
 exact ⟨by first | rfl | (simp [errW_none, errW_some] <;> rfl) | (simp [*, errW_none, errW_some, bne]; done) | (simp [*, errW_none, errW_some] <;> rfl), by repeat (first | (with_reducible first | exact HB.out | apply below_alloc | apply pw_below_drewN | apply below_drew1 | refine below_set ?_ GE160.out) | exact HB.out)⟩
end Go.Proofs.Ytjmmdphkgioooaa.P
end
section
namespace Go.Proofs.Ytjmmdphkgioooaa.P
open Go.RowKit Go.Proofs.Ytjmmdphkgioooaa.La Go.Proofs.YtjmmdphkgioooaaW.PrintWords Go.Proofs.YtjmmdphkgioooaaW.PrintLast Go.Proofs.YtjmmdphkgioooaaW.PrintMore
theorem cinfoT : (Try.prog.info? 9).map (fun i => (i.zero, i.size, i.bytes)) = some (some (.string ⟨#[]⟩), 1, 16) := by kernel_rfl
theorem cinfoTs : (Try.prog.info? 29).map (fun i => (i.zero, i.size, i.bytes)) = some (some (.slice none 0 0), 1, 24) := by kernel_rfl
abbrev OutS (wx : World) (B : Nat) (ok : Nat → Prop) (v : Value) (xs : List (List ByteArray)) : Prop := Kd.S (Kd.slice 9 Kd.string) 29 wx B ok v xs
abbrev InS (wx : World) (B : Nat) (ok : Nat → Prop) (v : Value) (xs : List (List S47)) : Prop := Kd.S (Kd.slice 47 k47) 45 wx B ok v xs
def Boxes (wx : World) (b bf : Nat) (q1 q2 q3 q4 : Int) : Prop := wx.heap[b]? = some (.cells #[.int .i64 0, .int .i64 0, .int .i64 0, .int .i64 0] 26 (0, 0)) ∧ wx.heap[bf]? = some (.cells #[.int .i64 q1, .int .i64 q2, .int .i64 q3, .int .i64 q4] 26 (0, 0))
theorem Boxes.step {wx w1 : World} {b bf : Nat} {q1 q2 q3 q4 : Int} (h : Boxes wx b bf q1 q2 q3 q4) (hm : ∀ k, k < wx.heap.size → (k = b ∨ k = bf) → w1.heap[k]? = wx.heap[k]?) : Boxes w1 b bf q1 q2 q3 q4 :=
 ⟨(hm b (cblk_lt h.1) (.inl rfl)).trans h.1, (hm bf (cblk_lt h.2) (.inr rfl)).trans h.2⟩
/-- The outer loop's state. -/
def OInv (w : World) (rows : List (List S47)) (rv : Value) (bf : Nat) (q1 q2 q3 q4 : Int) (k : Nat) (vo vi : Value) (wx : World) : Prop :=
 ∃ x : Int, 0 ≤ x ∧ x ≤ rows.length ∧ k = rows.length - x.toNat + 1 ∧ vi = .int .i64 x ∧ OutS wx w.heap.size (fun _ => True) vo ((rows.take x.toNat).map (·.map S47.f0)) ∧ InS wx w.heap.size (fun _ => True) rv rows ∧ Boxes wx w.heap.size bf q1 q2 q3 q4 ∧ Below w.heap.size w wx
/-- The inner loop's state. -/
def NInv (w : World) (N : Nat) (rows : List (List S47)) (rv : Value) (outs : List (List ByteArray)) (vo : Value) (row : List S47) (vr : Value) (bf : Nat) (q1 q2 q3 q4 : Int) (k : Nat) (vl vi : Value) (wx : World) : Prop :=
 ∃ x : Int, 0 ≤ x ∧ x ≤ row.length ∧ k = row.length - x.toNat + 1 ∧ vi = .int .i64 x ∧ Kd.R Kd.string 9 wx N (fun _ => True) vl ((row.take x.toNat).map S47.f0) ∧ OutS wx w.heap.size (fun k => k < N) vo outs ∧ InS wx w.heap.size (fun k => k < N) rv rows ∧
  Kd.R k47 47 wx w.heap.size (fun k => k < N) vr row ∧ Boxes wx w.heap.size bf q1 q2 q3 q4 ∧ Below w.heap.size w wx ∧ N ≤ wx.heap.size
def cread_Rows.f (a0 : ByteArray) : Option (List (List ByteArray) × Int × Int × Int × Int) := if a0.size ≤ 8796093022208 then some (readR a0) else none
set_option maxRecDepth 100000 in
set_option maxHeartbeats 8000000 in
theorem cread_Rows.calls (a0 : ByteArray) (r1 : List (List ByteArray)) (r2 r3 r4 r5 : Int) (w : World) (h : cread_Rows.f a0 = some (r1, r2, r3, r4, r5)) :
  Calls Try.prog 9 #[.string a0] w fun e w' => ∃ v0_ : Value, e = .returned (.tuple #[v0_, .agg #[.int .i64 r2, .int .i64 r3, .int .i64 r4, .int .i64 r5]]) ∧ Kd.S (Kd.slice 9 Kd.string) 29 w' w.heap.size (fun _ => True) v0_ r1 ∧ Below w.heap.size w w' := by
 unfold cread_Rows.f at h
 by_cases hs : a0.size ≤ 8796093022208
 ·rw [if_pos hs] at h
  obtain ⟨K, hK⟩ := fields_ev a0 hs
  obtain ⟨hb1, hb2⟩ := fieldsR_bound a0
  have hK := hK K (Nat.le_refl _)
  have H := Lib.hid (Option.some.inj h)
  clear h
  unfold readR at H
  generalize fieldsR a0 = q at hb1 hb2 hK H
  obtain ⟨rows, q1, q2, q3, q4⟩ := q
  go_enter Try.func9, Try.ntmps9
  go_wp2_with fail
  refine (cread_Fields.calls K a0 rows q1 q2 q3 q4 _ hK).mono ?_
  rintro e w1 ⟨v0, rfl, hS, hB⟩
  have hz0 : (w.alloc (.cells #[.int .i64 0, .int .i64 0, .int .i64 0, .int .i64 0] 26)).heap.size = w.heap.size + 1 := Array.size_push _
  have hA : Below w.heap.size w (w.alloc (.cells #[.int .i64 0, .int .i64 0, .int .i64 0, .int .i64 0] 26)) := below_alloc (Below.refl _ _) _
  have hB1 := below_step hA hB
  have g0 : w1.heap[w.heap.size]? = some (.cells #[.int .i64 0, .int .i64 0, .int .i64 0, .int .i64 0] 26 (0, 0)) := (hB.block w.heap.size (by omega)).trans (show (w.heap.push _)[w.heap.size]? = _ from Array.getElem?_push_size)
  have hS1 := Kd.S_lower hS (show w.heap.size ≤ (w.alloc (.cells #[.int .i64 0, .int .i64 0, .int .i64 0, .int .i64 0] 26)).heap.size by omega)
  clear hS hB hA hz0
  have hS2 := Kd.S_alloc hS1 (.cells #[.int .i64 q1, .int .i64 q2, .int .i64 q3, .int .i64 q4] 26)
  have hB2 := below_alloc hB1 (.cells #[.int .i64 q1, .int .i64 q2, .int .i64 q3, .int .i64 q4] 26)
  have hX : Boxes (w1.alloc (.cells #[.int .i64 q1, .int .i64 q2, .int .i64 q3, .int .i64 q4] 26)) w.heap.size w1.heap.size q1 q2 q3 q4 :=
   ⟨(Below.heap_alloc _ _ _ (cblk_lt g0)).trans g0, show (w1.heap.push _)[w1.heap.size]? = _ from Array.getElem?_push_size⟩
  obtain ⟨RA, RC, hrv, hrc, hRC⟩ := Kd.S_reads hS1
  subst hrv
  go_wp2_with fail
  generalize w1.alloc (.cells #[.int .i64 q1, .int .i64 q2, .int .i64 q3, .int .i64 q4] 26) = w2 at hS2 hB2 hX ⊢
  generalize w1.heap.size = bf at hX ⊢
  clear hS1 hB1 g0 hRC hK
  go_loopg [6, 19] (rows.length + 1) (fun k vo vi wx => OInv w rows (.slice RA rows.length RC) bf q1 q2 q3 q4 k vo vi wx)
  case atStart => exact ⟨0, by omega, by omega, by simp, rfl, Kd.S_nil _ _ _ _ _, hS2, hX, hB2⟩
  case round =>
   clear hS2 hX hB2
   obtain ⟨x, hx0, hx1, hk, rfl, hO, hI, hX, hB⟩ := hrel
   have HK := Lib.hid hk
   clear hk
   obtain ⟨OA, OC, hov, hoc, _⟩ := Kd.S_reads hO
   by_cases hxl : x < rows.length
   ·have e1 : decide (x < (rows.length : Int)) = true := decide_eq_true hxl
    obtain ⟨c, ad, hc⟩ : ∃ c ad, (Value.slice RA rows.length RC) = .slice (some ad) rows.length RC ∧ c = RC := by
     obtain ⟨g, cap, h, _⟩ := Kd.S_form hI (by omega)
     injection h with h1 h2 h3
     exact ⟨_, _, by rw [h1], rfl⟩
    injection hc.1 with hRA
    subst hRA
    obtain ⟨cs, hcs, hM, hcell⟩ := Kd.S_get hI [] x hx0 (by omega)
    obtain ⟨vr, rfl, hR⟩ := hM
    have hce := hcell 0 vr rfl
    have hrow : rows.getD x.toNat [] ∈ rows := by
     rw [List.getD_eq_getElem?_getD, List.getElem?_eq_getElem (show x.toNat < rows.length by omega)]
     exact List.getElem_mem _
    obtain ⟨row, hrw⟩ : ∃ row, rows.getD x.toNat [] = row := ⟨_, rfl⟩
    rw [hrw] at hR hrow
    have hrl := hb2 row hrow
    have HRW := Lib.hid hrw
    clear hrw hcell hrow hcs
    replace hce : wr.cell? (ad.add x.toNat) = some vr := by
     have h := hce
     rw [show x.toNat * (Kd.slice 47 k47).sz + 0 = x.toNat from (by show x.toNat * 1 + 0 = x.toNat; omega)] at h
     exact h
    obtain ⟨VA, VC, hvr, hvc, _⟩ := Kd.R_reads hR
    subst hvr
    have p1 := eq_true hx0
    have p2 := eq_true hxl
    have p3 := eq_true (show x.toNat < rows.length by omega)
    have q8 : decide (0 ≤ x) = true := decide_eq_true hx0
    subst hov
    have hO' : OutS wr w.heap.size (fun k => k < wr.heap.size) _ _ := Kd.S_mono (Kd.S_bound hO) (fun k hk => hk.2.2.1)
    have hI' : InS wr w.heap.size (fun k => k < wr.heap.size) _ _ := Kd.S_mono (Kd.S_bound hI) (fun k hk => hk.2.2.1)
    have hR' : Kd.R k47 47 wr w.heap.size (fun k => k < wr.heap.size) _ _ := Kd.R_mono (Kd.R_bound hR) (fun k hk => hk.2.2.1)
    have hol : ((rows.take x.toNat).map (·.map S47.f0)).length = x.toNat := by rw [List.length_map, List.length_take]; omega
    have HOL := Lib.hid hol
    generalize hov2 : (rows.take x.toNat).map (·.map S47.f0) = outs at hO hO' HOL ⊢
    have HOV := Lib.hid hov2
    clear hov2 hol hO hI hR
    have hbN := cblk_lt hX.1
    have hfN := cblk_lt hX.2
    obtain ⟨N, hN⟩ : ∃ N, wr.heap.size = N := ⟨_, rfl⟩
    rw [hN] at hbN hfN
    rw [hN] at hO' hI' hR'
    go_wp2_with fail
    go_loopg [9, 25] (row.length + 1) (fun k vl vi wx => NInv w N rows (.slice (some ad) rows.length RC) outs (.slice OA outs.length OC) row (.slice VA row.length VC) bf q1 q2 q3 q4 k vl vi wx)
    case atStart => exact ⟨0, by omega, by omega, by simp, rfl, Kd.R_nil _ _ _ _ _, hO', hI', hR', hX, hB, by omega⟩
    case round =>
     obtain ⟨y, hy0, hy1, hk2, rfl, hL, hO2, hI2, hR2, hX2, hB2, hN2⟩ := hrel
     have HK2 := Lib.hid hk2
     clear hk2 hce
     obtain ⟨LA, LC, hlv, hlc, _⟩ := Kd.R_reads hL
     obtain ⟨nl, hnl⟩ : ∃ nl, ((row.take y.toNat).map S47.f0).length = nl := ⟨_, rfl⟩
     have HNL := Lib.hid hnl
     rw [hnl] at hlv
     subst hlv
     clear hnl hlc
     by_cases hyl : y < row.length
     ·have e2 : decide (y < (row.length : Int)) = true := decide_eq_true hyl
      obtain ⟨ad2, hVA, k0, k1⟩ := at_T47 (Kd.R_reads' hR2).2.2 y hy0 hyl
      subst hVA
      have p4 := eq_true hy0
      have p5 := eq_true hyl
      have p6 := eq_true (show y.toNat < row.length by omega)
      have q9 : decide (0 ≤ y) = true := decide_eq_true hy0
      have hbL := Kd.R_base hL
      have hll : ((row.take y.toNat).map S47.f0).length ≤ 64 := by rw [List.length_map, List.length_take]; omega
      have hLa := Kd.R_alloc hL (.cells #[.string (rd_T47 row y).f0, .int .i64 (rd_T47 row y).f1] 47)
      have hza : (wr.alloc (.cells #[.string (rd_T47 row y).f0, .int .i64 (rd_T47 row y).f1] 47)).heap.size = wr.heap.size + 1 := Array.size_push _
      have hw1 : IntKind.i64.wrap (y + 1) = y + 1 := cwrap _ (by omega) (by omega)
      go_wp2_with (at_builtin; refine Kd.R_append Kd.string (w0 := wr.alloc (.cells #[.string (rd_T47 row y).f0, .int .i64 (rd_T47 row y).f1] 47)) N rfl (.tmp 29) (.tmp 32) 29 9 (.string ⟨#[]⟩) 16 rfl Try.underlying29 cinfoT rfl (by decide) (by omega) (.slice LA nl LC) ((row.take y.toNat).map S47.f0) (rd_T47 row y).f0 [.string (rd_T47 row y).f0] (fun _ => True) (fun _ => False) rfl (by first | (go_simp; done) | (go_simp; rfl)) rfl (fun _ hk => hk.elim) (fun _ _ => trivial) hLa (Below.refl _ _) (by omega) (by omega) ?_)
      intro v1 w5 hR5 hb5 hg5 hat5
      have hold : ∀ k, k < N → w5.heap[k]? = wr.heap[k]? := fun k hk => (hb5.block k hk).trans (Below.heap_alloc _ _ _ (by omega))
      have hO5 := Kd.S_step (w1 := w5) hO2 (fun k hk _ => hold k hk)
      have hI5 := Kd.S_step (w1 := w5) hI2 (fun k hk _ => hold k hk)
      have hV5 := Kd.R_step (w1 := w5) hR2 (fun k hk _ => hold k hk)
      have hX5 := hX2.step (w1 := w5) (fun k _ hk => hold k (by rcases hk with rfl | rfl <;> omega))
      have hB5 := (below_alloc hB2 (.cells #[.string (rd_T47 row y).f0, .int .i64 (rd_T47 row y).f1] 47)).trans (hb5.mono (show w.heap.size ≤ N by omega))
      have hN5 : N ≤ w5.heap.size := by have := hb5.size; omega
      clear hO2 hI2 hR2 hX2 hB2 hb5 hg5 hat5 hLa hL hold
      go_wp2_with fail
      have hkk := HK2.out
      obtain ⟨gk2, hgk⟩ : ∃ gk2, row.length - y.toNat + 1 = gk2 + 1 := ⟨_, rfl⟩
      rw [hgk] at hkk
      subst hkk
      go_roundg gk2
      case rel =>
       refine ⟨y + 1, by omega, by omega, by omega, rfl, ?_, hO5, hI5, hV5, hX5, hB5, hN5⟩
       rw [show (y + 1).toNat = y.toNat + 1 by omega, List.take_succ_eq_append_getElem (show y.toNat < row.length by omega), List.map_append]
       have e : (rd_T47 row y).f0 = (row[y.toNat]'(by omega)).f0 := by
        unfold rd_T47
        rw [List.getD_eq_getElem?_getD, List.getElem?_eq_getElem (show y.toNat < row.length by omega)]
        rfl
       rw [e] at hR5
       simp only [List.map_take] at hR5 ⊢
       exact hR5
      case measure => omega
     ·have hye : y = row.length := by omega
      have e2 : decide (y < (row.length : Int)) = false := decide_eq_false (by omega)
      have hlen : ((row.take y.toNat).map S47.f0) = row.map S47.f0 := by rw [List.take_of_length_le (by omega)]
      rw [hlen] at hL
      have hbL := Kd.R_base hL
      have hown : ∀ k, (Value.slice OA outs.length OC).ownBlock = some k → k < N := fun k hk => (Kd.S_R hO2).1 k hk
      have hP : (Kd.slice 9 Kd.string).M wr w.heap.size (fun k => N ≤ k) (row.map S47.f0) [.slice LA nl LC] := ⟨_, rfl, Kd.R_mono (Kd.R_lower (Kd.R_bound hL) (by omega)) (fun k hk => hk.2.1)⟩
      have hO3 : OutS wr w.heap.size (fun k => True ∧ ¬ N ≤ k) (.slice OA outs.length OC) outs := Kd.S_mono hO2 (fun k hk => ⟨trivial, by omega⟩)
      have hnb := Kd.S_ne hO2 hX2.1 (by decide)
      have hnf := Kd.S_ne hO2 hX2.2 (by decide)
      have hw1 : IntKind.i64.wrap (x + 1) = x + 1 := cwrap _ (by omega) (by omega)
      go_wp2_with (at_builtin; refine Kd.S_append (Kd.slice 9 Kd.string) (w0 := wr) w.heap.size rfl (.tmp 35) (.tmp 37) 23 29 (.slice none 0 0) 24 rfl Try.underlying23 cinfoTs rfl (by decide) (by omega) (.slice OA outs.length OC) outs (row.map S47.f0) [.slice LA nl LC] (fun _ => True) (fun k => N ≤ k) rfl (by first | (go_simp; done) | (go_simp; rfl)) hP (fun k hk => ⟨trivial, fun e => by have := hown k e.symm; omega⟩) (fun _ _ => trivial) hO3 (Below.refl _ _) (by omega) (by have := HOL.out; omega) ?_)
      intro v2 w6 hS6 hb6 hg6 hat6
      have hI6 : InS w6 w.heap.size (fun _ => True) _ _ := Kd.S_mono (Kd.S_over' hI2 (Kd.S_typed hO2) (by decide) hg6) (fun _ _ => trivial)
      have hX6 := hX2.step (w1 := w6) (fun k hk h => by
       refine hg6.block k hk ?_
       rcases h with rfl | rfl
       ·exact hnb
       ·exact hnf)
      have hB6 := hB2.trans hb6
      clear hO2 hI2 hR2 hX2 hB2 hb6 hg6 hat6 hO3 hP hL
      go_wp2_with fail
      have hkk := HK.out
      obtain ⟨gk3, hgk⟩ : ∃ gk3, rows.length - x.toNat + 1 = gk3 + 1 := ⟨_, rfl⟩
      rw [hgk] at hkk
      subst hkk
      go_roundg gk3
      case rel =>
       refine ⟨x + 1, by omega, by omega, by omega, rfl, ?_, hI6, hX6, hB6⟩
       rw [show (x + 1).toNat = x.toNat + 1 by omega, List.take_succ_eq_append_getElem (show x.toNat < rows.length by omega), List.map_append, HOV.out]
       have e : rows[x.toNat]'(by omega) = row := by
        rw [← HRW.out, List.getD_eq_getElem?_getD, List.getElem?_eq_getElem (show x.toNat < rows.length by omega)]
        rfl
       simp only [List.map_cons, List.map_nil, e]
       exact hS6
      case measure => omega
   ·have hxe : x = rows.length := by omega
    have e1 : decide (x < (rows.length : Int)) = false := decide_eq_false (by omega)
    have k0 : wr.cell? ⟨w.heap.size, 0, none⟩ = some (.int .i64 0) := by rw [cblk_cell hX.1]; rfl
    have k1 : wr.cell? ⟨w.heap.size, 1, none⟩ = some (.int .i64 0) := by rw [cblk_cell hX.1]; rfl
    have k2 : wr.cell? ⟨w.heap.size, 2, none⟩ = some (.int .i64 0) := by rw [cblk_cell hX.1]; rfl
    have k3 : wr.cell? ⟨w.heap.size, 3, none⟩ = some (.int .i64 0) := by rw [cblk_cell hX.1]; rfl
    have n0 := cblk_free hX.1 0
    have n1 := cblk_free hX.1 1
    have n2 := cblk_free hX.1 2
    have n3 := cblk_free hX.1 3
    have m0 : wr.cell? ⟨bf, 0, none⟩ = some (.int .i64 q1) := by rw [cblk_cell hX.2]; rfl
    have m1 : wr.cell? ⟨bf, 1, none⟩ = some (.int .i64 q2) := by rw [cblk_cell hX.2]; rfl
    have m2 : wr.cell? ⟨bf, 2, none⟩ = some (.int .i64 q3) := by rw [cblk_cell hX.2]; rfl
    have m3 : wr.cell? ⟨bf, 3, none⟩ = some (.int .i64 q4) := by rw [cblk_cell hX.2]; rfl
    have ht : (rows.take x.toNat).map (·.map S47.f0) = rows.map (·.map S47.f0) := by rw [List.take_of_length_le (by omega)]
    rw [ht] at hO hov
    subst hov
    have y0 := cblk_set hX.1 0 (.int .i64 q1)
    have y1 := cblk_set y0 1 (.int .i64 q2)
    have y2 := cblk_set y1 2 (.int .i64 q3)
    have y3 := cblk_set y2 3 (.int .i64 q4)
    have s0 := Kd.S_set hO hX.1 (by decide) 0 (.int .i64 q1)
    have s1 := Kd.S_set s0 y0 (by decide) 1 (.int .i64 q2)
    have s2 := Kd.S_set s1 y1 (by decide) 2 (.int .i64 q3)
    have s3 := Kd.S_set s2 y2 (by decide) 3 (.int .i64 q4)
    have b3 := ((((hB.setCell (p := ⟨w.heap.size, 0, none⟩) (Nat.le_refl _) (.int .i64 q1)).setCell (p := ⟨w.heap.size, 1, none⟩) (Nat.le_refl _) (.int .i64 q2)).setCell (p := ⟨w.heap.size, 2, none⟩) (Nat.le_refl _) (.int .i64 q3)).setCell (p := ⟨w.heap.size, 3, none⟩) (Nat.le_refl _) (.int .i64 q4))
    have HH := H.out
    obtain ⟨z1, z2⟩ := Prod.mk.inj HH
    obtain ⟨z2, z3⟩ := Prod.mk.inj z2
    obtain ⟨z3, z4⟩ := Prod.mk.inj z3
    obtain ⟨z4, z5⟩ := Prod.mk.inj z4
    subst z1
    subst z2
    subst z3
    subst z4
    subst z5
    clear H HH hI ht
    go_wp2_with fail
    go_region_with (first | fail)
    all_goals
     go_wp2_with fail
     refine bodyPost_ret (results_list (rs := [.tmp 2, .cell 3 26]) rfl (by simp) (.tmp (.cell w.heap.size 26 #[.int .i64 q1, .int .i64 q2, .int .i64 q3, .int .i64 q4] (0, 0) _ rfl y3 Try.underlying26 rfl (by kernel_rfl) .nil))) rfl ?_
     refine ⟨_, rfl, ?_, Below.drew b3⟩
     have s4 := Kd.S_drew s3
     simp only [List.length_map] at s4
     exact s4
 ·rw [if_neg hs] at h
  cases h
end Go.Proofs.Ytjmmdphkgioooaa.P
end
section
namespace Go.Proofs.Ytjmmdphkgioooaa.P
open Go.RowKit Go.Proofs.YtjmmdphkgioooaaW.PrintWords Go.Proofs.YtjmmdphkgioooaaW.PrintLast Go.Proofs.YtjmmdphkgioooaaW.PrintMore
attribute [local go_sem] max2_int min2_int max_two min_two max_three min_three max_four min_four   -- for this text's walks alone
set_option linter.unusedVariables false
set_option linter.unusedSimpArgs false
attribute [local go_sem high] eqA26
/-! ### dragomanlaw13_awake: function 8 -/
def dragomanlaw13_awake.f (k : Nat)  : Option (Bool) := (cread_Rows.f (⟨#[97, 44, 34, 98, 34, 34, 99, 34]⟩ : ByteArray)).bind fun bt161 => ((cread_Rows.f (⟨#[97, 44, 98, 10, 99]⟩ : ByteArray)).bind fun bt169 => (if (bt161.2.1 == 0 && (bt161.2.2.1 == 0 && (bt161.2.2.2.1 == 0 && (bt161.2.2.2.2 == 0)))) = true then (if (bt161.1.length : Int) = 1 then (if 0 < (bt161.1.length : Int) then (if ((rd_L4 bt161.1 0).length : Int) = 2 then (if 1 < ((rd_L4 bt161.1 0).length : Int) then (if (rdOf ByteArray.empty (rd_L4 bt161.1 0) 1).toList = ([98, 34, 99] : List UInt8) then (if (bt169.2.1 == 7 && (bt169.2.2.1 == 4 && (bt169.2.2.2.1 == 2 && (bt169.2.2.2.2 == 1)))) = true then ((cread_Valid.f k (⟨#[97, 13, 10, 98]⟩ : ByteArray)).bind fun t180 => (some t180)) else (some false)) else (some false)) else (none)) else (some false)) else (none)) else (some false)) else (some false)))
set_option maxHeartbeats 8000000 in
set_option maxRecDepth 100000 in
theorem dragomanlaw13_awake.calls (k : Nat)  (r : Bool) (w : World) (h : dragomanlaw13_awake.f k  = some r) :
  Calls Try.prog 8 #[] w fun e w' => e = .returned (.bool r) ∧ Below w.heap.size w w' := by
 have hu26 := Try.underlying26
 have HB := Aside0.mk (Below.refl w.heap.size w)
 have H : ((cread_Rows.f (⟨#[97, 44, 34, 98, 34, 34, 99, 34]⟩ : ByteArray)).bind fun bt161 => ((cread_Rows.f (⟨#[97, 44, 98, 10, 99]⟩ : ByteArray)).bind fun bt169 => (if (bt161.2.1 == 0 && (bt161.2.2.1 == 0 && (bt161.2.2.2.1 == 0 && (bt161.2.2.2.2 == 0)))) = true then (if (bt161.1.length : Int) = 1 then (if 0 < (bt161.1.length : Int) then (if ((rd_L4 bt161.1 0).length : Int) = 2 then (if 1 < ((rd_L4 bt161.1 0).length : Int) then (if (rdOf ByteArray.empty (rd_L4 bt161.1 0) 1).toList = ([98, 34, 99] : List UInt8) then (if (bt169.2.1 == 7 && (bt169.2.2.1 == 4 && (bt169.2.2.2.1 == 2 && (bt169.2.2.2.2 == 1)))) = true then ((cread_Valid.f k (⟨#[97, 13, 10, 98]⟩ : ByteArray)).bind fun t180 => (some t180)) else (some false)) else (some false)) else (none)) else (some false)) else (none)) else (some false)) else (some false)))) = some r := h
 clear h
 replace H := Option.bind_eq_some_iff.mp H
 obtain ⟨⟨t161, t164, t165, t166, t167⟩, A10, H⟩ := H
 replace H : ((cread_Rows.f (⟨#[97, 44, 98, 10, 99]⟩ : ByteArray)).bind fun bt169 => (if (t164 == 0 && (t165 == 0 && (t166 == 0 && (t167 == 0)))) = true then (if (t161.length : Int) = 1 then (if 0 < (t161.length : Int) then (if ((rd_L4 t161 0).length : Int) = 2 then (if 1 < ((rd_L4 t161 0).length : Int) then (if (rdOf ByteArray.empty (rd_L4 t161 0) 1).toList = ([98, 34, 99] : List UInt8) then (if (bt169.2.1 == 7 && (bt169.2.2.1 == 4 && (bt169.2.2.2.1 == 2 && (bt169.2.2.2.2 == 1)))) = true then ((cread_Valid.f k (⟨#[97, 13, 10, 98]⟩ : ByteArray)).bind fun t180 => (some t180)) else (some false)) else (some false)) else (none)) else (some false)) else (none)) else (some false)) else (some false))) = some r := H
 have A1 := Aside0.mk A10
 clear A10
 replace H := Option.bind_eq_some_iff.mp H
 obtain ⟨⟨t169, t172, t173, t174, t175⟩, A20, H⟩ := H
 replace H : (if (t164 == 0 && (t165 == 0 && (t166 == 0 && (t167 == 0)))) = true then (if (t161.length : Int) = 1 then (if 0 < (t161.length : Int) then (if ((rd_L4 t161 0).length : Int) = 2 then (if 1 < ((rd_L4 t161 0).length : Int) then (if (rdOf ByteArray.empty (rd_L4 t161 0) 1).toList = ([98, 34, 99] : List UInt8) then (if (t172 == 7 && (t173 == 4 && (t174 == 2 && (t175 == 1)))) = true then ((cread_Valid.f k (⟨#[97, 13, 10, 98]⟩ : ByteArray)).bind fun t180 => (some t180)) else (some false)) else (some false)) else (none)) else (some false)) else (none)) else (some false)) else (some false)) = some r := H
 have A2 := Aside0.mk A20
 clear A20
 by_cases c3 : (t164 == 0 && (t165 == 0 && (t166 == 0 && (t167 == 0)))) = true
 ·rw [if_pos c3] at H
  have c3b0 : (t164 == 0 && (t165 == 0 && (t166 == 0 && (t167 == 0)))) = true := c3
  (try (have c3b1 : decide (t164 = 0 && (t165 == 0 && (t166 == 0 && (t167 == 0)))) = true := by simpa using c3))
  (try (have c3b2 : (t164 == 0 && (t165 == 0 && (t166 == 0 && (t167 == 0)))) = true := by simpa using c3))
  clear c3
  by_cases c4 : (t161.length : Int) = 1
  ·rw [if_pos c4] at H
   have c4b0 : ((t161.length : Int) == 1) = true := beq_iff_eq.mpr c4
   have c4b1 : ((t161.length : Int) != 1) = false := bne_eq_false_iff_eq.mpr c4
   clear c4
   by_cases c5 : 0 < (t161.length : Int)
   ·rw [if_pos c5] at H
    have c5b0 : decide (0 < (t161.length : Int)) = true := decide_eq_true c5
    have c5b1 : decide (0 < t161.length) = true := decide_eq_true (by omega)
    clear c5
    by_cases c6 : ((rd_L4 t161 0).length : Int) = 2
    ·rw [if_pos c6] at H
     have c6b0 : (((rd_L4 t161 0).length : Int) == 2) = true := beq_iff_eq.mpr c6
     have c6b1 : (((rd_L4 t161 0).length : Int) != 2) = false := bne_eq_false_iff_eq.mpr c6
     clear c6
     by_cases c7 : 1 < ((rd_L4 t161 0).length : Int)
     ·rw [if_pos c7] at H
      have c7b0 : decide (1 < ((rd_L4 t161 0).length : Int)) = true := decide_eq_true c7
      have c7b1 : decide (1 < (rd_L4 t161 0).length) = true := decide_eq_true (by omega)
      clear c7
      by_cases c8 : (rdOf ByteArray.empty (rd_L4 t161 0) 1).toList = ([98, 34, 99] : List UInt8)
      ·rw [if_pos c8] at H
       have c8b0 : ((rdOf ByteArray.empty (rd_L4 t161 0) 1).toList == ([98, 34, 99] : List UInt8)) = true := beq_iff_eq.mpr c8
       have c8b1 : ((rdOf ByteArray.empty (rd_L4 t161 0) 1).toList != ([98, 34, 99] : List UInt8)) = false := bne_eq_false_iff_eq.mpr c8
       clear c8
       by_cases c9 : (t172 == 7 && (t173 == 4 && (t174 == 2 && (t175 == 1)))) = true
       ·rw [if_pos c9] at H
        have c9b0 : (t172 == 7 && (t173 == 4 && (t174 == 2 && (t175 == 1)))) = true := c9
        (try (have c9b1 : decide (t172 = 7 && (t173 == 4 && (t174 == 2 && (t175 == 1)))) = true := by simpa using c9))
        (try (have c9b2 : (t172 == 7 && (t173 == 4 && (t174 == 2 && (t175 == 1)))) = true := by simpa using c9))
        clear c9
        replace H := Option.bind_eq_some_iff.mp H
        obtain ⟨t180, A100, H⟩ := H
        replace H : (some t180) = some r := H
        have A10 := Aside0.mk A100
        clear A100
        obtain rfl := Option.some.inj H
        go_enter Try.func8, Try.ntmps8
        go_wp2_with (first | ((with_reducible refine gate_callee (f := 9) rfl ?_); refine goesL_ (some 6) rfl rfl Try.func9 (by kernel_rfl) rfl #[.string (⟨#[97, 44, 34, 98, 34, 34, 99, 34]⟩ : ByteArray)] rfl (by (try simp only [List.map_toArray, List.map_cons, List.map_nil]); first | done | rfl | (simp only [List.length_drop, List.length_take]; rfl)) ?_; (with_reducible refine (cread_Rows.calls (⟨#[97, 44, 34, 98, 34, 34, 99, 34]⟩ : ByteArray) t161 t164 t165 t166 t167 _ A1.out).mono ?_); rintro e w11 ⟨v162, rfl, ho0, hb⟩; refine ⟨_, rfl, ?_⟩; have n0_ := Aside0.mk (Kd.S_lower ho0 (below_size (by repeat (first | (with_reducible first | exact HB.out | apply below_alloc | apply pw_below_drewN | apply below_drew1) | exact HB.out)))); have n1_ := Aside0.mk (below_step (by repeat (first | (with_reducible first | exact HB.out | apply below_alloc | apply pw_below_drewN | apply below_drew1) | exact HB.out)) hb); clear HB; have HO163 := n0_; have HB := n1_; clear n0_ n1_; (try clear hb); (try clear hb2); (try clear hk); (try clear hi); (try clear ho0)) | ((with_reducible refine gate_dst (N := 2) rfl ?_); (try (refine gate_guard (by rfl) ?_; dsimp only)); refine box_event ?hg (N := 2) ?hd (cs := #[.int .i64 0, .int .i64 0, .int .i64 0, .int .i64 0]) (t := 26) ?hr ?_; (case hd => rfl); (case hg => rfl); (case hr => first | (go_simp; done) | (go_simp; rfl)); intro gb168 hg w12 hbox hb; have n0_ := Aside0.mk (Kd.S_below (by (with_reducible repeat (first | apply Kd.S_alloc | apply Kd.S_drewN | apply Kd.S_drew)); exact HO163.out) hb); have n1_ := Aside0.mk (below_step (by repeat (first | (with_reducible first | exact HB.out | apply below_alloc | apply pw_below_drewN | apply below_drew1) | exact HB.out)) hb); have n2_ := Aside0.mk (hbox); have n3_ := Aside0.mk ((by rw [hg]; exact (below_size (by repeat (first | (with_reducible first | exact HB.out | apply below_alloc | apply pw_below_drewN | apply below_drew1) | exact HB.out))) : w.heap.size ≤ gb168)); have n4_ := Aside0.mk ((by rw [hg]; exact (below_size (by repeat (first | (with_reducible first | exact HB.out | apply below_alloc | apply pw_below_drewN | apply below_drew1) | exact HB.out))) : w.heap.size ≤ gb168)); clear HO163; clear HB; have HO163 := n0_; have HB := n1_; have BK168 := n2_; have GW168 := n3_; have GE168 := n4_; clear n0_ n1_ n2_ n3_ n4_; clear hb hbox hg; have hcz13_0 : w12.cell? ⟨gb168, 0, none⟩ = some (.int .i64 0) := (blk_cell BK168.out 0).trans rfl; have hcz13_1 : w12.cell? ⟨gb168, 1, none⟩ = some (.int .i64 0) := (blk_cell BK168.out 1).trans rfl; have hcz13_2 : w12.cell? ⟨gb168, 2, none⟩ = some (.int .i64 0) := (blk_cell BK168.out 2).trans rfl; have hcz13_3 : w12.cell? ⟨gb168, 3, none⟩ = some (.int .i64 0) := (blk_cell BK168.out 3).trans rfl; have hfz13_0 := blk_frozen BK168.out 0; have hfz13_1 := blk_frozen BK168.out 1; have hfz13_2 := blk_frozen BK168.out 2; have hfz13_3 := blk_frozen BK168.out 3) | ((with_reducible refine gate_callee (f := 9) rfl ?_); refine goesL_ (some 10) rfl rfl Try.func9 (by kernel_rfl) rfl #[.string (⟨#[97, 44, 98, 10, 99]⟩ : ByteArray)] rfl (by (try simp only [List.map_toArray, List.map_cons, List.map_nil]); first | done | rfl | (simp only [List.length_drop, List.length_take]; rfl)) ?_; (with_reducible refine (cread_Rows.calls (⟨#[97, 44, 98, 10, 99]⟩ : ByteArray) t169 t172 t173 t174 t175 _ A2.out).mono ?_); rintro e w14 ⟨v170, rfl, ho0, hb⟩; refine ⟨_, rfl, ?_⟩; have n0_ := Aside0.mk (Kd.S_elder' (by (with_reducible repeat (first | apply Kd.S_alloc | apply Kd.S_drewN | apply Kd.S_drew)); exact (Kd.S_mono (Kd.S_far (p := ⟨gb168, 3, none⟩) (Kd.S_far (p := ⟨gb168, 2, none⟩) (Kd.S_far (p := ⟨gb168, 1, none⟩) (Kd.S_far (p := ⟨gb168, 0, none⟩) (Kd.S_types HO163.out BK168.out (by decide)) (fun _ hk => hk.2) (.int .i64 t164)) (fun _ hk => hk.2) (.int .i64 t165)) (fun _ hk => hk.2) (.int .i64 t166)) (fun _ hk => hk.2) (.int .i64 t167)) (fun _ h_ => h_.1))) (Kd.S_base ho0) hb); have n1_ := Aside0.mk (Kd.S_lower (Kd.S_new' ho0 (Kd.S_lt (by (with_reducible repeat (first | apply Kd.S_alloc | apply Kd.S_drewN | apply Kd.S_drew)); exact (Kd.S_mono (Kd.S_far (p := ⟨gb168, 3, none⟩) (Kd.S_far (p := ⟨gb168, 2, none⟩) (Kd.S_far (p := ⟨gb168, 1, none⟩) (Kd.S_far (p := ⟨gb168, 0, none⟩) (Kd.S_types HO163.out BK168.out (by decide)) (fun _ hk => hk.2) (.int .i64 t164)) (fun _ hk => hk.2) (.int .i64 t165)) (fun _ hk => hk.2) (.int .i64 t166)) (fun _ hk => hk.2) (.int .i64 t167)) (fun _ h_ => h_.1))))) (below_size (by repeat (first | (with_reducible first | exact HB.out | apply below_alloc | apply pw_below_drewN | apply below_drew1 | refine below_set ?_ GE168.out) | exact HB.out)))); have n2_ := Aside0.mk (blk_below (g := gb168) (o := .cells #[.int .i64 t164, .int .i64 t165, .int .i64 t166, .int .i64 t167] 26 (0, 0)) (by (with_reducible repeat (first | refine blk_drewN ?_ _ | refine blk_drew ?_ | refine blk_alloc ?_ _)); refine blk_put (cs := #[.int .i64 t164, .int .i64 t165, .int .i64 t166, .int .i64 0]) ?_ 3 _ rfl; (with_reducible repeat (first | refine blk_drewN ?_ _ | refine blk_drew ?_ | refine blk_alloc ?_ _)); refine blk_put (cs := #[.int .i64 t164, .int .i64 t165, .int .i64 0, .int .i64 0]) ?_ 2 _ rfl; (with_reducible repeat (first | refine blk_drewN ?_ _ | refine blk_drew ?_ | refine blk_alloc ?_ _)); refine blk_put (cs := #[.int .i64 t164, .int .i64 0, .int .i64 0, .int .i64 0]) ?_ 1 _ rfl; (with_reducible repeat (first | refine blk_drewN ?_ _ | refine blk_drew ?_ | refine blk_alloc ?_ _)); refine blk_put (cs := #[.int .i64 0, .int .i64 0, .int .i64 0, .int .i64 0]) ?_ 0 _ rfl; (with_reducible repeat (first | refine blk_drewN ?_ _ | refine blk_drew ?_ | refine blk_alloc ?_ _)); exact BK168.out) hb); have n3_ := Aside0.mk (below_step (by repeat (first | (with_reducible first | exact HB.out | apply below_alloc | apply pw_below_drewN | apply below_drew1 | refine below_set ?_ GE168.out) | exact HB.out)) hb); clear HO163; clear BK168; clear HB; have HO163 := n0_; have HO171 := n1_; have BK168 := n2_; have HB := n3_; clear n0_ n1_ n2_ n3_; (try clear hb); (try clear hb2); (try clear hk); (try clear hi); (try clear ho0)) | ((with_reducible refine gate_dst (N := 4) rfl ?_); (try (refine gate_guard (by rfl) ?_; dsimp only)); refine box_event ?hg (N := 4) ?hd (cs := #[.int .i64 0, .int .i64 0, .int .i64 0, .int .i64 0]) (t := 26) ?hr ?_; (case hd => rfl); (case hg => rfl); (case hr => first | (go_simp; done) | (go_simp; rfl)); intro gb176 hg w15 hbox hb; have n0_ := Aside0.mk (Kd.S_below (by (with_reducible repeat (first | apply Kd.S_alloc | apply Kd.S_drewN | apply Kd.S_drew)); exact HO163.out) hb); have n1_ := Aside0.mk (Kd.S_below (by (with_reducible repeat (first | apply Kd.S_alloc | apply Kd.S_drewN | apply Kd.S_drew)); exact HO171.out) hb); have n2_ := Aside0.mk (blk_below (g := gb168) (o := .cells #[.int .i64 t164, .int .i64 t165, .int .i64 t166, .int .i64 t167] 26 (0, 0)) (by (with_reducible repeat (first | refine blk_drewN ?_ _ | refine blk_drew ?_ | refine blk_alloc ?_ _)); exact BK168.out) hb); have n3_ := Aside0.mk (below_step (by repeat (first | (with_reducible first | exact HB.out | apply below_alloc | apply pw_below_drewN | apply below_drew1 | refine below_set ?_ GE168.out) | exact HB.out)) hb); have n4_ := Aside0.mk (hbox); have n5_ := Aside0.mk ((by rw [hg]; exact (below_size (by repeat (first | (with_reducible first | exact HB.out | apply below_alloc | apply pw_below_drewN | apply below_drew1 | refine below_set ?_ GE168.out) | exact HB.out))) : w.heap.size ≤ gb176)); have n6_ := Aside0.mk ((by rw [hg]; exact (below_size (by repeat (first | (with_reducible first | exact HB.out | apply below_alloc | apply pw_below_drewN | apply below_drew1 | refine below_set ?_ GE168.out) | exact HB.out))) : w.heap.size ≤ gb176)); have n7_ := Aside0.mk ((by rw [hg]; exact Nat.ne_of_lt (blk_lt (g := gb168) (o := .cells #[.int .i64 t164, .int .i64 t165, .int .i64 t166, .int .i64 t167] 26 (0, 0)) (by (with_reducible repeat (first | refine blk_drewN ?_ _ | refine blk_drew ?_ | refine blk_alloc ?_ _)); exact BK168.out)) : gb168 ≠ gb176)); have n8_ := Aside0.mk ((by rw [hg]; exact Nat.ne_of_gt (blk_lt (g := gb168) (o := .cells #[.int .i64 t164, .int .i64 t165, .int .i64 t166, .int .i64 t167] 26 (0, 0)) (by (with_reducible repeat (first | refine blk_drewN ?_ _ | refine blk_drew ?_ | refine blk_alloc ?_ _)); exact BK168.out)) : gb176 ≠ gb168)); clear HO163; clear HO171; clear BK168; clear HB; have HO163 := n0_; have HO171 := n1_; have BK168 := n2_; have HB := n3_; have BK176 := n4_; have GW176 := n5_; have GE176 := n6_; have NB168_176 := n7_; have NB176_168 := n8_; clear n0_ n1_ n2_ n3_ n4_ n5_ n6_ n7_ n8_; clear hb hbox hg; have hnb16 := NB176_168.out; have hnc16 := NB168_176.out; have hcz17_0 : w15.cell? ⟨gb176, 0, none⟩ = some (.int .i64 0) := (blk_cell BK176.out 0).trans rfl; have hcz17_1 : w15.cell? ⟨gb176, 1, none⟩ = some (.int .i64 0) := (blk_cell BK176.out 1).trans rfl; have hcz17_2 : w15.cell? ⟨gb176, 2, none⟩ = some (.int .i64 0) := (blk_cell BK176.out 2).trans rfl; have hcz17_3 : w15.cell? ⟨gb176, 3, none⟩ = some (.int .i64 0) := (blk_cell BK176.out 3).trans rfl; have hfz17_0 := blk_frozen BK176.out 0; have hfz17_1 := blk_frozen BK176.out 1; have hfz17_2 := blk_frozen BK176.out 2; have hfz17_3 := blk_frozen BK176.out 3) | ((with_reducible refine gate_store (t := 26) (p := 4) rfl ?_); refine store_event (t := 26) (p := 4) (v := ?vo_w18) (w1 := ((((w15.setCell ⟨gb176, 0, none⟩ (.int .i64 t172)).setCell ⟨gb176, 1, none⟩ (.int .i64 t173)).setCell ⟨gb176, 2, none⟩ (.int .i64 t174)).setCell ⟨gb176, 3, none⟩ (.int .i64 t175))) ?hg ?ho ?hn ?hr ?_; (case ho => rfl); (case hg => rfl); (case hn => rfl); (case hr => first | (go_simp; done) | (go_simp; rfl)); intro w18 hw; have n0_ : Aside0 (Kd.S (Kd.slice 9 Kd.string) 29 w18 w.heap.size (fun k_ => some k_ ≠ (v170 : Value).ownBlock) v162 t161) := ⟨(by rw [hw]; exact (by (with_reducible repeat (first | apply Kd.S_alloc | apply Kd.S_drewN | apply Kd.S_drew)); exact Kd.S_mono (Kd.S_far (p := ⟨gb176, 3, none⟩) (Kd.S_far (p := ⟨gb176, 2, none⟩) (Kd.S_far (p := ⟨gb176, 1, none⟩) (Kd.S_far (p := ⟨gb176, 0, none⟩) (Kd.S_types HO163.out BK176.out (by decide)) (fun _ hk => hk.2) (.int .i64 t172)) (fun _ hk => hk.2) (.int .i64 t173)) (fun _ hk => hk.2) (.int .i64 t174)) (fun _ hk => hk.2) (.int .i64 t175)) (fun _ hk => hk.1.2)))⟩; have n1_ : Aside0 (Kd.S (Kd.slice 9 Kd.string) 29 w18 w.heap.size (fun k_ => some k_ ≠ (v162 : Value).ownBlock) v170 t169) := ⟨(by rw [hw]; exact (by (with_reducible repeat (first | apply Kd.S_alloc | apply Kd.S_drewN | apply Kd.S_drew)); exact Kd.S_mono (Kd.S_far (p := ⟨gb176, 3, none⟩) (Kd.S_far (p := ⟨gb176, 2, none⟩) (Kd.S_far (p := ⟨gb176, 1, none⟩) (Kd.S_far (p := ⟨gb176, 0, none⟩) (Kd.S_types HO171.out BK176.out (by decide)) (fun _ hk => hk.2) (.int .i64 t172)) (fun _ hk => hk.2) (.int .i64 t173)) (fun _ hk => hk.2) (.int .i64 t174)) (fun _ hk => hk.2) (.int .i64 t175)) (fun _ hk => hk.1.2)))⟩; have n2_ : Aside0 (w18.heap[gb168]? = some (.cells #[.int .i64 t164, .int .i64 t165, .int .i64 t166, .int .i64 t167] 26 (0, 0))) := ⟨(by rw [hw]; exact (by (with_reducible repeat (first | refine blk_drewN ?_ _ | refine blk_drew ?_ | refine blk_alloc ?_ _)); refine blk_far ?_ NB168_176.out _; (with_reducible repeat (first | refine blk_drewN ?_ _ | refine blk_drew ?_ | refine blk_alloc ?_ _)); refine blk_far ?_ NB168_176.out _; (with_reducible repeat (first | refine blk_drewN ?_ _ | refine blk_drew ?_ | refine blk_alloc ?_ _)); refine blk_far ?_ NB168_176.out _; (with_reducible repeat (first | refine blk_drewN ?_ _ | refine blk_drew ?_ | refine blk_alloc ?_ _)); refine blk_far ?_ NB168_176.out _; (with_reducible repeat (first | refine blk_drewN ?_ _ | refine blk_drew ?_ | refine blk_alloc ?_ _)); exact BK168.out))⟩; have n3_ : Aside0 (w18.heap[gb176]? = some (.cells #[.int .i64 t172, .int .i64 t173, .int .i64 t174, .int .i64 t175] 26 (0, 0))) := ⟨(by rw [hw]; exact (by (with_reducible repeat (first | refine blk_drewN ?_ _ | refine blk_drew ?_ | refine blk_alloc ?_ _)); refine blk_put (cs := #[.int .i64 t172, .int .i64 t173, .int .i64 t174, .int .i64 0]) ?_ 3 _ rfl; (with_reducible repeat (first | refine blk_drewN ?_ _ | refine blk_drew ?_ | refine blk_alloc ?_ _)); refine blk_put (cs := #[.int .i64 t172, .int .i64 t173, .int .i64 0, .int .i64 0]) ?_ 2 _ rfl; (with_reducible repeat (first | refine blk_drewN ?_ _ | refine blk_drew ?_ | refine blk_alloc ?_ _)); refine blk_put (cs := #[.int .i64 t172, .int .i64 0, .int .i64 0, .int .i64 0]) ?_ 1 _ rfl; (with_reducible repeat (first | refine blk_drewN ?_ _ | refine blk_drew ?_ | refine blk_alloc ?_ _)); refine blk_put (cs := #[.int .i64 0, .int .i64 0, .int .i64 0, .int .i64 0]) ?_ 0 _ rfl; (with_reducible repeat (first | refine blk_drewN ?_ _ | refine blk_drew ?_ | refine blk_alloc ?_ _)); exact BK176.out))⟩; have n4_ : Aside0 (Below w.heap.size w w18) := ⟨(by rw [hw]; exact (by repeat (first | (with_reducible first | exact HB.out | apply below_alloc | apply pw_below_drewN | apply below_drew1 | refine below_set ?_ GE168.out | refine below_set ?_ GE176.out) | exact HB.out)))⟩; clear hw; clear HO163; clear HO171; clear BK168; clear BK176; clear HB; have HO163 := n0_; have HO171 := n1_; have BK168 := n2_; have BK176 := n3_; have HB := n4_; clear n0_ n1_ n2_ n3_ n4_; have hcz19_0 : w18.cell? ⟨gb168, 0, none⟩ = some (.int .i64 t164) := (blk_cell BK168.out 0).trans rfl; have hcz19_1 : w18.cell? ⟨gb168, 1, none⟩ = some (.int .i64 t165) := (blk_cell BK168.out 1).trans rfl; have hcz19_2 : w18.cell? ⟨gb168, 2, none⟩ = some (.int .i64 t166) := (blk_cell BK168.out 2).trans rfl; have hcz19_3 : w18.cell? ⟨gb168, 3, none⟩ = some (.int .i64 t167) := (blk_cell BK168.out 3).trans rfl; have hfz19_0 := blk_frozen BK168.out 0; have hfz19_1 := blk_frozen BK168.out 1; have hfz19_2 := blk_frozen BK168.out 2; have hfz19_3 := blk_frozen BK168.out 3; obtain ⟨Ao20, co20, eo20⟩ := Kd.S_slice HO163.out; subst eo20; have p177 : 0 ≤ (0 : Int) := (by omega); have q177 : 0 < (t161.length : Int) := of_decide_eq_true (by first | (with_reducible assumption) | assumption); obtain ⟨ad177, A177_0, c177_0, e177, hx177_0, hl177_0, hi177_0⟩ := at_L4 (Kd.S_reads' HO163.out).2.2 0 p177 q177; cases e177; obtain ⟨ce177, hce177, hMe177, hcc177⟩ := Kd.S_get HO163.out [] 0 p177 (by first | exact q177 | exact of_decide_eq_true (by first | (with_reducible assumption) | assumption) | (have e_ := (Kd.S_reads' HO163.out).1; omega)); obtain ⟨ve177_0, rfl, ge177_0⟩ := hMe177; have hv177_0 := hcc177 0 _ rfl; rw [Nat.add_zero, show ((Kd.slice 9 Kd.string)).sz = 1 from rfl, Nat.mul_one] at hv177_0; replace hv177_0 := Option.some.inj (hv177_0.symm.trans hx177_0); rw [hv177_0] at ge177_0; have HL177_0 := Aside0.mk (show Kd.R Kd.string 9 _ _ _ _ (rd_L4 t161 0) from ge177_0); clear hv177_0 ge177_0; clear hcc177 hce177; have qi177 : (0 < t161.length) = True := eq_true (by omega); (try rw [show ((0 : Int)).toNat = 0 from rfl] at hx177_0); (try rw [Addr.add_zero'] at hx177_0); have HR177_0 := Aside0.mk hi177_0; have HC177_0 := Aside0.mk hl177_0; clear hi177_0 hl177_0; replace p177 := eq_true p177; replace q177 := eq_true q177; have p178 : 0 ≤ (0 : Int) := (by omega); have q178 : 0 < (t161.length : Int) := of_decide_eq_true (by first | (with_reducible assumption) | assumption); obtain ⟨ad178, A178_0, c178_0, e178, hx178_0, hl178_0, hi178_0⟩ := at_L4 (Kd.S_reads' HO163.out).2.2 0 p178 q178; obtain rfl : ad177 = ad178 := (by injection e178); obtain ⟨ce178, hce178, hMe178, hcc178⟩ := Kd.S_get HO163.out [] 0 p178 (by first | exact q178 | exact of_decide_eq_true (by first | (with_reducible assumption) | assumption) | (have e_ := (Kd.S_reads' HO163.out).1; omega)); obtain ⟨ve178_0, rfl, ge178_0⟩ := hMe178; have hv178_0 := hcc178 0 _ rfl; rw [Nat.add_zero, show ((Kd.slice 9 Kd.string)).sz = 1 from rfl, Nat.mul_one] at hv178_0; replace hv178_0 := Option.some.inj (hv178_0.symm.trans hx178_0); rw [hv178_0] at ge178_0; have HL178_0 := Aside0.mk (show Kd.R Kd.string 9 _ _ _ _ (rd_L4 t161 0) from ge178_0); clear hv178_0 ge178_0; clear hcc178 hce178; have qi178 : (0 < t161.length) = True := eq_true (by omega); (try rw [show ((0 : Int)).toNat = 0 from rfl] at hx178_0); (try rw [Addr.add_zero'] at hx178_0); have HR178_0 := Aside0.mk hi178_0; have HC178_0 := Aside0.mk hl178_0; clear hi178_0 hl178_0; replace p178 := eq_true p178; replace q178 := eq_true q178; have ea_ := Option.some.inj (hx177_0.symm.trans hx178_0); injection ea_ with ea_ en_ ec_; subst ea_; subst ec_; clear en_; have p179 : 0 ≤ (1 : Int) := (by omega); have q179 : 1 < ((rd_L4 t161 0).length : Int) := of_decide_eq_true (by first | (with_reducible assumption) | assumption); obtain ⟨ad179, e179, hx179_0⟩ := Kd.at_string (by repeat (first | (with_reducible exact HR178_0.out) | (with_reducible refine Kd.C_alloc ?_ _) | (with_reducible refine Kd.C_drewN ?_ _) | (with_reducible refine Kd.C_drew ?_) | exact HR178_0.out)) 1 p179 q179; cases e179; (try simp only [show (1 : Int).toNat = 1 from rfl, Nat.reduceMul, Nat.reduceEqDiff, Go.Addr.add, ↓reduceIte] at hx179_0); have qi179 : (1 < (rd_L4 t161 0).length) = True := eq_true (by omega); (try rw [show ((1 : Int)).toNat = 1 from rfl] at hx179_0); replace p179 := eq_true p179; replace q179 := eq_true q179; have hcz21_0 : w18.cell? ⟨gb176, 0, none⟩ = some (.int .i64 t172) := (blk_cell BK176.out 0).trans rfl; have hcz21_1 : w18.cell? ⟨gb176, 1, none⟩ = some (.int .i64 t173) := (blk_cell BK176.out 1).trans rfl; have hcz21_2 : w18.cell? ⟨gb176, 2, none⟩ = some (.int .i64 t174) := (blk_cell BK176.out 2).trans rfl; have hcz21_3 : w18.cell? ⟨gb176, 3, none⟩ = some (.int .i64 t175) := (blk_cell BK176.out 3).trans rfl; have hfz21_0 := blk_frozen BK176.out 0; have hfz21_1 := blk_frozen BK176.out 1; have hfz21_2 := blk_frozen BK176.out 2; have hfz21_3 := blk_frozen BK176.out 3) | (go_at_call 12; (with_reducible refine (cread_Valid.calls k (⟨#[97, 13, 10, 98]⟩ : ByteArray) t180 _ A10.out).mono ?_); rintro e w22 ⟨rfl, hb⟩; have n0_ := Aside0.mk (Kd.S_below (by (with_reducible repeat (first | apply Kd.S_alloc | apply Kd.S_drewN | apply Kd.S_drew)); exact HO163.out) hb); have n1_ := Aside0.mk (Kd.S_below (by (with_reducible repeat (first | apply Kd.S_alloc | apply Kd.S_drewN | apply Kd.S_drew)); exact HO171.out) hb); have n2_ := Aside0.mk (Kd.R_below (by (with_reducible repeat (first | apply Kd.R_alloc | apply Kd.R_drewN | apply Kd.R_drew)); exact HL177_0.out) hb); have n3_ := Aside0.mk (Kd.R_below (by (with_reducible repeat (first | apply Kd.R_alloc | apply Kd.R_drewN | apply Kd.R_drew)); exact HL178_0.out) hb); have n4_ := Aside0.mk (blk_below (g := gb168) (o := .cells #[.int .i64 t164, .int .i64 t165, .int .i64 t166, .int .i64 t167] 26 (0, 0)) (by (with_reducible repeat (first | refine blk_drewN ?_ _ | refine blk_drew ?_ | refine blk_alloc ?_ _)); exact BK168.out) hb); have n5_ := Aside0.mk (blk_below (g := gb176) (o := .cells #[.int .i64 t172, .int .i64 t173, .int .i64 t174, .int .i64 t175] 26 (0, 0)) (by (with_reducible repeat (first | refine blk_drewN ?_ _ | refine blk_drew ?_ | refine blk_alloc ?_ _)); exact BK176.out) hb); have n6_ := Aside0.mk (Kd.C_below (by repeat (first | (with_reducible exact HR177_0.out) | (with_reducible refine Kd.C_alloc ?_ _) | (with_reducible refine Kd.C_drewN ?_ _) | (with_reducible refine Kd.C_drew ?_) | exact HR177_0.out)) hb); have n7_ := Aside0.mk (Kd.C_below (by repeat (first | (with_reducible exact HR178_0.out) | (with_reducible refine Kd.C_alloc ?_ _) | (with_reducible refine Kd.C_drewN ?_ _) | (with_reducible refine Kd.C_drew ?_) | exact HR178_0.out)) hb); have n8_ := Aside0.mk (below_step (by repeat (first | (with_reducible first | exact HB.out | apply below_alloc | apply pw_below_drewN | apply below_drew1 | refine below_set ?_ GE168.out | refine below_set ?_ GE176.out) | exact HB.out)) hb); clear HO163; clear HO171; clear HL177_0; clear HL178_0; clear BK168; clear BK176; clear HR177_0; clear HR178_0; clear HB; have HO163 := n0_; have HO171 := n1_; have HL177_0 := n2_; have HL178_0 := n3_; have BK168 := n4_; have BK176 := n5_; have HR177_0 := n6_; have HR178_0 := n7_; have HB := n8_; clear n0_ n1_ n2_ n3_ n4_ n5_ n6_ n7_ n8_; (try clear hb); (try clear hb2); (try clear hk); (try clear hi)))
        go_ret
        exact ⟨by first | rfl | (simp [errW_none, errW_some] <;> rfl) | (simp [*, errW_none, errW_some, bne]; done) | (simp [*, errW_none, errW_some] <;> rfl), by repeat (first | (with_reducible first | exact HB.out | apply below_alloc | apply pw_below_drewN | apply below_drew1 | refine below_set ?_ GE168.out | refine below_set ?_ GE176.out) | exact HB.out)⟩
       ·rw [if_neg c9] at H
        have c9b0 : (t172 == 7 && (t173 == 4 && (t174 == 2 && (t175 == 1)))) = false := by simpa using c9
        (try (have c9b1 : decide (t172 = 7 && (t173 == 4 && (t174 == 2 && (t175 == 1)))) = false := by simpa using c9))
        (try (have c9b2 : (t172 == 7 && (t173 == 4 && (t174 == 2 && (t175 == 1)))) = false := by simpa using c9))
        (try (have c9b3 : ¬ (t172 = 7 && (t173 == 4 && (t174 == 2 && (t175 == 1)))) := by simpa using c9))
        clear c9
        obtain rfl := Option.some.inj H
        go_enter Try.func8, Try.ntmps8
        go_wp2_with (first | ((with_reducible refine gate_callee (f := 9) rfl ?_); refine goesL_ (some 6) rfl rfl Try.func9 (by kernel_rfl) rfl #[.string (⟨#[97, 44, 34, 98, 34, 34, 99, 34]⟩ : ByteArray)] rfl (by (try simp only [List.map_toArray, List.map_cons, List.map_nil]); first | done | rfl | (simp only [List.length_drop, List.length_take]; rfl)) ?_; (with_reducible refine (cread_Rows.calls (⟨#[97, 44, 34, 98, 34, 34, 99, 34]⟩ : ByteArray) t161 t164 t165 t166 t167 _ A1.out).mono ?_); rintro e w23 ⟨v162, rfl, ho0, hb⟩; refine ⟨_, rfl, ?_⟩; have n0_ := Aside0.mk (Kd.S_lower ho0 (below_size (by repeat (first | (with_reducible first | exact HB.out | apply below_alloc | apply pw_below_drewN | apply below_drew1) | exact HB.out)))); have n1_ := Aside0.mk (below_step (by repeat (first | (with_reducible first | exact HB.out | apply below_alloc | apply pw_below_drewN | apply below_drew1) | exact HB.out)) hb); clear HB; have HO163 := n0_; have HB := n1_; clear n0_ n1_; (try clear hb); (try clear hb2); (try clear hk); (try clear hi); (try clear ho0)) | ((with_reducible refine gate_dst (N := 2) rfl ?_); (try (refine gate_guard (by rfl) ?_; dsimp only)); refine box_event ?hg (N := 2) ?hd (cs := #[.int .i64 0, .int .i64 0, .int .i64 0, .int .i64 0]) (t := 26) ?hr ?_; (case hd => rfl); (case hg => rfl); (case hr => first | (go_simp; done) | (go_simp; rfl)); intro gb168 hg w24 hbox hb; have n0_ := Aside0.mk (Kd.S_below (by (with_reducible repeat (first | apply Kd.S_alloc | apply Kd.S_drewN | apply Kd.S_drew)); exact HO163.out) hb); have n1_ := Aside0.mk (below_step (by repeat (first | (with_reducible first | exact HB.out | apply below_alloc | apply pw_below_drewN | apply below_drew1) | exact HB.out)) hb); have n2_ := Aside0.mk (hbox); have n3_ := Aside0.mk ((by rw [hg]; exact (below_size (by repeat (first | (with_reducible first | exact HB.out | apply below_alloc | apply pw_below_drewN | apply below_drew1) | exact HB.out))) : w.heap.size ≤ gb168)); have n4_ := Aside0.mk ((by rw [hg]; exact (below_size (by repeat (first | (with_reducible first | exact HB.out | apply below_alloc | apply pw_below_drewN | apply below_drew1) | exact HB.out))) : w.heap.size ≤ gb168)); clear HO163; clear HB; have HO163 := n0_; have HB := n1_; have BK168 := n2_; have GW168 := n3_; have GE168 := n4_; clear n0_ n1_ n2_ n3_ n4_; clear hb hbox hg; have hcz25_0 : w24.cell? ⟨gb168, 0, none⟩ = some (.int .i64 0) := (blk_cell BK168.out 0).trans rfl; have hcz25_1 : w24.cell? ⟨gb168, 1, none⟩ = some (.int .i64 0) := (blk_cell BK168.out 1).trans rfl; have hcz25_2 : w24.cell? ⟨gb168, 2, none⟩ = some (.int .i64 0) := (blk_cell BK168.out 2).trans rfl; have hcz25_3 : w24.cell? ⟨gb168, 3, none⟩ = some (.int .i64 0) := (blk_cell BK168.out 3).trans rfl; have hfz25_0 := blk_frozen BK168.out 0; have hfz25_1 := blk_frozen BK168.out 1; have hfz25_2 := blk_frozen BK168.out 2; have hfz25_3 := blk_frozen BK168.out 3) | ((with_reducible refine gate_callee (f := 9) rfl ?_); refine goesL_ (some 10) rfl rfl Try.func9 (by kernel_rfl) rfl #[.string (⟨#[97, 44, 98, 10, 99]⟩ : ByteArray)] rfl (by (try simp only [List.map_toArray, List.map_cons, List.map_nil]); first | done | rfl | (simp only [List.length_drop, List.length_take]; rfl)) ?_; (with_reducible refine (cread_Rows.calls (⟨#[97, 44, 98, 10, 99]⟩ : ByteArray) t169 t172 t173 t174 t175 _ A2.out).mono ?_); rintro e w26 ⟨v170, rfl, ho0, hb⟩; refine ⟨_, rfl, ?_⟩; have n0_ := Aside0.mk (Kd.S_elder' (by (with_reducible repeat (first | apply Kd.S_alloc | apply Kd.S_drewN | apply Kd.S_drew)); exact (Kd.S_mono (Kd.S_far (p := ⟨gb168, 3, none⟩) (Kd.S_far (p := ⟨gb168, 2, none⟩) (Kd.S_far (p := ⟨gb168, 1, none⟩) (Kd.S_far (p := ⟨gb168, 0, none⟩) (Kd.S_types HO163.out BK168.out (by decide)) (fun _ hk => hk.2) (.int .i64 t164)) (fun _ hk => hk.2) (.int .i64 t165)) (fun _ hk => hk.2) (.int .i64 t166)) (fun _ hk => hk.2) (.int .i64 t167)) (fun _ h_ => h_.1))) (Kd.S_base ho0) hb); have n1_ := Aside0.mk (Kd.S_lower (Kd.S_new' ho0 (Kd.S_lt (by (with_reducible repeat (first | apply Kd.S_alloc | apply Kd.S_drewN | apply Kd.S_drew)); exact (Kd.S_mono (Kd.S_far (p := ⟨gb168, 3, none⟩) (Kd.S_far (p := ⟨gb168, 2, none⟩) (Kd.S_far (p := ⟨gb168, 1, none⟩) (Kd.S_far (p := ⟨gb168, 0, none⟩) (Kd.S_types HO163.out BK168.out (by decide)) (fun _ hk => hk.2) (.int .i64 t164)) (fun _ hk => hk.2) (.int .i64 t165)) (fun _ hk => hk.2) (.int .i64 t166)) (fun _ hk => hk.2) (.int .i64 t167)) (fun _ h_ => h_.1))))) (below_size (by repeat (first | (with_reducible first | exact HB.out | apply below_alloc | apply pw_below_drewN | apply below_drew1 | refine below_set ?_ GE168.out) | exact HB.out)))); have n2_ := Aside0.mk (blk_below (g := gb168) (o := .cells #[.int .i64 t164, .int .i64 t165, .int .i64 t166, .int .i64 t167] 26 (0, 0)) (by (with_reducible repeat (first | refine blk_drewN ?_ _ | refine blk_drew ?_ | refine blk_alloc ?_ _)); refine blk_put (cs := #[.int .i64 t164, .int .i64 t165, .int .i64 t166, .int .i64 0]) ?_ 3 _ rfl; (with_reducible repeat (first | refine blk_drewN ?_ _ | refine blk_drew ?_ | refine blk_alloc ?_ _)); refine blk_put (cs := #[.int .i64 t164, .int .i64 t165, .int .i64 0, .int .i64 0]) ?_ 2 _ rfl; (with_reducible repeat (first | refine blk_drewN ?_ _ | refine blk_drew ?_ | refine blk_alloc ?_ _)); refine blk_put (cs := #[.int .i64 t164, .int .i64 0, .int .i64 0, .int .i64 0]) ?_ 1 _ rfl; (with_reducible repeat (first | refine blk_drewN ?_ _ | refine blk_drew ?_ | refine blk_alloc ?_ _)); refine blk_put (cs := #[.int .i64 0, .int .i64 0, .int .i64 0, .int .i64 0]) ?_ 0 _ rfl; (with_reducible repeat (first | refine blk_drewN ?_ _ | refine blk_drew ?_ | refine blk_alloc ?_ _)); exact BK168.out) hb); have n3_ := Aside0.mk (below_step (by repeat (first | (with_reducible first | exact HB.out | apply below_alloc | apply pw_below_drewN | apply below_drew1 | refine below_set ?_ GE168.out) | exact HB.out)) hb); clear HO163; clear BK168; clear HB; have HO163 := n0_; have HO171 := n1_; have BK168 := n2_; have HB := n3_; clear n0_ n1_ n2_ n3_; (try clear hb); (try clear hb2); (try clear hk); (try clear hi); (try clear ho0)) | ((with_reducible refine gate_dst (N := 4) rfl ?_); (try (refine gate_guard (by rfl) ?_; dsimp only)); refine box_event ?hg (N := 4) ?hd (cs := #[.int .i64 0, .int .i64 0, .int .i64 0, .int .i64 0]) (t := 26) ?hr ?_; (case hd => rfl); (case hg => rfl); (case hr => first | (go_simp; done) | (go_simp; rfl)); intro gb176 hg w27 hbox hb; have n0_ := Aside0.mk (Kd.S_below (by (with_reducible repeat (first | apply Kd.S_alloc | apply Kd.S_drewN | apply Kd.S_drew)); exact HO163.out) hb); have n1_ := Aside0.mk (Kd.S_below (by (with_reducible repeat (first | apply Kd.S_alloc | apply Kd.S_drewN | apply Kd.S_drew)); exact HO171.out) hb); have n2_ := Aside0.mk (blk_below (g := gb168) (o := .cells #[.int .i64 t164, .int .i64 t165, .int .i64 t166, .int .i64 t167] 26 (0, 0)) (by (with_reducible repeat (first | refine blk_drewN ?_ _ | refine blk_drew ?_ | refine blk_alloc ?_ _)); exact BK168.out) hb); have n3_ := Aside0.mk (below_step (by repeat (first | (with_reducible first | exact HB.out | apply below_alloc | apply pw_below_drewN | apply below_drew1 | refine below_set ?_ GE168.out) | exact HB.out)) hb); have n4_ := Aside0.mk (hbox); have n5_ := Aside0.mk ((by rw [hg]; exact (below_size (by repeat (first | (with_reducible first | exact HB.out | apply below_alloc | apply pw_below_drewN | apply below_drew1 | refine below_set ?_ GE168.out) | exact HB.out))) : w.heap.size ≤ gb176)); have n6_ := Aside0.mk ((by rw [hg]; exact (below_size (by repeat (first | (with_reducible first | exact HB.out | apply below_alloc | apply pw_below_drewN | apply below_drew1 | refine below_set ?_ GE168.out) | exact HB.out))) : w.heap.size ≤ gb176)); have n7_ := Aside0.mk ((by rw [hg]; exact Nat.ne_of_lt (blk_lt (g := gb168) (o := .cells #[.int .i64 t164, .int .i64 t165, .int .i64 t166, .int .i64 t167] 26 (0, 0)) (by (with_reducible repeat (first | refine blk_drewN ?_ _ | refine blk_drew ?_ | refine blk_alloc ?_ _)); exact BK168.out)) : gb168 ≠ gb176)); have n8_ := Aside0.mk ((by rw [hg]; exact Nat.ne_of_gt (blk_lt (g := gb168) (o := .cells #[.int .i64 t164, .int .i64 t165, .int .i64 t166, .int .i64 t167] 26 (0, 0)) (by (with_reducible repeat (first | refine blk_drewN ?_ _ | refine blk_drew ?_ | refine blk_alloc ?_ _)); exact BK168.out)) : gb176 ≠ gb168)); clear HO163; clear HO171; clear BK168; clear HB; have HO163 := n0_; have HO171 := n1_; have BK168 := n2_; have HB := n3_; have BK176 := n4_; have GW176 := n5_; have GE176 := n6_; have NB168_176 := n7_; have NB176_168 := n8_; clear n0_ n1_ n2_ n3_ n4_ n5_ n6_ n7_ n8_; clear hb hbox hg; have hnb28 := NB176_168.out; have hnc28 := NB168_176.out; have hcz29_0 : w27.cell? ⟨gb176, 0, none⟩ = some (.int .i64 0) := (blk_cell BK176.out 0).trans rfl; have hcz29_1 : w27.cell? ⟨gb176, 1, none⟩ = some (.int .i64 0) := (blk_cell BK176.out 1).trans rfl; have hcz29_2 : w27.cell? ⟨gb176, 2, none⟩ = some (.int .i64 0) := (blk_cell BK176.out 2).trans rfl; have hcz29_3 : w27.cell? ⟨gb176, 3, none⟩ = some (.int .i64 0) := (blk_cell BK176.out 3).trans rfl; have hfz29_0 := blk_frozen BK176.out 0; have hfz29_1 := blk_frozen BK176.out 1; have hfz29_2 := blk_frozen BK176.out 2; have hfz29_3 := blk_frozen BK176.out 3) | ((with_reducible refine gate_store (t := 26) (p := 4) rfl ?_); refine store_event (t := 26) (p := 4) (v := ?vo_w30) (w1 := ((((w27.setCell ⟨gb176, 0, none⟩ (.int .i64 t172)).setCell ⟨gb176, 1, none⟩ (.int .i64 t173)).setCell ⟨gb176, 2, none⟩ (.int .i64 t174)).setCell ⟨gb176, 3, none⟩ (.int .i64 t175))) ?hg ?ho ?hn ?hr ?_; (case ho => rfl); (case hg => rfl); (case hn => rfl); (case hr => first | (go_simp; done) | (go_simp; rfl)); intro w30 hw; have n0_ : Aside0 (Kd.S (Kd.slice 9 Kd.string) 29 w30 w.heap.size (fun k_ => some k_ ≠ (v170 : Value).ownBlock) v162 t161) := ⟨(by rw [hw]; exact (by (with_reducible repeat (first | apply Kd.S_alloc | apply Kd.S_drewN | apply Kd.S_drew)); exact Kd.S_mono (Kd.S_far (p := ⟨gb176, 3, none⟩) (Kd.S_far (p := ⟨gb176, 2, none⟩) (Kd.S_far (p := ⟨gb176, 1, none⟩) (Kd.S_far (p := ⟨gb176, 0, none⟩) (Kd.S_types HO163.out BK176.out (by decide)) (fun _ hk => hk.2) (.int .i64 t172)) (fun _ hk => hk.2) (.int .i64 t173)) (fun _ hk => hk.2) (.int .i64 t174)) (fun _ hk => hk.2) (.int .i64 t175)) (fun _ hk => hk.1.2)))⟩; have n1_ : Aside0 (Kd.S (Kd.slice 9 Kd.string) 29 w30 w.heap.size (fun k_ => some k_ ≠ (v162 : Value).ownBlock) v170 t169) := ⟨(by rw [hw]; exact (by (with_reducible repeat (first | apply Kd.S_alloc | apply Kd.S_drewN | apply Kd.S_drew)); exact Kd.S_mono (Kd.S_far (p := ⟨gb176, 3, none⟩) (Kd.S_far (p := ⟨gb176, 2, none⟩) (Kd.S_far (p := ⟨gb176, 1, none⟩) (Kd.S_far (p := ⟨gb176, 0, none⟩) (Kd.S_types HO171.out BK176.out (by decide)) (fun _ hk => hk.2) (.int .i64 t172)) (fun _ hk => hk.2) (.int .i64 t173)) (fun _ hk => hk.2) (.int .i64 t174)) (fun _ hk => hk.2) (.int .i64 t175)) (fun _ hk => hk.1.2)))⟩; have n2_ : Aside0 (w30.heap[gb168]? = some (.cells #[.int .i64 t164, .int .i64 t165, .int .i64 t166, .int .i64 t167] 26 (0, 0))) := ⟨(by rw [hw]; exact (by (with_reducible repeat (first | refine blk_drewN ?_ _ | refine blk_drew ?_ | refine blk_alloc ?_ _)); refine blk_far ?_ NB168_176.out _; (with_reducible repeat (first | refine blk_drewN ?_ _ | refine blk_drew ?_ | refine blk_alloc ?_ _)); refine blk_far ?_ NB168_176.out _; (with_reducible repeat (first | refine blk_drewN ?_ _ | refine blk_drew ?_ | refine blk_alloc ?_ _)); refine blk_far ?_ NB168_176.out _; (with_reducible repeat (first | refine blk_drewN ?_ _ | refine blk_drew ?_ | refine blk_alloc ?_ _)); refine blk_far ?_ NB168_176.out _; (with_reducible repeat (first | refine blk_drewN ?_ _ | refine blk_drew ?_ | refine blk_alloc ?_ _)); exact BK168.out))⟩; have n3_ : Aside0 (w30.heap[gb176]? = some (.cells #[.int .i64 t172, .int .i64 t173, .int .i64 t174, .int .i64 t175] 26 (0, 0))) := ⟨(by rw [hw]; exact (by (with_reducible repeat (first | refine blk_drewN ?_ _ | refine blk_drew ?_ | refine blk_alloc ?_ _)); refine blk_put (cs := #[.int .i64 t172, .int .i64 t173, .int .i64 t174, .int .i64 0]) ?_ 3 _ rfl; (with_reducible repeat (first | refine blk_drewN ?_ _ | refine blk_drew ?_ | refine blk_alloc ?_ _)); refine blk_put (cs := #[.int .i64 t172, .int .i64 t173, .int .i64 0, .int .i64 0]) ?_ 2 _ rfl; (with_reducible repeat (first | refine blk_drewN ?_ _ | refine blk_drew ?_ | refine blk_alloc ?_ _)); refine blk_put (cs := #[.int .i64 t172, .int .i64 0, .int .i64 0, .int .i64 0]) ?_ 1 _ rfl; (with_reducible repeat (first | refine blk_drewN ?_ _ | refine blk_drew ?_ | refine blk_alloc ?_ _)); refine blk_put (cs := #[.int .i64 0, .int .i64 0, .int .i64 0, .int .i64 0]) ?_ 0 _ rfl; (with_reducible repeat (first | refine blk_drewN ?_ _ | refine blk_drew ?_ | refine blk_alloc ?_ _)); exact BK176.out))⟩; have n4_ : Aside0 (Below w.heap.size w w30) := ⟨(by rw [hw]; exact (by repeat (first | (with_reducible first | exact HB.out | apply below_alloc | apply pw_below_drewN | apply below_drew1 | refine below_set ?_ GE168.out | refine below_set ?_ GE176.out) | exact HB.out)))⟩; clear hw; clear HO163; clear HO171; clear BK168; clear BK176; clear HB; have HO163 := n0_; have HO171 := n1_; have BK168 := n2_; have BK176 := n3_; have HB := n4_; clear n0_ n1_ n2_ n3_ n4_; have hcz31_0 : w30.cell? ⟨gb168, 0, none⟩ = some (.int .i64 t164) := (blk_cell BK168.out 0).trans rfl; have hcz31_1 : w30.cell? ⟨gb168, 1, none⟩ = some (.int .i64 t165) := (blk_cell BK168.out 1).trans rfl; have hcz31_2 : w30.cell? ⟨gb168, 2, none⟩ = some (.int .i64 t166) := (blk_cell BK168.out 2).trans rfl; have hcz31_3 : w30.cell? ⟨gb168, 3, none⟩ = some (.int .i64 t167) := (blk_cell BK168.out 3).trans rfl; have hfz31_0 := blk_frozen BK168.out 0; have hfz31_1 := blk_frozen BK168.out 1; have hfz31_2 := blk_frozen BK168.out 2; have hfz31_3 := blk_frozen BK168.out 3; obtain ⟨Ao32, co32, eo32⟩ := Kd.S_slice HO163.out; subst eo32; have p177 : 0 ≤ (0 : Int) := (by omega); have q177 : 0 < (t161.length : Int) := of_decide_eq_true (by first | (with_reducible assumption) | assumption); obtain ⟨ad177, A177_0, c177_0, e177, hx177_0, hl177_0, hi177_0⟩ := at_L4 (Kd.S_reads' HO163.out).2.2 0 p177 q177; cases e177; obtain ⟨ce177, hce177, hMe177, hcc177⟩ := Kd.S_get HO163.out [] 0 p177 (by first | exact q177 | exact of_decide_eq_true (by first | (with_reducible assumption) | assumption) | (have e_ := (Kd.S_reads' HO163.out).1; omega)); obtain ⟨ve177_0, rfl, ge177_0⟩ := hMe177; have hv177_0 := hcc177 0 _ rfl; rw [Nat.add_zero, show ((Kd.slice 9 Kd.string)).sz = 1 from rfl, Nat.mul_one] at hv177_0; replace hv177_0 := Option.some.inj (hv177_0.symm.trans hx177_0); rw [hv177_0] at ge177_0; have HL177_0 := Aside0.mk (show Kd.R Kd.string 9 _ _ _ _ (rd_L4 t161 0) from ge177_0); clear hv177_0 ge177_0; clear hcc177 hce177; have qi177 : (0 < t161.length) = True := eq_true (by omega); (try rw [show ((0 : Int)).toNat = 0 from rfl] at hx177_0); (try rw [Addr.add_zero'] at hx177_0); have HR177_0 := Aside0.mk hi177_0; have HC177_0 := Aside0.mk hl177_0; clear hi177_0 hl177_0; replace p177 := eq_true p177; replace q177 := eq_true q177; have p178 : 0 ≤ (0 : Int) := (by omega); have q178 : 0 < (t161.length : Int) := of_decide_eq_true (by first | (with_reducible assumption) | assumption); obtain ⟨ad178, A178_0, c178_0, e178, hx178_0, hl178_0, hi178_0⟩ := at_L4 (Kd.S_reads' HO163.out).2.2 0 p178 q178; obtain rfl : ad177 = ad178 := (by injection e178); obtain ⟨ce178, hce178, hMe178, hcc178⟩ := Kd.S_get HO163.out [] 0 p178 (by first | exact q178 | exact of_decide_eq_true (by first | (with_reducible assumption) | assumption) | (have e_ := (Kd.S_reads' HO163.out).1; omega)); obtain ⟨ve178_0, rfl, ge178_0⟩ := hMe178; have hv178_0 := hcc178 0 _ rfl; rw [Nat.add_zero, show ((Kd.slice 9 Kd.string)).sz = 1 from rfl, Nat.mul_one] at hv178_0; replace hv178_0 := Option.some.inj (hv178_0.symm.trans hx178_0); rw [hv178_0] at ge178_0; have HL178_0 := Aside0.mk (show Kd.R Kd.string 9 _ _ _ _ (rd_L4 t161 0) from ge178_0); clear hv178_0 ge178_0; clear hcc178 hce178; have qi178 : (0 < t161.length) = True := eq_true (by omega); (try rw [show ((0 : Int)).toNat = 0 from rfl] at hx178_0); (try rw [Addr.add_zero'] at hx178_0); have HR178_0 := Aside0.mk hi178_0; have HC178_0 := Aside0.mk hl178_0; clear hi178_0 hl178_0; replace p178 := eq_true p178; replace q178 := eq_true q178; have ea_ := Option.some.inj (hx177_0.symm.trans hx178_0); injection ea_ with ea_ en_ ec_; subst ea_; subst ec_; clear en_; have p179 : 0 ≤ (1 : Int) := (by omega); have q179 : 1 < ((rd_L4 t161 0).length : Int) := of_decide_eq_true (by first | (with_reducible assumption) | assumption); obtain ⟨ad179, e179, hx179_0⟩ := Kd.at_string (by repeat (first | (with_reducible exact HR178_0.out) | (with_reducible refine Kd.C_alloc ?_ _) | (with_reducible refine Kd.C_drewN ?_ _) | (with_reducible refine Kd.C_drew ?_) | exact HR178_0.out)) 1 p179 q179; cases e179; (try simp only [show (1 : Int).toNat = 1 from rfl, Nat.reduceMul, Nat.reduceEqDiff, Go.Addr.add, ↓reduceIte] at hx179_0); have qi179 : (1 < (rd_L4 t161 0).length) = True := eq_true (by omega); (try rw [show ((1 : Int)).toNat = 1 from rfl] at hx179_0); replace p179 := eq_true p179; replace q179 := eq_true q179; have hcz33_0 : w30.cell? ⟨gb176, 0, none⟩ = some (.int .i64 t172) := (blk_cell BK176.out 0).trans rfl; have hcz33_1 : w30.cell? ⟨gb176, 1, none⟩ = some (.int .i64 t173) := (blk_cell BK176.out 1).trans rfl; have hcz33_2 : w30.cell? ⟨gb176, 2, none⟩ = some (.int .i64 t174) := (blk_cell BK176.out 2).trans rfl; have hcz33_3 : w30.cell? ⟨gb176, 3, none⟩ = some (.int .i64 t175) := (blk_cell BK176.out 3).trans rfl; have hfz33_0 := blk_frozen BK176.out 0; have hfz33_1 := blk_frozen BK176.out 1; have hfz33_2 := blk_frozen BK176.out 2; have hfz33_3 := blk_frozen BK176.out 3))
        go_ret
        exact ⟨by first | rfl | (simp [errW_none, errW_some] <;> rfl) | (simp [*, errW_none, errW_some, bne]; done) | (simp [*, errW_none, errW_some] <;> rfl), by repeat (first | (with_reducible first | exact HB.out | apply below_alloc | apply pw_below_drewN | apply below_drew1 | refine below_set ?_ GE168.out | refine below_set ?_ GE176.out) | exact HB.out)⟩
      ·rw [if_neg c8] at H
       have c8b0 : ((rdOf ByteArray.empty (rd_L4 t161 0) 1).toList == ([98, 34, 99] : List UInt8)) = false := beq_eq_false_iff_ne.mpr c8
       have c8b1 : ((rdOf ByteArray.empty (rd_L4 t161 0) 1).toList != ([98, 34, 99] : List UInt8)) = true := bne_iff_ne.mpr c8
       obtain rfl := Option.some.inj H
       go_enter Try.func8, Try.ntmps8
       go_wp2_with (first | ((with_reducible refine gate_callee (f := 9) rfl ?_); refine goesL_ (some 6) rfl rfl Try.func9 (by kernel_rfl) rfl #[.string (⟨#[97, 44, 34, 98, 34, 34, 99, 34]⟩ : ByteArray)] rfl (by (try simp only [List.map_toArray, List.map_cons, List.map_nil]); first | done | rfl | (simp only [List.length_drop, List.length_take]; rfl)) ?_; (with_reducible refine (cread_Rows.calls (⟨#[97, 44, 34, 98, 34, 34, 99, 34]⟩ : ByteArray) t161 t164 t165 t166 t167 _ A1.out).mono ?_); rintro e w34 ⟨v162, rfl, ho0, hb⟩; refine ⟨_, rfl, ?_⟩; have n0_ := Aside0.mk (Kd.S_lower ho0 (below_size (by repeat (first | (with_reducible first | exact HB.out | apply below_alloc | apply pw_below_drewN | apply below_drew1) | exact HB.out)))); have n1_ := Aside0.mk (below_step (by repeat (first | (with_reducible first | exact HB.out | apply below_alloc | apply pw_below_drewN | apply below_drew1) | exact HB.out)) hb); clear HB; have HO163 := n0_; have HB := n1_; clear n0_ n1_; (try clear hb); (try clear hb2); (try clear hk); (try clear hi); (try clear ho0)) | ((with_reducible refine gate_dst (N := 2) rfl ?_); (try (refine gate_guard (by rfl) ?_; dsimp only)); refine box_event ?hg (N := 2) ?hd (cs := #[.int .i64 0, .int .i64 0, .int .i64 0, .int .i64 0]) (t := 26) ?hr ?_; (case hd => rfl); (case hg => rfl); (case hr => first | (go_simp; done) | (go_simp; rfl)); intro gb168 hg w35 hbox hb; have n0_ := Aside0.mk (Kd.S_below (by (with_reducible repeat (first | apply Kd.S_alloc | apply Kd.S_drewN | apply Kd.S_drew)); exact HO163.out) hb); have n1_ := Aside0.mk (below_step (by repeat (first | (with_reducible first | exact HB.out | apply below_alloc | apply pw_below_drewN | apply below_drew1) | exact HB.out)) hb); have n2_ := Aside0.mk (hbox); have n3_ := Aside0.mk ((by rw [hg]; exact (below_size (by repeat (first | (with_reducible first | exact HB.out | apply below_alloc | apply pw_below_drewN | apply below_drew1) | exact HB.out))) : w.heap.size ≤ gb168)); have n4_ := Aside0.mk ((by rw [hg]; exact (below_size (by repeat (first | (with_reducible first | exact HB.out | apply below_alloc | apply pw_below_drewN | apply below_drew1) | exact HB.out))) : w.heap.size ≤ gb168)); clear HO163; clear HB; have HO163 := n0_; have HB := n1_; have BK168 := n2_; have GW168 := n3_; have GE168 := n4_; clear n0_ n1_ n2_ n3_ n4_; clear hb hbox hg; have hcz36_0 : w35.cell? ⟨gb168, 0, none⟩ = some (.int .i64 0) := (blk_cell BK168.out 0).trans rfl; have hcz36_1 : w35.cell? ⟨gb168, 1, none⟩ = some (.int .i64 0) := (blk_cell BK168.out 1).trans rfl; have hcz36_2 : w35.cell? ⟨gb168, 2, none⟩ = some (.int .i64 0) := (blk_cell BK168.out 2).trans rfl; have hcz36_3 : w35.cell? ⟨gb168, 3, none⟩ = some (.int .i64 0) := (blk_cell BK168.out 3).trans rfl; have hfz36_0 := blk_frozen BK168.out 0; have hfz36_1 := blk_frozen BK168.out 1; have hfz36_2 := blk_frozen BK168.out 2; have hfz36_3 := blk_frozen BK168.out 3) | ((with_reducible refine gate_callee (f := 9) rfl ?_); refine goesL_ (some 10) rfl rfl Try.func9 (by kernel_rfl) rfl #[.string (⟨#[97, 44, 98, 10, 99]⟩ : ByteArray)] rfl (by (try simp only [List.map_toArray, List.map_cons, List.map_nil]); first | done | rfl | (simp only [List.length_drop, List.length_take]; rfl)) ?_; (with_reducible refine (cread_Rows.calls (⟨#[97, 44, 98, 10, 99]⟩ : ByteArray) t169 t172 t173 t174 t175 _ A2.out).mono ?_); rintro e w37 ⟨v170, rfl, ho0, hb⟩; refine ⟨_, rfl, ?_⟩; have n0_ := Aside0.mk (Kd.S_elder' (by (with_reducible repeat (first | apply Kd.S_alloc | apply Kd.S_drewN | apply Kd.S_drew)); exact (Kd.S_mono (Kd.S_far (p := ⟨gb168, 3, none⟩) (Kd.S_far (p := ⟨gb168, 2, none⟩) (Kd.S_far (p := ⟨gb168, 1, none⟩) (Kd.S_far (p := ⟨gb168, 0, none⟩) (Kd.S_types HO163.out BK168.out (by decide)) (fun _ hk => hk.2) (.int .i64 t164)) (fun _ hk => hk.2) (.int .i64 t165)) (fun _ hk => hk.2) (.int .i64 t166)) (fun _ hk => hk.2) (.int .i64 t167)) (fun _ h_ => h_.1))) (Kd.S_base ho0) hb); have n1_ := Aside0.mk (Kd.S_lower (Kd.S_new' ho0 (Kd.S_lt (by (with_reducible repeat (first | apply Kd.S_alloc | apply Kd.S_drewN | apply Kd.S_drew)); exact (Kd.S_mono (Kd.S_far (p := ⟨gb168, 3, none⟩) (Kd.S_far (p := ⟨gb168, 2, none⟩) (Kd.S_far (p := ⟨gb168, 1, none⟩) (Kd.S_far (p := ⟨gb168, 0, none⟩) (Kd.S_types HO163.out BK168.out (by decide)) (fun _ hk => hk.2) (.int .i64 t164)) (fun _ hk => hk.2) (.int .i64 t165)) (fun _ hk => hk.2) (.int .i64 t166)) (fun _ hk => hk.2) (.int .i64 t167)) (fun _ h_ => h_.1))))) (below_size (by repeat (first | (with_reducible first | exact HB.out | apply below_alloc | apply pw_below_drewN | apply below_drew1 | refine below_set ?_ GE168.out) | exact HB.out)))); have n2_ := Aside0.mk (blk_below (g := gb168) (o := .cells #[.int .i64 t164, .int .i64 t165, .int .i64 t166, .int .i64 t167] 26 (0, 0)) (by (with_reducible repeat (first | refine blk_drewN ?_ _ | refine blk_drew ?_ | refine blk_alloc ?_ _)); refine blk_put (cs := #[.int .i64 t164, .int .i64 t165, .int .i64 t166, .int .i64 0]) ?_ 3 _ rfl; (with_reducible repeat (first | refine blk_drewN ?_ _ | refine blk_drew ?_ | refine blk_alloc ?_ _)); refine blk_put (cs := #[.int .i64 t164, .int .i64 t165, .int .i64 0, .int .i64 0]) ?_ 2 _ rfl; (with_reducible repeat (first | refine blk_drewN ?_ _ | refine blk_drew ?_ | refine blk_alloc ?_ _)); refine blk_put (cs := #[.int .i64 t164, .int .i64 0, .int .i64 0, .int .i64 0]) ?_ 1 _ rfl; (with_reducible repeat (first | refine blk_drewN ?_ _ | refine blk_drew ?_ | refine blk_alloc ?_ _)); refine blk_put (cs := #[.int .i64 0, .int .i64 0, .int .i64 0, .int .i64 0]) ?_ 0 _ rfl; (with_reducible repeat (first | refine blk_drewN ?_ _ | refine blk_drew ?_ | refine blk_alloc ?_ _)); exact BK168.out) hb); have n3_ := Aside0.mk (below_step (by repeat (first | (with_reducible first | exact HB.out | apply below_alloc | apply pw_below_drewN | apply below_drew1 | refine below_set ?_ GE168.out) | exact HB.out)) hb); clear HO163; clear BK168; clear HB; have HO163 := n0_; have HO171 := n1_; have BK168 := n2_; have HB := n3_; clear n0_ n1_ n2_ n3_; (try clear hb); (try clear hb2); (try clear hk); (try clear hi); (try clear ho0)) | ((with_reducible refine gate_dst (N := 4) rfl ?_); (try (refine gate_guard (by rfl) ?_; dsimp only)); refine box_event ?hg (N := 4) ?hd (cs := #[.int .i64 0, .int .i64 0, .int .i64 0, .int .i64 0]) (t := 26) ?hr ?_; (case hd => rfl); (case hg => rfl); (case hr => first | (go_simp; done) | (go_simp; rfl)); intro gb176 hg w38 hbox hb; have n0_ := Aside0.mk (Kd.S_below (by (with_reducible repeat (first | apply Kd.S_alloc | apply Kd.S_drewN | apply Kd.S_drew)); exact HO163.out) hb); have n1_ := Aside0.mk (Kd.S_below (by (with_reducible repeat (first | apply Kd.S_alloc | apply Kd.S_drewN | apply Kd.S_drew)); exact HO171.out) hb); have n2_ := Aside0.mk (blk_below (g := gb168) (o := .cells #[.int .i64 t164, .int .i64 t165, .int .i64 t166, .int .i64 t167] 26 (0, 0)) (by (with_reducible repeat (first | refine blk_drewN ?_ _ | refine blk_drew ?_ | refine blk_alloc ?_ _)); exact BK168.out) hb); have n3_ := Aside0.mk (below_step (by repeat (first | (with_reducible first | exact HB.out | apply below_alloc | apply pw_below_drewN | apply below_drew1 | refine below_set ?_ GE168.out) | exact HB.out)) hb); have n4_ := Aside0.mk (hbox); have n5_ := Aside0.mk ((by rw [hg]; exact (below_size (by repeat (first | (with_reducible first | exact HB.out | apply below_alloc | apply pw_below_drewN | apply below_drew1 | refine below_set ?_ GE168.out) | exact HB.out))) : w.heap.size ≤ gb176)); have n6_ := Aside0.mk ((by rw [hg]; exact (below_size (by repeat (first | (with_reducible first | exact HB.out | apply below_alloc | apply pw_below_drewN | apply below_drew1 | refine below_set ?_ GE168.out) | exact HB.out))) : w.heap.size ≤ gb176)); have n7_ := Aside0.mk ((by rw [hg]; exact Nat.ne_of_lt (blk_lt (g := gb168) (o := .cells #[.int .i64 t164, .int .i64 t165, .int .i64 t166, .int .i64 t167] 26 (0, 0)) (by (with_reducible repeat (first | refine blk_drewN ?_ _ | refine blk_drew ?_ | refine blk_alloc ?_ _)); exact BK168.out)) : gb168 ≠ gb176)); have n8_ := Aside0.mk ((by rw [hg]; exact Nat.ne_of_gt (blk_lt (g := gb168) (o := .cells #[.int .i64 t164, .int .i64 t165, .int .i64 t166, .int .i64 t167] 26 (0, 0)) (by (with_reducible repeat (first | refine blk_drewN ?_ _ | refine blk_drew ?_ | refine blk_alloc ?_ _)); exact BK168.out)) : gb176 ≠ gb168)); clear HO163; clear HO171; clear BK168; clear HB; have HO163 := n0_; have HO171 := n1_; have BK168 := n2_; have HB := n3_; have BK176 := n4_; have GW176 := n5_; have GE176 := n6_; have NB168_176 := n7_; have NB176_168 := n8_; clear n0_ n1_ n2_ n3_ n4_ n5_ n6_ n7_ n8_; clear hb hbox hg; have hnb39 := NB176_168.out; have hnc39 := NB168_176.out; have hcz40_0 : w38.cell? ⟨gb176, 0, none⟩ = some (.int .i64 0) := (blk_cell BK176.out 0).trans rfl; have hcz40_1 : w38.cell? ⟨gb176, 1, none⟩ = some (.int .i64 0) := (blk_cell BK176.out 1).trans rfl; have hcz40_2 : w38.cell? ⟨gb176, 2, none⟩ = some (.int .i64 0) := (blk_cell BK176.out 2).trans rfl; have hcz40_3 : w38.cell? ⟨gb176, 3, none⟩ = some (.int .i64 0) := (blk_cell BK176.out 3).trans rfl; have hfz40_0 := blk_frozen BK176.out 0; have hfz40_1 := blk_frozen BK176.out 1; have hfz40_2 := blk_frozen BK176.out 2; have hfz40_3 := blk_frozen BK176.out 3) | ((with_reducible refine gate_store (t := 26) (p := 4) rfl ?_); refine store_event (t := 26) (p := 4) (v := ?vo_w41) (w1 := ((((w38.setCell ⟨gb176, 0, none⟩ (.int .i64 t172)).setCell ⟨gb176, 1, none⟩ (.int .i64 t173)).setCell ⟨gb176, 2, none⟩ (.int .i64 t174)).setCell ⟨gb176, 3, none⟩ (.int .i64 t175))) ?hg ?ho ?hn ?hr ?_; (case ho => rfl); (case hg => rfl); (case hn => rfl); (case hr => first | (go_simp; done) | (go_simp; rfl)); intro w41 hw; have n0_ : Aside0 (Kd.S (Kd.slice 9 Kd.string) 29 w41 w.heap.size (fun k_ => some k_ ≠ (v170 : Value).ownBlock) v162 t161) := ⟨(by rw [hw]; exact (by (with_reducible repeat (first | apply Kd.S_alloc | apply Kd.S_drewN | apply Kd.S_drew)); exact Kd.S_mono (Kd.S_far (p := ⟨gb176, 3, none⟩) (Kd.S_far (p := ⟨gb176, 2, none⟩) (Kd.S_far (p := ⟨gb176, 1, none⟩) (Kd.S_far (p := ⟨gb176, 0, none⟩) (Kd.S_types HO163.out BK176.out (by decide)) (fun _ hk => hk.2) (.int .i64 t172)) (fun _ hk => hk.2) (.int .i64 t173)) (fun _ hk => hk.2) (.int .i64 t174)) (fun _ hk => hk.2) (.int .i64 t175)) (fun _ hk => hk.1.2)))⟩; have n1_ : Aside0 (Kd.S (Kd.slice 9 Kd.string) 29 w41 w.heap.size (fun k_ => some k_ ≠ (v162 : Value).ownBlock) v170 t169) := ⟨(by rw [hw]; exact (by (with_reducible repeat (first | apply Kd.S_alloc | apply Kd.S_drewN | apply Kd.S_drew)); exact Kd.S_mono (Kd.S_far (p := ⟨gb176, 3, none⟩) (Kd.S_far (p := ⟨gb176, 2, none⟩) (Kd.S_far (p := ⟨gb176, 1, none⟩) (Kd.S_far (p := ⟨gb176, 0, none⟩) (Kd.S_types HO171.out BK176.out (by decide)) (fun _ hk => hk.2) (.int .i64 t172)) (fun _ hk => hk.2) (.int .i64 t173)) (fun _ hk => hk.2) (.int .i64 t174)) (fun _ hk => hk.2) (.int .i64 t175)) (fun _ hk => hk.1.2)))⟩; have n2_ : Aside0 (w41.heap[gb168]? = some (.cells #[.int .i64 t164, .int .i64 t165, .int .i64 t166, .int .i64 t167] 26 (0, 0))) := ⟨(by rw [hw]; exact (by (with_reducible repeat (first | refine blk_drewN ?_ _ | refine blk_drew ?_ | refine blk_alloc ?_ _)); refine blk_far ?_ NB168_176.out _; (with_reducible repeat (first | refine blk_drewN ?_ _ | refine blk_drew ?_ | refine blk_alloc ?_ _)); refine blk_far ?_ NB168_176.out _; (with_reducible repeat (first | refine blk_drewN ?_ _ | refine blk_drew ?_ | refine blk_alloc ?_ _)); refine blk_far ?_ NB168_176.out _; (with_reducible repeat (first | refine blk_drewN ?_ _ | refine blk_drew ?_ | refine blk_alloc ?_ _)); refine blk_far ?_ NB168_176.out _; (with_reducible repeat (first | refine blk_drewN ?_ _ | refine blk_drew ?_ | refine blk_alloc ?_ _)); exact BK168.out))⟩; have n3_ : Aside0 (w41.heap[gb176]? = some (.cells #[.int .i64 t172, .int .i64 t173, .int .i64 t174, .int .i64 t175] 26 (0, 0))) := ⟨(by rw [hw]; exact (by (with_reducible repeat (first | refine blk_drewN ?_ _ | refine blk_drew ?_ | refine blk_alloc ?_ _)); refine blk_put (cs := #[.int .i64 t172, .int .i64 t173, .int .i64 t174, .int .i64 0]) ?_ 3 _ rfl; (with_reducible repeat (first | refine blk_drewN ?_ _ | refine blk_drew ?_ | refine blk_alloc ?_ _)); refine blk_put (cs := #[.int .i64 t172, .int .i64 t173, .int .i64 0, .int .i64 0]) ?_ 2 _ rfl; (with_reducible repeat (first | refine blk_drewN ?_ _ | refine blk_drew ?_ | refine blk_alloc ?_ _)); refine blk_put (cs := #[.int .i64 t172, .int .i64 0, .int .i64 0, .int .i64 0]) ?_ 1 _ rfl; (with_reducible repeat (first | refine blk_drewN ?_ _ | refine blk_drew ?_ | refine blk_alloc ?_ _)); refine blk_put (cs := #[.int .i64 0, .int .i64 0, .int .i64 0, .int .i64 0]) ?_ 0 _ rfl; (with_reducible repeat (first | refine blk_drewN ?_ _ | refine blk_drew ?_ | refine blk_alloc ?_ _)); exact BK176.out))⟩; have n4_ : Aside0 (Below w.heap.size w w41) := ⟨(by rw [hw]; exact (by repeat (first | (with_reducible first | exact HB.out | apply below_alloc | apply pw_below_drewN | apply below_drew1 | refine below_set ?_ GE168.out | refine below_set ?_ GE176.out) | exact HB.out)))⟩; clear hw; clear HO163; clear HO171; clear BK168; clear BK176; clear HB; have HO163 := n0_; have HO171 := n1_; have BK168 := n2_; have BK176 := n3_; have HB := n4_; clear n0_ n1_ n2_ n3_ n4_; have hcz42_0 : w41.cell? ⟨gb168, 0, none⟩ = some (.int .i64 t164) := (blk_cell BK168.out 0).trans rfl; have hcz42_1 : w41.cell? ⟨gb168, 1, none⟩ = some (.int .i64 t165) := (blk_cell BK168.out 1).trans rfl; have hcz42_2 : w41.cell? ⟨gb168, 2, none⟩ = some (.int .i64 t166) := (blk_cell BK168.out 2).trans rfl; have hcz42_3 : w41.cell? ⟨gb168, 3, none⟩ = some (.int .i64 t167) := (blk_cell BK168.out 3).trans rfl; have hfz42_0 := blk_frozen BK168.out 0; have hfz42_1 := blk_frozen BK168.out 1; have hfz42_2 := blk_frozen BK168.out 2; have hfz42_3 := blk_frozen BK168.out 3; obtain ⟨Ao43, co43, eo43⟩ := Kd.S_slice HO163.out; subst eo43; have p177 : 0 ≤ (0 : Int) := (by omega); have q177 : 0 < (t161.length : Int) := of_decide_eq_true (by first | (with_reducible assumption) | assumption); obtain ⟨ad177, A177_0, c177_0, e177, hx177_0, hl177_0, hi177_0⟩ := at_L4 (Kd.S_reads' HO163.out).2.2 0 p177 q177; cases e177; obtain ⟨ce177, hce177, hMe177, hcc177⟩ := Kd.S_get HO163.out [] 0 p177 (by first | exact q177 | exact of_decide_eq_true (by first | (with_reducible assumption) | assumption) | (have e_ := (Kd.S_reads' HO163.out).1; omega)); obtain ⟨ve177_0, rfl, ge177_0⟩ := hMe177; have hv177_0 := hcc177 0 _ rfl; rw [Nat.add_zero, show ((Kd.slice 9 Kd.string)).sz = 1 from rfl, Nat.mul_one] at hv177_0; replace hv177_0 := Option.some.inj (hv177_0.symm.trans hx177_0); rw [hv177_0] at ge177_0; have HL177_0 := Aside0.mk (show Kd.R Kd.string 9 _ _ _ _ (rd_L4 t161 0) from ge177_0); clear hv177_0 ge177_0; clear hcc177 hce177; have qi177 : (0 < t161.length) = True := eq_true (by omega); (try rw [show ((0 : Int)).toNat = 0 from rfl] at hx177_0); (try rw [Addr.add_zero'] at hx177_0); have HR177_0 := Aside0.mk hi177_0; have HC177_0 := Aside0.mk hl177_0; clear hi177_0 hl177_0; replace p177 := eq_true p177; replace q177 := eq_true q177; have p178 : 0 ≤ (0 : Int) := (by omega); have q178 : 0 < (t161.length : Int) := of_decide_eq_true (by first | (with_reducible assumption) | assumption); obtain ⟨ad178, A178_0, c178_0, e178, hx178_0, hl178_0, hi178_0⟩ := at_L4 (Kd.S_reads' HO163.out).2.2 0 p178 q178; obtain rfl : ad177 = ad178 := (by injection e178); obtain ⟨ce178, hce178, hMe178, hcc178⟩ := Kd.S_get HO163.out [] 0 p178 (by first | exact q178 | exact of_decide_eq_true (by first | (with_reducible assumption) | assumption) | (have e_ := (Kd.S_reads' HO163.out).1; omega)); obtain ⟨ve178_0, rfl, ge178_0⟩ := hMe178; have hv178_0 := hcc178 0 _ rfl; rw [Nat.add_zero, show ((Kd.slice 9 Kd.string)).sz = 1 from rfl, Nat.mul_one] at hv178_0; replace hv178_0 := Option.some.inj (hv178_0.symm.trans hx178_0); rw [hv178_0] at ge178_0; have HL178_0 := Aside0.mk (show Kd.R Kd.string 9 _ _ _ _ (rd_L4 t161 0) from ge178_0); clear hv178_0 ge178_0; clear hcc178 hce178; have qi178 : (0 < t161.length) = True := eq_true (by omega); (try rw [show ((0 : Int)).toNat = 0 from rfl] at hx178_0); (try rw [Addr.add_zero'] at hx178_0); have HR178_0 := Aside0.mk hi178_0; have HC178_0 := Aside0.mk hl178_0; clear hi178_0 hl178_0; replace p178 := eq_true p178; replace q178 := eq_true q178; have ea_ := Option.some.inj (hx177_0.symm.trans hx178_0); injection ea_ with ea_ en_ ec_; subst ea_; subst ec_; clear en_; have p179 : 0 ≤ (1 : Int) := (by omega); have q179 : 1 < ((rd_L4 t161 0).length : Int) := of_decide_eq_true (by first | (with_reducible assumption) | assumption); obtain ⟨ad179, e179, hx179_0⟩ := Kd.at_string (by repeat (first | (with_reducible exact HR178_0.out) | (with_reducible refine Kd.C_alloc ?_ _) | (with_reducible refine Kd.C_drewN ?_ _) | (with_reducible refine Kd.C_drew ?_) | exact HR178_0.out)) 1 p179 q179; cases e179; (try simp only [show (1 : Int).toNat = 1 from rfl, Nat.reduceMul, Nat.reduceEqDiff, Go.Addr.add, ↓reduceIte] at hx179_0); have qi179 : (1 < (rd_L4 t161 0).length) = True := eq_true (by omega); (try rw [show ((1 : Int)).toNat = 1 from rfl] at hx179_0); replace p179 := eq_true p179; replace q179 := eq_true q179))
       go_ret
       exact ⟨by first | rfl | (simp [errW_none, errW_some] <;> rfl) | (simp [*, errW_none, errW_some, bne]; done) | (simp [*, errW_none, errW_some] <;> rfl), by repeat (first | (with_reducible first | exact HB.out | apply below_alloc | apply pw_below_drewN | apply below_drew1 | refine below_set ?_ GE168.out | refine below_set ?_ GE176.out) | exact HB.out)⟩
     ·rw [if_neg c7] at H
      exact absurd H (by simp)
    ·rw [if_neg c6] at H
     have c6b0 : (((rd_L4 t161 0).length : Int) == 2) = false := beq_eq_false_iff_ne.mpr c6
     have c6b1 : (((rd_L4 t161 0).length : Int) != 2) = true := bne_iff_ne.mpr c6
     obtain rfl := Option.some.inj H
     go_enter Try.func8, Try.ntmps8
     go_wp2_with (first | ((with_reducible refine gate_callee (f := 9) rfl ?_); refine goesL_ (some 6) rfl rfl Try.func9 (by kernel_rfl) rfl #[.string (⟨#[97, 44, 34, 98, 34, 34, 99, 34]⟩ : ByteArray)] rfl (by (try simp only [List.map_toArray, List.map_cons, List.map_nil]); first | done | rfl | (simp only [List.length_drop, List.length_take]; rfl)) ?_; (with_reducible refine (cread_Rows.calls (⟨#[97, 44, 34, 98, 34, 34, 99, 34]⟩ : ByteArray) t161 t164 t165 t166 t167 _ A1.out).mono ?_); rintro e w44 ⟨v162, rfl, ho0, hb⟩; refine ⟨_, rfl, ?_⟩; have n0_ := Aside0.mk (Kd.S_lower ho0 (below_size (by repeat (first | (with_reducible first | exact HB.out | apply below_alloc | apply pw_below_drewN | apply below_drew1) | exact HB.out)))); have n1_ := Aside0.mk (below_step (by repeat (first | (with_reducible first | exact HB.out | apply below_alloc | apply pw_below_drewN | apply below_drew1) | exact HB.out)) hb); clear HB; have HO163 := n0_; have HB := n1_; clear n0_ n1_; (try clear hb); (try clear hb2); (try clear hk); (try clear hi); (try clear ho0)) | ((with_reducible refine gate_dst (N := 2) rfl ?_); (try (refine gate_guard (by rfl) ?_; dsimp only)); refine box_event ?hg (N := 2) ?hd (cs := #[.int .i64 0, .int .i64 0, .int .i64 0, .int .i64 0]) (t := 26) ?hr ?_; (case hd => rfl); (case hg => rfl); (case hr => first | (go_simp; done) | (go_simp; rfl)); intro gb168 hg w45 hbox hb; have n0_ := Aside0.mk (Kd.S_below (by (with_reducible repeat (first | apply Kd.S_alloc | apply Kd.S_drewN | apply Kd.S_drew)); exact HO163.out) hb); have n1_ := Aside0.mk (below_step (by repeat (first | (with_reducible first | exact HB.out | apply below_alloc | apply pw_below_drewN | apply below_drew1) | exact HB.out)) hb); have n2_ := Aside0.mk (hbox); have n3_ := Aside0.mk ((by rw [hg]; exact (below_size (by repeat (first | (with_reducible first | exact HB.out | apply below_alloc | apply pw_below_drewN | apply below_drew1) | exact HB.out))) : w.heap.size ≤ gb168)); have n4_ := Aside0.mk ((by rw [hg]; exact (below_size (by repeat (first | (with_reducible first | exact HB.out | apply below_alloc | apply pw_below_drewN | apply below_drew1) | exact HB.out))) : w.heap.size ≤ gb168)); clear HO163; clear HB; have HO163 := n0_; have HB := n1_; have BK168 := n2_; have GW168 := n3_; have GE168 := n4_; clear n0_ n1_ n2_ n3_ n4_; clear hb hbox hg; have hcz46_0 : w45.cell? ⟨gb168, 0, none⟩ = some (.int .i64 0) := (blk_cell BK168.out 0).trans rfl; have hcz46_1 : w45.cell? ⟨gb168, 1, none⟩ = some (.int .i64 0) := (blk_cell BK168.out 1).trans rfl; have hcz46_2 : w45.cell? ⟨gb168, 2, none⟩ = some (.int .i64 0) := (blk_cell BK168.out 2).trans rfl; have hcz46_3 : w45.cell? ⟨gb168, 3, none⟩ = some (.int .i64 0) := (blk_cell BK168.out 3).trans rfl; have hfz46_0 := blk_frozen BK168.out 0; have hfz46_1 := blk_frozen BK168.out 1; have hfz46_2 := blk_frozen BK168.out 2; have hfz46_3 := blk_frozen BK168.out 3) | ((with_reducible refine gate_callee (f := 9) rfl ?_); refine goesL_ (some 10) rfl rfl Try.func9 (by kernel_rfl) rfl #[.string (⟨#[97, 44, 98, 10, 99]⟩ : ByteArray)] rfl (by (try simp only [List.map_toArray, List.map_cons, List.map_nil]); first | done | rfl | (simp only [List.length_drop, List.length_take]; rfl)) ?_; (with_reducible refine (cread_Rows.calls (⟨#[97, 44, 98, 10, 99]⟩ : ByteArray) t169 t172 t173 t174 t175 _ A2.out).mono ?_); rintro e w47 ⟨v170, rfl, ho0, hb⟩; refine ⟨_, rfl, ?_⟩; have n0_ := Aside0.mk (Kd.S_elder' (by (with_reducible repeat (first | apply Kd.S_alloc | apply Kd.S_drewN | apply Kd.S_drew)); exact (Kd.S_mono (Kd.S_far (p := ⟨gb168, 3, none⟩) (Kd.S_far (p := ⟨gb168, 2, none⟩) (Kd.S_far (p := ⟨gb168, 1, none⟩) (Kd.S_far (p := ⟨gb168, 0, none⟩) (Kd.S_types HO163.out BK168.out (by decide)) (fun _ hk => hk.2) (.int .i64 t164)) (fun _ hk => hk.2) (.int .i64 t165)) (fun _ hk => hk.2) (.int .i64 t166)) (fun _ hk => hk.2) (.int .i64 t167)) (fun _ h_ => h_.1))) (Kd.S_base ho0) hb); have n1_ := Aside0.mk (Kd.S_lower (Kd.S_new' ho0 (Kd.S_lt (by (with_reducible repeat (first | apply Kd.S_alloc | apply Kd.S_drewN | apply Kd.S_drew)); exact (Kd.S_mono (Kd.S_far (p := ⟨gb168, 3, none⟩) (Kd.S_far (p := ⟨gb168, 2, none⟩) (Kd.S_far (p := ⟨gb168, 1, none⟩) (Kd.S_far (p := ⟨gb168, 0, none⟩) (Kd.S_types HO163.out BK168.out (by decide)) (fun _ hk => hk.2) (.int .i64 t164)) (fun _ hk => hk.2) (.int .i64 t165)) (fun _ hk => hk.2) (.int .i64 t166)) (fun _ hk => hk.2) (.int .i64 t167)) (fun _ h_ => h_.1))))) (below_size (by repeat (first | (with_reducible first | exact HB.out | apply below_alloc | apply pw_below_drewN | apply below_drew1 | refine below_set ?_ GE168.out) | exact HB.out)))); have n2_ := Aside0.mk (blk_below (g := gb168) (o := .cells #[.int .i64 t164, .int .i64 t165, .int .i64 t166, .int .i64 t167] 26 (0, 0)) (by (with_reducible repeat (first | refine blk_drewN ?_ _ | refine blk_drew ?_ | refine blk_alloc ?_ _)); refine blk_put (cs := #[.int .i64 t164, .int .i64 t165, .int .i64 t166, .int .i64 0]) ?_ 3 _ rfl; (with_reducible repeat (first | refine blk_drewN ?_ _ | refine blk_drew ?_ | refine blk_alloc ?_ _)); refine blk_put (cs := #[.int .i64 t164, .int .i64 t165, .int .i64 0, .int .i64 0]) ?_ 2 _ rfl; (with_reducible repeat (first | refine blk_drewN ?_ _ | refine blk_drew ?_ | refine blk_alloc ?_ _)); refine blk_put (cs := #[.int .i64 t164, .int .i64 0, .int .i64 0, .int .i64 0]) ?_ 1 _ rfl; (with_reducible repeat (first | refine blk_drewN ?_ _ | refine blk_drew ?_ | refine blk_alloc ?_ _)); refine blk_put (cs := #[.int .i64 0, .int .i64 0, .int .i64 0, .int .i64 0]) ?_ 0 _ rfl; (with_reducible repeat (first | refine blk_drewN ?_ _ | refine blk_drew ?_ | refine blk_alloc ?_ _)); exact BK168.out) hb); have n3_ := Aside0.mk (below_step (by repeat (first | (with_reducible first | exact HB.out | apply below_alloc | apply pw_below_drewN | apply below_drew1 | refine below_set ?_ GE168.out) | exact HB.out)) hb); clear HO163; clear BK168; clear HB; have HO163 := n0_; have HO171 := n1_; have BK168 := n2_; have HB := n3_; clear n0_ n1_ n2_ n3_; (try clear hb); (try clear hb2); (try clear hk); (try clear hi); (try clear ho0)) | ((with_reducible refine gate_dst (N := 4) rfl ?_); (try (refine gate_guard (by rfl) ?_; dsimp only)); refine box_event ?hg (N := 4) ?hd (cs := #[.int .i64 0, .int .i64 0, .int .i64 0, .int .i64 0]) (t := 26) ?hr ?_; (case hd => rfl); (case hg => rfl); (case hr => first | (go_simp; done) | (go_simp; rfl)); intro gb176 hg w48 hbox hb; have n0_ := Aside0.mk (Kd.S_below (by (with_reducible repeat (first | apply Kd.S_alloc | apply Kd.S_drewN | apply Kd.S_drew)); exact HO163.out) hb); have n1_ := Aside0.mk (Kd.S_below (by (with_reducible repeat (first | apply Kd.S_alloc | apply Kd.S_drewN | apply Kd.S_drew)); exact HO171.out) hb); have n2_ := Aside0.mk (blk_below (g := gb168) (o := .cells #[.int .i64 t164, .int .i64 t165, .int .i64 t166, .int .i64 t167] 26 (0, 0)) (by (with_reducible repeat (first | refine blk_drewN ?_ _ | refine blk_drew ?_ | refine blk_alloc ?_ _)); exact BK168.out) hb); have n3_ := Aside0.mk (below_step (by repeat (first | (with_reducible first | exact HB.out | apply below_alloc | apply pw_below_drewN | apply below_drew1 | refine below_set ?_ GE168.out) | exact HB.out)) hb); have n4_ := Aside0.mk (hbox); have n5_ := Aside0.mk ((by rw [hg]; exact (below_size (by repeat (first | (with_reducible first | exact HB.out | apply below_alloc | apply pw_below_drewN | apply below_drew1 | refine below_set ?_ GE168.out) | exact HB.out))) : w.heap.size ≤ gb176)); have n6_ := Aside0.mk ((by rw [hg]; exact (below_size (by repeat (first | (with_reducible first | exact HB.out | apply below_alloc | apply pw_below_drewN | apply below_drew1 | refine below_set ?_ GE168.out) | exact HB.out))) : w.heap.size ≤ gb176)); have n7_ := Aside0.mk ((by rw [hg]; exact Nat.ne_of_lt (blk_lt (g := gb168) (o := .cells #[.int .i64 t164, .int .i64 t165, .int .i64 t166, .int .i64 t167] 26 (0, 0)) (by (with_reducible repeat (first | refine blk_drewN ?_ _ | refine blk_drew ?_ | refine blk_alloc ?_ _)); exact BK168.out)) : gb168 ≠ gb176)); have n8_ := Aside0.mk ((by rw [hg]; exact Nat.ne_of_gt (blk_lt (g := gb168) (o := .cells #[.int .i64 t164, .int .i64 t165, .int .i64 t166, .int .i64 t167] 26 (0, 0)) (by (with_reducible repeat (first | refine blk_drewN ?_ _ | refine blk_drew ?_ | refine blk_alloc ?_ _)); exact BK168.out)) : gb176 ≠ gb168)); clear HO163; clear HO171; clear BK168; clear HB; have HO163 := n0_; have HO171 := n1_; have BK168 := n2_; have HB := n3_; have BK176 := n4_; have GW176 := n5_; have GE176 := n6_; have NB168_176 := n7_; have NB176_168 := n8_; clear n0_ n1_ n2_ n3_ n4_ n5_ n6_ n7_ n8_; clear hb hbox hg; have hnb49 := NB176_168.out; have hnc49 := NB168_176.out; have hcz50_0 : w48.cell? ⟨gb176, 0, none⟩ = some (.int .i64 0) := (blk_cell BK176.out 0).trans rfl; have hcz50_1 : w48.cell? ⟨gb176, 1, none⟩ = some (.int .i64 0) := (blk_cell BK176.out 1).trans rfl; have hcz50_2 : w48.cell? ⟨gb176, 2, none⟩ = some (.int .i64 0) := (blk_cell BK176.out 2).trans rfl; have hcz50_3 : w48.cell? ⟨gb176, 3, none⟩ = some (.int .i64 0) := (blk_cell BK176.out 3).trans rfl; have hfz50_0 := blk_frozen BK176.out 0; have hfz50_1 := blk_frozen BK176.out 1; have hfz50_2 := blk_frozen BK176.out 2; have hfz50_3 := blk_frozen BK176.out 3) | ((with_reducible refine gate_store (t := 26) (p := 4) rfl ?_); refine store_event (t := 26) (p := 4) (v := ?vo_w51) (w1 := ((((w48.setCell ⟨gb176, 0, none⟩ (.int .i64 t172)).setCell ⟨gb176, 1, none⟩ (.int .i64 t173)).setCell ⟨gb176, 2, none⟩ (.int .i64 t174)).setCell ⟨gb176, 3, none⟩ (.int .i64 t175))) ?hg ?ho ?hn ?hr ?_; (case ho => rfl); (case hg => rfl); (case hn => rfl); (case hr => first | (go_simp; done) | (go_simp; rfl)); intro w51 hw; have n0_ : Aside0 (Kd.S (Kd.slice 9 Kd.string) 29 w51 w.heap.size (fun k_ => some k_ ≠ (v170 : Value).ownBlock) v162 t161) := ⟨(by rw [hw]; exact (by (with_reducible repeat (first | apply Kd.S_alloc | apply Kd.S_drewN | apply Kd.S_drew)); exact Kd.S_mono (Kd.S_far (p := ⟨gb176, 3, none⟩) (Kd.S_far (p := ⟨gb176, 2, none⟩) (Kd.S_far (p := ⟨gb176, 1, none⟩) (Kd.S_far (p := ⟨gb176, 0, none⟩) (Kd.S_types HO163.out BK176.out (by decide)) (fun _ hk => hk.2) (.int .i64 t172)) (fun _ hk => hk.2) (.int .i64 t173)) (fun _ hk => hk.2) (.int .i64 t174)) (fun _ hk => hk.2) (.int .i64 t175)) (fun _ hk => hk.1.2)))⟩; have n1_ : Aside0 (Kd.S (Kd.slice 9 Kd.string) 29 w51 w.heap.size (fun k_ => some k_ ≠ (v162 : Value).ownBlock) v170 t169) := ⟨(by rw [hw]; exact (by (with_reducible repeat (first | apply Kd.S_alloc | apply Kd.S_drewN | apply Kd.S_drew)); exact Kd.S_mono (Kd.S_far (p := ⟨gb176, 3, none⟩) (Kd.S_far (p := ⟨gb176, 2, none⟩) (Kd.S_far (p := ⟨gb176, 1, none⟩) (Kd.S_far (p := ⟨gb176, 0, none⟩) (Kd.S_types HO171.out BK176.out (by decide)) (fun _ hk => hk.2) (.int .i64 t172)) (fun _ hk => hk.2) (.int .i64 t173)) (fun _ hk => hk.2) (.int .i64 t174)) (fun _ hk => hk.2) (.int .i64 t175)) (fun _ hk => hk.1.2)))⟩; have n2_ : Aside0 (w51.heap[gb168]? = some (.cells #[.int .i64 t164, .int .i64 t165, .int .i64 t166, .int .i64 t167] 26 (0, 0))) := ⟨(by rw [hw]; exact (by (with_reducible repeat (first | refine blk_drewN ?_ _ | refine blk_drew ?_ | refine blk_alloc ?_ _)); refine blk_far ?_ NB168_176.out _; (with_reducible repeat (first | refine blk_drewN ?_ _ | refine blk_drew ?_ | refine blk_alloc ?_ _)); refine blk_far ?_ NB168_176.out _; (with_reducible repeat (first | refine blk_drewN ?_ _ | refine blk_drew ?_ | refine blk_alloc ?_ _)); refine blk_far ?_ NB168_176.out _; (with_reducible repeat (first | refine blk_drewN ?_ _ | refine blk_drew ?_ | refine blk_alloc ?_ _)); refine blk_far ?_ NB168_176.out _; (with_reducible repeat (first | refine blk_drewN ?_ _ | refine blk_drew ?_ | refine blk_alloc ?_ _)); exact BK168.out))⟩; have n3_ : Aside0 (w51.heap[gb176]? = some (.cells #[.int .i64 t172, .int .i64 t173, .int .i64 t174, .int .i64 t175] 26 (0, 0))) := ⟨(by rw [hw]; exact (by (with_reducible repeat (first | refine blk_drewN ?_ _ | refine blk_drew ?_ | refine blk_alloc ?_ _)); refine blk_put (cs := #[.int .i64 t172, .int .i64 t173, .int .i64 t174, .int .i64 0]) ?_ 3 _ rfl; (with_reducible repeat (first | refine blk_drewN ?_ _ | refine blk_drew ?_ | refine blk_alloc ?_ _)); refine blk_put (cs := #[.int .i64 t172, .int .i64 t173, .int .i64 0, .int .i64 0]) ?_ 2 _ rfl; (with_reducible repeat (first | refine blk_drewN ?_ _ | refine blk_drew ?_ | refine blk_alloc ?_ _)); refine blk_put (cs := #[.int .i64 t172, .int .i64 0, .int .i64 0, .int .i64 0]) ?_ 1 _ rfl; (with_reducible repeat (first | refine blk_drewN ?_ _ | refine blk_drew ?_ | refine blk_alloc ?_ _)); refine blk_put (cs := #[.int .i64 0, .int .i64 0, .int .i64 0, .int .i64 0]) ?_ 0 _ rfl; (with_reducible repeat (first | refine blk_drewN ?_ _ | refine blk_drew ?_ | refine blk_alloc ?_ _)); exact BK176.out))⟩; have n4_ : Aside0 (Below w.heap.size w w51) := ⟨(by rw [hw]; exact (by repeat (first | (with_reducible first | exact HB.out | apply below_alloc | apply pw_below_drewN | apply below_drew1 | refine below_set ?_ GE168.out | refine below_set ?_ GE176.out) | exact HB.out)))⟩; clear hw; clear HO163; clear HO171; clear BK168; clear BK176; clear HB; have HO163 := n0_; have HO171 := n1_; have BK168 := n2_; have BK176 := n3_; have HB := n4_; clear n0_ n1_ n2_ n3_ n4_; have hcz52_0 : w51.cell? ⟨gb168, 0, none⟩ = some (.int .i64 t164) := (blk_cell BK168.out 0).trans rfl; have hcz52_1 : w51.cell? ⟨gb168, 1, none⟩ = some (.int .i64 t165) := (blk_cell BK168.out 1).trans rfl; have hcz52_2 : w51.cell? ⟨gb168, 2, none⟩ = some (.int .i64 t166) := (blk_cell BK168.out 2).trans rfl; have hcz52_3 : w51.cell? ⟨gb168, 3, none⟩ = some (.int .i64 t167) := (blk_cell BK168.out 3).trans rfl; have hfz52_0 := blk_frozen BK168.out 0; have hfz52_1 := blk_frozen BK168.out 1; have hfz52_2 := blk_frozen BK168.out 2; have hfz52_3 := blk_frozen BK168.out 3; obtain ⟨Ao53, co53, eo53⟩ := Kd.S_slice HO163.out; subst eo53; have p177 : 0 ≤ (0 : Int) := (by omega); have q177 : 0 < (t161.length : Int) := of_decide_eq_true (by first | (with_reducible assumption) | assumption); obtain ⟨ad177, A177_0, c177_0, e177, hx177_0, hl177_0, hi177_0⟩ := at_L4 (Kd.S_reads' HO163.out).2.2 0 p177 q177; cases e177; obtain ⟨ce177, hce177, hMe177, hcc177⟩ := Kd.S_get HO163.out [] 0 p177 (by first | exact q177 | exact of_decide_eq_true (by first | (with_reducible assumption) | assumption) | (have e_ := (Kd.S_reads' HO163.out).1; omega)); obtain ⟨ve177_0, rfl, ge177_0⟩ := hMe177; have hv177_0 := hcc177 0 _ rfl; rw [Nat.add_zero, show ((Kd.slice 9 Kd.string)).sz = 1 from rfl, Nat.mul_one] at hv177_0; replace hv177_0 := Option.some.inj (hv177_0.symm.trans hx177_0); rw [hv177_0] at ge177_0; have HL177_0 := Aside0.mk (show Kd.R Kd.string 9 _ _ _ _ (rd_L4 t161 0) from ge177_0); clear hv177_0 ge177_0; clear hcc177 hce177; have qi177 : (0 < t161.length) = True := eq_true (by omega); (try rw [show ((0 : Int)).toNat = 0 from rfl] at hx177_0); (try rw [Addr.add_zero'] at hx177_0); have HR177_0 := Aside0.mk hi177_0; have HC177_0 := Aside0.mk hl177_0; clear hi177_0 hl177_0; replace p177 := eq_true p177; replace q177 := eq_true q177))
     go_ret
     exact ⟨by first | rfl | (simp [errW_none, errW_some] <;> rfl) | (simp [*, errW_none, errW_some, bne]; done) | (simp [*, errW_none, errW_some] <;> rfl), by repeat (first | (with_reducible first | exact HB.out | apply below_alloc | apply pw_below_drewN | apply below_drew1 | refine below_set ?_ GE168.out | refine below_set ?_ GE176.out) | exact HB.out)⟩
   ·rw [if_neg c5] at H
    exact absurd H (by simp)
  ·rw [if_neg c4] at H
   have c4b0 : ((t161.length : Int) == 1) = false := beq_eq_false_iff_ne.mpr c4
   have c4b1 : ((t161.length : Int) != 1) = true := bne_iff_ne.mpr c4
   obtain rfl := Option.some.inj H
   go_enter Try.func8, Try.ntmps8
   go_wp2_with (first | ((with_reducible refine gate_callee (f := 9) rfl ?_); refine goesL_ (some 6) rfl rfl Try.func9 (by kernel_rfl) rfl #[.string (⟨#[97, 44, 34, 98, 34, 34, 99, 34]⟩ : ByteArray)] rfl (by (try simp only [List.map_toArray, List.map_cons, List.map_nil]); first | done | rfl | (simp only [List.length_drop, List.length_take]; rfl)) ?_; (with_reducible refine (cread_Rows.calls (⟨#[97, 44, 34, 98, 34, 34, 99, 34]⟩ : ByteArray) t161 t164 t165 t166 t167 _ A1.out).mono ?_); rintro e w54 ⟨v162, rfl, ho0, hb⟩; refine ⟨_, rfl, ?_⟩; have n0_ := Aside0.mk (Kd.S_lower ho0 (below_size (by repeat (first | (with_reducible first | exact HB.out | apply below_alloc | apply pw_below_drewN | apply below_drew1) | exact HB.out)))); have n1_ := Aside0.mk (below_step (by repeat (first | (with_reducible first | exact HB.out | apply below_alloc | apply pw_below_drewN | apply below_drew1) | exact HB.out)) hb); clear HB; have HO163 := n0_; have HB := n1_; clear n0_ n1_; (try clear hb); (try clear hb2); (try clear hk); (try clear hi); (try clear ho0)) | ((with_reducible refine gate_dst (N := 2) rfl ?_); (try (refine gate_guard (by rfl) ?_; dsimp only)); refine box_event ?hg (N := 2) ?hd (cs := #[.int .i64 0, .int .i64 0, .int .i64 0, .int .i64 0]) (t := 26) ?hr ?_; (case hd => rfl); (case hg => rfl); (case hr => first | (go_simp; done) | (go_simp; rfl)); intro gb168 hg w55 hbox hb; have n0_ := Aside0.mk (Kd.S_below (by (with_reducible repeat (first | apply Kd.S_alloc | apply Kd.S_drewN | apply Kd.S_drew)); exact HO163.out) hb); have n1_ := Aside0.mk (below_step (by repeat (first | (with_reducible first | exact HB.out | apply below_alloc | apply pw_below_drewN | apply below_drew1) | exact HB.out)) hb); have n2_ := Aside0.mk (hbox); have n3_ := Aside0.mk ((by rw [hg]; exact (below_size (by repeat (first | (with_reducible first | exact HB.out | apply below_alloc | apply pw_below_drewN | apply below_drew1) | exact HB.out))) : w.heap.size ≤ gb168)); have n4_ := Aside0.mk ((by rw [hg]; exact (below_size (by repeat (first | (with_reducible first | exact HB.out | apply below_alloc | apply pw_below_drewN | apply below_drew1) | exact HB.out))) : w.heap.size ≤ gb168)); clear HO163; clear HB; have HO163 := n0_; have HB := n1_; have BK168 := n2_; have GW168 := n3_; have GE168 := n4_; clear n0_ n1_ n2_ n3_ n4_; clear hb hbox hg; have hcz56_0 : w55.cell? ⟨gb168, 0, none⟩ = some (.int .i64 0) := (blk_cell BK168.out 0).trans rfl; have hcz56_1 : w55.cell? ⟨gb168, 1, none⟩ = some (.int .i64 0) := (blk_cell BK168.out 1).trans rfl; have hcz56_2 : w55.cell? ⟨gb168, 2, none⟩ = some (.int .i64 0) := (blk_cell BK168.out 2).trans rfl; have hcz56_3 : w55.cell? ⟨gb168, 3, none⟩ = some (.int .i64 0) := (blk_cell BK168.out 3).trans rfl; have hfz56_0 := blk_frozen BK168.out 0; have hfz56_1 := blk_frozen BK168.out 1; have hfz56_2 := blk_frozen BK168.out 2; have hfz56_3 := blk_frozen BK168.out 3) | ((with_reducible refine gate_callee (f := 9) rfl ?_); refine goesL_ (some 10) rfl rfl Try.func9 (by kernel_rfl) rfl #[.string (⟨#[97, 44, 98, 10, 99]⟩ : ByteArray)] rfl (by (try simp only [List.map_toArray, List.map_cons, List.map_nil]); first | done | rfl | (simp only [List.length_drop, List.length_take]; rfl)) ?_; (with_reducible refine (cread_Rows.calls (⟨#[97, 44, 98, 10, 99]⟩ : ByteArray) t169 t172 t173 t174 t175 _ A2.out).mono ?_); rintro e w57 ⟨v170, rfl, ho0, hb⟩; refine ⟨_, rfl, ?_⟩; have n0_ := Aside0.mk (Kd.S_elder' (by (with_reducible repeat (first | apply Kd.S_alloc | apply Kd.S_drewN | apply Kd.S_drew)); exact (Kd.S_mono (Kd.S_far (p := ⟨gb168, 3, none⟩) (Kd.S_far (p := ⟨gb168, 2, none⟩) (Kd.S_far (p := ⟨gb168, 1, none⟩) (Kd.S_far (p := ⟨gb168, 0, none⟩) (Kd.S_types HO163.out BK168.out (by decide)) (fun _ hk => hk.2) (.int .i64 t164)) (fun _ hk => hk.2) (.int .i64 t165)) (fun _ hk => hk.2) (.int .i64 t166)) (fun _ hk => hk.2) (.int .i64 t167)) (fun _ h_ => h_.1))) (Kd.S_base ho0) hb); have n1_ := Aside0.mk (Kd.S_lower (Kd.S_new' ho0 (Kd.S_lt (by (with_reducible repeat (first | apply Kd.S_alloc | apply Kd.S_drewN | apply Kd.S_drew)); exact (Kd.S_mono (Kd.S_far (p := ⟨gb168, 3, none⟩) (Kd.S_far (p := ⟨gb168, 2, none⟩) (Kd.S_far (p := ⟨gb168, 1, none⟩) (Kd.S_far (p := ⟨gb168, 0, none⟩) (Kd.S_types HO163.out BK168.out (by decide)) (fun _ hk => hk.2) (.int .i64 t164)) (fun _ hk => hk.2) (.int .i64 t165)) (fun _ hk => hk.2) (.int .i64 t166)) (fun _ hk => hk.2) (.int .i64 t167)) (fun _ h_ => h_.1))))) (below_size (by repeat (first | (with_reducible first | exact HB.out | apply below_alloc | apply pw_below_drewN | apply below_drew1 | refine below_set ?_ GE168.out) | exact HB.out)))); have n2_ := Aside0.mk (blk_below (g := gb168) (o := .cells #[.int .i64 t164, .int .i64 t165, .int .i64 t166, .int .i64 t167] 26 (0, 0)) (by (with_reducible repeat (first | refine blk_drewN ?_ _ | refine blk_drew ?_ | refine blk_alloc ?_ _)); refine blk_put (cs := #[.int .i64 t164, .int .i64 t165, .int .i64 t166, .int .i64 0]) ?_ 3 _ rfl; (with_reducible repeat (first | refine blk_drewN ?_ _ | refine blk_drew ?_ | refine blk_alloc ?_ _)); refine blk_put (cs := #[.int .i64 t164, .int .i64 t165, .int .i64 0, .int .i64 0]) ?_ 2 _ rfl; (with_reducible repeat (first | refine blk_drewN ?_ _ | refine blk_drew ?_ | refine blk_alloc ?_ _)); refine blk_put (cs := #[.int .i64 t164, .int .i64 0, .int .i64 0, .int .i64 0]) ?_ 1 _ rfl; (with_reducible repeat (first | refine blk_drewN ?_ _ | refine blk_drew ?_ | refine blk_alloc ?_ _)); refine blk_put (cs := #[.int .i64 0, .int .i64 0, .int .i64 0, .int .i64 0]) ?_ 0 _ rfl; (with_reducible repeat (first | refine blk_drewN ?_ _ | refine blk_drew ?_ | refine blk_alloc ?_ _)); exact BK168.out) hb); have n3_ := Aside0.mk (below_step (by repeat (first | (with_reducible first | exact HB.out | apply below_alloc | apply pw_below_drewN | apply below_drew1 | refine below_set ?_ GE168.out) | exact HB.out)) hb); clear HO163; clear BK168; clear HB; have HO163 := n0_; have HO171 := n1_; have BK168 := n2_; have HB := n3_; clear n0_ n1_ n2_ n3_; (try clear hb); (try clear hb2); (try clear hk); (try clear hi); (try clear ho0)) | ((with_reducible refine gate_dst (N := 4) rfl ?_); (try (refine gate_guard (by rfl) ?_; dsimp only)); refine box_event ?hg (N := 4) ?hd (cs := #[.int .i64 0, .int .i64 0, .int .i64 0, .int .i64 0]) (t := 26) ?hr ?_; (case hd => rfl); (case hg => rfl); (case hr => first | (go_simp; done) | (go_simp; rfl)); intro gb176 hg w58 hbox hb; have n0_ := Aside0.mk (Kd.S_below (by (with_reducible repeat (first | apply Kd.S_alloc | apply Kd.S_drewN | apply Kd.S_drew)); exact HO163.out) hb); have n1_ := Aside0.mk (Kd.S_below (by (with_reducible repeat (first | apply Kd.S_alloc | apply Kd.S_drewN | apply Kd.S_drew)); exact HO171.out) hb); have n2_ := Aside0.mk (blk_below (g := gb168) (o := .cells #[.int .i64 t164, .int .i64 t165, .int .i64 t166, .int .i64 t167] 26 (0, 0)) (by (with_reducible repeat (first | refine blk_drewN ?_ _ | refine blk_drew ?_ | refine blk_alloc ?_ _)); exact BK168.out) hb); have n3_ := Aside0.mk (below_step (by repeat (first | (with_reducible first | exact HB.out | apply below_alloc | apply pw_below_drewN | apply below_drew1 | refine below_set ?_ GE168.out) | exact HB.out)) hb); have n4_ := Aside0.mk (hbox); have n5_ := Aside0.mk ((by rw [hg]; exact (below_size (by repeat (first | (with_reducible first | exact HB.out | apply below_alloc | apply pw_below_drewN | apply below_drew1 | refine below_set ?_ GE168.out) | exact HB.out))) : w.heap.size ≤ gb176)); have n6_ := Aside0.mk ((by rw [hg]; exact (below_size (by repeat (first | (with_reducible first | exact HB.out | apply below_alloc | apply pw_below_drewN | apply below_drew1 | refine below_set ?_ GE168.out) | exact HB.out))) : w.heap.size ≤ gb176)); have n7_ := Aside0.mk ((by rw [hg]; exact Nat.ne_of_lt (blk_lt (g := gb168) (o := .cells #[.int .i64 t164, .int .i64 t165, .int .i64 t166, .int .i64 t167] 26 (0, 0)) (by (with_reducible repeat (first | refine blk_drewN ?_ _ | refine blk_drew ?_ | refine blk_alloc ?_ _)); exact BK168.out)) : gb168 ≠ gb176)); have n8_ := Aside0.mk ((by rw [hg]; exact Nat.ne_of_gt (blk_lt (g := gb168) (o := .cells #[.int .i64 t164, .int .i64 t165, .int .i64 t166, .int .i64 t167] 26 (0, 0)) (by (with_reducible repeat (first | refine blk_drewN ?_ _ | refine blk_drew ?_ | refine blk_alloc ?_ _)); exact BK168.out)) : gb176 ≠ gb168)); clear HO163; clear HO171; clear BK168; clear HB; have HO163 := n0_; have HO171 := n1_; have BK168 := n2_; have HB := n3_; have BK176 := n4_; have GW176 := n5_; have GE176 := n6_; have NB168_176 := n7_; have NB176_168 := n8_; clear n0_ n1_ n2_ n3_ n4_ n5_ n6_ n7_ n8_; clear hb hbox hg; have hnb59 := NB176_168.out; have hnc59 := NB168_176.out; have hcz60_0 : w58.cell? ⟨gb176, 0, none⟩ = some (.int .i64 0) := (blk_cell BK176.out 0).trans rfl; have hcz60_1 : w58.cell? ⟨gb176, 1, none⟩ = some (.int .i64 0) := (blk_cell BK176.out 1).trans rfl; have hcz60_2 : w58.cell? ⟨gb176, 2, none⟩ = some (.int .i64 0) := (blk_cell BK176.out 2).trans rfl; have hcz60_3 : w58.cell? ⟨gb176, 3, none⟩ = some (.int .i64 0) := (blk_cell BK176.out 3).trans rfl; have hfz60_0 := blk_frozen BK176.out 0; have hfz60_1 := blk_frozen BK176.out 1; have hfz60_2 := blk_frozen BK176.out 2; have hfz60_3 := blk_frozen BK176.out 3; have hcz61_0 : w58.cell? ⟨gb168, 0, none⟩ = some (.int .i64 t164) := (blk_cell BK168.out 0).trans rfl; have hcz61_1 : w58.cell? ⟨gb168, 1, none⟩ = some (.int .i64 t165) := (blk_cell BK168.out 1).trans rfl; have hcz61_2 : w58.cell? ⟨gb168, 2, none⟩ = some (.int .i64 t166) := (blk_cell BK168.out 2).trans rfl; have hcz61_3 : w58.cell? ⟨gb168, 3, none⟩ = some (.int .i64 t167) := (blk_cell BK168.out 3).trans rfl; have hfz61_0 := blk_frozen BK168.out 0; have hfz61_1 := blk_frozen BK168.out 1; have hfz61_2 := blk_frozen BK168.out 2; have hfz61_3 := blk_frozen BK168.out 3; obtain ⟨Ao62, co62, eo62⟩ := Kd.S_slice HO163.out; subst eo62))
   go_ret
   exact ⟨by first | rfl | (simp [errW_none, errW_some] <;> rfl) | (simp [*, errW_none, errW_some, bne]; done) | (simp [*, errW_none, errW_some] <;> rfl), by repeat (first | (with_reducible first | exact HB.out | apply below_alloc | apply pw_below_drewN | apply below_drew1 | refine below_set ?_ GE168.out | refine below_set ?_ GE176.out) | exact HB.out)⟩
 ·rw [if_neg c3] at H
  have c3b0 : (t164 == 0 && (t165 == 0 && (t166 == 0 && (t167 == 0)))) = false := by simpa using c3
  (try (have c3b1 : decide (t164 = 0 && (t165 == 0 && (t166 == 0 && (t167 == 0)))) = false := by simpa using c3))
  (try (have c3b2 : (t164 == 0 && (t165 == 0 && (t166 == 0 && (t167 == 0)))) = false := by simpa using c3))
  (try (have c3b3 : ¬ (t164 = 0 && (t165 == 0 && (t166 == 0 && (t167 == 0)))) := by simpa using c3))
  clear c3
  obtain rfl := Option.some.inj H
  go_enter Try.func8, Try.ntmps8
  go_wp2_with (first | ((with_reducible refine gate_callee (f := 9) rfl ?_); refine goesL_ (some 6) rfl rfl Try.func9 (by kernel_rfl) rfl #[.string (⟨#[97, 44, 34, 98, 34, 34, 99, 34]⟩ : ByteArray)] rfl (by (try simp only [List.map_toArray, List.map_cons, List.map_nil]); first | done | rfl | (simp only [List.length_drop, List.length_take]; rfl)) ?_; (with_reducible refine (cread_Rows.calls (⟨#[97, 44, 34, 98, 34, 34, 99, 34]⟩ : ByteArray) t161 t164 t165 t166 t167 _ A1.out).mono ?_); rintro e w63 ⟨v162, rfl, ho0, hb⟩; refine ⟨_, rfl, ?_⟩; have n0_ := Aside0.mk (Kd.S_lower ho0 (below_size (by repeat (first | (with_reducible first | exact HB.out | apply below_alloc | apply pw_below_drewN | apply below_drew1) | exact HB.out)))); have n1_ := Aside0.mk (below_step (by repeat (first | (with_reducible first | exact HB.out | apply below_alloc | apply pw_below_drewN | apply below_drew1) | exact HB.out)) hb); clear HB; have HO163 := n0_; have HB := n1_; clear n0_ n1_; (try clear hb); (try clear hb2); (try clear hk); (try clear hi); (try clear ho0)) | ((with_reducible refine gate_dst (N := 2) rfl ?_); (try (refine gate_guard (by rfl) ?_; dsimp only)); refine box_event ?hg (N := 2) ?hd (cs := #[.int .i64 0, .int .i64 0, .int .i64 0, .int .i64 0]) (t := 26) ?hr ?_; (case hd => rfl); (case hg => rfl); (case hr => first | (go_simp; done) | (go_simp; rfl)); intro gb168 hg w64 hbox hb; have n0_ := Aside0.mk (Kd.S_below (by (with_reducible repeat (first | apply Kd.S_alloc | apply Kd.S_drewN | apply Kd.S_drew)); exact HO163.out) hb); have n1_ := Aside0.mk (below_step (by repeat (first | (with_reducible first | exact HB.out | apply below_alloc | apply pw_below_drewN | apply below_drew1) | exact HB.out)) hb); have n2_ := Aside0.mk (hbox); have n3_ := Aside0.mk ((by rw [hg]; exact (below_size (by repeat (first | (with_reducible first | exact HB.out | apply below_alloc | apply pw_below_drewN | apply below_drew1) | exact HB.out))) : w.heap.size ≤ gb168)); have n4_ := Aside0.mk ((by rw [hg]; exact (below_size (by repeat (first | (with_reducible first | exact HB.out | apply below_alloc | apply pw_below_drewN | apply below_drew1) | exact HB.out))) : w.heap.size ≤ gb168)); clear HO163; clear HB; have HO163 := n0_; have HB := n1_; have BK168 := n2_; have GW168 := n3_; have GE168 := n4_; clear n0_ n1_ n2_ n3_ n4_; clear hb hbox hg; have hcz65_0 : w64.cell? ⟨gb168, 0, none⟩ = some (.int .i64 0) := (blk_cell BK168.out 0).trans rfl; have hcz65_1 : w64.cell? ⟨gb168, 1, none⟩ = some (.int .i64 0) := (blk_cell BK168.out 1).trans rfl; have hcz65_2 : w64.cell? ⟨gb168, 2, none⟩ = some (.int .i64 0) := (blk_cell BK168.out 2).trans rfl; have hcz65_3 : w64.cell? ⟨gb168, 3, none⟩ = some (.int .i64 0) := (blk_cell BK168.out 3).trans rfl; have hfz65_0 := blk_frozen BK168.out 0; have hfz65_1 := blk_frozen BK168.out 1; have hfz65_2 := blk_frozen BK168.out 2; have hfz65_3 := blk_frozen BK168.out 3) | ((with_reducible refine gate_callee (f := 9) rfl ?_); refine goesL_ (some 10) rfl rfl Try.func9 (by kernel_rfl) rfl #[.string (⟨#[97, 44, 98, 10, 99]⟩ : ByteArray)] rfl (by (try simp only [List.map_toArray, List.map_cons, List.map_nil]); first | done | rfl | (simp only [List.length_drop, List.length_take]; rfl)) ?_; (with_reducible refine (cread_Rows.calls (⟨#[97, 44, 98, 10, 99]⟩ : ByteArray) t169 t172 t173 t174 t175 _ A2.out).mono ?_); rintro e w66 ⟨v170, rfl, ho0, hb⟩; refine ⟨_, rfl, ?_⟩; have n0_ := Aside0.mk (Kd.S_elder' (by (with_reducible repeat (first | apply Kd.S_alloc | apply Kd.S_drewN | apply Kd.S_drew)); exact (Kd.S_mono (Kd.S_far (p := ⟨gb168, 3, none⟩) (Kd.S_far (p := ⟨gb168, 2, none⟩) (Kd.S_far (p := ⟨gb168, 1, none⟩) (Kd.S_far (p := ⟨gb168, 0, none⟩) (Kd.S_types HO163.out BK168.out (by decide)) (fun _ hk => hk.2) (.int .i64 t164)) (fun _ hk => hk.2) (.int .i64 t165)) (fun _ hk => hk.2) (.int .i64 t166)) (fun _ hk => hk.2) (.int .i64 t167)) (fun _ h_ => h_.1))) (Kd.S_base ho0) hb); have n1_ := Aside0.mk (Kd.S_lower (Kd.S_new' ho0 (Kd.S_lt (by (with_reducible repeat (first | apply Kd.S_alloc | apply Kd.S_drewN | apply Kd.S_drew)); exact (Kd.S_mono (Kd.S_far (p := ⟨gb168, 3, none⟩) (Kd.S_far (p := ⟨gb168, 2, none⟩) (Kd.S_far (p := ⟨gb168, 1, none⟩) (Kd.S_far (p := ⟨gb168, 0, none⟩) (Kd.S_types HO163.out BK168.out (by decide)) (fun _ hk => hk.2) (.int .i64 t164)) (fun _ hk => hk.2) (.int .i64 t165)) (fun _ hk => hk.2) (.int .i64 t166)) (fun _ hk => hk.2) (.int .i64 t167)) (fun _ h_ => h_.1))))) (below_size (by repeat (first | (with_reducible first | exact HB.out | apply below_alloc | apply pw_below_drewN | apply below_drew1 | refine below_set ?_ GE168.out) | exact HB.out)))); have n2_ := Aside0.mk (blk_below (g := gb168) (o := .cells #[.int .i64 t164, .int .i64 t165, .int .i64 t166, .int .i64 t167] 26 (0, 0)) (by (with_reducible repeat (first | refine blk_drewN ?_ _ | refine blk_drew ?_ | refine blk_alloc ?_ _)); refine blk_put (cs := #[.int .i64 t164, .int .i64 t165, .int .i64 t166, .int .i64 0]) ?_ 3 _ rfl; (with_reducible repeat (first | refine blk_drewN ?_ _ | refine blk_drew ?_ | refine blk_alloc ?_ _)); refine blk_put (cs := #[.int .i64 t164, .int .i64 t165, .int .i64 0, .int .i64 0]) ?_ 2 _ rfl; (with_reducible repeat (first | refine blk_drewN ?_ _ | refine blk_drew ?_ | refine blk_alloc ?_ _)); refine blk_put (cs := #[.int .i64 t164, .int .i64 0, .int .i64 0, .int .i64 0]) ?_ 1 _ rfl; (with_reducible repeat (first | refine blk_drewN ?_ _ | refine blk_drew ?_ | refine blk_alloc ?_ _)); refine blk_put (cs := #[.int .i64 0, .int .i64 0, .int .i64 0, .int .i64 0]) ?_ 0 _ rfl; (with_reducible repeat (first | refine blk_drewN ?_ _ | refine blk_drew ?_ | refine blk_alloc ?_ _)); exact BK168.out) hb); have n3_ := Aside0.mk (below_step (by repeat (first | (with_reducible first | exact HB.out | apply below_alloc | apply pw_below_drewN | apply below_drew1 | refine below_set ?_ GE168.out) | exact HB.out)) hb); clear HO163; clear BK168; clear HB; have HO163 := n0_; have HO171 := n1_; have BK168 := n2_; have HB := n3_; clear n0_ n1_ n2_ n3_; (try clear hb); (try clear hb2); (try clear hk); (try clear hi); (try clear ho0)) | ((with_reducible refine gate_dst (N := 4) rfl ?_); (try (refine gate_guard (by rfl) ?_; dsimp only)); refine box_event ?hg (N := 4) ?hd (cs := #[.int .i64 0, .int .i64 0, .int .i64 0, .int .i64 0]) (t := 26) ?hr ?_; (case hd => rfl); (case hg => rfl); (case hr => first | (go_simp; done) | (go_simp; rfl)); intro gb176 hg w67 hbox hb; have n0_ := Aside0.mk (Kd.S_below (by (with_reducible repeat (first | apply Kd.S_alloc | apply Kd.S_drewN | apply Kd.S_drew)); exact HO163.out) hb); have n1_ := Aside0.mk (Kd.S_below (by (with_reducible repeat (first | apply Kd.S_alloc | apply Kd.S_drewN | apply Kd.S_drew)); exact HO171.out) hb); have n2_ := Aside0.mk (blk_below (g := gb168) (o := .cells #[.int .i64 t164, .int .i64 t165, .int .i64 t166, .int .i64 t167] 26 (0, 0)) (by (with_reducible repeat (first | refine blk_drewN ?_ _ | refine blk_drew ?_ | refine blk_alloc ?_ _)); exact BK168.out) hb); have n3_ := Aside0.mk (below_step (by repeat (first | (with_reducible first | exact HB.out | apply below_alloc | apply pw_below_drewN | apply below_drew1 | refine below_set ?_ GE168.out) | exact HB.out)) hb); have n4_ := Aside0.mk (hbox); have n5_ := Aside0.mk ((by rw [hg]; exact (below_size (by repeat (first | (with_reducible first | exact HB.out | apply below_alloc | apply pw_below_drewN | apply below_drew1 | refine below_set ?_ GE168.out) | exact HB.out))) : w.heap.size ≤ gb176)); have n6_ := Aside0.mk ((by rw [hg]; exact (below_size (by repeat (first | (with_reducible first | exact HB.out | apply below_alloc | apply pw_below_drewN | apply below_drew1 | refine below_set ?_ GE168.out) | exact HB.out))) : w.heap.size ≤ gb176)); have n7_ := Aside0.mk ((by rw [hg]; exact Nat.ne_of_lt (blk_lt (g := gb168) (o := .cells #[.int .i64 t164, .int .i64 t165, .int .i64 t166, .int .i64 t167] 26 (0, 0)) (by (with_reducible repeat (first | refine blk_drewN ?_ _ | refine blk_drew ?_ | refine blk_alloc ?_ _)); exact BK168.out)) : gb168 ≠ gb176)); have n8_ := Aside0.mk ((by rw [hg]; exact Nat.ne_of_gt (blk_lt (g := gb168) (o := .cells #[.int .i64 t164, .int .i64 t165, .int .i64 t166, .int .i64 t167] 26 (0, 0)) (by (with_reducible repeat (first | refine blk_drewN ?_ _ | refine blk_drew ?_ | refine blk_alloc ?_ _)); exact BK168.out)) : gb176 ≠ gb168)); clear HO163; clear HO171; clear BK168; clear HB; have HO163 := n0_; have HO171 := n1_; have BK168 := n2_; have HB := n3_; have BK176 := n4_; have GW176 := n5_; have GE176 := n6_; have NB168_176 := n7_; have NB176_168 := n8_; clear n0_ n1_ n2_ n3_ n4_ n5_ n6_ n7_ n8_; clear hb hbox hg; have hnb68 := NB176_168.out; have hnc68 := NB168_176.out; have hcz69_0 : w67.cell? ⟨gb176, 0, none⟩ = some (.int .i64 0) := (blk_cell BK176.out 0).trans rfl; have hcz69_1 : w67.cell? ⟨gb176, 1, none⟩ = some (.int .i64 0) := (blk_cell BK176.out 1).trans rfl; have hcz69_2 : w67.cell? ⟨gb176, 2, none⟩ = some (.int .i64 0) := (blk_cell BK176.out 2).trans rfl; have hcz69_3 : w67.cell? ⟨gb176, 3, none⟩ = some (.int .i64 0) := (blk_cell BK176.out 3).trans rfl; have hfz69_0 := blk_frozen BK176.out 0; have hfz69_1 := blk_frozen BK176.out 1; have hfz69_2 := blk_frozen BK176.out 2; have hfz69_3 := blk_frozen BK176.out 3; have hcz70_0 : w67.cell? ⟨gb168, 0, none⟩ = some (.int .i64 t164) := (blk_cell BK168.out 0).trans rfl; have hcz70_1 : w67.cell? ⟨gb168, 1, none⟩ = some (.int .i64 t165) := (blk_cell BK168.out 1).trans rfl; have hcz70_2 : w67.cell? ⟨gb168, 2, none⟩ = some (.int .i64 t166) := (blk_cell BK168.out 2).trans rfl; have hcz70_3 : w67.cell? ⟨gb168, 3, none⟩ = some (.int .i64 t167) := (blk_cell BK168.out 3).trans rfl; have hfz70_0 := blk_frozen BK168.out 0; have hfz70_1 := blk_frozen BK168.out 1; have hfz70_2 := blk_frozen BK168.out 2; have hfz70_3 := blk_frozen BK168.out 3))
  go_ret
  exact ⟨by first | rfl | (simp [errW_none, errW_some] <;> rfl) | (simp [*, errW_none, errW_some, bne]; done) | (simp [*, errW_none, errW_some] <;> rfl), by repeat (first | (with_reducible first | exact HB.out | apply below_alloc | apply pw_below_drewN | apply below_drew1 | refine below_set ?_ GE168.out | refine below_set ?_ GE176.out) | exact HB.out)⟩
end Go.Proofs.Ytjmmdphkgioooaa.P
end
section
namespace Go.Proofs.Ytjmmdphkgioooaa.La
open Go.RowKit Go.Proofs.Ytjmmdphkgioooaa.P Go.Proofs.YtjmmdphkgioooaaW.PrintWords Go.Proofs.YtjmmdphkgioooaaW.PrintLast Go.Proofs.YtjmmdphkgioooaaW.PrintMore
theorem readValid_ev (s : ByteArray) (hs : s.size ≤ 8796093022208) : Ev (fun k => cread_Valid.f k s) ((readR s).2.1 == 0) := by
 refine Ev.congr (fun k => by rw [cread_Valid.f]) (Ev.bind (fields_ev s hs) ?_)
 exact Ev.now _
theorem rows_f (s : ByteArray) (hs : s.size ≤ 8796093022208) : cread_Rows.f s = some (readR s) := by
 unfold cread_Rows.f
 rw [if_pos hs]
theorem awakeA : readR (⟨#[97, 44, 34, 98, 34, 34, 99, 34]⟩ : ByteArray) = ([[⟨#[97]⟩, ⟨#[98, 34, 99]⟩]], 0, 0, 0, 0) := by decide +kernel
theorem awakeB : readR (⟨#[97, 44, 98, 10, 99]⟩ : ByteArray) = ([], 7, 4, 2, 1) := by decide +kernel
theorem awakeC : readR (⟨#[97, 13, 10, 98]⟩ : ByteArray) = ([[⟨#[97]⟩], [⟨#[98]⟩]], 0, 0, 0, 0) := by decide +kernel
theorem awake13_ev : Ev (fun k => dragomanlaw13_awake.f k) true := by
 have h3 := readValid_ev (⟨#[97, 13, 10, 98]⟩ : ByteArray) (by decide)
 rw [awakeC] at h3
 refine Ev.congr (fun k => by rw [dragomanlaw13_awake.f, cread_Rows.f, cread_Rows.f, if_pos (by decide), if_pos (by decide), awakeA, awakeB, Option.bind_some, Option.bind_some, if_pos (by decide +kernel), if_pos (by decide +kernel), if_pos (by decide +kernel), if_pos (by decide +kernel), if_pos (by decide +kernel), if_pos (by decide +kernel), if_pos (by decide +kernel)]) ?_
 exact Ev.bind h3 (Ev.now _)
end Go.Proofs.Ytjmmdphkgioooaa.La
end
section
namespace Go.Proofs.Ytjmmdphkgioooaa.P
open Go.RowKit Go.Proofs.Ytjmmdphkgioooaa.La Go.Proofs.YtjmmdphkgioooaaW.PrintWords Go.Proofs.YtjmmdphkgioooaaW.PrintLast Go.Proofs.YtjmmdphkgioooaaW.PrintMore
theorem known13_f (s : ByteArray) (hs : s.size ≤ 8796093022208) {r} (h : readR s = r) : cread_Rows.f s = some r := by rw [rows_f s hs, h]
theorem known13_1 : cread_Rows.f (⟨#[97, 34, 98]⟩ : ByteArray) = some ([], 4, 1, 1, 2) := known13_f _ (by decide) (by decide +kernel)
theorem known13_2 : cread_Rows.f (⟨#[34, 97, 34, 98]⟩ : ByteArray) = some ([], 4, 3, 1, 4) := known13_f _ (by decide) (by decide +kernel)
theorem known13_3 : cread_Rows.f (⟨#[34, 97]⟩ : ByteArray) = some ([], 4, 2, 1, 3) := known13_f _ (by decide) (by decide +kernel)
theorem known13_4 : cread_Rows.f (⟨#[97, 13, 98]⟩ : ByteArray) = some ([], 4, 1, 1, 2) := known13_f _ (by decide) (by decide +kernel)
theorem known13_5 : cread_Rows.f (⟨#[]⟩ : ByteArray) = some ([], 0, 0, 0, 0) := known13_f _ (by decide) (by decide +kernel)
theorem known13_6 : cread_Rows.f (⟨#[10]⟩ : ByteArray) = some ([[⟨#[]⟩]], 0, 0, 0, 0) := known13_f _ (by decide) (by decide +kernel)
theorem kn_new {w w' : World} {o : Obj} (h : Below (w.alloc o).heap.size (w.alloc o) w') : w'.heap[w.heap.size]? = some o := by
 have hbk := h.block w.heap.size (by simp)
 rw [show (w.alloc o).heap[w.heap.size]? = some o from by simpa using heap_alloc_new w o] at hbk
 exact hbk
theorem kn_old {w w' : World} {o o' : Obj} {g : Nat} (hg : w.heap[g]? = some o) (h : Below (w.alloc o').heap.size (w.alloc o') w') : w'.heap[g]? = some o := by
 have hl : g < w.heap.size := by
  rcases Nat.lt_or_ge g w.heap.size with h | h
  ·exact h
  ·rw [Array.getElem?_eq_none h] at hg; cases hg
 have hbk := (below_step (below_alloc (Below.refl w.heap.size w) o') h).block g hl
 rw [hg] at hbk
 exact hbk
set_option maxHeartbeats 4000000 in
set_option maxRecDepth 100000 in
theorem known13_walk (w : World) : Calls Try.prog 3 #[] w fun e w' => e = .returned (.bool true) ∧ Below w.heap.size w w' := by
 obtain ⟨K, hK⟩ := awake13_ev
 have hK := hK K (Nat.le_refl _)
 go_enter Try.func3, Try.ntmps3
 go_wp2_with fail
 refine (dragomanlaw13_awake.calls K true _ hK).mono ?_
 rintro e w1 ⟨rfl, hb1⟩
 go_wp2_with fail
 refine (cread_Rows.calls _ _ _ _ _ _ _ known13_1).mono ?_
 rintro e w2 ⟨v2, rfl, hS2, hb2⟩
 go_wp2_with fail
 refine (cread_Rows.calls _ _ _ _ _ _ _ known13_2).mono ?_
 rintro e w3 ⟨v3, rfl, hS3, hb3⟩
 go_wp2_with fail
 refine (cread_Rows.calls _ _ _ _ _ _ _ known13_3).mono ?_
 rintro e w4 ⟨v4, rfl, hS4, hb4⟩
 go_wp2_with fail
 refine (cread_Rows.calls _ _ _ _ _ _ _ known13_4).mono ?_
 rintro e w5 ⟨v5, rfl, hS5, hb5⟩
 go_wp2_with fail
 refine (cread_Rows.calls _ _ _ _ _ _ _ known13_5).mono ?_
 rintro e w6 ⟨v6, rfl, hS6, hb6⟩
 go_wp2_with fail
 refine (cread_Rows.calls _ _ _ _ _ _ _ known13_6).mono ?_
 rintro e w7 ⟨v7, rfl, hS7, hb7⟩
 have hB7 : Below w.heap.size w w7 := below_step (below_alloc (below_step (below_alloc (below_step (below_alloc (below_step (below_alloc (below_step (below_alloc (below_step hb1 hb2) _) hb3) _) hb4) _) hb5) _) hb6) _) hb7
 have k2 := kn_old (kn_old (kn_old (kn_old (kn_new hb3) hb4) hb5) hb6) hb7
 have k3 := kn_old (kn_old (kn_old (kn_new hb4) hb5) hb6) hb7
 have k4 := kn_old (kn_old (kn_new hb5) hb6) hb7
 have k5 := kn_old (kn_new hb6) hb7
 have k6 := kn_new hb7
 have x20 : w7.cell? ⟨w2.heap.size, 0, none⟩ = some (.int .i64 4) := (blk_cell k2 0).trans rfl
 have x21 : w7.cell? ⟨w2.heap.size, 1, none⟩ = some (.int .i64 1) := (blk_cell k2 1).trans rfl
 have x30 : w7.cell? ⟨w3.heap.size, 0, none⟩ = some (.int .i64 4) := (blk_cell k3 0).trans rfl
 have x31 : w7.cell? ⟨w3.heap.size, 1, none⟩ = some (.int .i64 3) := (blk_cell k3 1).trans rfl
 have x40 : w7.cell? ⟨w4.heap.size, 0, none⟩ = some (.int .i64 4) := (blk_cell k4 0).trans rfl
 have x41 : w7.cell? ⟨w4.heap.size, 1, none⟩ = some (.int .i64 2) := (blk_cell k4 1).trans rfl
 have x50 : w7.cell? ⟨w5.heap.size, 0, none⟩ = some (.int .i64 4) := (blk_cell k5 0).trans rfl
 have x51 : w7.cell? ⟨w5.heap.size, 1, none⟩ = some (.int .i64 1) := (blk_cell k5 1).trans rfl
 have x60 : w7.cell? ⟨w6.heap.size, 0, none⟩ = some (.int .i64 0) := (blk_cell k6 0).trans rfl
 have l2 : w2.heap.size < w7.heap.size := World.block_lt_of_cell? w7 _ x20
 have l3 : w3.heap.size < w7.heap.size := World.block_lt_of_cell? w7 _ x30
 have l4 : w4.heap.size < w7.heap.size := World.block_lt_of_cell? w7 _ x40
 have l5 : w5.heap.size < w7.heap.size := World.block_lt_of_cell? w7 _ x50
 have l6 : w6.heap.size < w7.heap.size := World.block_lt_of_cell? w7 _ x60
 obtain ⟨A6, c6, rfl, _, _⟩ := Kd.R_reads (Kd.S_R hS6)
 obtain ⟨A7, c7, rfl, _, hC7⟩ := Kd.R_reads (Kd.S_R hS7)
 obtain ⟨ad, rfl⟩ : ∃ ad, A7 = some ad := by
  obtain ⟨g, cap, h, _⟩ := Kd.S_form hS7 (by decide)
  injection h with h1 h2 h3
  exact ⟨_, h1⟩
 obtain ⟨cs, _, hM, hcell⟩ := Kd.S_get hS7 [] 0 (by decide) (by decide)
 obtain ⟨vr, rfl, hR⟩ := hM
 have y0 : w7.cell? ad = some vr := hcell 0 vr rfl
 obtain ⟨VA, VC, rfl, _, hC⟩ := Kd.R_reads hR
 obtain ⟨ad2, rfl, y1⟩ := Kd.at_string hC 0 (by decide) (by decide)
 replace y1 : w7.cell? ad2 = some (.string ⟨#[]⟩) := y1
 have la := World.block_lt_of_cell? w7 _ y0
 have la2 := World.block_lt_of_cell? w7 _ y1
 have y0' := (World.cell?_alloc_old w7 (.cells #[.int .i64 0, .int .i64 0, .int .i64 0, .int .i64 0] 26) ad (Nat.ne_of_lt la)).trans y0
 have y1' := (World.cell?_alloc_old w7 (.cells #[.int .i64 0, .int .i64 0, .int .i64 0, .int .i64 0] 26) ad2 (Nat.ne_of_lt la2)).trans y1
 clear hcell hR hC hS7 hC7
 clear hS2 hS3 hS4 hS5 hS6 hb1 hb2 hb3 hb4 hb5 hb6 hb7 k2 k3 k4 k5 k6
 go_wp2
 go_ret
 exact ⟨rfl, by first | exact hB7 | exact below_alloc hB7 _ | exact pw_below_drewN hB7 _ | exact pw_below_drewN (below_alloc hB7 _) _⟩
end Go.Proofs.Ytjmmdphkgioooaa.P
end
