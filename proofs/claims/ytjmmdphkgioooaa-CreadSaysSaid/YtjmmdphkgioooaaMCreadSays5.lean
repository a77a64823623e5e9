/- The parts of this claim's proof, in one text: what each Go function answers and that its call comes to it; plain facts of lists of numbers. Conditions as each theorem names them. -/
import Derived.ArgAppend
import Derived.Below
import Derived.BigCall
import Derived.BigQuiet
import Derived.Deep.AppendLies
import Derived.Deep.CutBlock
import Derived.Deep.DeepCutAuto
import Derived.Deep.Draws
import Derived.Deep.LoopGhost
import Derived.Deep.OwnRows
import Derived.Deep.QuietTactic
import Derived.Deep.RegionHeld3
import Derived.Deep.RegionWith
import Derived.Defers
import Derived.KernelRfl
import Derived.Laws.BitsLemmas
import Derived.Laws.BytesArg
import Derived.Laws.IdiomCopy
import Derived.Laws.MakeOwn
import Derived.Laws.OwnMore
import Derived.Laws.RangeAny
import Derived.Laws.Rows
import Derived.Laws.Runes
import Derived.Laws.Slices
import Derived.Lib.AppendStr
import Derived.Lib.Bytealg
import Derived.Lib.Bytes
import Derived.Lib.ConvBytes
import Derived.Lib.Hide
import Derived.Maps.AppendAt
import Derived.OrdersHeld
import Derived.Outline
import Derived.OwnWalk
import Derived.Recover
import Derived.RowKit
import Derived.RowKit3
import Derived.Shelf.LaysM
import Derived.Shelf.Small.Strs
import Derived.Shelf.Small.Utf8
import Derived.Shelf.Strings.AsciiSet
import Derived.Shelf.Strings.Builder1
import Derived.Shelf.Strings.BuilderF
import Derived.Shelf.Strings.BuilderK
import Derived.Shelf.Strings.Count
import Derived.Shelf.Strings.IndexAny
import Derived.Shelf.Strings.IndexAnyAll
import Derived.Shelf.Strings.Prefix
import Derived.Shelf.Strings.Runes
import Derived.Shelf.Strings.Search1
import Derived.Shelf.Strings.Search2
import Derived.Shelf.Strings.Search3
import Derived.Shelf.Strings.Shaped
import Derived.Shelf.Strings.Split
import Derived.Tactics
import Derived.Tactics2
import Derived.WalkKit
import Derived.WalkSmall
import Derived.WideLaws
import Derived.Test.YtjmmdphkgioooaaProg
import Derived.Test.YtjmmdphkgioooaaWApart
import Derived.Test.YtjmmdphkgioooaaWArr
import Derived.Test.YtjmmdphkgioooaaWAt
import Derived.Test.YtjmmdphkgioooaaWEqStruct
import Derived.Test.YtjmmdphkgioooaaWFoot
import Derived.Test.YtjmmdphkgioooaaWFootNe
import Derived.Test.YtjmmdphkgioooaaWFour
import Derived.Test.YtjmmdphkgioooaaWGuard
import Derived.Test.YtjmmdphkgioooaaWInv
import Derived.Test.YtjmmdphkgioooaaWInvWords
import Derived.Test.YtjmmdphkgioooaaWKept
import Derived.Test.YtjmmdphkgioooaaWLast
import Derived.Test.YtjmmdphkgioooaaWMake0
import Derived.Test.YtjmmdphkgioooaaWMore
import Derived.Test.YtjmmdphkgioooaaWN
import Derived.Test.YtjmmdphkgioooaaWNEv
import Derived.Test.YtjmmdphkgioooaaWQPut
import Derived.Test.YtjmmdphkgioooaaWRepsOne
import Derived.Test.YtjmmdphkgioooaaWShare
import Derived.Test.YtjmmdphkgioooaaWTab
import Derived.Test.YtjmmdphkgioooaaWWords
import Derived.Test.YtjmmdphkgioooaaWZeros
import Derived.Test.YtjmmdphkgioooaaMCreadSays1
import Derived.Test.YtjmmdphkgioooaaMCreadSays2
import Derived.Test.YtjmmdphkgioooaaMCreadSays3
import Derived.Test.YtjmmdphkgioooaaMCreadSays4
section
namespace Go.Proofs.Ytjmmdphkgioooaa.P
open Go.RowKit Go.Proofs.YtjmmdphkgioooaaW.PrintWords Go.Proofs.YtjmmdphkgioooaaW.PrintLast Go.Proofs.YtjmmdphkgioooaaW.PrintMore
attribute [local go_sem] max2_int min2_int max_two min_two max_three min_three max_four min_four   -- for this text's walks alone
set_option linter.unusedVariables false
set_option linter.unusedSimpArgs false
attribute [local go_sem high] eqA26
/-! ### dragomanlaw13_CreadSays: function 4 -/
def dragomanlaw13_CreadSays.f (k : Nat) (a0 : ByteArray) : Option (Bool) := (dragomanlaw13_awake.f k).bind fun t311 => (if t311 = true then (if (a0.size : Int) > 3000 then (some true) else ((cread_Rows.f a0).bind fun bt312 => ((dragomanref13_Rows.f k a0).bind fun bt320 => (if bt320.2.2.1 = 0 then (if (bt312.2.1 == 0 && (bt312.2.2.1 == 0 && (bt312.2.2.2.1 == 0 && (bt312.2.2.2.2 == 0)))) = true then ((dragomanref17_Rows.f k bt312.1 bt320.1).bind fun t329 => (if t329 = true then ((cread_Valid.f k a0).bind fun t330 => (some t330)) else (some false))) else (some false)) else ((dragomanref1_Fault.f k a0 bt320.2.2.2 bt320.2.2.1).bind fun bt331 => (if (bt312.2.1 == bt331.1 && (bt312.2.2.1 == bt331.2.1 && (bt312.2.2.2.1 == bt331.2.2.1 && (bt312.2.2.2.2 == bt331.2.2.2)))) = true then (if (bt312.1.length : Int) = 0 then ((cread_Valid.f k a0).bind fun t335 => (some (!t335))) else (some false)) else (some false))))))) else (some false))
def dragomanlaw13_CreadSays.T8 : Bool × List (List Nat × List Nat) := (true, [([], []), ([], []), ([], []), ([2], [2]), ([], []), ([4], [4]), ([1, 3, 5], [1, 3, 5]), ([0, 6], [0, 6]), ([7, 6], [7]), ([8], [8]), ([9, 8], [8, 9]), ([10, 8], [8, 10]), ([8, 11], [8, 11]), ([12, 8], [12]), ([13], [13]), ([14, 13, 13], [13, 14]), ([15, 13], [13, 15]), ([13, 16], [13, 16]), ([17, 15, 0, 1, 2, 3, 4, 5, 6, 7, 8, 9, 10, 11, 12, 13, 14, 15, 16, 17], [17])])
def dragomanlaw13_CreadSays.B8 : List Nat := [0, 0, 0, 4, 0, 16, 62, 127, 255, 511, 1023, 2047, 4095, 8191, 16383, 32767, 65535, 131071, 262143]
theorem dragomanlaw13_CreadSays.tab8 : rtab .any (opsOf Try.f4 8) = dragomanlaw13_CreadSays.T8 := by kernel_rfl
theorem dragomanlaw13_CreadSays.bits8 : waitsOk dragomanlaw13_CreadSays.T8.2 dragomanlaw13_CreadSays.B8 = true := by kernel_rfl
set_option maxHeartbeats 8000000 in
set_option maxRecDepth 100000 in
theorem dragomanlaw13_CreadSays.calls (k : Nat) (a0 : ByteArray) (r : Bool) (w : World) (h : dragomanlaw13_CreadSays.f k a0 = some r) :
  Calls Try.prog 4 #[.string a0] w fun e w' => e = .returned (.bool r) ∧ Below w.heap.size w w' := by
 have hu26 := Try.underlying26
 have hu32 := Try.underlying32
 have HB := Aside0.mk (Below.refl w.heap.size w)
 have H : ((dragomanlaw13_awake.f k).bind fun t311 => (if t311 = true then (if (a0.size : Int) > 3000 then (some true) else ((cread_Rows.f a0).bind fun bt312 => ((dragomanref13_Rows.f k a0).bind fun bt320 => (if bt320.2.2.1 = 0 then (if (bt312.2.1 == 0 && (bt312.2.2.1 == 0 && (bt312.2.2.2.1 == 0 && (bt312.2.2.2.2 == 0)))) = true then ((dragomanref17_Rows.f k bt312.1 bt320.1).bind fun t329 => (if t329 = true then ((cread_Valid.f k a0).bind fun t330 => (some t330)) else (some false))) else (some false)) else ((dragomanref1_Fault.f k a0 bt320.2.2.2 bt320.2.2.1).bind fun bt331 => (if (bt312.2.1 == bt331.1 && (bt312.2.2.1 == bt331.2.1 && (bt312.2.2.2.1 == bt331.2.2.1 && (bt312.2.2.2.2 == bt331.2.2.2)))) = true then (if (bt312.1.length : Int) = 0 then ((cread_Valid.f k a0).bind fun t335 => (some (!t335))) else (some false)) else (some false))))))) else (some false))) = some r := h
 clear h
 replace H := Option.bind_eq_some_iff.mp H
 obtain ⟨t311, A20, H⟩ := H
 replace H : (if t311 = true then (if (a0.size : Int) > 3000 then (some true) else ((cread_Rows.f a0).bind fun bt312 => ((dragomanref13_Rows.f k a0).bind fun bt320 => (if bt320.2.2.1 = 0 then (if (bt312.2.1 == 0 && (bt312.2.2.1 == 0 && (bt312.2.2.2.1 == 0 && (bt312.2.2.2.2 == 0)))) = true then ((dragomanref17_Rows.f k bt312.1 bt320.1).bind fun t329 => (if t329 = true then ((cread_Valid.f k a0).bind fun t330 => (some t330)) else (some false))) else (some false)) else ((dragomanref1_Fault.f k a0 bt320.2.2.2 bt320.2.2.1).bind fun bt331 => (if (bt312.2.1 == bt331.1 && (bt312.2.2.1 == bt331.2.1 && (bt312.2.2.2.1 == bt331.2.2.1 && (bt312.2.2.2.2 == bt331.2.2.2)))) = true then (if (bt312.1.length : Int) = 0 then ((cread_Valid.f k a0).bind fun t335 => (some (!t335))) else (some false)) else (some false))))))) else (some false)) = some r := H
 have A2 := Aside0.mk A20
 clear A20
 by_cases c3 : t311 = true
 ·subst c3
  have H1 : (if (a0.size : Int) > 3000 then (some true) else ((cread_Rows.f a0).bind fun bt312 => ((dragomanref13_Rows.f k a0).bind fun bt320 => (if bt320.2.2.1 = 0 then (if (bt312.2.1 == 0 && (bt312.2.2.1 == 0 && (bt312.2.2.2.1 == 0 && (bt312.2.2.2.2 == 0)))) = true then ((dragomanref17_Rows.f k bt312.1 bt320.1).bind fun t329 => (if t329 = true then ((cread_Valid.f k a0).bind fun t330 => (some t330)) else (some false))) else (some false)) else ((dragomanref1_Fault.f k a0 bt320.2.2.2 bt320.2.2.1).bind fun bt331 => (if (bt312.2.1 == bt331.1 && (bt312.2.2.1 == bt331.2.1 && (bt312.2.2.2.1 == bt331.2.2.1 && (bt312.2.2.2.2 == bt331.2.2.2)))) = true then (if (bt312.1.length : Int) = 0 then ((cread_Valid.f k a0).bind fun t335 => (some (!t335))) else (some false)) else (some false))))))) = some r := by rw [if_pos rfl] at H; exact H
  clear H
  have H := H1
  clear H1
  by_cases c4 : (a0.size : Int) > 3000
  ·rw [if_pos c4] at H
   have c4b0 : decide (3000 < (a0.size : Int)) = true := decide_eq_true c4
   have c4b1 : decide (3000 < a0.size) = true := decide_eq_true (by omega)
   clear c4
   obtain rfl := Option.some.inj H
   go_enter Try.func4, Try.ntmps4
   go_wp2_with (first | ((with_reducible refine gate_callee (f := 8) rfl ?_); refine goesL_ (some 8) rfl rfl Try.func8 (by kernel_rfl) rfl #[] rfl (by (try simp only [List.map_toArray, List.map_cons, List.map_nil]); first | done | rfl | (simp only [List.length_drop, List.length_take]; rfl)) ?_; (with_reducible refine (dragomanlaw13_awake.calls k  true _ A2.out).mono ?_); rintro e w5 ⟨rfl, hb⟩; refine ⟨_, rfl, ?_⟩; have n0_ := Aside0.mk (below_step (by repeat (first | (with_reducible first | exact HB.out | apply below_alloc | apply pw_below_drewN | apply below_drew1) | exact HB.out)) hb); clear HB; have HB := n0_; clear n0_; (try clear hb); (try clear hb2); (try clear hk); (try clear hi)))
   go_ret
   exact ⟨by first | rfl | (simp [errW_none, errW_some] <;> rfl) | (simp [*, errW_none, errW_some, bne]; done) | (simp [*, errW_none, errW_some] <;> rfl), by repeat (first | (with_reducible first | exact HB.out | apply below_alloc | apply pw_below_drewN | apply below_drew1) | exact HB.out)⟩
  ·rw [if_neg c4] at H
   have c4b0 : decide (3000 < (a0.size : Int)) = false := decide_eq_false c4
   have c4b1 : decide (3000 < a0.size) = false := decide_eq_false (by omega)
   clear c4
   replace H := Option.bind_eq_some_iff.mp H
   obtain ⟨⟨t312, t315, t316, t317, t318⟩, A60, H⟩ := H
   replace H : ((dragomanref13_Rows.f k a0).bind fun bt320 => (if bt320.2.2.1 = 0 then (if (t315 == 0 && (t316 == 0 && (t317 == 0 && (t318 == 0)))) = true then ((dragomanref17_Rows.f k t312 bt320.1).bind fun t329 => (if t329 = true then ((cread_Valid.f k a0).bind fun t330 => (some t330)) else (some false))) else (some false)) else ((dragomanref1_Fault.f k a0 bt320.2.2.2 bt320.2.2.1).bind fun bt331 => (if (t315 == bt331.1 && (t316 == bt331.2.1 && (t317 == bt331.2.2.1 && (t318 == bt331.2.2.2)))) = true then (if (t312.length : Int) = 0 then ((cread_Valid.f k a0).bind fun t335 => (some (!t335))) else (some false)) else (some false))))) = some r := H
   have A6 := Aside0.mk A60
   clear A60
   replace H := Option.bind_eq_some_iff.mp H
   obtain ⟨⟨t320, t323, t326, t327⟩, A70, H⟩ := H
   replace H : (if t326 = 0 then (if (t315 == 0 && (t316 == 0 && (t317 == 0 && (t318 == 0)))) = true then ((dragomanref17_Rows.f k t312 t320).bind fun t329 => (if t329 = true then ((cread_Valid.f k a0).bind fun t330 => (some t330)) else (some false))) else (some false)) else ((dragomanref1_Fault.f k a0 t327 t326).bind fun bt331 => (if (t315 == bt331.1 && (t316 == bt331.2.1 && (t317 == bt331.2.2.1 && (t318 == bt331.2.2.2)))) = true then (if (t312.length : Int) = 0 then ((cread_Valid.f k a0).bind fun t335 => (some (!t335))) else (some false)) else (some false)))) = some r := H
   have A7 := Aside0.mk A70
   clear A70
   by_cases c8 : t326 = 0
   ·rw [if_pos c8] at H
    have c8b0 : (t326 == 0) = true := beq_iff_eq.mpr c8
    have c8b1 : (t326 != 0) = false := bne_eq_false_iff_eq.mpr c8
    clear c8
    by_cases c9 : (t315 == 0 && (t316 == 0 && (t317 == 0 && (t318 == 0)))) = true
    ·rw [if_pos c9] at H
     have c9b0 : (t315 == 0 && (t316 == 0 && (t317 == 0 && (t318 == 0)))) = true := c9
     (try (have c9b1 : decide (t315 = 0 && (t316 == 0 && (t317 == 0 && (t318 == 0)))) = true := by simpa using c9))
     (try (have c9b2 : (t315 == 0 && (t316 == 0 && (t317 == 0 && (t318 == 0)))) = true := by simpa using c9))
     clear c9
     replace H := Option.bind_eq_some_iff.mp H
     obtain ⟨t329, A100, H⟩ := H
     replace H : (if t329 = true then ((cread_Valid.f k a0).bind fun t330 => (some t330)) else (some false)) = some r := H
     have A10 := Aside0.mk A100
     clear A100
     by_cases c11 : t329 = true
     ·subst c11
      have H1 : ((cread_Valid.f k a0).bind fun t330 => (some t330)) = some r := by rw [if_pos rfl] at H; exact H
      clear H
      have H := H1
      clear H1
      replace H := Option.bind_eq_some_iff.mp H
      obtain ⟨t330, A120, H⟩ := H
      replace H : (some t330) = some r := H
      have A12 := Aside0.mk A120
      clear A120
      obtain rfl := Option.some.inj H
      go_enter Try.func4, Try.ntmps4
      go_wp2_with (first | ((with_reducible refine gate_callee (f := 8) rfl ?_); refine goesL_ (some 8) rfl rfl Try.func8 (by kernel_rfl) rfl #[] rfl (by (try simp only [List.map_toArray, List.map_cons, List.map_nil]); first | done | rfl | (simp only [List.length_drop, List.length_take]; rfl)) ?_; (with_reducible refine (dragomanlaw13_awake.calls k  true _ A2.out).mono ?_); rintro e w13 ⟨rfl, hb⟩; refine ⟨_, rfl, ?_⟩; have n0_ := Aside0.mk (below_step (by repeat (first | (with_reducible first | exact HB.out | apply below_alloc | apply pw_below_drewN | apply below_drew1) | exact HB.out)) hb); clear HB; have HB := n0_; clear n0_; (try clear hb); (try clear hb2); (try clear hk); (try clear hi)) | ((with_reducible refine gate_callee (f := 9) rfl ?_); refine goesL_ (some 15) rfl rfl Try.func9 (by kernel_rfl) rfl #[.string a0] rfl (by (try simp only [List.map_toArray, List.map_cons, List.map_nil]); first | done | rfl | (simp only [List.length_drop, List.length_take]; rfl)) ?_; (with_reducible refine (cread_Rows.calls a0 t312 t315 t316 t317 t318 _ A6.out).mono ?_); rintro e w14 ⟨v313, rfl, ho0, hb⟩; refine ⟨_, rfl, ?_⟩; have n0_ := Aside0.mk (Kd.S_lower ho0 (below_size (by repeat (first | (with_reducible first | exact HB.out | apply below_alloc | apply pw_below_drewN | apply below_drew1) | exact HB.out)))); have n1_ := Aside0.mk (below_step (by repeat (first | (with_reducible first | exact HB.out | apply below_alloc | apply pw_below_drewN | apply below_drew1) | exact HB.out)) hb); clear HB; have HO314 := n0_; have HB := n1_; clear n0_ n1_; (try clear hb); (try clear hb2); (try clear hk); (try clear hi); (try clear ho0)) | ((with_reducible refine gate_dst (N := 4) rfl ?_); (try (refine gate_guard (by rfl) ?_; dsimp only)); refine box_event ?hg (N := 4) ?hd (cs := #[.int .i64 0, .int .i64 0, .int .i64 0, .int .i64 0]) (t := 26) ?hr ?_; (case hd => rfl); (case hg => rfl); (case hr => first | (go_simp; done) | (go_simp; rfl)); intro gb319 hg w15 hbox hb; have n0_ := Aside0.mk (Kd.S_below (by (with_reducible repeat (first | apply Kd.S_alloc | apply Kd.S_drewN | apply Kd.S_drew)); exact HO314.out) hb); have n1_ := Aside0.mk (below_step (by repeat (first | (with_reducible first | exact HB.out | apply below_alloc | apply pw_below_drewN | apply below_drew1) | exact HB.out)) hb); have n2_ := Aside0.mk (hbox); have n3_ := Aside0.mk ((by rw [hg]; exact (below_size (by repeat (first | (with_reducible first | exact HB.out | apply below_alloc | apply pw_below_drewN | apply below_drew1) | exact HB.out))) : w.heap.size ≤ gb319)); have n4_ := Aside0.mk ((by rw [hg]; exact (below_size (by repeat (first | (with_reducible first | exact HB.out | apply below_alloc | apply pw_below_drewN | apply below_drew1) | exact HB.out))) : w.heap.size ≤ gb319)); clear HO314; clear HB; have HO314 := n0_; have HB := n1_; have BK319 := n2_; have GW319 := n3_; have GE319 := n4_; clear n0_ n1_ n2_ n3_ n4_; clear hb hbox hg; have hcz16_0 : w15.cell? ⟨gb319, 0, none⟩ = some (.int .i64 0) := (blk_cell BK319.out 0).trans rfl; have hcz16_1 : w15.cell? ⟨gb319, 1, none⟩ = some (.int .i64 0) := (blk_cell BK319.out 1).trans rfl; have hcz16_2 : w15.cell? ⟨gb319, 2, none⟩ = some (.int .i64 0) := (blk_cell BK319.out 2).trans rfl; have hcz16_3 : w15.cell? ⟨gb319, 3, none⟩ = some (.int .i64 0) := (blk_cell BK319.out 3).trans rfl; have hfz16_0 := blk_frozen BK319.out 0; have hfz16_1 := blk_frozen BK319.out 1; have hfz16_2 := blk_frozen BK319.out 2; have hfz16_3 := blk_frozen BK319.out 3) | ((with_reducible refine gate_callee (f := 10) rfl ?_); refine goesL_ (some 20) rfl rfl Try.func10 (by kernel_rfl) rfl #[.string a0] rfl (by (try simp only [List.map_toArray, List.map_cons, List.map_nil]); first | done | rfl | (simp only [List.length_drop, List.length_take]; rfl)) ?_; (with_reducible refine (dragomanref13_Rows.calls k a0 t320 t323 t326 t327 _ A7.out).mono ?_); rintro e w17 ⟨v321, v324, rfl, ho0, ho1, hb⟩; refine ⟨_, rfl, ?_⟩; have n0_ := Aside0.mk (Kd.S_elder' (by (with_reducible repeat (first | apply Kd.S_alloc | apply Kd.S_drewN | apply Kd.S_drew)); exact (Kd.S_mono (Kd.S_far (p := ⟨gb319, 3, none⟩) (Kd.S_far (p := ⟨gb319, 2, none⟩) (Kd.S_far (p := ⟨gb319, 1, none⟩) (Kd.S_far (p := ⟨gb319, 0, none⟩) (Kd.S_types HO314.out BK319.out (by decide)) (fun _ hk => hk.2) (.int .i64 t315)) (fun _ hk => hk.2) (.int .i64 t316)) (fun _ hk => hk.2) (.int .i64 t317)) (fun _ hk => hk.2) (.int .i64 t318)) (fun _ h_ => h_.1))) (Kd.S_base ho0) hb); have n1_ := Aside0.mk (Kd.S_lower (Kd.S_new' ho0 (Kd.S_lt (by (with_reducible repeat (first | apply Kd.S_alloc | apply Kd.S_drewN | apply Kd.S_drew)); exact (Kd.S_mono (Kd.S_far (p := ⟨gb319, 3, none⟩) (Kd.S_far (p := ⟨gb319, 2, none⟩) (Kd.S_far (p := ⟨gb319, 1, none⟩) (Kd.S_far (p := ⟨gb319, 0, none⟩) (Kd.S_types HO314.out BK319.out (by decide)) (fun _ hk => hk.2) (.int .i64 t315)) (fun _ hk => hk.2) (.int .i64 t316)) (fun _ hk => hk.2) (.int .i64 t317)) (fun _ hk => hk.2) (.int .i64 t318)) (fun _ h_ => h_.1))))) (below_size (by repeat (first | (with_reducible first | exact HB.out | apply below_alloc | apply pw_below_drewN | apply below_drew1 | refine below_set ?_ GE319.out) | exact HB.out)))); have n2_ := Aside0.mk (Kd.S_lower ho1 (below_size (by repeat (first | (with_reducible first | exact HB.out | apply below_alloc | apply pw_below_drewN | apply below_drew1 | refine below_set ?_ GE319.out) | exact HB.out)))); have n3_ := Aside0.mk (blk_below (g := gb319) (o := .cells #[.int .i64 t315, .int .i64 t316, .int .i64 t317, .int .i64 t318] 26 (0, 0)) (by (with_reducible repeat (first | refine blk_drewN ?_ _ | refine blk_drew ?_ | refine blk_alloc ?_ _)); refine blk_put (cs := #[.int .i64 t315, .int .i64 t316, .int .i64 t317, .int .i64 0]) ?_ 3 _ rfl; (with_reducible repeat (first | refine blk_drewN ?_ _ | refine blk_drew ?_ | refine blk_alloc ?_ _)); refine blk_put (cs := #[.int .i64 t315, .int .i64 t316, .int .i64 0, .int .i64 0]) ?_ 2 _ rfl; (with_reducible repeat (first | refine blk_drewN ?_ _ | refine blk_drew ?_ | refine blk_alloc ?_ _)); refine blk_put (cs := #[.int .i64 t315, .int .i64 0, .int .i64 0, .int .i64 0]) ?_ 1 _ rfl; (with_reducible repeat (first | refine blk_drewN ?_ _ | refine blk_drew ?_ | refine blk_alloc ?_ _)); refine blk_put (cs := #[.int .i64 0, .int .i64 0, .int .i64 0, .int .i64 0]) ?_ 0 _ rfl; (with_reducible repeat (first | refine blk_drewN ?_ _ | refine blk_drew ?_ | refine blk_alloc ?_ _)); exact BK319.out) hb); have n4_ := Aside0.mk (below_step (by repeat (first | (with_reducible first | exact HB.out | apply below_alloc | apply pw_below_drewN | apply below_drew1 | refine below_set ?_ GE319.out) | exact HB.out)) hb); clear HO314; clear BK319; clear HB; have HO314 := n0_; have HO322 := n1_; have HO325 := n2_; have BK319 := n3_; have HB := n4_; clear n0_ n1_ n2_ n3_ n4_; (try clear hb); (try clear hb2); (try clear hk); (try clear hi); (try clear ho0); (try clear ho1)) | ((with_reducible refine gate_dst (N := 7) rfl ?_); (try (refine gate_guard (by rfl) ?_; dsimp only)); refine box_event ?hg (N := 7) ?hd (cs := #[.int .i64 0, .int .i64 0]) (t := 32) ?hr ?_; (case hd => rfl); (case hg => rfl); (case hr => first | (go_simp; done) | (go_simp; rfl)); intro gb328 hg w18 hbox hb; have n0_ := Aside0.mk (Kd.S_below (by (with_reducible repeat (first | apply Kd.S_alloc | apply Kd.S_drewN | apply Kd.S_drew)); exact HO314.out) hb); have n1_ := Aside0.mk (Kd.S_below (by (with_reducible repeat (first | apply Kd.S_alloc | apply Kd.S_drewN | apply Kd.S_drew)); exact HO322.out) hb); have n2_ := Aside0.mk (Kd.S_below (by (with_reducible repeat (first | apply Kd.S_alloc | apply Kd.S_drewN | apply Kd.S_drew)); exact HO325.out) hb); have n3_ := Aside0.mk (blk_below (g := gb319) (o := .cells #[.int .i64 t315, .int .i64 t316, .int .i64 t317, .int .i64 t318] 26 (0, 0)) (by (with_reducible repeat (first | refine blk_drewN ?_ _ | refine blk_drew ?_ | refine blk_alloc ?_ _)); exact BK319.out) hb); have n4_ := Aside0.mk (below_step (by repeat (first | (with_reducible first | exact HB.out | apply below_alloc | apply pw_below_drewN | apply below_drew1 | refine below_set ?_ GE319.out) | exact HB.out)) hb); have n5_ := Aside0.mk (hbox); have n6_ := Aside0.mk ((by rw [hg]; exact (below_size (by repeat (first | (with_reducible first | exact HB.out | apply below_alloc | apply pw_below_drewN | apply below_drew1 | refine below_set ?_ GE319.out) | exact HB.out))) : w.heap.size ≤ gb328)); have n7_ := Aside0.mk ((by rw [hg]; exact (below_size (by repeat (first | (with_reducible first | exact HB.out | apply below_alloc | apply pw_below_drewN | apply below_drew1 | refine below_set ?_ GE319.out) | exact HB.out))) : w.heap.size ≤ gb328)); have n8_ := Aside0.mk ((by rw [hg]; exact Nat.ne_of_lt (blk_lt (g := gb319) (o := .cells #[.int .i64 t315, .int .i64 t316, .int .i64 t317, .int .i64 t318] 26 (0, 0)) (by (with_reducible repeat (first | refine blk_drewN ?_ _ | refine blk_drew ?_ | refine blk_alloc ?_ _)); exact BK319.out)) : gb319 ≠ gb328)); have n9_ := Aside0.mk ((by rw [hg]; exact Nat.ne_of_gt (blk_lt (g := gb319) (o := .cells #[.int .i64 t315, .int .i64 t316, .int .i64 t317, .int .i64 t318] 26 (0, 0)) (by (with_reducible repeat (first | refine blk_drewN ?_ _ | refine blk_drew ?_ | refine blk_alloc ?_ _)); exact BK319.out)) : gb328 ≠ gb319)); clear HO314; clear HO322; clear HO325; clear BK319; clear HB; have HO314 := n0_; have HO322 := n1_; have HO325 := n2_; have BK319 := n3_; have HB := n4_; have BK328 := n5_; have GW328 := n6_; have GE328 := n7_; have NB319_328 := n8_; have NB328_319 := n9_; clear n0_ n1_ n2_ n3_ n4_ n5_ n6_ n7_ n8_ n9_; clear hb hbox hg; have hnb19 := NB328_319.out; have hnc19 := NB319_328.out; have hcz20_0 : w18.cell? ⟨gb328, 0, none⟩ = some (.int .i64 0) := (blk_cell BK328.out 0).trans rfl; have hcz20_1 : w18.cell? ⟨gb328, 1, none⟩ = some (.int .i64 0) := (blk_cell BK328.out 1).trans rfl; have hfz20_0 := blk_frozen BK328.out 0; have hfz20_1 := blk_frozen BK328.out 1; have hcz21_0 : w18.cell? ⟨gb319, 0, none⟩ = some (.int .i64 t315) := (blk_cell BK319.out 0).trans rfl; have hcz21_1 : w18.cell? ⟨gb319, 1, none⟩ = some (.int .i64 t316) := (blk_cell BK319.out 1).trans rfl; have hcz21_2 : w18.cell? ⟨gb319, 2, none⟩ = some (.int .i64 t317) := (blk_cell BK319.out 2).trans rfl; have hcz21_3 : w18.cell? ⟨gb319, 3, none⟩ = some (.int .i64 t318) := (blk_cell BK319.out 3).trans rfl; have hfz21_0 := blk_frozen BK319.out 0; have hfz21_1 := blk_frozen BK319.out 1; have hfz21_2 := blk_frozen BK319.out 2; have hfz21_3 := blk_frozen BK319.out 3; obtain ⟨Ao22, co22, eo22⟩ := Kd.S_slice HO314.out; subst eo22; obtain ⟨Ao23, co23, eo23⟩ := Kd.S_slice HO322.out; subst eo23) | (go_at_call 13; (with_reducible refine (dragomanref17_Rows.calls k _ _ t312 _ _ t320 true _ ?side1 ?side2 ?side3 ?side4 A10.out).mono ?_); (case side1 => refine (Kd.S_reads' (e := 29) (base := w.heap.size) (ok := fun k_ => (True ∧ some k_ ≠ (.slice Ao23 t320.length co23 : Value).ownBlock)) (n := t312.length) (c := co22) ?_).2.2; exact (by (with_reducible repeat (first | apply Kd.S_alloc | apply Kd.S_drewN | apply Kd.S_drew)); exact (Kd.S_mono (Kd.S_far (p := ⟨gb328, 1, none⟩) (Kd.S_far (p := ⟨gb328, 0, none⟩) (Kd.S_types HO314.out BK328.out (by decide)) (fun _ hk => hk.2) (.int .i64 t326)) (fun _ hk => hk.2) (.int .i64 t327)) (fun _ h_ => h_.1)))); (case side2 => exact (Kd.S_reads' HO314.out).2.1); (case side3 => refine (Kd.S_reads' (e := 29) (base := w.heap.size) (ok := fun k_ => (True ∧ some k_ ≠ (.slice Ao22 t312.length co22 : Value).ownBlock)) (n := t320.length) (c := co23) ?_).2.2; exact (by (with_reducible repeat (first | apply Kd.S_alloc | apply Kd.S_drewN | apply Kd.S_drew)); exact (Kd.S_mono (Kd.S_far (p := ⟨gb328, 1, none⟩) (Kd.S_far (p := ⟨gb328, 0, none⟩) (Kd.S_types HO322.out BK328.out (by decide)) (fun _ hk => hk.2) (.int .i64 t326)) (fun _ hk => hk.2) (.int .i64 t327)) (fun _ h_ => h_.1)))); (case side4 => exact (Kd.S_reads' HO322.out).2.1); rintro e w' ⟨rfl, ⟨nd, rfl⟩⟩) | (go_at_call 12; (with_reducible refine (cread_Valid.calls k a0 t330 _ A12.out).mono ?_); rintro e w24 ⟨rfl, hb⟩; have n0_ := Aside0.mk (Kd.S_below (by (with_reducible repeat (first | apply Kd.S_alloc | apply Kd.S_drewN | apply Kd.S_drew)); exact (Kd.S_mono (Kd.S_far (p := ⟨gb328, 1, none⟩) (Kd.S_far (p := ⟨gb328, 0, none⟩) (Kd.S_types HO314.out BK328.out (by decide)) (fun _ hk => hk.2) (.int .i64 t326)) (fun _ hk => hk.2) (.int .i64 t327)) (fun _ h_ => h_.1))) hb); have n1_ := Aside0.mk (Kd.S_below (by (with_reducible repeat (first | apply Kd.S_alloc | apply Kd.S_drewN | apply Kd.S_drew)); exact (Kd.S_mono (Kd.S_far (p := ⟨gb328, 1, none⟩) (Kd.S_far (p := ⟨gb328, 0, none⟩) (Kd.S_types HO322.out BK328.out (by decide)) (fun _ hk => hk.2) (.int .i64 t326)) (fun _ hk => hk.2) (.int .i64 t327)) (fun _ h_ => h_.1))) hb); have n2_ := Aside0.mk (Kd.S_below (by (with_reducible repeat (first | apply Kd.S_alloc | apply Kd.S_drewN | apply Kd.S_drew)); exact (Kd.S_mono (Kd.S_far (p := ⟨gb328, 1, none⟩) (Kd.S_far (p := ⟨gb328, 0, none⟩) (Kd.S_types HO325.out BK328.out (by decide)) (fun _ hk => hk.2) (.int .i64 t326)) (fun _ hk => hk.2) (.int .i64 t327)) (fun _ h_ => h_.1))) hb); have n3_ := Aside0.mk (blk_below (g := gb319) (o := .cells #[.int .i64 t315, .int .i64 t316, .int .i64 t317, .int .i64 t318] 26 (0, 0)) (by (with_reducible repeat (first | refine blk_drewN ?_ _ | refine blk_drew ?_ | refine blk_alloc ?_ _)); refine blk_far ?_ NB319_328.out _; (with_reducible repeat (first | refine blk_drewN ?_ _ | refine blk_drew ?_ | refine blk_alloc ?_ _)); refine blk_far ?_ NB319_328.out _; (with_reducible repeat (first | refine blk_drewN ?_ _ | refine blk_drew ?_ | refine blk_alloc ?_ _)); exact BK319.out) hb); have n4_ := Aside0.mk (blk_below (g := gb328) (o := .cells #[.int .i64 t326, .int .i64 t327] 32 (0, 0)) (by (with_reducible repeat (first | refine blk_drewN ?_ _ | refine blk_drew ?_ | refine blk_alloc ?_ _)); refine blk_put (cs := #[.int .i64 t326, .int .i64 0]) ?_ 1 _ rfl; (with_reducible repeat (first | refine blk_drewN ?_ _ | refine blk_drew ?_ | refine blk_alloc ?_ _)); refine blk_put (cs := #[.int .i64 0, .int .i64 0]) ?_ 0 _ rfl; (with_reducible repeat (first | refine blk_drewN ?_ _ | refine blk_drew ?_ | refine blk_alloc ?_ _)); exact BK328.out) hb); have n5_ := Aside0.mk (below_step (by repeat (first | (with_reducible first | exact HB.out | apply below_alloc | apply pw_below_drewN | apply below_drew1 | refine below_set ?_ GE319.out | refine below_set ?_ GE328.out) | exact HB.out)) hb); clear HO314; clear HO322; clear HO325; clear BK319; clear BK328; clear HB; have HO314 := n0_; have HO322 := n1_; have HO325 := n2_; have BK319 := n3_; have BK328 := n4_; have HB := n5_; clear n0_ n1_ n2_ n3_ n4_ n5_; (try clear hb); (try clear hb2); (try clear hk); (try clear hi)))
      go_ret
      exact ⟨by first | rfl | (simp [errW_none, errW_some] <;> rfl) | (simp [*, errW_none, errW_some, bne]; done) | (simp [*, errW_none, errW_some] <;> rfl), by repeat (first | (with_reducible first | exact HB.out | apply below_alloc | apply pw_below_drewN | apply below_drew1 | refine below_set ?_ GE319.out | refine below_set ?_ GE328.out) | exact HB.out)⟩
     ·replace c11 := Bool.eq_false_iff.mpr c11
      subst c11
      have H1 : (some false) = some r := by rw [if_neg (show ¬ (false = true) by decide)] at H; exact H
      clear H
      have H := H1
      clear H1
      obtain rfl := Option.some.inj H
      go_enter Try.func4, Try.ntmps4
      go_wp2_with (first | ((with_reducible refine gate_callee (f := 8) rfl ?_); refine goesL_ (some 8) rfl rfl Try.func8 (by kernel_rfl) rfl #[] rfl (by (try simp only [List.map_toArray, List.map_cons, List.map_nil]); first | done | rfl | (simp only [List.length_drop, List.length_take]; rfl)) ?_; (with_reducible refine (dragomanlaw13_awake.calls k  true _ A2.out).mono ?_); rintro e w25 ⟨rfl, hb⟩; refine ⟨_, rfl, ?_⟩; have n0_ := Aside0.mk (below_step (by repeat (first | (with_reducible first | exact HB.out | apply below_alloc | apply pw_below_drewN | apply below_drew1) | exact HB.out)) hb); clear HB; have HB := n0_; clear n0_; (try clear hb); (try clear hb2); (try clear hk); (try clear hi)) | ((with_reducible refine gate_callee (f := 9) rfl ?_); refine goesL_ (some 15) rfl rfl Try.func9 (by kernel_rfl) rfl #[.string a0] rfl (by (try simp only [List.map_toArray, List.map_cons, List.map_nil]); first | done | rfl | (simp only [List.length_drop, List.length_take]; rfl)) ?_; (with_reducible refine (cread_Rows.calls a0 t312 t315 t316 t317 t318 _ A6.out).mono ?_); rintro e w26 ⟨v313, rfl, ho0, hb⟩; refine ⟨_, rfl, ?_⟩; have n0_ := Aside0.mk (Kd.S_lower ho0 (below_size (by repeat (first | (with_reducible first | exact HB.out | apply below_alloc | apply pw_below_drewN | apply below_drew1) | exact HB.out)))); have n1_ := Aside0.mk (below_step (by repeat (first | (with_reducible first | exact HB.out | apply below_alloc | apply pw_below_drewN | apply below_drew1) | exact HB.out)) hb); clear HB; have HO314 := n0_; have HB := n1_; clear n0_ n1_; (try clear hb); (try clear hb2); (try clear hk); (try clear hi); (try clear ho0)) | ((with_reducible refine gate_dst (N := 4) rfl ?_); (try (refine gate_guard (by rfl) ?_; dsimp only)); refine box_event ?hg (N := 4) ?hd (cs := #[.int .i64 0, .int .i64 0, .int .i64 0, .int .i64 0]) (t := 26) ?hr ?_; (case hd => rfl); (case hg => rfl); (case hr => first | (go_simp; done) | (go_simp; rfl)); intro gb319 hg w27 hbox hb; have n0_ := Aside0.mk (Kd.S_below (by (with_reducible repeat (first | apply Kd.S_alloc | apply Kd.S_drewN | apply Kd.S_drew)); exact HO314.out) hb); have n1_ := Aside0.mk (below_step (by repeat (first | (with_reducible first | exact HB.out | apply below_alloc | apply pw_below_drewN | apply below_drew1) | exact HB.out)) hb); have n2_ := Aside0.mk (hbox); have n3_ := Aside0.mk ((by rw [hg]; exact (below_size (by repeat (first | (with_reducible first | exact HB.out | apply below_alloc | apply pw_below_drewN | apply below_drew1) | exact HB.out))) : w.heap.size ≤ gb319)); have n4_ := Aside0.mk ((by rw [hg]; exact (below_size (by repeat (first | (with_reducible first | exact HB.out | apply below_alloc | apply pw_below_drewN | apply below_drew1) | exact HB.out))) : w.heap.size ≤ gb319)); clear HO314; clear HB; have HO314 := n0_; have HB := n1_; have BK319 := n2_; have GW319 := n3_; have GE319 := n4_; clear n0_ n1_ n2_ n3_ n4_; clear hb hbox hg; have hcz28_0 : w27.cell? ⟨gb319, 0, none⟩ = some (.int .i64 0) := (blk_cell BK319.out 0).trans rfl; have hcz28_1 : w27.cell? ⟨gb319, 1, none⟩ = some (.int .i64 0) := (blk_cell BK319.out 1).trans rfl; have hcz28_2 : w27.cell? ⟨gb319, 2, none⟩ = some (.int .i64 0) := (blk_cell BK319.out 2).trans rfl; have hcz28_3 : w27.cell? ⟨gb319, 3, none⟩ = some (.int .i64 0) := (blk_cell BK319.out 3).trans rfl; have hfz28_0 := blk_frozen BK319.out 0; have hfz28_1 := blk_frozen BK319.out 1; have hfz28_2 := blk_frozen BK319.out 2; have hfz28_3 := blk_frozen BK319.out 3) | ((with_reducible refine gate_callee (f := 10) rfl ?_); refine goesL_ (some 20) rfl rfl Try.func10 (by kernel_rfl) rfl #[.string a0] rfl (by (try simp only [List.map_toArray, List.map_cons, List.map_nil]); first | done | rfl | (simp only [List.length_drop, List.length_take]; rfl)) ?_; (with_reducible refine (dragomanref13_Rows.calls k a0 t320 t323 t326 t327 _ A7.out).mono ?_); rintro e w29 ⟨v321, v324, rfl, ho0, ho1, hb⟩; refine ⟨_, rfl, ?_⟩; have n0_ := Aside0.mk (Kd.S_elder' (by (with_reducible repeat (first | apply Kd.S_alloc | apply Kd.S_drewN | apply Kd.S_drew)); exact (Kd.S_mono (Kd.S_far (p := ⟨gb319, 3, none⟩) (Kd.S_far (p := ⟨gb319, 2, none⟩) (Kd.S_far (p := ⟨gb319, 1, none⟩) (Kd.S_far (p := ⟨gb319, 0, none⟩) (Kd.S_types HO314.out BK319.out (by decide)) (fun _ hk => hk.2) (.int .i64 t315)) (fun _ hk => hk.2) (.int .i64 t316)) (fun _ hk => hk.2) (.int .i64 t317)) (fun _ hk => hk.2) (.int .i64 t318)) (fun _ h_ => h_.1))) (Kd.S_base ho0) hb); have n1_ := Aside0.mk (Kd.S_lower (Kd.S_new' ho0 (Kd.S_lt (by (with_reducible repeat (first | apply Kd.S_alloc | apply Kd.S_drewN | apply Kd.S_drew)); exact (Kd.S_mono (Kd.S_far (p := ⟨gb319, 3, none⟩) (Kd.S_far (p := ⟨gb319, 2, none⟩) (Kd.S_far (p := ⟨gb319, 1, none⟩) (Kd.S_far (p := ⟨gb319, 0, none⟩) (Kd.S_types HO314.out BK319.out (by decide)) (fun _ hk => hk.2) (.int .i64 t315)) (fun _ hk => hk.2) (.int .i64 t316)) (fun _ hk => hk.2) (.int .i64 t317)) (fun _ hk => hk.2) (.int .i64 t318)) (fun _ h_ => h_.1))))) (below_size (by repeat (first | (with_reducible first | exact HB.out | apply below_alloc | apply pw_below_drewN | apply below_drew1 | refine below_set ?_ GE319.out) | exact HB.out)))); have n2_ := Aside0.mk (Kd.S_lower ho1 (below_size (by repeat (first | (with_reducible first | exact HB.out | apply below_alloc | apply pw_below_drewN | apply below_drew1 | refine below_set ?_ GE319.out) | exact HB.out)))); have n3_ := Aside0.mk (blk_below (g := gb319) (o := .cells #[.int .i64 t315, .int .i64 t316, .int .i64 t317, .int .i64 t318] 26 (0, 0)) (by (with_reducible repeat (first | refine blk_drewN ?_ _ | refine blk_drew ?_ | refine blk_alloc ?_ _)); refine blk_put (cs := #[.int .i64 t315, .int .i64 t316, .int .i64 t317, .int .i64 0]) ?_ 3 _ rfl; (with_reducible repeat (first | refine blk_drewN ?_ _ | refine blk_drew ?_ | refine blk_alloc ?_ _)); refine blk_put (cs := #[.int .i64 t315, .int .i64 t316, .int .i64 0, .int .i64 0]) ?_ 2 _ rfl; (with_reducible repeat (first | refine blk_drewN ?_ _ | refine blk_drew ?_ | refine blk_alloc ?_ _)); refine blk_put (cs := #[.int .i64 t315, .int .i64 0, .int .i64 0, .int .i64 0]) ?_ 1 _ rfl; (with_reducible repeat (first | refine blk_drewN ?_ _ | refine blk_drew ?_ | refine blk_alloc ?_ _)); refine blk_put (cs := #[.int .i64 0, .int .i64 0, .int .i64 0, .int .i64 0]) ?_ 0 _ rfl; (with_reducible repeat (first | refine blk_drewN ?_ _ | refine blk_drew ?_ | refine blk_alloc ?_ _)); exact BK319.out) hb); have n4_ := Aside0.mk (below_step (by repeat (first | (with_reducible first | exact HB.out | apply below_alloc | apply pw_below_drewN | apply below_drew1 | refine below_set ?_ GE319.out) | exact HB.out)) hb); clear HO314; clear BK319; clear HB; have HO314 := n0_; have HO322 := n1_; have HO325 := n2_; have BK319 := n3_; have HB := n4_; clear n0_ n1_ n2_ n3_ n4_; (try clear hb); (try clear hb2); (try clear hk); (try clear hi); (try clear ho0); (try clear ho1)) | ((with_reducible refine gate_dst (N := 7) rfl ?_); (try (refine gate_guard (by rfl) ?_; dsimp only)); refine box_event ?hg (N := 7) ?hd (cs := #[.int .i64 0, .int .i64 0]) (t := 32) ?hr ?_; (case hd => rfl); (case hg => rfl); (case hr => first | (go_simp; done) | (go_simp; rfl)); intro gb328 hg w30 hbox hb; have n0_ := Aside0.mk (Kd.S_below (by (with_reducible repeat (first | apply Kd.S_alloc | apply Kd.S_drewN | apply Kd.S_drew)); exact HO314.out) hb); have n1_ := Aside0.mk (Kd.S_below (by (with_reducible repeat (first | apply Kd.S_alloc | apply Kd.S_drewN | apply Kd.S_drew)); exact HO322.out) hb); have n2_ := Aside0.mk (Kd.S_below (by (with_reducible repeat (first | apply Kd.S_alloc | apply Kd.S_drewN | apply Kd.S_drew)); exact HO325.out) hb); have n3_ := Aside0.mk (blk_below (g := gb319) (o := .cells #[.int .i64 t315, .int .i64 t316, .int .i64 t317, .int .i64 t318] 26 (0, 0)) (by (with_reducible repeat (first | refine blk_drewN ?_ _ | refine blk_drew ?_ | refine blk_alloc ?_ _)); exact BK319.out) hb); have n4_ := Aside0.mk (below_step (by repeat (first | (with_reducible first | exact HB.out | apply below_alloc | apply pw_below_drewN | apply below_drew1 | refine below_set ?_ GE319.out) | exact HB.out)) hb); have n5_ := Aside0.mk (hbox); have n6_ := Aside0.mk ((by rw [hg]; exact (below_size (by repeat (first | (with_reducible first | exact HB.out | apply below_alloc | apply pw_below_drewN | apply below_drew1 | refine below_set ?_ GE319.out) | exact HB.out))) : w.heap.size ≤ gb328)); have n7_ := Aside0.mk ((by rw [hg]; exact (below_size (by repeat (first | (with_reducible first | exact HB.out | apply below_alloc | apply pw_below_drewN | apply below_drew1 | refine below_set ?_ GE319.out) | exact HB.out))) : w.heap.size ≤ gb328)); have n8_ := Aside0.mk ((by rw [hg]; exact Nat.ne_of_lt (blk_lt (g := gb319) (o := .cells #[.int .i64 t315, .int .i64 t316, .int .i64 t317, .int .i64 t318] 26 (0, 0)) (by (with_reducible repeat (first | refine blk_drewN ?_ _ | refine blk_drew ?_ | refine blk_alloc ?_ _)); exact BK319.out)) : gb319 ≠ gb328)); have n9_ := Aside0.mk ((by rw [hg]; exact Nat.ne_of_gt (blk_lt (g := gb319) (o := .cells #[.int .i64 t315, .int .i64 t316, .int .i64 t317, .int .i64 t318] 26 (0, 0)) (by (with_reducible repeat (first | refine blk_drewN ?_ _ | refine blk_drew ?_ | refine blk_alloc ?_ _)); exact BK319.out)) : gb328 ≠ gb319)); clear HO314; clear HO322; clear HO325; clear BK319; clear HB; have HO314 := n0_; have HO322 := n1_; have HO325 := n2_; have BK319 := n3_; have HB := n4_; have BK328 := n5_; have GW328 := n6_; have GE328 := n7_; have NB319_328 := n8_; have NB328_319 := n9_; clear n0_ n1_ n2_ n3_ n4_ n5_ n6_ n7_ n8_ n9_; clear hb hbox hg; have hnb31 := NB328_319.out; have hnc31 := NB319_328.out; have hcz32_0 : w30.cell? ⟨gb328, 0, none⟩ = some (.int .i64 0) := (blk_cell BK328.out 0).trans rfl; have hcz32_1 : w30.cell? ⟨gb328, 1, none⟩ = some (.int .i64 0) := (blk_cell BK328.out 1).trans rfl; have hfz32_0 := blk_frozen BK328.out 0; have hfz32_1 := blk_frozen BK328.out 1; have hcz33_0 : w30.cell? ⟨gb319, 0, none⟩ = some (.int .i64 t315) := (blk_cell BK319.out 0).trans rfl; have hcz33_1 : w30.cell? ⟨gb319, 1, none⟩ = some (.int .i64 t316) := (blk_cell BK319.out 1).trans rfl; have hcz33_2 : w30.cell? ⟨gb319, 2, none⟩ = some (.int .i64 t317) := (blk_cell BK319.out 2).trans rfl; have hcz33_3 : w30.cell? ⟨gb319, 3, none⟩ = some (.int .i64 t318) := (blk_cell BK319.out 3).trans rfl; have hfz33_0 := blk_frozen BK319.out 0; have hfz33_1 := blk_frozen BK319.out 1; have hfz33_2 := blk_frozen BK319.out 2; have hfz33_3 := blk_frozen BK319.out 3; obtain ⟨Ao34, co34, eo34⟩ := Kd.S_slice HO314.out; subst eo34; obtain ⟨Ao35, co35, eo35⟩ := Kd.S_slice HO322.out; subst eo35) | (go_at_call 13; (with_reducible refine (dragomanref17_Rows.calls k _ _ t312 _ _ t320 false _ ?side1 ?side2 ?side3 ?side4 A10.out).mono ?_); (case side1 => refine (Kd.S_reads' (e := 29) (base := w.heap.size) (ok := fun k_ => (True ∧ some k_ ≠ (.slice Ao35 t320.length co35 : Value).ownBlock)) (n := t312.length) (c := co34) ?_).2.2; exact (by (with_reducible repeat (first | apply Kd.S_alloc | apply Kd.S_drewN | apply Kd.S_drew)); exact (Kd.S_mono (Kd.S_far (p := ⟨gb328, 1, none⟩) (Kd.S_far (p := ⟨gb328, 0, none⟩) (Kd.S_types HO314.out BK328.out (by decide)) (fun _ hk => hk.2) (.int .i64 t326)) (fun _ hk => hk.2) (.int .i64 t327)) (fun _ h_ => h_.1)))); (case side2 => exact (Kd.S_reads' HO314.out).2.1); (case side3 => refine (Kd.S_reads' (e := 29) (base := w.heap.size) (ok := fun k_ => (True ∧ some k_ ≠ (.slice Ao34 t312.length co34 : Value).ownBlock)) (n := t320.length) (c := co35) ?_).2.2; exact (by (with_reducible repeat (first | apply Kd.S_alloc | apply Kd.S_drewN | apply Kd.S_drew)); exact (Kd.S_mono (Kd.S_far (p := ⟨gb328, 1, none⟩) (Kd.S_far (p := ⟨gb328, 0, none⟩) (Kd.S_types HO322.out BK328.out (by decide)) (fun _ hk => hk.2) (.int .i64 t326)) (fun _ hk => hk.2) (.int .i64 t327)) (fun _ h_ => h_.1)))); (case side4 => exact (Kd.S_reads' HO322.out).2.1); rintro e w' ⟨rfl, ⟨nd, rfl⟩⟩))
      go_ret
      exact ⟨by first | rfl | (simp [errW_none, errW_some] <;> rfl) | (simp [*, errW_none, errW_some, bne]; done) | (simp [*, errW_none, errW_some] <;> rfl), by repeat (first | (with_reducible first | exact HB.out | apply below_alloc | apply pw_below_drewN | apply below_drew1 | refine below_set ?_ GE319.out | refine below_set ?_ GE328.out) | exact HB.out)⟩
    ·rw [if_neg c9] at H
     have c9b0 : (t315 == 0 && (t316 == 0 && (t317 == 0 && (t318 == 0)))) = false := by simpa using c9
     (try (have c9b1 : decide (t315 = 0 && (t316 == 0 && (t317 == 0 && (t318 == 0)))) = false := by simpa using c9))
     (try (have c9b2 : (t315 == 0 && (t316 == 0 && (t317 == 0 && (t318 == 0)))) = false := by simpa using c9))
     (try (have c9b3 : ¬ (t315 = 0 && (t316 == 0 && (t317 == 0 && (t318 == 0)))) := by simpa using c9))
     clear c9
     obtain rfl := Option.some.inj H
     go_enter Try.func4, Try.ntmps4
     go_wp2_with (first | ((with_reducible refine gate_callee (f := 8) rfl ?_); refine goesL_ (some 8) rfl rfl Try.func8 (by kernel_rfl) rfl #[] rfl (by (try simp only [List.map_toArray, List.map_cons, List.map_nil]); first | done | rfl | (simp only [List.length_drop, List.length_take]; rfl)) ?_; (with_reducible refine (dragomanlaw13_awake.calls k  true _ A2.out).mono ?_); rintro e w36 ⟨rfl, hb⟩; refine ⟨_, rfl, ?_⟩; have n0_ := Aside0.mk (below_step (by repeat (first | (with_reducible first | exact HB.out | apply below_alloc | apply pw_below_drewN | apply below_drew1) | exact HB.out)) hb); clear HB; have HB := n0_; clear n0_; (try clear hb); (try clear hb2); (try clear hk); (try clear hi)) | ((with_reducible refine gate_callee (f := 9) rfl ?_); refine goesL_ (some 15) rfl rfl Try.func9 (by kernel_rfl) rfl #[.string a0] rfl (by (try simp only [List.map_toArray, List.map_cons, List.map_nil]); first | done | rfl | (simp only [List.length_drop, List.length_take]; rfl)) ?_; (with_reducible refine (cread_Rows.calls a0 t312 t315 t316 t317 t318 _ A6.out).mono ?_); rintro e w37 ⟨v313, rfl, ho0, hb⟩; refine ⟨_, rfl, ?_⟩; have n0_ := Aside0.mk (Kd.S_lower ho0 (below_size (by repeat (first | (with_reducible first | exact HB.out | apply below_alloc | apply pw_below_drewN | apply below_drew1) | exact HB.out)))); have n1_ := Aside0.mk (below_step (by repeat (first | (with_reducible first | exact HB.out | apply below_alloc | apply pw_below_drewN | apply below_drew1) | exact HB.out)) hb); clear HB; have HO314 := n0_; have HB := n1_; clear n0_ n1_; (try clear hb); (try clear hb2); (try clear hk); (try clear hi); (try clear ho0)) | ((with_reducible refine gate_dst (N := 4) rfl ?_); (try (refine gate_guard (by rfl) ?_; dsimp only)); refine box_event ?hg (N := 4) ?hd (cs := #[.int .i64 0, .int .i64 0, .int .i64 0, .int .i64 0]) (t := 26) ?hr ?_; (case hd => rfl); (case hg => rfl); (case hr => first | (go_simp; done) | (go_simp; rfl)); intro gb319 hg w38 hbox hb; have n0_ := Aside0.mk (Kd.S_below (by (with_reducible repeat (first | apply Kd.S_alloc | apply Kd.S_drewN | apply Kd.S_drew)); exact HO314.out) hb); have n1_ := Aside0.mk (below_step (by repeat (first | (with_reducible first | exact HB.out | apply below_alloc | apply pw_below_drewN | apply below_drew1) | exact HB.out)) hb); have n2_ := Aside0.mk (hbox); have n3_ := Aside0.mk ((by rw [hg]; exact (below_size (by repeat (first | (with_reducible first | exact HB.out | apply below_alloc | apply pw_below_drewN | apply below_drew1) | exact HB.out))) : w.heap.size ≤ gb319)); have n4_ := Aside0.mk ((by rw [hg]; exact (below_size (by repeat (first | (with_reducible first | exact HB.out | apply below_alloc | apply pw_below_drewN | apply below_drew1) | exact HB.out))) : w.heap.size ≤ gb319)); clear HO314; clear HB; have HO314 := n0_; have HB := n1_; have BK319 := n2_; have GW319 := n3_; have GE319 := n4_; clear n0_ n1_ n2_ n3_ n4_; clear hb hbox hg; have hcz39_0 : w38.cell? ⟨gb319, 0, none⟩ = some (.int .i64 0) := (blk_cell BK319.out 0).trans rfl; have hcz39_1 : w38.cell? ⟨gb319, 1, none⟩ = some (.int .i64 0) := (blk_cell BK319.out 1).trans rfl; have hcz39_2 : w38.cell? ⟨gb319, 2, none⟩ = some (.int .i64 0) := (blk_cell BK319.out 2).trans rfl; have hcz39_3 : w38.cell? ⟨gb319, 3, none⟩ = some (.int .i64 0) := (blk_cell BK319.out 3).trans rfl; have hfz39_0 := blk_frozen BK319.out 0; have hfz39_1 := blk_frozen BK319.out 1; have hfz39_2 := blk_frozen BK319.out 2; have hfz39_3 := blk_frozen BK319.out 3) | ((with_reducible refine gate_callee (f := 10) rfl ?_); refine goesL_ (some 20) rfl rfl Try.func10 (by kernel_rfl) rfl #[.string a0] rfl (by (try simp only [List.map_toArray, List.map_cons, List.map_nil]); first | done | rfl | (simp only [List.length_drop, List.length_take]; rfl)) ?_; (with_reducible refine (dragomanref13_Rows.calls k a0 t320 t323 t326 t327 _ A7.out).mono ?_); rintro e w40 ⟨v321, v324, rfl, ho0, ho1, hb⟩; refine ⟨_, rfl, ?_⟩; have n0_ := Aside0.mk (Kd.S_elder' (by (with_reducible repeat (first | apply Kd.S_alloc | apply Kd.S_drewN | apply Kd.S_drew)); exact (Kd.S_mono (Kd.S_far (p := ⟨gb319, 3, none⟩) (Kd.S_far (p := ⟨gb319, 2, none⟩) (Kd.S_far (p := ⟨gb319, 1, none⟩) (Kd.S_far (p := ⟨gb319, 0, none⟩) (Kd.S_types HO314.out BK319.out (by decide)) (fun _ hk => hk.2) (.int .i64 t315)) (fun _ hk => hk.2) (.int .i64 t316)) (fun _ hk => hk.2) (.int .i64 t317)) (fun _ hk => hk.2) (.int .i64 t318)) (fun _ h_ => h_.1))) (Kd.S_base ho0) hb); have n1_ := Aside0.mk (Kd.S_lower (Kd.S_new' ho0 (Kd.S_lt (by (with_reducible repeat (first | apply Kd.S_alloc | apply Kd.S_drewN | apply Kd.S_drew)); exact (Kd.S_mono (Kd.S_far (p := ⟨gb319, 3, none⟩) (Kd.S_far (p := ⟨gb319, 2, none⟩) (Kd.S_far (p := ⟨gb319, 1, none⟩) (Kd.S_far (p := ⟨gb319, 0, none⟩) (Kd.S_types HO314.out BK319.out (by decide)) (fun _ hk => hk.2) (.int .i64 t315)) (fun _ hk => hk.2) (.int .i64 t316)) (fun _ hk => hk.2) (.int .i64 t317)) (fun _ hk => hk.2) (.int .i64 t318)) (fun _ h_ => h_.1))))) (below_size (by repeat (first | (with_reducible first | exact HB.out | apply below_alloc | apply pw_below_drewN | apply below_drew1 | refine below_set ?_ GE319.out) | exact HB.out)))); have n2_ := Aside0.mk (Kd.S_lower ho1 (below_size (by repeat (first | (with_reducible first | exact HB.out | apply below_alloc | apply pw_below_drewN | apply below_drew1 | refine below_set ?_ GE319.out) | exact HB.out)))); have n3_ := Aside0.mk (blk_below (g := gb319) (o := .cells #[.int .i64 t315, .int .i64 t316, .int .i64 t317, .int .i64 t318] 26 (0, 0)) (by (with_reducible repeat (first | refine blk_drewN ?_ _ | refine blk_drew ?_ | refine blk_alloc ?_ _)); refine blk_put (cs := #[.int .i64 t315, .int .i64 t316, .int .i64 t317, .int .i64 0]) ?_ 3 _ rfl; (with_reducible repeat (first | refine blk_drewN ?_ _ | refine blk_drew ?_ | refine blk_alloc ?_ _)); refine blk_put (cs := #[.int .i64 t315, .int .i64 t316, .int .i64 0, .int .i64 0]) ?_ 2 _ rfl; (with_reducible repeat (first | refine blk_drewN ?_ _ | refine blk_drew ?_ | refine blk_alloc ?_ _)); refine blk_put (cs := #[.int .i64 t315, .int .i64 0, .int .i64 0, .int .i64 0]) ?_ 1 _ rfl; (with_reducible repeat (first | refine blk_drewN ?_ _ | refine blk_drew ?_ | refine blk_alloc ?_ _)); refine blk_put (cs := #[.int .i64 0, .int .i64 0, .int .i64 0, .int .i64 0]) ?_ 0 _ rfl; (with_reducible repeat (first | refine blk_drewN ?_ _ | refine blk_drew ?_ | refine blk_alloc ?_ _)); exact BK319.out) hb); have n4_ := Aside0.mk (below_step (by repeat (first | (with_reducible first | exact HB.out | apply below_alloc | apply pw_below_drewN | apply below_drew1 | refine below_set ?_ GE319.out) | exact HB.out)) hb); clear HO314; clear BK319; clear HB; have HO314 := n0_; have HO322 := n1_; have HO325 := n2_; have BK319 := n3_; have HB := n4_; clear n0_ n1_ n2_ n3_ n4_; (try clear hb); (try clear hb2); (try clear hk); (try clear hi); (try clear ho0); (try clear ho1)) | ((with_reducible refine gate_dst (N := 7) rfl ?_); (try (refine gate_guard (by rfl) ?_; dsimp only)); refine box_event ?hg (N := 7) ?hd (cs := #[.int .i64 0, .int .i64 0]) (t := 32) ?hr ?_; (case hd => rfl); (case hg => rfl); (case hr => first | (go_simp; done) | (go_simp; rfl)); intro gb328 hg w41 hbox hb; have n0_ := Aside0.mk (Kd.S_below (by (with_reducible repeat (first | apply Kd.S_alloc | apply Kd.S_drewN | apply Kd.S_drew)); exact HO314.out) hb); have n1_ := Aside0.mk (Kd.S_below (by (with_reducible repeat (first | apply Kd.S_alloc | apply Kd.S_drewN | apply Kd.S_drew)); exact HO322.out) hb); have n2_ := Aside0.mk (Kd.S_below (by (with_reducible repeat (first | apply Kd.S_alloc | apply Kd.S_drewN | apply Kd.S_drew)); exact HO325.out) hb); have n3_ := Aside0.mk (blk_below (g := gb319) (o := .cells #[.int .i64 t315, .int .i64 t316, .int .i64 t317, .int .i64 t318] 26 (0, 0)) (by (with_reducible repeat (first | refine blk_drewN ?_ _ | refine blk_drew ?_ | refine blk_alloc ?_ _)); exact BK319.out) hb); have n4_ := Aside0.mk (below_step (by repeat (first | (with_reducible first | exact HB.out | apply below_alloc | apply pw_below_drewN | apply below_drew1 | refine below_set ?_ GE319.out) | exact HB.out)) hb); have n5_ := Aside0.mk (hbox); have n6_ := Aside0.mk ((by rw [hg]; exact (below_size (by repeat (first | (with_reducible first | exact HB.out | apply below_alloc | apply pw_below_drewN | apply below_drew1 | refine below_set ?_ GE319.out) | exact HB.out))) : w.heap.size ≤ gb328)); have n7_ := Aside0.mk ((by rw [hg]; exact (below_size (by repeat (first | (with_reducible first | exact HB.out | apply below_alloc | apply pw_below_drewN | apply below_drew1 | refine below_set ?_ GE319.out) | exact HB.out))) : w.heap.size ≤ gb328)); have n8_ := Aside0.mk ((by rw [hg]; exact Nat.ne_of_lt (blk_lt (g := gb319) (o := .cells #[.int .i64 t315, .int .i64 t316, .int .i64 t317, .int .i64 t318] 26 (0, 0)) (by (with_reducible repeat (first | refine blk_drewN ?_ _ | refine blk_drew ?_ | refine blk_alloc ?_ _)); exact BK319.out)) : gb319 ≠ gb328)); have n9_ := Aside0.mk ((by rw [hg]; exact Nat.ne_of_gt (blk_lt (g := gb319) (o := .cells #[.int .i64 t315, .int .i64 t316, .int .i64 t317, .int .i64 t318] 26 (0, 0)) (by (with_reducible repeat (first | refine blk_drewN ?_ _ | refine blk_drew ?_ | refine blk_alloc ?_ _)); exact BK319.out)) : gb328 ≠ gb319)); clear HO314; clear HO322; clear HO325; clear BK319; clear HB; have HO314 := n0_; have HO322 := n1_; have HO325 := n2_; have BK319 := n3_; have HB := n4_; have BK328 := n5_; have GW328 := n6_; have GE328 := n7_; have NB319_328 := n8_; have NB328_319 := n9_; clear n0_ n1_ n2_ n3_ n4_ n5_ n6_ n7_ n8_ n9_; clear hb hbox hg; have hnb42 := NB328_319.out; have hnc42 := NB319_328.out; have hcz43_0 : w41.cell? ⟨gb328, 0, none⟩ = some (.int .i64 0) := (blk_cell BK328.out 0).trans rfl; have hcz43_1 : w41.cell? ⟨gb328, 1, none⟩ = some (.int .i64 0) := (blk_cell BK328.out 1).trans rfl; have hfz43_0 := blk_frozen BK328.out 0; have hfz43_1 := blk_frozen BK328.out 1; have hcz44_0 : w41.cell? ⟨gb319, 0, none⟩ = some (.int .i64 t315) := (blk_cell BK319.out 0).trans rfl; have hcz44_1 : w41.cell? ⟨gb319, 1, none⟩ = some (.int .i64 t316) := (blk_cell BK319.out 1).trans rfl; have hcz44_2 : w41.cell? ⟨gb319, 2, none⟩ = some (.int .i64 t317) := (blk_cell BK319.out 2).trans rfl; have hcz44_3 : w41.cell? ⟨gb319, 3, none⟩ = some (.int .i64 t318) := (blk_cell BK319.out 3).trans rfl; have hfz44_0 := blk_frozen BK319.out 0; have hfz44_1 := blk_frozen BK319.out 1; have hfz44_2 := blk_frozen BK319.out 2; have hfz44_3 := blk_frozen BK319.out 3))
     go_ret
     exact ⟨by first | rfl | (simp [errW_none, errW_some] <;> rfl) | (simp [*, errW_none, errW_some, bne]; done) | (simp [*, errW_none, errW_some] <;> rfl), by repeat (first | (with_reducible first | exact HB.out | apply below_alloc | apply pw_below_drewN | apply below_drew1 | refine below_set ?_ GE319.out | refine below_set ?_ GE328.out) | exact HB.out)⟩
   ·rw [if_neg c8] at H
    have c8b0 : (t326 == 0) = false := beq_eq_false_iff_ne.mpr c8
    have c8b1 : (t326 != 0) = true := bne_iff_ne.mpr c8
    replace H := Option.bind_eq_some_iff.mp H
    obtain ⟨⟨t331, t332, t333, t334⟩, A450, H⟩ := H
    replace H : (if (t315 == t331 && (t316 == t332 && (t317 == t333 && (t318 == t334)))) = true then (if (t312.length : Int) = 0 then ((cread_Valid.f k a0).bind fun t335 => (some (!t335))) else (some false)) else (some false)) = some r := H
    have A45 := Aside0.mk A450
    clear A450
    by_cases c46 : (t315 == t331 && (t316 == t332 && (t317 == t333 && (t318 == t334)))) = true
    ·rw [if_pos c46] at H
     have c46b0 : (t315 == t331 && (t316 == t332 && (t317 == t333 && (t318 == t334)))) = true := c46
     (try (have c46b1 : decide (t315 = t331 && (t316 == t332 && (t317 == t333 && (t318 == t334)))) = true := by simpa using c46))
     (try (have c46b2 : (t315 == t331 && (t316 == t332 && (t317 == t333 && (t318 == t334)))) = true := by simpa using c46))
     clear c46
     by_cases c47 : (t312.length : Int) = 0
     ·rw [if_pos c47] at H
      have c47b0 : ((t312.length : Int) == 0) = true := beq_iff_eq.mpr c47
      have c47b1 : ((t312.length : Int) != 0) = false := bne_eq_false_iff_eq.mpr c47
      clear c47
      replace H := Option.bind_eq_some_iff.mp H
      obtain ⟨t335, A480, H⟩ := H
      replace H : (some (!t335)) = some r := H
      have A48 := Aside0.mk A480
      clear A480
      obtain rfl := Option.some.inj H
      go_enter Try.func4, Try.ntmps4
      try go_wp2_with (first | ((with_reducible refine gate_callee (f := 8) rfl ?_); refine goesL_ (some 8) rfl rfl Try.func8 (by kernel_rfl) rfl #[] rfl (by (try simp only [List.map_toArray, List.map_cons, List.map_nil]); first | done | rfl | (simp only [List.length_drop, List.length_take]; rfl)) ?_; (with_reducible refine (dragomanlaw13_awake.calls k  true _ A2.out).mono ?_); rintro e w49 ⟨rfl, hb⟩; refine ⟨_, rfl, ?_⟩; have n0_ := Aside0.mk (below_step (by repeat (first | (with_reducible first | exact HB.out | apply below_alloc | apply pw_below_drewN | apply below_drew1) | exact HB.out)) hb); clear HB; have HB := n0_; clear n0_; (try clear hb); (try clear hb2); (try clear hk); (try clear hi)) | ((with_reducible refine gate_callee (f := 9) rfl ?_); refine goesL_ (some 15) rfl rfl Try.func9 (by kernel_rfl) rfl #[.string a0] rfl (by (try simp only [List.map_toArray, List.map_cons, List.map_nil]); first | done | rfl | (simp only [List.length_drop, List.length_take]; rfl)) ?_; (with_reducible refine (cread_Rows.calls a0 t312 t315 t316 t317 t318 _ A6.out).mono ?_); rintro e w50 ⟨v313, rfl, ho0, hb⟩; refine ⟨_, rfl, ?_⟩; have n0_ := Aside0.mk (Kd.S_lower ho0 (below_size (by repeat (first | (with_reducible first | exact HB.out | apply below_alloc | apply pw_below_drewN | apply below_drew1) | exact HB.out)))); have n1_ := Aside0.mk (below_step (by repeat (first | (with_reducible first | exact HB.out | apply below_alloc | apply pw_below_drewN | apply below_drew1) | exact HB.out)) hb); clear HB; have HO314 := n0_; have HB := n1_; clear n0_ n1_; (try clear hb); (try clear hb2); (try clear hk); (try clear hi); (try clear ho0)) | ((with_reducible refine gate_dst (N := 4) rfl ?_); (try (refine gate_guard (by rfl) ?_; dsimp only)); refine box_event ?hg (N := 4) ?hd (cs := #[.int .i64 0, .int .i64 0, .int .i64 0, .int .i64 0]) (t := 26) ?hr ?_; (case hd => rfl); (case hg => rfl); (case hr => first | (go_simp; done) | (go_simp; rfl)); intro gb319 hg w51 hbox hb; have n0_ := Aside0.mk (Kd.S_below (by (with_reducible repeat (first | apply Kd.S_alloc | apply Kd.S_drewN | apply Kd.S_drew)); exact HO314.out) hb); have n1_ := Aside0.mk (below_step (by repeat (first | (with_reducible first | exact HB.out | apply below_alloc | apply pw_below_drewN | apply below_drew1) | exact HB.out)) hb); have n2_ := Aside0.mk (hbox); have n3_ := Aside0.mk ((by rw [hg]; exact (below_size (by repeat (first | (with_reducible first | exact HB.out | apply below_alloc | apply pw_below_drewN | apply below_drew1) | exact HB.out))) : w.heap.size ≤ gb319)); have n4_ := Aside0.mk ((by rw [hg]; exact (below_size (by repeat (first | (with_reducible first | exact HB.out | apply below_alloc | apply pw_below_drewN | apply below_drew1) | exact HB.out))) : w.heap.size ≤ gb319)); clear HO314; clear HB; have HO314 := n0_; have HB := n1_; have BK319 := n2_; have GW319 := n3_; have GE319 := n4_; clear n0_ n1_ n2_ n3_ n4_; clear hb hbox hg; have hcz52_0 : w51.cell? ⟨gb319, 0, none⟩ = some (.int .i64 0) := (blk_cell BK319.out 0).trans rfl; have hcz52_1 : w51.cell? ⟨gb319, 1, none⟩ = some (.int .i64 0) := (blk_cell BK319.out 1).trans rfl; have hcz52_2 : w51.cell? ⟨gb319, 2, none⟩ = some (.int .i64 0) := (blk_cell BK319.out 2).trans rfl; have hcz52_3 : w51.cell? ⟨gb319, 3, none⟩ = some (.int .i64 0) := (blk_cell BK319.out 3).trans rfl; have hfz52_0 := blk_frozen BK319.out 0; have hfz52_1 := blk_frozen BK319.out 1; have hfz52_2 := blk_frozen BK319.out 2; have hfz52_3 := blk_frozen BK319.out 3) | ((with_reducible refine gate_callee (f := 10) rfl ?_); refine goesL_ (some 20) rfl rfl Try.func10 (by kernel_rfl) rfl #[.string a0] rfl (by (try simp only [List.map_toArray, List.map_cons, List.map_nil]); first | done | rfl | (simp only [List.length_drop, List.length_take]; rfl)) ?_; (with_reducible refine (dragomanref13_Rows.calls k a0 t320 t323 t326 t327 _ A7.out).mono ?_); rintro e w53 ⟨v321, v324, rfl, ho0, ho1, hb⟩; refine ⟨_, rfl, ?_⟩; have n0_ := Aside0.mk (Kd.S_elder' (by (with_reducible repeat (first | apply Kd.S_alloc | apply Kd.S_drewN | apply Kd.S_drew)); exact (Kd.S_mono (Kd.S_far (p := ⟨gb319, 3, none⟩) (Kd.S_far (p := ⟨gb319, 2, none⟩) (Kd.S_far (p := ⟨gb319, 1, none⟩) (Kd.S_far (p := ⟨gb319, 0, none⟩) (Kd.S_types HO314.out BK319.out (by decide)) (fun _ hk => hk.2) (.int .i64 t315)) (fun _ hk => hk.2) (.int .i64 t316)) (fun _ hk => hk.2) (.int .i64 t317)) (fun _ hk => hk.2) (.int .i64 t318)) (fun _ h_ => h_.1))) (Kd.S_base ho0) hb); have n1_ := Aside0.mk (Kd.S_lower (Kd.S_new' ho0 (Kd.S_lt (by (with_reducible repeat (first | apply Kd.S_alloc | apply Kd.S_drewN | apply Kd.S_drew)); exact (Kd.S_mono (Kd.S_far (p := ⟨gb319, 3, none⟩) (Kd.S_far (p := ⟨gb319, 2, none⟩) (Kd.S_far (p := ⟨gb319, 1, none⟩) (Kd.S_far (p := ⟨gb319, 0, none⟩) (Kd.S_types HO314.out BK319.out (by decide)) (fun _ hk => hk.2) (.int .i64 t315)) (fun _ hk => hk.2) (.int .i64 t316)) (fun _ hk => hk.2) (.int .i64 t317)) (fun _ hk => hk.2) (.int .i64 t318)) (fun _ h_ => h_.1))))) (below_size (by repeat (first | (with_reducible first | exact HB.out | apply below_alloc | apply pw_below_drewN | apply below_drew1 | refine below_set ?_ GE319.out) | exact HB.out)))); have n2_ := Aside0.mk (Kd.S_lower ho1 (below_size (by repeat (first | (with_reducible first | exact HB.out | apply below_alloc | apply pw_below_drewN | apply below_drew1 | refine below_set ?_ GE319.out) | exact HB.out)))); have n3_ := Aside0.mk (blk_below (g := gb319) (o := .cells #[.int .i64 t315, .int .i64 t316, .int .i64 t317, .int .i64 t318] 26 (0, 0)) (by (with_reducible repeat (first | refine blk_drewN ?_ _ | refine blk_drew ?_ | refine blk_alloc ?_ _)); refine blk_put (cs := #[.int .i64 t315, .int .i64 t316, .int .i64 t317, .int .i64 0]) ?_ 3 _ rfl; (with_reducible repeat (first | refine blk_drewN ?_ _ | refine blk_drew ?_ | refine blk_alloc ?_ _)); refine blk_put (cs := #[.int .i64 t315, .int .i64 t316, .int .i64 0, .int .i64 0]) ?_ 2 _ rfl; (with_reducible repeat (first | refine blk_drewN ?_ _ | refine blk_drew ?_ | refine blk_alloc ?_ _)); refine blk_put (cs := #[.int .i64 t315, .int .i64 0, .int .i64 0, .int .i64 0]) ?_ 1 _ rfl; (with_reducible repeat (first | refine blk_drewN ?_ _ | refine blk_drew ?_ | refine blk_alloc ?_ _)); refine blk_put (cs := #[.int .i64 0, .int .i64 0, .int .i64 0, .int .i64 0]) ?_ 0 _ rfl; (with_reducible repeat (first | refine blk_drewN ?_ _ | refine blk_drew ?_ | refine blk_alloc ?_ _)); exact BK319.out) hb); have n4_ := Aside0.mk (below_step (by repeat (first | (with_reducible first | exact HB.out | apply below_alloc | apply pw_below_drewN | apply below_drew1 | refine below_set ?_ GE319.out) | exact HB.out)) hb); clear HO314; clear BK319; clear HB; have HO314 := n0_; have HO322 := n1_; have HO325 := n2_; have BK319 := n3_; have HB := n4_; clear n0_ n1_ n2_ n3_ n4_; (try clear hb); (try clear hb2); (try clear hk); (try clear hi); (try clear ho0); (try clear ho1)) | ((with_reducible refine gate_dst (N := 7) rfl ?_); (try (refine gate_guard (by rfl) ?_; dsimp only)); refine box_event ?hg (N := 7) ?hd (cs := #[.int .i64 0, .int .i64 0]) (t := 32) ?hr ?_; (case hd => rfl); (case hg => rfl); (case hr => first | (go_simp; done) | (go_simp; rfl)); intro gb328 hg w54 hbox hb; have n0_ := Aside0.mk (Kd.S_below (by (with_reducible repeat (first | apply Kd.S_alloc | apply Kd.S_drewN | apply Kd.S_drew)); exact HO314.out) hb); have n1_ := Aside0.mk (Kd.S_below (by (with_reducible repeat (first | apply Kd.S_alloc | apply Kd.S_drewN | apply Kd.S_drew)); exact HO322.out) hb); have n2_ := Aside0.mk (Kd.S_below (by (with_reducible repeat (first | apply Kd.S_alloc | apply Kd.S_drewN | apply Kd.S_drew)); exact HO325.out) hb); have n3_ := Aside0.mk (blk_below (g := gb319) (o := .cells #[.int .i64 t315, .int .i64 t316, .int .i64 t317, .int .i64 t318] 26 (0, 0)) (by (with_reducible repeat (first | refine blk_drewN ?_ _ | refine blk_drew ?_ | refine blk_alloc ?_ _)); exact BK319.out) hb); have n4_ := Aside0.mk (below_step (by repeat (first | (with_reducible first | exact HB.out | apply below_alloc | apply pw_below_drewN | apply below_drew1 | refine below_set ?_ GE319.out) | exact HB.out)) hb); have n5_ := Aside0.mk (hbox); have n6_ := Aside0.mk ((by rw [hg]; exact (below_size (by repeat (first | (with_reducible first | exact HB.out | apply below_alloc | apply pw_below_drewN | apply below_drew1 | refine below_set ?_ GE319.out) | exact HB.out))) : w.heap.size ≤ gb328)); have n7_ := Aside0.mk ((by rw [hg]; exact (below_size (by repeat (first | (with_reducible first | exact HB.out | apply below_alloc | apply pw_below_drewN | apply below_drew1 | refine below_set ?_ GE319.out) | exact HB.out))) : w.heap.size ≤ gb328)); have n8_ := Aside0.mk ((by rw [hg]; exact Nat.ne_of_lt (blk_lt (g := gb319) (o := .cells #[.int .i64 t315, .int .i64 t316, .int .i64 t317, .int .i64 t318] 26 (0, 0)) (by (with_reducible repeat (first | refine blk_drewN ?_ _ | refine blk_drew ?_ | refine blk_alloc ?_ _)); exact BK319.out)) : gb319 ≠ gb328)); have n9_ := Aside0.mk ((by rw [hg]; exact Nat.ne_of_gt (blk_lt (g := gb319) (o := .cells #[.int .i64 t315, .int .i64 t316, .int .i64 t317, .int .i64 t318] 26 (0, 0)) (by (with_reducible repeat (first | refine blk_drewN ?_ _ | refine blk_drew ?_ | refine blk_alloc ?_ _)); exact BK319.out)) : gb328 ≠ gb319)); clear HO314; clear HO322; clear HO325; clear BK319; clear HB; have HO314 := n0_; have HO322 := n1_; have HO325 := n2_; have BK319 := n3_; have HB := n4_; have BK328 := n5_; have GW328 := n6_; have GE328 := n7_; have NB319_328 := n8_; have NB328_319 := n9_; clear n0_ n1_ n2_ n3_ n4_ n5_ n6_ n7_ n8_ n9_; clear hb hbox hg; have hnb55 := NB328_319.out; have hnc55 := NB319_328.out; have hcz56_0 : w54.cell? ⟨gb328, 0, none⟩ = some (.int .i64 0) := (blk_cell BK328.out 0).trans rfl; have hcz56_1 : w54.cell? ⟨gb328, 1, none⟩ = some (.int .i64 0) := (blk_cell BK328.out 1).trans rfl; have hfz56_0 := blk_frozen BK328.out 0; have hfz56_1 := blk_frozen BK328.out 1))
      have n0_ : Aside0 (Kd.S (Kd.slice 9 Kd.string) 29 ((w54.setCell ⟨gb328, 0, none⟩ (.int .i64 t326)).setCell ⟨gb328, 1, none⟩ (.int .i64 t327)) w.heap.size (fun k_ => some k_ ≠ (v321 : Value).ownBlock) v313 t312) := ⟨by (with_reducible repeat (first | apply Kd.S_alloc | apply Kd.S_drewN | apply Kd.S_drew)); exact Kd.S_mono (Kd.S_far (p := ⟨gb328, 1, none⟩) (Kd.S_far (p := ⟨gb328, 0, none⟩) (Kd.S_types HO314.out BK328.out (by decide)) (fun _ hk => hk.2) (.int .i64 t326)) (fun _ hk => hk.2) (.int .i64 t327)) (fun _ hk => hk.1.2)⟩
      have n1_ : Aside0 (Kd.S (Kd.slice 9 Kd.string) 29 ((w54.setCell ⟨gb328, 0, none⟩ (.int .i64 t326)).setCell ⟨gb328, 1, none⟩ (.int .i64 t327)) w.heap.size (fun k_ => some k_ ≠ (v313 : Value).ownBlock) v321 t320) := ⟨by (with_reducible repeat (first | apply Kd.S_alloc | apply Kd.S_drewN | apply Kd.S_drew)); exact Kd.S_mono (Kd.S_far (p := ⟨gb328, 1, none⟩) (Kd.S_far (p := ⟨gb328, 0, none⟩) (Kd.S_types HO322.out BK328.out (by decide)) (fun _ hk => hk.2) (.int .i64 t326)) (fun _ hk => hk.2) (.int .i64 t327)) (fun _ hk => hk.1.2)⟩
      have n2_ : Aside0 (Kd.S (Kd.slice 3 (Kd.int .i64)) 49 ((w54.setCell ⟨gb328, 0, none⟩ (.int .i64 t326)).setCell ⟨gb328, 1, none⟩ (.int .i64 t327)) w.heap.size (fun _ => True) v324 t323) := ⟨by (with_reducible repeat (first | apply Kd.S_alloc | apply Kd.S_drewN | apply Kd.S_drew)); exact Kd.S_mono (Kd.S_far (p := ⟨gb328, 1, none⟩) (Kd.S_far (p := ⟨gb328, 0, none⟩) (Kd.S_types HO325.out BK328.out (by decide)) (fun _ hk => hk.2) (.int .i64 t326)) (fun _ hk => hk.2) (.int .i64 t327)) (fun _ hk => trivial)⟩
      have n3_ : Aside0 (((w54.setCell ⟨gb328, 0, none⟩ (.int .i64 t326)).setCell ⟨gb328, 1, none⟩ (.int .i64 t327)).heap[gb319]? = some (.cells #[.int .i64 t315, .int .i64 t316, .int .i64 t317, .int .i64 t318] 26 (0, 0))) := ⟨by (with_reducible repeat (first | refine blk_drewN ?_ _ | refine blk_drew ?_ | refine blk_alloc ?_ _)); refine blk_far ?_ NB319_328.out _; (with_reducible repeat (first | refine blk_drewN ?_ _ | refine blk_drew ?_ | refine blk_alloc ?_ _)); refine blk_far ?_ NB319_328.out _; (with_reducible repeat (first | refine blk_drewN ?_ _ | refine blk_drew ?_ | refine blk_alloc ?_ _)); exact BK319.out⟩
      have n4_ : Aside0 (((w54.setCell ⟨gb328, 0, none⟩ (.int .i64 t326)).setCell ⟨gb328, 1, none⟩ (.int .i64 t327)).heap[gb328]? = some (.cells #[.int .i64 t326, .int .i64 t327] 32 (0, 0))) := ⟨by (with_reducible repeat (first | refine blk_drewN ?_ _ | refine blk_drew ?_ | refine blk_alloc ?_ _)); refine blk_put (cs := #[.int .i64 t326, .int .i64 0]) ?_ 1 _ rfl; (with_reducible repeat (first | refine blk_drewN ?_ _ | refine blk_drew ?_ | refine blk_alloc ?_ _)); refine blk_put (cs := #[.int .i64 0, .int .i64 0]) ?_ 0 _ rfl; (with_reducible repeat (first | refine blk_drewN ?_ _ | refine blk_drew ?_ | refine blk_alloc ?_ _)); exact BK328.out⟩
      have n5_ : Aside0 (Below w.heap.size w ((w54.setCell ⟨gb328, 0, none⟩ (.int .i64 t326)).setCell ⟨gb328, 1, none⟩ (.int .i64 t327))) := ⟨by repeat (first | (with_reducible first | exact HB.out | apply below_alloc | apply pw_below_drewN | apply below_drew1 | refine below_set ?_ GE319.out | refine below_set ?_ GE328.out) | exact HB.out)⟩
      (try clear HO314)
      (try clear HO322)
      (try clear HO325)
      (try clear BK319)
      (try clear BK328)
      (try clear HB)
      generalize ((w54.setCell ⟨gb328, 0, none⟩ (.int .i64 t326)).setCell ⟨gb328, 1, none⟩ (.int .i64 t327)) = w57 at n0_ n1_ n2_ n3_ n4_ n5_ ⊢
      have HO314 := n0_
      have HO322 := n1_
      have HO325 := n2_
      have BK319 := n3_
      have BK328 := n4_
      have HB := n5_
      clear n0_ n1_ n2_ n3_ n4_ n5_
      have n0_ := Aside0.mk (Kd.S_drew HO314.out)
      have n1_ := Aside0.mk (Kd.S_drew HO322.out)
      have n2_ := Aside0.mk (Kd.S_drew HO325.out)
      have n3_ := Aside0.mk (blk_drew BK319.out)
      have n4_ := Aside0.mk (blk_drew BK328.out)
      have n5_ := Aside0.mk (below_drew1 HB.out)
      clear HO314
      clear HO322
      clear HO325
      clear BK319
      clear BK328
      clear HB
      have HO314 := n0_
      have HO322 := n1_
      have HO325 := n2_
      have BK319 := n3_
      have BK328 := n4_
      have HB := n5_
      clear n0_ n1_ n2_ n3_ n4_ n5_
      refine start_ (n := 19) (S := fun w' => w'.cell? ⟨gb319, 0, none⟩ = some (.int .i64 t315) ∧ w'.cell? ⟨gb319, 1, none⟩ = some (.int .i64 t316) ∧ w'.cell? ⟨gb319, 2, none⟩ = some (.int .i64 t317) ∧ w'.cell? ⟨gb319, 3, none⟩ = some (.int .i64 t318) ∧ w'.cell? ⟨gb328, 0, none⟩ = some (.int .i64 t326) ∧ w'.cell? ⟨gb328, 1, none⟩ = some (.int .i64 t327)) (ds := []) #[false, false, false, false, false, false, false, false, false, false, false, false, false, false, false, false, false, false, false] (by kernel_rfl) rfl rfl ⟨(blk_cell BK319.out 0).trans rfl, (blk_cell BK319.out 1).trans rfl, (blk_cell BK319.out 2).trans rfl, (blk_cell BK319.out 3).trans rfl, (blk_cell BK328.out 0).trans rfl, (blk_cell BK328.out 1).trans rfl⟩ (fun hHeld => ?_); refine with_tabW dragomanlaw13_CreadSays.tab8 dragomanlaw13_CreadSays.bits8 (fun HT_ HW_ => ?_)
      generalize w57.drew = w58 at HO314 HO322 HO325 BK319 BK328 HB hHeld ⊢
      refine pure_ (i := 1) (N := some 28) (v := ?_) (a' := ?_) #[false, true, false, false, false, false, false, false, false, false, false, false, false, false, false, false, false, false, false] rfl rfl (any_of HT_.out (by kernel_rfl)) (fun _ _ _ h => h) (Or.inl ⟨by rfl, ?_⟩) ?_ ?_
      rotate_left
      ·intro w'
       go_simp
       with_reducible rfl
      rotate_left
      ·simp only [Act.put, List.setIfInBounds_toArray, List.set_cons_zero, List.set_cons_succ, i64_w, i32_w]
       rfl
      refine pure_ (i := 2) (N := some 29) (v := ?_) (a' := ?_) #[false, true, true, false, false, false, false, false, false, false, false, false, false, false, false, false, false, false, false] rfl rfl (any_of HT_.out (by kernel_rfl)) (fun _ _ _ h => h) (Or.inl ⟨by rfl, ?_⟩) ?_ ?_
      rotate_left
      ·intro w'
       go_simp
       with_reducible rfl
      rotate_left
      ·simp only [Act.put, List.setIfInBounds_toArray, List.set_cons_zero, List.set_cons_succ, i64_w, i32_w]
       rfl
      refine pure_ (i := 4) (N := some 31) (v := ?_) (a' := ?_) #[false, true, true, false, true, false, false, false, false, false, false, false, false, false, false, false, false, false, false] rfl rfl (any_of HT_.out (by kernel_rfl)) (fun _ _ _ h => h) (Or.inl ⟨by rfl, ?_⟩) ?_ ?_
      rotate_left
      ·intro w'
       go_simp
       with_reducible rfl
      rotate_left
      ·simp only [Act.put, List.setIfInBounds_toArray, List.set_cons_zero, List.set_cons_succ, i64_w, i32_w]
       rfl
      refine take_ (i := 0) (N := some 27) (v := ?_) (a' := ?_) #[true, true, true, false, true, false, false, false, false, false, false, false, false, false, false, false, false, false, false] rfl rfl (take_ofW HT_.out HW_.out (by kernel_rfl)) (fun _ _ _ h => h) (Or.inl ⟨by rfl, ?_⟩) hHeld ?_ ?_
      rotate_left
      ·rintro w' ⟨s0, s1, s2, s3, s4, s5⟩
       go_simp
       with_reducible rfl
      rotate_left
      ·simp only [Act.put, List.setIfInBounds_toArray, List.set_cons_zero, List.set_cons_succ, i64_w, i32_w]
       rfl
      refine take_ (i := 3) (N := some 30) (v := ?_) (a' := ?_) #[true, true, true, true, true, false, false, false, false, false, false, false, false, false, false, false, false, false, false] rfl rfl (take_ofW HT_.out HW_.out (by kernel_rfl)) (fun _ _ _ h => h) (Or.inl ⟨by rfl, ?_⟩) hHeld ?_ ?_
      rotate_left
      ·rintro w' ⟨s0, s1, s2, s3, s4, s5⟩
       go_simp
       with_reducible rfl
      rotate_left
      ·simp only [Act.put, List.setIfInBounds_toArray, List.set_cons_zero, List.set_cons_succ, i64_w, i32_w]
       rfl
      refine take_ (i := 5) (N := some 32) (v := ?_) (a' := ?_) #[true, true, true, true, true, true, false, false, false, false, false, false, false, false, false, false, false, false, false] rfl rfl (take_ofW HT_.out HW_.out (by kernel_rfl)) (fun _ _ _ h => h) (Or.inl ⟨by rfl, ?_⟩) hHeld ?_ ?_
      rotate_left
      ·rintro w' ⟨s0, s1, s2, s3, s4, s5⟩
       go_simp
       with_reducible rfl
      rotate_left
      ·simp only [Act.put, List.setIfInBounds_toArray, List.set_cons_zero, List.set_cons_succ, i64_w, i32_w]
       rfl
      refine one_ (i := 6) (N := some 33) #[true, true, true, true, true, true, true, false, false, false, false, false, false, false, false, false, false, false, false] rfl rfl (one_of HT_.out (by kernel_rfl)) (by decide) (fun K hK => ?_)
      refine goes_ Try.func11 (by kernel_rfl) rfl #[.string a0, .int .i64 t327, .int .i64 t326] (by rfl) rfl rfl (by (try simp only [List.map_toArray, List.map_cons, List.map_nil]); first | done | rfl | (simp only [List.length_drop, List.length_take]; rfl)) ?_
      with_reducible refine (dragomanref1_Fault.calls k a0 t327 t326 t331 t332 t333 t334 _ A45.out).mono ?_
      rintro e w59 ⟨rfl, hb⟩
      refine ⟨_, rfl, ?_⟩
      have n0_ := Aside0.mk (Kd.S_below (by (with_reducible repeat (first | apply Kd.S_alloc | apply Kd.S_drewN | apply Kd.S_drew)); exact HO314.out) hb)
      have n1_ := Aside0.mk (Kd.S_below (by (with_reducible repeat (first | apply Kd.S_alloc | apply Kd.S_drewN | apply Kd.S_drew)); exact HO322.out) hb)
      have n2_ := Aside0.mk (Kd.S_below (by (with_reducible repeat (first | apply Kd.S_alloc | apply Kd.S_drewN | apply Kd.S_drew)); exact HO325.out) hb)
      have n3_ := Aside0.mk (blk_below (g := gb319) (o := .cells #[.int .i64 t315, .int .i64 t316, .int .i64 t317, .int .i64 t318] 26 (0, 0)) (by (with_reducible repeat (first | refine blk_drewN ?_ _ | refine blk_drew ?_ | refine blk_alloc ?_ _)); exact BK319.out) hb)
      have n4_ := Aside0.mk (blk_below (g := gb328) (o := .cells #[.int .i64 t326, .int .i64 t327] 32 (0, 0)) (by (with_reducible repeat (first | refine blk_drewN ?_ _ | refine blk_drew ?_ | refine blk_alloc ?_ _)); exact BK328.out) hb)
      have n5_ := Aside0.mk (below_step (by repeat (first | (with_reducible first | exact HB.out | apply below_alloc | apply pw_below_drewN | apply below_drew1 | refine below_set ?_ GE319.out | refine below_set ?_ GE328.out) | exact HB.out)) hb)
      clear HO314
      clear HO322
      clear HO325
      clear BK319
      clear BK328
      clear HB
      have HO314 := n0_
      have HO322 := n1_
      have HO325 := n2_
      have BK319 := n3_
      have BK328 := n4_
      have HB := n5_
      clear n0_ n1_ n2_ n3_ n4_ n5_
      (try clear hb)
      (try clear hb2)
      (try clear hk)
      (try clear hi)
      obtain ⟨Ao60, co60, eo60⟩ := Kd.S_slice HO314.out
      (first | subst eo60 | (injection eo60 with f1_ f2_ f3_; have f4_ := f1_.symm; have f5_ := f3_.symm; clear f1_ f2_ f3_; subst f4_; subst f5_))
      refine hK.out _ _ ⟨(blk_cell BK319.out 0).trans rfl, (blk_cell BK319.out 1).trans rfl, (blk_cell BK319.out 2).trans rfl, (blk_cell BK319.out 3).trans rfl, (blk_cell BK328.out 0).trans rfl, (blk_cell BK328.out 1).trans rfl⟩ (fun hHeld => ?_)
      clear hK K
      refine norm_ (a' := ?_) ?_ ?_
      rotate_left
      ·show Act.put _ (some 33) _ = _
       simp only [Act.put, List.setIfInBounds_toArray, List.set_cons_zero, List.set_cons_succ, i64_w, i32_w]
       rfl
      refine pure_ (i := 7) (N := some 34) (v := ?_) (a' := ?_) #[true, true, true, true, true, true, true, true, false, false, false, false, false, false, false, false, false, false, false] rfl rfl (any_of HT_.out (by kernel_rfl)) (fun _ _ _ h => h) (Or.inl ⟨by rfl, ?_⟩) ?_ ?_
      rotate_left
      ·intro w'
       go_simp
       with_reducible rfl
      rotate_left
      ·simp only [Act.put, List.setIfInBounds_toArray, List.set_cons_zero, List.set_cons_succ, i64_w, i32_w]
       rfl
      refine pure_ (i := 8) (N := some 35) (v := ?_) (a' := ?_) #[true, true, true, true, true, true, true, true, true, false, false, false, false, false, false, false, false, false, false] rfl rfl (any_of HT_.out (by kernel_rfl)) (fun _ _ _ h => h) (Or.inl ⟨by rfl, ?_⟩) ?_ ?_
      rotate_left
      ·intro w'
       go_simp
       with_reducible rfl
      rotate_left
      ·simp only [Act.put, List.setIfInBounds_toArray, List.set_cons_zero, List.set_cons_succ, i64_w, i32_w]
       rfl
      refine pure_ (i := 9) (N := some 36) (v := ?_) (a' := ?_) #[true, true, true, true, true, true, true, true, true, true, false, false, false, false, false, false, false, false, false] rfl rfl (any_of HT_.out (by kernel_rfl)) (fun _ _ _ h => h) (Or.inl ⟨by rfl, ?_⟩) ?_ ?_
      rotate_left
      ·intro w'
       go_simp
       with_reducible rfl
      rotate_left
      ·simp only [Act.put, List.setIfInBounds_toArray, List.set_cons_zero, List.set_cons_succ, i64_w, i32_w]
       rfl
      refine pure_ (i := 10) (N := some 37) (v := ?_) (a' := ?_) #[true, true, true, true, true, true, true, true, true, true, true, false, false, false, false, false, false, false, false] rfl rfl (any_of HT_.out (by kernel_rfl)) (fun _ _ _ h => h) (Or.inl ⟨by rfl, ?_⟩) ?_ ?_
      rotate_left
      ·intro w'
       go_simp
       with_reducible rfl
      rotate_left
      ·simp only [Act.put, List.setIfInBounds_toArray, List.set_cons_zero, List.set_cons_succ, i64_w, i32_w]
       rfl
      refine pure_ (i := 11) (N := some 38) (v := ?_) (a' := ?_) #[true, true, true, true, true, true, true, true, true, true, true, true, false, false, false, false, false, false, false] rfl rfl (any_of HT_.out (by kernel_rfl)) (fun _ _ _ h => h) (Or.inl ⟨by rfl, ?_⟩) ?_ ?_
      rotate_left
      ·intro w'
       go_simp
       with_reducible rfl
      rotate_left
      ·simp only [Act.put, List.setIfInBounds_toArray, List.set_cons_zero, List.set_cons_succ, i64_w, i32_w]
       rfl
      refine pure_ (i := 12) (N := some 39) (v := ?_) (a' := ?_) #[true, true, true, true, true, true, true, true, true, true, true, true, true, false, false, false, false, false, false] rfl rfl (any_of HT_.out (by kernel_rfl)) (fun _ _ _ h => h) (Or.inl ⟨by rfl, ?_⟩) ?_ ?_
      rotate_left
      ·intro w'
       go_simp
       with_reducible rfl
      rotate_left
      ·simp only [Act.put, List.setIfInBounds_toArray, List.set_cons_zero, List.set_cons_succ, i64_w, i32_w]
       rfl
      refine pure_ (i := 13) (N := some 40) (v := ?_) (a' := ?_) #[true, true, true, true, true, true, true, true, true, true, true, true, true, true, false, false, false, false, false] rfl rfl (any_of HT_.out (by kernel_rfl)) (fun _ _ _ h => h) (Or.inl ⟨by rfl, ?_⟩) ?_ ?_
      rotate_left
      ·intro w'
       go_simp
       with_reducible rfl
      rotate_left
      ·simp only [Act.put, List.setIfInBounds_toArray, List.set_cons_zero, List.set_cons_succ, i64_w, i32_w]
       rfl
      refine pure_ (i := 14) (N := some 41) (v := ?_) (a' := ?_) #[true, true, true, true, true, true, true, true, true, true, true, true, true, true, true, false, false, false, false] rfl rfl (any_of HT_.out (by kernel_rfl)) (fun _ _ _ h => h) (Or.inl ⟨by rfl, ?_⟩) ?_ ?_
      rotate_left
      ·intro w'
       go_simp
       with_reducible rfl
      rotate_left
      ·simp only [Act.put, List.setIfInBounds_toArray, List.set_cons_zero, List.set_cons_succ, i64_w, i32_w]
       rfl
      refine one_ (i := 15) (N := some 42) #[true, true, true, true, true, true, true, true, true, true, true, true, true, true, true, true, false, false, false] rfl rfl (one_of HT_.out (by kernel_rfl)) (by decide) (fun K hK => ?_)
      refine goes_ Try.func12 (by kernel_rfl) rfl #[.string a0] (by rfl) rfl rfl (by (try simp only [List.map_toArray, List.map_cons, List.map_nil]); first | done | rfl | (simp only [List.length_drop, List.length_take]; rfl)) ?_
      with_reducible refine (cread_Valid.calls k a0 t335 _ A48.out).mono ?_
      rintro e w61 ⟨rfl, hb⟩
      refine ⟨_, rfl, ?_⟩
      have n0_ := Aside0.mk (Kd.S_below (by (with_reducible repeat (first | apply Kd.S_alloc | apply Kd.S_drewN | apply Kd.S_drew)); exact HO314.out) hb)
      have n1_ := Aside0.mk (Kd.S_below (by (with_reducible repeat (first | apply Kd.S_alloc | apply Kd.S_drewN | apply Kd.S_drew)); exact HO322.out) hb)
      have n2_ := Aside0.mk (Kd.S_below (by (with_reducible repeat (first | apply Kd.S_alloc | apply Kd.S_drewN | apply Kd.S_drew)); exact HO325.out) hb)
      have n3_ := Aside0.mk (blk_below (g := gb319) (o := .cells #[.int .i64 t315, .int .i64 t316, .int .i64 t317, .int .i64 t318] 26 (0, 0)) (by (with_reducible repeat (first | refine blk_drewN ?_ _ | refine blk_drew ?_ | refine blk_alloc ?_ _)); exact BK319.out) hb)
      have n4_ := Aside0.mk (blk_below (g := gb328) (o := .cells #[.int .i64 t326, .int .i64 t327] 32 (0, 0)) (by (with_reducible repeat (first | refine blk_drewN ?_ _ | refine blk_drew ?_ | refine blk_alloc ?_ _)); exact BK328.out) hb)
      have n5_ := Aside0.mk (below_step (by repeat (first | (with_reducible first | exact HB.out | apply below_alloc | apply pw_below_drewN | apply below_drew1 | refine below_set ?_ GE319.out | refine below_set ?_ GE328.out) | exact HB.out)) hb)
      clear HO314
      clear HO322
      clear HO325
      clear BK319
      clear BK328
      clear HB
      have HO314 := n0_
      have HO322 := n1_
      have HO325 := n2_
      have BK319 := n3_
      have BK328 := n4_
      have HB := n5_
      clear n0_ n1_ n2_ n3_ n4_ n5_
      (try clear hb)
      (try clear hb2)
      (try clear hk)
      (try clear hi)
      refine hK.out _ _ ⟨(blk_cell BK319.out 0).trans rfl, (blk_cell BK319.out 1).trans rfl, (blk_cell BK319.out 2).trans rfl, (blk_cell BK319.out 3).trans rfl, (blk_cell BK328.out 0).trans rfl, (blk_cell BK328.out 1).trans rfl⟩ (fun hHeld => ?_)
      clear hK K
      refine norm_ (a' := ?_) ?_ ?_
      rotate_left
      ·show Act.put _ (some 42) _ = _
       simp only [Act.put, List.setIfInBounds_toArray, List.set_cons_zero, List.set_cons_succ, i64_w, i32_w]
       rfl
      refine pure_ (i := 16) (N := some 43) (v := ?_) (a' := ?_) #[true, true, true, true, true, true, true, true, true, true, true, true, true, true, true, true, true, false, false] rfl rfl (any_of HT_.out (by kernel_rfl)) (fun _ _ _ h => h) (Or.inl ⟨by rfl, ?_⟩) ?_ ?_
      rotate_left
      ·intro w'
       go_simp
       with_reducible rfl
      rotate_left
      ·simp only [Act.put, List.setIfInBounds_toArray, List.set_cons_zero, List.set_cons_succ, i64_w, i32_w]
       rfl
      refine pure_ (i := 17) (N := some 44) (v := ?_) (a' := ?_) #[true, true, true, true, true, true, true, true, true, true, true, true, true, true, true, true, true, true, false] rfl rfl (any_of HT_.out (by kernel_rfl)) (fun _ _ _ h => h) (Or.inl ⟨by rfl, ?_⟩) ?_ ?_
      rotate_left
      ·intro w'
       go_simp
       with_reducible rfl
      rotate_left
      ·simp only [Act.put, List.setIfInBounds_toArray, List.set_cons_zero, List.set_cons_succ, i64_w, i32_w]
       rfl
      refine pure_ (i := 18) (N := some 2) (v := ?_) (a' := ?_) #[true, true, true, true, true, true, true, true, true, true, true, true, true, true, true, true, true, true, true] rfl rfl (any_of HT_.out (by kernel_rfl)) (fun _ _ _ h => h) (Or.inl ⟨by rfl, ?_⟩) ?_ ?_
      rotate_left
      ·intro w'
       go_simp
       with_reducible rfl
      rotate_left
      ·simp only [Act.put, List.setIfInBounds_toArray, List.set_cons_zero, List.set_cons_succ, i64_w, i32_w]
       rfl
      refine done_ (done_of HT_.out (by kernel_rfl)) ?_
      try go_wp2
      go_ret
      exact ⟨by first | rfl | (simp [errW_none, errW_some] <;> rfl) | (simp [*, errW_none, errW_some, bne]; done) | (simp [*, errW_none, errW_some] <;> rfl), by repeat (first | (with_reducible first | exact HB.out | apply below_alloc | apply pw_below_drewN | apply below_drew1 | refine below_set ?_ GE319.out | refine below_set ?_ GE328.out) | exact HB.out)⟩
     ·rw [if_neg c47] at H
      have c47b0 : ((t312.length : Int) == 0) = false := beq_eq_false_iff_ne.mpr c47
      have c47b1 : ((t312.length : Int) != 0) = true := bne_iff_ne.mpr c47
      have c47b2 : ¬ (t312 = []) := fun h_ => c47 (by rw [h_]; rfl)
      obtain rfl := Option.some.inj H
      go_enter Try.func4, Try.ntmps4
      try go_wp2_with (first | ((with_reducible refine gate_callee (f := 8) rfl ?_); refine goesL_ (some 8) rfl rfl Try.func8 (by kernel_rfl) rfl #[] rfl (by (try simp only [List.map_toArray, List.map_cons, List.map_nil]); first | done | rfl | (simp only [List.length_drop, List.length_take]; rfl)) ?_; (with_reducible refine (dragomanlaw13_awake.calls k  true _ A2.out).mono ?_); rintro e w62 ⟨rfl, hb⟩; refine ⟨_, rfl, ?_⟩; have n0_ := Aside0.mk (below_step (by repeat (first | (with_reducible first | exact HB.out | apply below_alloc | apply pw_below_drewN | apply below_drew1) | exact HB.out)) hb); clear HB; have HB := n0_; clear n0_; (try clear hb); (try clear hb2); (try clear hk); (try clear hi)) | ((with_reducible refine gate_callee (f := 9) rfl ?_); refine goesL_ (some 15) rfl rfl Try.func9 (by kernel_rfl) rfl #[.string a0] rfl (by (try simp only [List.map_toArray, List.map_cons, List.map_nil]); first | done | rfl | (simp only [List.length_drop, List.length_take]; rfl)) ?_; (with_reducible refine (cread_Rows.calls a0 t312 t315 t316 t317 t318 _ A6.out).mono ?_); rintro e w63 ⟨v313, rfl, ho0, hb⟩; refine ⟨_, rfl, ?_⟩; have n0_ := Aside0.mk (Kd.S_lower ho0 (below_size (by repeat (first | (with_reducible first | exact HB.out | apply below_alloc | apply pw_below_drewN | apply below_drew1) | exact HB.out)))); have n1_ := Aside0.mk (below_step (by repeat (first | (with_reducible first | exact HB.out | apply below_alloc | apply pw_below_drewN | apply below_drew1) | exact HB.out)) hb); clear HB; have HO314 := n0_; have HB := n1_; clear n0_ n1_; (try clear hb); (try clear hb2); (try clear hk); (try clear hi); (try clear ho0)) | ((with_reducible refine gate_dst (N := 4) rfl ?_); (try (refine gate_guard (by rfl) ?_; dsimp only)); refine box_event ?hg (N := 4) ?hd (cs := #[.int .i64 0, .int .i64 0, .int .i64 0, .int .i64 0]) (t := 26) ?hr ?_; (case hd => rfl); (case hg => rfl); (case hr => first | (go_simp; done) | (go_simp; rfl)); intro gb319 hg w64 hbox hb; have n0_ := Aside0.mk (Kd.S_below (by (with_reducible repeat (first | apply Kd.S_alloc | apply Kd.S_drewN | apply Kd.S_drew)); exact HO314.out) hb); have n1_ := Aside0.mk (below_step (by repeat (first | (with_reducible first | exact HB.out | apply below_alloc | apply pw_below_drewN | apply below_drew1) | exact HB.out)) hb); have n2_ := Aside0.mk (hbox); have n3_ := Aside0.mk ((by rw [hg]; exact (below_size (by repeat (first | (with_reducible first | exact HB.out | apply below_alloc | apply pw_below_drewN | apply below_drew1) | exact HB.out))) : w.heap.size ≤ gb319)); have n4_ := Aside0.mk ((by rw [hg]; exact (below_size (by repeat (first | (with_reducible first | exact HB.out | apply below_alloc | apply pw_below_drewN | apply below_drew1) | exact HB.out))) : w.heap.size ≤ gb319)); clear HO314; clear HB; have HO314 := n0_; have HB := n1_; have BK319 := n2_; have GW319 := n3_; have GE319 := n4_; clear n0_ n1_ n2_ n3_ n4_; clear hb hbox hg; have hcz65_0 : w64.cell? ⟨gb319, 0, none⟩ = some (.int .i64 0) := (blk_cell BK319.out 0).trans rfl; have hcz65_1 : w64.cell? ⟨gb319, 1, none⟩ = some (.int .i64 0) := (blk_cell BK319.out 1).trans rfl; have hcz65_2 : w64.cell? ⟨gb319, 2, none⟩ = some (.int .i64 0) := (blk_cell BK319.out 2).trans rfl; have hcz65_3 : w64.cell? ⟨gb319, 3, none⟩ = some (.int .i64 0) := (blk_cell BK319.out 3).trans rfl; have hfz65_0 := blk_frozen BK319.out 0; have hfz65_1 := blk_frozen BK319.out 1; have hfz65_2 := blk_frozen BK319.out 2; have hfz65_3 := blk_frozen BK319.out 3) | ((with_reducible refine gate_callee (f := 10) rfl ?_); refine goesL_ (some 20) rfl rfl Try.func10 (by kernel_rfl) rfl #[.string a0] rfl (by (try simp only [List.map_toArray, List.map_cons, List.map_nil]); first | done | rfl | (simp only [List.length_drop, List.length_take]; rfl)) ?_; (with_reducible refine (dragomanref13_Rows.calls k a0 t320 t323 t326 t327 _ A7.out).mono ?_); rintro e w66 ⟨v321, v324, rfl, ho0, ho1, hb⟩; refine ⟨_, rfl, ?_⟩; have n0_ := Aside0.mk (Kd.S_elder' (by (with_reducible repeat (first | apply Kd.S_alloc | apply Kd.S_drewN | apply Kd.S_drew)); exact (Kd.S_mono (Kd.S_far (p := ⟨gb319, 3, none⟩) (Kd.S_far (p := ⟨gb319, 2, none⟩) (Kd.S_far (p := ⟨gb319, 1, none⟩) (Kd.S_far (p := ⟨gb319, 0, none⟩) (Kd.S_types HO314.out BK319.out (by decide)) (fun _ hk => hk.2) (.int .i64 t315)) (fun _ hk => hk.2) (.int .i64 t316)) (fun _ hk => hk.2) (.int .i64 t317)) (fun _ hk => hk.2) (.int .i64 t318)) (fun _ h_ => h_.1))) (Kd.S_base ho0) hb); have n1_ := Aside0.mk (Kd.S_lower (Kd.S_new' ho0 (Kd.S_lt (by (with_reducible repeat (first | apply Kd.S_alloc | apply Kd.S_drewN | apply Kd.S_drew)); exact (Kd.S_mono (Kd.S_far (p := ⟨gb319, 3, none⟩) (Kd.S_far (p := ⟨gb319, 2, none⟩) (Kd.S_far (p := ⟨gb319, 1, none⟩) (Kd.S_far (p := ⟨gb319, 0, none⟩) (Kd.S_types HO314.out BK319.out (by decide)) (fun _ hk => hk.2) (.int .i64 t315)) (fun _ hk => hk.2) (.int .i64 t316)) (fun _ hk => hk.2) (.int .i64 t317)) (fun _ hk => hk.2) (.int .i64 t318)) (fun _ h_ => h_.1))))) (below_size (by repeat (first | (with_reducible first | exact HB.out | apply below_alloc | apply pw_below_drewN | apply below_drew1 | refine below_set ?_ GE319.out) | exact HB.out)))); have n2_ := Aside0.mk (Kd.S_lower ho1 (below_size (by repeat (first | (with_reducible first | exact HB.out | apply below_alloc | apply pw_below_drewN | apply below_drew1 | refine below_set ?_ GE319.out) | exact HB.out)))); have n3_ := Aside0.mk (blk_below (g := gb319) (o := .cells #[.int .i64 t315, .int .i64 t316, .int .i64 t317, .int .i64 t318] 26 (0, 0)) (by (with_reducible repeat (first | refine blk_drewN ?_ _ | refine blk_drew ?_ | refine blk_alloc ?_ _)); refine blk_put (cs := #[.int .i64 t315, .int .i64 t316, .int .i64 t317, .int .i64 0]) ?_ 3 _ rfl; (with_reducible repeat (first | refine blk_drewN ?_ _ | refine blk_drew ?_ | refine blk_alloc ?_ _)); refine blk_put (cs := #[.int .i64 t315, .int .i64 t316, .int .i64 0, .int .i64 0]) ?_ 2 _ rfl; (with_reducible repeat (first | refine blk_drewN ?_ _ | refine blk_drew ?_ | refine blk_alloc ?_ _)); refine blk_put (cs := #[.int .i64 t315, .int .i64 0, .int .i64 0, .int .i64 0]) ?_ 1 _ rfl; (with_reducible repeat (first | refine blk_drewN ?_ _ | refine blk_drew ?_ | refine blk_alloc ?_ _)); refine blk_put (cs := #[.int .i64 0, .int .i64 0, .int .i64 0, .int .i64 0]) ?_ 0 _ rfl; (with_reducible repeat (first | refine blk_drewN ?_ _ | refine blk_drew ?_ | refine blk_alloc ?_ _)); exact BK319.out) hb); have n4_ := Aside0.mk (below_step (by repeat (first | (with_reducible first | exact HB.out | apply below_alloc | apply pw_below_drewN | apply below_drew1 | refine below_set ?_ GE319.out) | exact HB.out)) hb); clear HO314; clear BK319; clear HB; have HO314 := n0_; have HO322 := n1_; have HO325 := n2_; have BK319 := n3_; have HB := n4_; clear n0_ n1_ n2_ n3_ n4_; (try clear hb); (try clear hb2); (try clear hk); (try clear hi); (try clear ho0); (try clear ho1)) | ((with_reducible refine gate_dst (N := 7) rfl ?_); (try (refine gate_guard (by rfl) ?_; dsimp only)); refine box_event ?hg (N := 7) ?hd (cs := #[.int .i64 0, .int .i64 0]) (t := 32) ?hr ?_; (case hd => rfl); (case hg => rfl); (case hr => first | (go_simp; done) | (go_simp; rfl)); intro gb328 hg w67 hbox hb; have n0_ := Aside0.mk (Kd.S_below (by (with_reducible repeat (first | apply Kd.S_alloc | apply Kd.S_drewN | apply Kd.S_drew)); exact HO314.out) hb); have n1_ := Aside0.mk (Kd.S_below (by (with_reducible repeat (first | apply Kd.S_alloc | apply Kd.S_drewN | apply Kd.S_drew)); exact HO322.out) hb); have n2_ := Aside0.mk (Kd.S_below (by (with_reducible repeat (first | apply Kd.S_alloc | apply Kd.S_drewN | apply Kd.S_drew)); exact HO325.out) hb); have n3_ := Aside0.mk (blk_below (g := gb319) (o := .cells #[.int .i64 t315, .int .i64 t316, .int .i64 t317, .int .i64 t318] 26 (0, 0)) (by (with_reducible repeat (first | refine blk_drewN ?_ _ | refine blk_drew ?_ | refine blk_alloc ?_ _)); exact BK319.out) hb); have n4_ := Aside0.mk (below_step (by repeat (first | (with_reducible first | exact HB.out | apply below_alloc | apply pw_below_drewN | apply below_drew1 | refine below_set ?_ GE319.out) | exact HB.out)) hb); have n5_ := Aside0.mk (hbox); have n6_ := Aside0.mk ((by rw [hg]; exact (below_size (by repeat (first | (with_reducible first | exact HB.out | apply below_alloc | apply pw_below_drewN | apply below_drew1 | refine below_set ?_ GE319.out) | exact HB.out))) : w.heap.size ≤ gb328)); have n7_ := Aside0.mk ((by rw [hg]; exact (below_size (by repeat (first | (with_reducible first | exact HB.out | apply below_alloc | apply pw_below_drewN | apply below_drew1 | refine below_set ?_ GE319.out) | exact HB.out))) : w.heap.size ≤ gb328)); have n8_ := Aside0.mk ((by rw [hg]; exact Nat.ne_of_lt (blk_lt (g := gb319) (o := .cells #[.int .i64 t315, .int .i64 t316, .int .i64 t317, .int .i64 t318] 26 (0, 0)) (by (with_reducible repeat (first | refine blk_drewN ?_ _ | refine blk_drew ?_ | refine blk_alloc ?_ _)); exact BK319.out)) : gb319 ≠ gb328)); have n9_ := Aside0.mk ((by rw [hg]; exact Nat.ne_of_gt (blk_lt (g := gb319) (o := .cells #[.int .i64 t315, .int .i64 t316, .int .i64 t317, .int .i64 t318] 26 (0, 0)) (by (with_reducible repeat (first | refine blk_drewN ?_ _ | refine blk_drew ?_ | refine blk_alloc ?_ _)); exact BK319.out)) : gb328 ≠ gb319)); clear HO314; clear HO322; clear HO325; clear BK319; clear HB; have HO314 := n0_; have HO322 := n1_; have HO325 := n2_; have BK319 := n3_; have HB := n4_; have BK328 := n5_; have GW328 := n6_; have GE328 := n7_; have NB319_328 := n8_; have NB328_319 := n9_; clear n0_ n1_ n2_ n3_ n4_ n5_ n6_ n7_ n8_ n9_; clear hb hbox hg; have hnb68 := NB328_319.out; have hnc68 := NB319_328.out; have hcz69_0 : w67.cell? ⟨gb328, 0, none⟩ = some (.int .i64 0) := (blk_cell BK328.out 0).trans rfl; have hcz69_1 : w67.cell? ⟨gb328, 1, none⟩ = some (.int .i64 0) := (blk_cell BK328.out 1).trans rfl; have hfz69_0 := blk_frozen BK328.out 0; have hfz69_1 := blk_frozen BK328.out 1))
      have n0_ : Aside0 (Kd.S (Kd.slice 9 Kd.string) 29 ((w67.setCell ⟨gb328, 0, none⟩ (.int .i64 t326)).setCell ⟨gb328, 1, none⟩ (.int .i64 t327)) w.heap.size (fun k_ => some k_ ≠ (v321 : Value).ownBlock) v313 t312) := ⟨by (with_reducible repeat (first | apply Kd.S_alloc | apply Kd.S_drewN | apply Kd.S_drew)); exact Kd.S_mono (Kd.S_far (p := ⟨gb328, 1, none⟩) (Kd.S_far (p := ⟨gb328, 0, none⟩) (Kd.S_types HO314.out BK328.out (by decide)) (fun _ hk => hk.2) (.int .i64 t326)) (fun _ hk => hk.2) (.int .i64 t327)) (fun _ hk => hk.1.2)⟩
      have n1_ : Aside0 (Kd.S (Kd.slice 9 Kd.string) 29 ((w67.setCell ⟨gb328, 0, none⟩ (.int .i64 t326)).setCell ⟨gb328, 1, none⟩ (.int .i64 t327)) w.heap.size (fun k_ => some k_ ≠ (v313 : Value).ownBlock) v321 t320) := ⟨by (with_reducible repeat (first | apply Kd.S_alloc | apply Kd.S_drewN | apply Kd.S_drew)); exact Kd.S_mono (Kd.S_far (p := ⟨gb328, 1, none⟩) (Kd.S_far (p := ⟨gb328, 0, none⟩) (Kd.S_types HO322.out BK328.out (by decide)) (fun _ hk => hk.2) (.int .i64 t326)) (fun _ hk => hk.2) (.int .i64 t327)) (fun _ hk => hk.1.2)⟩
      have n2_ : Aside0 (Kd.S (Kd.slice 3 (Kd.int .i64)) 49 ((w67.setCell ⟨gb328, 0, none⟩ (.int .i64 t326)).setCell ⟨gb328, 1, none⟩ (.int .i64 t327)) w.heap.size (fun _ => True) v324 t323) := ⟨by (with_reducible repeat (first | apply Kd.S_alloc | apply Kd.S_drewN | apply Kd.S_drew)); exact Kd.S_mono (Kd.S_far (p := ⟨gb328, 1, none⟩) (Kd.S_far (p := ⟨gb328, 0, none⟩) (Kd.S_types HO325.out BK328.out (by decide)) (fun _ hk => hk.2) (.int .i64 t326)) (fun _ hk => hk.2) (.int .i64 t327)) (fun _ hk => trivial)⟩
      have n3_ : Aside0 (((w67.setCell ⟨gb328, 0, none⟩ (.int .i64 t326)).setCell ⟨gb328, 1, none⟩ (.int .i64 t327)).heap[gb319]? = some (.cells #[.int .i64 t315, .int .i64 t316, .int .i64 t317, .int .i64 t318] 26 (0, 0))) := ⟨by (with_reducible repeat (first | refine blk_drewN ?_ _ | refine blk_drew ?_ | refine blk_alloc ?_ _)); refine blk_far ?_ NB319_328.out _; (with_reducible repeat (first | refine blk_drewN ?_ _ | refine blk_drew ?_ | refine blk_alloc ?_ _)); refine blk_far ?_ NB319_328.out _; (with_reducible repeat (first | refine blk_drewN ?_ _ | refine blk_drew ?_ | refine blk_alloc ?_ _)); exact BK319.out⟩
      have n4_ : Aside0 (((w67.setCell ⟨gb328, 0, none⟩ (.int .i64 t326)).setCell ⟨gb328, 1, none⟩ (.int .i64 t327)).heap[gb328]? = some (.cells #[.int .i64 t326, .int .i64 t327] 32 (0, 0))) := ⟨by (with_reducible repeat (first | refine blk_drewN ?_ _ | refine blk_drew ?_ | refine blk_alloc ?_ _)); refine blk_put (cs := #[.int .i64 t326, .int .i64 0]) ?_ 1 _ rfl; (with_reducible repeat (first | refine blk_drewN ?_ _ | refine blk_drew ?_ | refine blk_alloc ?_ _)); refine blk_put (cs := #[.int .i64 0, .int .i64 0]) ?_ 0 _ rfl; (with_reducible repeat (first | refine blk_drewN ?_ _ | refine blk_drew ?_ | refine blk_alloc ?_ _)); exact BK328.out⟩
      have n5_ : Aside0 (Below w.heap.size w ((w67.setCell ⟨gb328, 0, none⟩ (.int .i64 t326)).setCell ⟨gb328, 1, none⟩ (.int .i64 t327))) := ⟨by repeat (first | (with_reducible first | exact HB.out | apply below_alloc | apply pw_below_drewN | apply below_drew1 | refine below_set ?_ GE319.out | refine below_set ?_ GE328.out) | exact HB.out)⟩
      (try clear HO314)
      (try clear HO322)
      (try clear HO325)
      (try clear BK319)
      (try clear BK328)
      (try clear HB)
      generalize ((w67.setCell ⟨gb328, 0, none⟩ (.int .i64 t326)).setCell ⟨gb328, 1, none⟩ (.int .i64 t327)) = w70 at n0_ n1_ n2_ n3_ n4_ n5_ ⊢
      have HO314 := n0_
      have HO322 := n1_
      have HO325 := n2_
      have BK319 := n3_
      have BK328 := n4_
      have HB := n5_
      clear n0_ n1_ n2_ n3_ n4_ n5_
      have n0_ := Aside0.mk (Kd.S_drew HO314.out)
      have n1_ := Aside0.mk (Kd.S_drew HO322.out)
      have n2_ := Aside0.mk (Kd.S_drew HO325.out)
      have n3_ := Aside0.mk (blk_drew BK319.out)
      have n4_ := Aside0.mk (blk_drew BK328.out)
      have n5_ := Aside0.mk (below_drew1 HB.out)
      clear HO314
      clear HO322
      clear HO325
      clear BK319
      clear BK328
      clear HB
      have HO314 := n0_
      have HO322 := n1_
      have HO325 := n2_
      have BK319 := n3_
      have BK328 := n4_
      have HB := n5_
      clear n0_ n1_ n2_ n3_ n4_ n5_
      refine start_ (n := 19) (S := fun w' => w'.cell? ⟨gb319, 0, none⟩ = some (.int .i64 t315) ∧ w'.cell? ⟨gb319, 1, none⟩ = some (.int .i64 t316) ∧ w'.cell? ⟨gb319, 2, none⟩ = some (.int .i64 t317) ∧ w'.cell? ⟨gb319, 3, none⟩ = some (.int .i64 t318) ∧ w'.cell? ⟨gb328, 0, none⟩ = some (.int .i64 t326) ∧ w'.cell? ⟨gb328, 1, none⟩ = some (.int .i64 t327)) (ds := []) #[false, false, false, false, false, false, false, false, false, false, false, false, false, false, false, false, false, false, false] (by kernel_rfl) rfl rfl ⟨(blk_cell BK319.out 0).trans rfl, (blk_cell BK319.out 1).trans rfl, (blk_cell BK319.out 2).trans rfl, (blk_cell BK319.out 3).trans rfl, (blk_cell BK328.out 0).trans rfl, (blk_cell BK328.out 1).trans rfl⟩ (fun hHeld => ?_); refine with_tabW dragomanlaw13_CreadSays.tab8 dragomanlaw13_CreadSays.bits8 (fun HT_ HW_ => ?_)
      generalize w70.drew = w71 at HO314 HO322 HO325 BK319 BK328 HB hHeld ⊢
      refine pure_ (i := 1) (N := some 28) (v := ?_) (a' := ?_) #[false, true, false, false, false, false, false, false, false, false, false, false, false, false, false, false, false, false, false] rfl rfl (any_of HT_.out (by kernel_rfl)) (fun _ _ _ h => h) (Or.inl ⟨by rfl, ?_⟩) ?_ ?_
      rotate_left
      ·intro w'
       go_simp
       with_reducible rfl
      rotate_left
      ·simp only [Act.put, List.setIfInBounds_toArray, List.set_cons_zero, List.set_cons_succ, i64_w, i32_w]
       rfl
      refine pure_ (i := 2) (N := some 29) (v := ?_) (a' := ?_) #[false, true, true, false, false, false, false, false, false, false, false, false, false, false, false, false, false, false, false] rfl rfl (any_of HT_.out (by kernel_rfl)) (fun _ _ _ h => h) (Or.inl ⟨by rfl, ?_⟩) ?_ ?_
      rotate_left
      ·intro w'
       go_simp
       with_reducible rfl
      rotate_left
      ·simp only [Act.put, List.setIfInBounds_toArray, List.set_cons_zero, List.set_cons_succ, i64_w, i32_w]
       rfl
      refine pure_ (i := 4) (N := some 31) (v := ?_) (a' := ?_) #[false, true, true, false, true, false, false, false, false, false, false, false, false, false, false, false, false, false, false] rfl rfl (any_of HT_.out (by kernel_rfl)) (fun _ _ _ h => h) (Or.inl ⟨by rfl, ?_⟩) ?_ ?_
      rotate_left
      ·intro w'
       go_simp
       with_reducible rfl
      rotate_left
      ·simp only [Act.put, List.setIfInBounds_toArray, List.set_cons_zero, List.set_cons_succ, i64_w, i32_w]
       rfl
      refine take_ (i := 0) (N := some 27) (v := ?_) (a' := ?_) #[true, true, true, false, true, false, false, false, false, false, false, false, false, false, false, false, false, false, false] rfl rfl (take_ofW HT_.out HW_.out (by kernel_rfl)) (fun _ _ _ h => h) (Or.inl ⟨by rfl, ?_⟩) hHeld ?_ ?_
      rotate_left
      ·rintro w' ⟨s0, s1, s2, s3, s4, s5⟩
       go_simp
       with_reducible rfl
      rotate_left
      ·simp only [Act.put, List.setIfInBounds_toArray, List.set_cons_zero, List.set_cons_succ, i64_w, i32_w]
       rfl
      refine take_ (i := 3) (N := some 30) (v := ?_) (a' := ?_) #[true, true, true, true, true, false, false, false, false, false, false, false, false, false, false, false, false, false, false] rfl rfl (take_ofW HT_.out HW_.out (by kernel_rfl)) (fun _ _ _ h => h) (Or.inl ⟨by rfl, ?_⟩) hHeld ?_ ?_
      rotate_left
      ·rintro w' ⟨s0, s1, s2, s3, s4, s5⟩
       go_simp
       with_reducible rfl
      rotate_left
      ·simp only [Act.put, List.setIfInBounds_toArray, List.set_cons_zero, List.set_cons_succ, i64_w, i32_w]
       rfl
      refine take_ (i := 5) (N := some 32) (v := ?_) (a' := ?_) #[true, true, true, true, true, true, false, false, false, false, false, false, false, false, false, false, false, false, false] rfl rfl (take_ofW HT_.out HW_.out (by kernel_rfl)) (fun _ _ _ h => h) (Or.inl ⟨by rfl, ?_⟩) hHeld ?_ ?_
      rotate_left
      ·rintro w' ⟨s0, s1, s2, s3, s4, s5⟩
       go_simp
       with_reducible rfl
      rotate_left
      ·simp only [Act.put, List.setIfInBounds_toArray, List.set_cons_zero, List.set_cons_succ, i64_w, i32_w]
       rfl
      refine one_ (i := 6) (N := some 33) #[true, true, true, true, true, true, true, false, false, false, false, false, false, false, false, false, false, false, false] rfl rfl (one_of HT_.out (by kernel_rfl)) (by decide) (fun K hK => ?_)
      refine goes_ Try.func11 (by kernel_rfl) rfl #[.string a0, .int .i64 t327, .int .i64 t326] (by rfl) rfl rfl (by (try simp only [List.map_toArray, List.map_cons, List.map_nil]); first | done | rfl | (simp only [List.length_drop, List.length_take]; rfl)) ?_
      with_reducible refine (dragomanref1_Fault.calls k a0 t327 t326 t331 t332 t333 t334 _ A45.out).mono ?_
      rintro e w72 ⟨rfl, hb⟩
      refine ⟨_, rfl, ?_⟩
      have n0_ := Aside0.mk (Kd.S_below (by (with_reducible repeat (first | apply Kd.S_alloc | apply Kd.S_drewN | apply Kd.S_drew)); exact HO314.out) hb)
      have n1_ := Aside0.mk (Kd.S_below (by (with_reducible repeat (first | apply Kd.S_alloc | apply Kd.S_drewN | apply Kd.S_drew)); exact HO322.out) hb)
      have n2_ := Aside0.mk (Kd.S_below (by (with_reducible repeat (first | apply Kd.S_alloc | apply Kd.S_drewN | apply Kd.S_drew)); exact HO325.out) hb)
      have n3_ := Aside0.mk (blk_below (g := gb319) (o := .cells #[.int .i64 t315, .int .i64 t316, .int .i64 t317, .int .i64 t318] 26 (0, 0)) (by (with_reducible repeat (first | refine blk_drewN ?_ _ | refine blk_drew ?_ | refine blk_alloc ?_ _)); exact BK319.out) hb)
      have n4_ := Aside0.mk (blk_below (g := gb328) (o := .cells #[.int .i64 t326, .int .i64 t327] 32 (0, 0)) (by (with_reducible repeat (first | refine blk_drewN ?_ _ | refine blk_drew ?_ | refine blk_alloc ?_ _)); exact BK328.out) hb)
      have n5_ := Aside0.mk (below_step (by repeat (first | (with_reducible first | exact HB.out | apply below_alloc | apply pw_below_drewN | apply below_drew1 | refine below_set ?_ GE319.out | refine below_set ?_ GE328.out) | exact HB.out)) hb)
      clear HO314
      clear HO322
      clear HO325
      clear BK319
      clear BK328
      clear HB
      have HO314 := n0_
      have HO322 := n1_
      have HO325 := n2_
      have BK319 := n3_
      have BK328 := n4_
      have HB := n5_
      clear n0_ n1_ n2_ n3_ n4_ n5_
      (try clear hb)
      (try clear hb2)
      (try clear hk)
      (try clear hi)
      obtain ⟨Ao73, co73, eo73⟩ := Kd.S_slice HO314.out
      (first | subst eo73 | (injection eo73 with f1_ f2_ f3_; have f4_ := f1_.symm; have f5_ := f3_.symm; clear f1_ f2_ f3_; subst f4_; subst f5_))
      refine hK.out _ _ ⟨(blk_cell BK319.out 0).trans rfl, (blk_cell BK319.out 1).trans rfl, (blk_cell BK319.out 2).trans rfl, (blk_cell BK319.out 3).trans rfl, (blk_cell BK328.out 0).trans rfl, (blk_cell BK328.out 1).trans rfl⟩ (fun hHeld => ?_)
      clear hK K
      refine norm_ (a' := ?_) ?_ ?_
      rotate_left
      ·show Act.put _ (some 33) _ = _
       simp only [Act.put, List.setIfInBounds_toArray, List.set_cons_zero, List.set_cons_succ, i64_w, i32_w]
       rfl
      refine pure_ (i := 7) (N := some 34) (v := ?_) (a' := ?_) #[true, true, true, true, true, true, true, true, false, false, false, false, false, false, false, false, false, false, false] rfl rfl (any_of HT_.out (by kernel_rfl)) (fun _ _ _ h => h) (Or.inl ⟨by rfl, ?_⟩) ?_ ?_
      rotate_left
      ·intro w'
       go_simp
       with_reducible rfl
      rotate_left
      ·simp only [Act.put, List.setIfInBounds_toArray, List.set_cons_zero, List.set_cons_succ, i64_w, i32_w]
       rfl
      refine pure_ (i := 8) (N := some 35) (v := ?_) (a' := ?_) #[true, true, true, true, true, true, true, true, true, false, false, false, false, false, false, false, false, false, false] rfl rfl (any_of HT_.out (by kernel_rfl)) (fun _ _ _ h => h) (Or.inl ⟨by rfl, ?_⟩) ?_ ?_
      rotate_left
      ·intro w'
       go_simp
       with_reducible rfl
      rotate_left
      ·simp only [Act.put, List.setIfInBounds_toArray, List.set_cons_zero, List.set_cons_succ, i64_w, i32_w]
       rfl
      refine pure_ (i := 9) (N := some 36) (v := ?_) (a' := ?_) #[true, true, true, true, true, true, true, true, true, true, false, false, false, false, false, false, false, false, false] rfl rfl (any_of HT_.out (by kernel_rfl)) (fun _ _ _ h => h) (Or.inl ⟨by rfl, ?_⟩) ?_ ?_
      rotate_left
      ·intro w'
       go_simp
       with_reducible rfl
      rotate_left
      ·simp only [Act.put, List.setIfInBounds_toArray, List.set_cons_zero, List.set_cons_succ, i64_w, i32_w]
       rfl
      refine pure_ (i := 10) (N := some 37) (v := ?_) (a' := ?_) #[true, true, true, true, true, true, true, true, true, true, true, false, false, false, false, false, false, false, false] rfl rfl (any_of HT_.out (by kernel_rfl)) (fun _ _ _ h => h) (Or.inl ⟨by rfl, ?_⟩) ?_ ?_
      rotate_left
      ·intro w'
       go_simp
       with_reducible rfl
      rotate_left
      ·simp only [Act.put, List.setIfInBounds_toArray, List.set_cons_zero, List.set_cons_succ, i64_w, i32_w]
       rfl
      refine pure_ (i := 11) (N := some 38) (v := ?_) (a' := ?_) #[true, true, true, true, true, true, true, true, true, true, true, true, false, false, false, false, false, false, false] rfl rfl (any_of HT_.out (by kernel_rfl)) (fun _ _ _ h => h) (Or.inl ⟨by rfl, ?_⟩) ?_ ?_
      rotate_left
      ·intro w'
       go_simp
       with_reducible rfl
      rotate_left
      ·simp only [Act.put, List.setIfInBounds_toArray, List.set_cons_zero, List.set_cons_succ, i64_w, i32_w]
       rfl
      refine pure_ (i := 12) (N := some 39) (v := ?_) (a' := ?_) #[true, true, true, true, true, true, true, true, true, true, true, true, true, false, false, false, false, false, false] rfl rfl (any_of HT_.out (by kernel_rfl)) (fun _ _ _ h => h) (Or.inl ⟨by rfl, ?_⟩) ?_ ?_
      rotate_left
      ·intro w'
       go_simp
       with_reducible rfl
      rotate_left
      ·simp only [Act.put, List.setIfInBounds_toArray, List.set_cons_zero, List.set_cons_succ, i64_w, i32_w]
       rfl
      refine pure_ (i := 13) (N := some 40) (v := ?_) (a' := ?_) #[true, true, true, true, true, true, true, true, true, true, true, true, true, true, false, false, false, false, false] rfl rfl (any_of HT_.out (by kernel_rfl)) (fun _ _ _ h => h) (Or.inl ⟨by rfl, ?_⟩) ?_ ?_
      rotate_left
      ·intro w'
       go_simp
       with_reducible rfl
      rotate_left
      ·simp only [Act.put, List.setIfInBounds_toArray, List.set_cons_zero, List.set_cons_succ, i64_w, i32_w]
       rfl
      refine pure_ (i := 14) (N := some 41) (v := undef) (a' := ?_) #[true, true, true, true, true, true, true, true, true, true, true, true, true, true, true, false, false, false, false] rfl rfl (any_of HT_.out (by kernel_rfl)) (fun _ _ _ h => h) (Or.inr ⟨by rfl, rfl⟩) ?_ ?_
      rotate_left
      ·simp only [Act.put, List.setIfInBounds_toArray, List.set_cons_zero, List.set_cons_succ, i64_w, i32_w]
       rfl
      refine pure_ (i := 15) (N := some 42) (v := undef) (a' := ?_) #[true, true, true, true, true, true, true, true, true, true, true, true, true, true, true, true, false, false, false] rfl rfl (any_of HT_.out (by kernel_rfl)) (fun _ _ _ h => h) (Or.inr ⟨by rfl, rfl⟩) ?_ ?_
      rotate_left
      ·simp only [Act.put, List.setIfInBounds_toArray, List.set_cons_zero, List.set_cons_succ, i64_w, i32_w]
       rfl
      refine pure_ (i := 16) (N := some 43) (v := undef) (a' := ?_) #[true, true, true, true, true, true, true, true, true, true, true, true, true, true, true, true, true, false, false] rfl rfl (any_of HT_.out (by kernel_rfl)) (fun _ _ _ h => h) (Or.inr ⟨by rfl, rfl⟩) ?_ ?_
      rotate_left
      ·simp only [Act.put, List.setIfInBounds_toArray, List.set_cons_zero, List.set_cons_succ, i64_w, i32_w]
       rfl
      refine pure_ (i := 17) (N := some 44) (v := ?_) (a' := ?_) #[true, true, true, true, true, true, true, true, true, true, true, true, true, true, true, true, true, true, false] rfl rfl (any_of HT_.out (by kernel_rfl)) (fun _ _ _ h => h) (Or.inl ⟨by rfl, ?_⟩) ?_ ?_
      rotate_left
      ·intro w'
       go_simp
       with_reducible rfl
      rotate_left
      ·simp only [Act.put, List.setIfInBounds_toArray, List.set_cons_zero, List.set_cons_succ, i64_w, i32_w]
       rfl
      refine pure_ (i := 18) (N := some 2) (v := ?_) (a' := ?_) #[true, true, true, true, true, true, true, true, true, true, true, true, true, true, true, true, true, true, true] rfl rfl (any_of HT_.out (by kernel_rfl)) (fun _ _ _ h => h) (Or.inl ⟨by rfl, ?_⟩) ?_ ?_
      rotate_left
      ·intro w'
       go_simp
       with_reducible rfl
      rotate_left
      ·simp only [Act.put, List.setIfInBounds_toArray, List.set_cons_zero, List.set_cons_succ, i64_w, i32_w]
       rfl
      refine done_ (done_of HT_.out (by kernel_rfl)) ?_
      try go_wp2
      go_ret
      exact ⟨by first | rfl | (simp [errW_none, errW_some] <;> rfl) | (simp [*, errW_none, errW_some, bne]; done) | (simp [*, errW_none, errW_some] <;> rfl), by repeat (first | (with_reducible first | exact HB.out | apply below_alloc | apply pw_below_drewN | apply below_drew1 | refine below_set ?_ GE319.out | refine below_set ?_ GE328.out) | exact HB.out)⟩
    ·rw [if_neg c46] at H
     have c46b0 : (t315 == t331 && (t316 == t332 && (t317 == t333 && (t318 == t334)))) = false := by simpa using c46
     (try (have c46b1 : decide (t315 = t331 && (t316 == t332 && (t317 == t333 && (t318 == t334)))) = false := by simpa using c46))
     (try (have c46b2 : (t315 == t331 && (t316 == t332 && (t317 == t333 && (t318 == t334)))) = false := by simpa using c46))
     (try (have c46b3 : ¬ (t315 = t331 && (t316 == t332 && (t317 == t333 && (t318 == t334)))) := by simpa using c46))
     clear c46
     obtain rfl := Option.some.inj H
     go_enter Try.func4, Try.ntmps4
     try go_wp2_with (first | ((with_reducible refine gate_callee (f := 8) rfl ?_); refine goesL_ (some 8) rfl rfl Try.func8 (by kernel_rfl) rfl #[] rfl (by (try simp only [List.map_toArray, List.map_cons, List.map_nil]); first | done | rfl | (simp only [List.length_drop, List.length_take]; rfl)) ?_; (with_reducible refine (dragomanlaw13_awake.calls k  true _ A2.out).mono ?_); rintro e w74 ⟨rfl, hb⟩; refine ⟨_, rfl, ?_⟩; have n0_ := Aside0.mk (below_step (by repeat (first | (with_reducible first | exact HB.out | apply below_alloc | apply pw_below_drewN | apply below_drew1) | exact HB.out)) hb); clear HB; have HB := n0_; clear n0_; (try clear hb); (try clear hb2); (try clear hk); (try clear hi)) | ((with_reducible refine gate_callee (f := 9) rfl ?_); refine goesL_ (some 15) rfl rfl Try.func9 (by kernel_rfl) rfl #[.string a0] rfl (by (try simp only [List.map_toArray, List.map_cons, List.map_nil]); first | done | rfl | (simp only [List.length_drop, List.length_take]; rfl)) ?_; (with_reducible refine (cread_Rows.calls a0 t312 t315 t316 t317 t318 _ A6.out).mono ?_); rintro e w75 ⟨v313, rfl, ho0, hb⟩; refine ⟨_, rfl, ?_⟩; have n0_ := Aside0.mk (Kd.S_lower ho0 (below_size (by repeat (first | (with_reducible first | exact HB.out | apply below_alloc | apply pw_below_drewN | apply below_drew1) | exact HB.out)))); have n1_ := Aside0.mk (below_step (by repeat (first | (with_reducible first | exact HB.out | apply below_alloc | apply pw_below_drewN | apply below_drew1) | exact HB.out)) hb); clear HB; have HO314 := n0_; have HB := n1_; clear n0_ n1_; (try clear hb); (try clear hb2); (try clear hk); (try clear hi); (try clear ho0)) | ((with_reducible refine gate_dst (N := 4) rfl ?_); (try (refine gate_guard (by rfl) ?_; dsimp only)); refine box_event ?hg (N := 4) ?hd (cs := #[.int .i64 0, .int .i64 0, .int .i64 0, .int .i64 0]) (t := 26) ?hr ?_; (case hd => rfl); (case hg => rfl); (case hr => first | (go_simp; done) | (go_simp; rfl)); intro gb319 hg w76 hbox hb; have n0_ := Aside0.mk (Kd.S_below (by (with_reducible repeat (first | apply Kd.S_alloc | apply Kd.S_drewN | apply Kd.S_drew)); exact HO314.out) hb); have n1_ := Aside0.mk (below_step (by repeat (first | (with_reducible first | exact HB.out | apply below_alloc | apply pw_below_drewN | apply below_drew1) | exact HB.out)) hb); have n2_ := Aside0.mk (hbox); have n3_ := Aside0.mk ((by rw [hg]; exact (below_size (by repeat (first | (with_reducible first | exact HB.out | apply below_alloc | apply pw_below_drewN | apply below_drew1) | exact HB.out))) : w.heap.size ≤ gb319)); have n4_ := Aside0.mk ((by rw [hg]; exact (below_size (by repeat (first | (with_reducible first | exact HB.out | apply below_alloc | apply pw_below_drewN | apply below_drew1) | exact HB.out))) : w.heap.size ≤ gb319)); clear HO314; clear HB; have HO314 := n0_; have HB := n1_; have BK319 := n2_; have GW319 := n3_; have GE319 := n4_; clear n0_ n1_ n2_ n3_ n4_; clear hb hbox hg; have hcz77_0 : w76.cell? ⟨gb319, 0, none⟩ = some (.int .i64 0) := (blk_cell BK319.out 0).trans rfl; have hcz77_1 : w76.cell? ⟨gb319, 1, none⟩ = some (.int .i64 0) := (blk_cell BK319.out 1).trans rfl; have hcz77_2 : w76.cell? ⟨gb319, 2, none⟩ = some (.int .i64 0) := (blk_cell BK319.out 2).trans rfl; have hcz77_3 : w76.cell? ⟨gb319, 3, none⟩ = some (.int .i64 0) := (blk_cell BK319.out 3).trans rfl; have hfz77_0 := blk_frozen BK319.out 0; have hfz77_1 := blk_frozen BK319.out 1; have hfz77_2 := blk_frozen BK319.out 2; have hfz77_3 := blk_frozen BK319.out 3) | ((with_reducible refine gate_callee (f := 10) rfl ?_); refine goesL_ (some 20) rfl rfl Try.func10 (by kernel_rfl) rfl #[.string a0] rfl (by (try simp only [List.map_toArray, List.map_cons, List.map_nil]); first | done | rfl | (simp only [List.length_drop, List.length_take]; rfl)) ?_; (with_reducible refine (dragomanref13_Rows.calls k a0 t320 t323 t326 t327 _ A7.out).mono ?_); rintro e w78 ⟨v321, v324, rfl, ho0, ho1, hb⟩; refine ⟨_, rfl, ?_⟩; have n0_ := Aside0.mk (Kd.S_elder' (by (with_reducible repeat (first | apply Kd.S_alloc | apply Kd.S_drewN | apply Kd.S_drew)); exact (Kd.S_mono (Kd.S_far (p := ⟨gb319, 3, none⟩) (Kd.S_far (p := ⟨gb319, 2, none⟩) (Kd.S_far (p := ⟨gb319, 1, none⟩) (Kd.S_far (p := ⟨gb319, 0, none⟩) (Kd.S_types HO314.out BK319.out (by decide)) (fun _ hk => hk.2) (.int .i64 t315)) (fun _ hk => hk.2) (.int .i64 t316)) (fun _ hk => hk.2) (.int .i64 t317)) (fun _ hk => hk.2) (.int .i64 t318)) (fun _ h_ => h_.1))) (Kd.S_base ho0) hb); have n1_ := Aside0.mk (Kd.S_lower (Kd.S_new' ho0 (Kd.S_lt (by (with_reducible repeat (first | apply Kd.S_alloc | apply Kd.S_drewN | apply Kd.S_drew)); exact (Kd.S_mono (Kd.S_far (p := ⟨gb319, 3, none⟩) (Kd.S_far (p := ⟨gb319, 2, none⟩) (Kd.S_far (p := ⟨gb319, 1, none⟩) (Kd.S_far (p := ⟨gb319, 0, none⟩) (Kd.S_types HO314.out BK319.out (by decide)) (fun _ hk => hk.2) (.int .i64 t315)) (fun _ hk => hk.2) (.int .i64 t316)) (fun _ hk => hk.2) (.int .i64 t317)) (fun _ hk => hk.2) (.int .i64 t318)) (fun _ h_ => h_.1))))) (below_size (by repeat (first | (with_reducible first | exact HB.out | apply below_alloc | apply pw_below_drewN | apply below_drew1 | refine below_set ?_ GE319.out) | exact HB.out)))); have n2_ := Aside0.mk (Kd.S_lower ho1 (below_size (by repeat (first | (with_reducible first | exact HB.out | apply below_alloc | apply pw_below_drewN | apply below_drew1 | refine below_set ?_ GE319.out) | exact HB.out)))); have n3_ := Aside0.mk (blk_below (g := gb319) (o := .cells #[.int .i64 t315, .int .i64 t316, .int .i64 t317, .int .i64 t318] 26 (0, 0)) (by (with_reducible repeat (first | refine blk_drewN ?_ _ | refine blk_drew ?_ | refine blk_alloc ?_ _)); refine blk_put (cs := #[.int .i64 t315, .int .i64 t316, .int .i64 t317, .int .i64 0]) ?_ 3 _ rfl; (with_reducible repeat (first | refine blk_drewN ?_ _ | refine blk_drew ?_ | refine blk_alloc ?_ _)); refine blk_put (cs := #[.int .i64 t315, .int .i64 t316, .int .i64 0, .int .i64 0]) ?_ 2 _ rfl; (with_reducible repeat (first | refine blk_drewN ?_ _ | refine blk_drew ?_ | refine blk_alloc ?_ _)); refine blk_put (cs := #[.int .i64 t315, .int .i64 0, .int .i64 0, .int .i64 0]) ?_ 1 _ rfl; (with_reducible repeat (first | refine blk_drewN ?_ _ | refine blk_drew ?_ | refine blk_alloc ?_ _)); refine blk_put (cs := #[.int .i64 0, .int .i64 0, .int .i64 0, .int .i64 0]) ?_ 0 _ rfl; (with_reducible repeat (first | refine blk_drewN ?_ _ | refine blk_drew ?_ | refine blk_alloc ?_ _)); exact BK319.out) hb); have n4_ := Aside0.mk (below_step (by repeat (first | (with_reducible first | exact HB.out | apply below_alloc | apply pw_below_drewN | apply below_drew1 | refine below_set ?_ GE319.out) | exact HB.out)) hb); clear HO314; clear BK319; clear HB; have HO314 := n0_; have HO322 := n1_; have HO325 := n2_; have BK319 := n3_; have HB := n4_; clear n0_ n1_ n2_ n3_ n4_; (try clear hb); (try clear hb2); (try clear hk); (try clear hi); (try clear ho0); (try clear ho1)) | ((with_reducible refine gate_dst (N := 7) rfl ?_); (try (refine gate_guard (by rfl) ?_; dsimp only)); refine box_event ?hg (N := 7) ?hd (cs := #[.int .i64 0, .int .i64 0]) (t := 32) ?hr ?_; (case hd => rfl); (case hg => rfl); (case hr => first | (go_simp; done) | (go_simp; rfl)); intro gb328 hg w79 hbox hb; have n0_ := Aside0.mk (Kd.S_below (by (with_reducible repeat (first | apply Kd.S_alloc | apply Kd.S_drewN | apply Kd.S_drew)); exact HO314.out) hb); have n1_ := Aside0.mk (Kd.S_below (by (with_reducible repeat (first | apply Kd.S_alloc | apply Kd.S_drewN | apply Kd.S_drew)); exact HO322.out) hb); have n2_ := Aside0.mk (Kd.S_below (by (with_reducible repeat (first | apply Kd.S_alloc | apply Kd.S_drewN | apply Kd.S_drew)); exact HO325.out) hb); have n3_ := Aside0.mk (blk_below (g := gb319) (o := .cells #[.int .i64 t315, .int .i64 t316, .int .i64 t317, .int .i64 t318] 26 (0, 0)) (by (with_reducible repeat (first | refine blk_drewN ?_ _ | refine blk_drew ?_ | refine blk_alloc ?_ _)); exact BK319.out) hb); have n4_ := Aside0.mk (below_step (by repeat (first | (with_reducible first | exact HB.out | apply below_alloc | apply pw_below_drewN | apply below_drew1 | refine below_set ?_ GE319.out) | exact HB.out)) hb); have n5_ := Aside0.mk (hbox); have n6_ := Aside0.mk ((by rw [hg]; exact (below_size (by repeat (first | (with_reducible first | exact HB.out | apply below_alloc | apply pw_below_drewN | apply below_drew1 | refine below_set ?_ GE319.out) | exact HB.out))) : w.heap.size ≤ gb328)); have n7_ := Aside0.mk ((by rw [hg]; exact (below_size (by repeat (first | (with_reducible first | exact HB.out | apply below_alloc | apply pw_below_drewN | apply below_drew1 | refine below_set ?_ GE319.out) | exact HB.out))) : w.heap.size ≤ gb328)); have n8_ := Aside0.mk ((by rw [hg]; exact Nat.ne_of_lt (blk_lt (g := gb319) (o := .cells #[.int .i64 t315, .int .i64 t316, .int .i64 t317, .int .i64 t318] 26 (0, 0)) (by (with_reducible repeat (first | refine blk_drewN ?_ _ | refine blk_drew ?_ | refine blk_alloc ?_ _)); exact BK319.out)) : gb319 ≠ gb328)); have n9_ := Aside0.mk ((by rw [hg]; exact Nat.ne_of_gt (blk_lt (g := gb319) (o := .cells #[.int .i64 t315, .int .i64 t316, .int .i64 t317, .int .i64 t318] 26 (0, 0)) (by (with_reducible repeat (first | refine blk_drewN ?_ _ | refine blk_drew ?_ | refine blk_alloc ?_ _)); exact BK319.out)) : gb328 ≠ gb319)); clear HO314; clear HO322; clear HO325; clear BK319; clear HB; have HO314 := n0_; have HO322 := n1_; have HO325 := n2_; have BK319 := n3_; have HB := n4_; have BK328 := n5_; have GW328 := n6_; have GE328 := n7_; have NB319_328 := n8_; have NB328_319 := n9_; clear n0_ n1_ n2_ n3_ n4_ n5_ n6_ n7_ n8_ n9_; clear hb hbox hg; have hnb80 := NB328_319.out; have hnc80 := NB319_328.out; have hcz81_0 : w79.cell? ⟨gb328, 0, none⟩ = some (.int .i64 0) := (blk_cell BK328.out 0).trans rfl; have hcz81_1 : w79.cell? ⟨gb328, 1, none⟩ = some (.int .i64 0) := (blk_cell BK328.out 1).trans rfl; have hfz81_0 := blk_frozen BK328.out 0; have hfz81_1 := blk_frozen BK328.out 1))
     have n0_ : Aside0 (Kd.S (Kd.slice 9 Kd.string) 29 ((w79.setCell ⟨gb328, 0, none⟩ (.int .i64 t326)).setCell ⟨gb328, 1, none⟩ (.int .i64 t327)) w.heap.size (fun k_ => some k_ ≠ (v321 : Value).ownBlock) v313 t312) := ⟨by (with_reducible repeat (first | apply Kd.S_alloc | apply Kd.S_drewN | apply Kd.S_drew)); exact Kd.S_mono (Kd.S_far (p := ⟨gb328, 1, none⟩) (Kd.S_far (p := ⟨gb328, 0, none⟩) (Kd.S_types HO314.out BK328.out (by decide)) (fun _ hk => hk.2) (.int .i64 t326)) (fun _ hk => hk.2) (.int .i64 t327)) (fun _ hk => hk.1.2)⟩
     have n1_ : Aside0 (Kd.S (Kd.slice 9 Kd.string) 29 ((w79.setCell ⟨gb328, 0, none⟩ (.int .i64 t326)).setCell ⟨gb328, 1, none⟩ (.int .i64 t327)) w.heap.size (fun k_ => some k_ ≠ (v313 : Value).ownBlock) v321 t320) := ⟨by (with_reducible repeat (first | apply Kd.S_alloc | apply Kd.S_drewN | apply Kd.S_drew)); exact Kd.S_mono (Kd.S_far (p := ⟨gb328, 1, none⟩) (Kd.S_far (p := ⟨gb328, 0, none⟩) (Kd.S_types HO322.out BK328.out (by decide)) (fun _ hk => hk.2) (.int .i64 t326)) (fun _ hk => hk.2) (.int .i64 t327)) (fun _ hk => hk.1.2)⟩
     have n2_ : Aside0 (Kd.S (Kd.slice 3 (Kd.int .i64)) 49 ((w79.setCell ⟨gb328, 0, none⟩ (.int .i64 t326)).setCell ⟨gb328, 1, none⟩ (.int .i64 t327)) w.heap.size (fun _ => True) v324 t323) := ⟨by (with_reducible repeat (first | apply Kd.S_alloc | apply Kd.S_drewN | apply Kd.S_drew)); exact Kd.S_mono (Kd.S_far (p := ⟨gb328, 1, none⟩) (Kd.S_far (p := ⟨gb328, 0, none⟩) (Kd.S_types HO325.out BK328.out (by decide)) (fun _ hk => hk.2) (.int .i64 t326)) (fun _ hk => hk.2) (.int .i64 t327)) (fun _ hk => trivial)⟩
     have n3_ : Aside0 (((w79.setCell ⟨gb328, 0, none⟩ (.int .i64 t326)).setCell ⟨gb328, 1, none⟩ (.int .i64 t327)).heap[gb319]? = some (.cells #[.int .i64 t315, .int .i64 t316, .int .i64 t317, .int .i64 t318] 26 (0, 0))) := ⟨by (with_reducible repeat (first | refine blk_drewN ?_ _ | refine blk_drew ?_ | refine blk_alloc ?_ _)); refine blk_far ?_ NB319_328.out _; (with_reducible repeat (first | refine blk_drewN ?_ _ | refine blk_drew ?_ | refine blk_alloc ?_ _)); refine blk_far ?_ NB319_328.out _; (with_reducible repeat (first | refine blk_drewN ?_ _ | refine blk_drew ?_ | refine blk_alloc ?_ _)); exact BK319.out⟩
     have n4_ : Aside0 (((w79.setCell ⟨gb328, 0, none⟩ (.int .i64 t326)).setCell ⟨gb328, 1, none⟩ (.int .i64 t327)).heap[gb328]? = some (.cells #[.int .i64 t326, .int .i64 t327] 32 (0, 0))) := ⟨by (with_reducible repeat (first | refine blk_drewN ?_ _ | refine blk_drew ?_ | refine blk_alloc ?_ _)); refine blk_put (cs := #[.int .i64 t326, .int .i64 0]) ?_ 1 _ rfl; (with_reducible repeat (first | refine blk_drewN ?_ _ | refine blk_drew ?_ | refine blk_alloc ?_ _)); refine blk_put (cs := #[.int .i64 0, .int .i64 0]) ?_ 0 _ rfl; (with_reducible repeat (first | refine blk_drewN ?_ _ | refine blk_drew ?_ | refine blk_alloc ?_ _)); exact BK328.out⟩
     have n5_ : Aside0 (Below w.heap.size w ((w79.setCell ⟨gb328, 0, none⟩ (.int .i64 t326)).setCell ⟨gb328, 1, none⟩ (.int .i64 t327))) := ⟨by repeat (first | (with_reducible first | exact HB.out | apply below_alloc | apply pw_below_drewN | apply below_drew1 | refine below_set ?_ GE319.out | refine below_set ?_ GE328.out) | exact HB.out)⟩
     (try clear HO314)
     (try clear HO322)
     (try clear HO325)
     (try clear BK319)
     (try clear BK328)
     (try clear HB)
     generalize ((w79.setCell ⟨gb328, 0, none⟩ (.int .i64 t326)).setCell ⟨gb328, 1, none⟩ (.int .i64 t327)) = w82 at n0_ n1_ n2_ n3_ n4_ n5_ ⊢
     have HO314 := n0_
     have HO322 := n1_
     have HO325 := n2_
     have BK319 := n3_
     have BK328 := n4_
     have HB := n5_
     clear n0_ n1_ n2_ n3_ n4_ n5_
     have n0_ := Aside0.mk (Kd.S_drew HO314.out)
     have n1_ := Aside0.mk (Kd.S_drew HO322.out)
     have n2_ := Aside0.mk (Kd.S_drew HO325.out)
     have n3_ := Aside0.mk (blk_drew BK319.out)
     have n4_ := Aside0.mk (blk_drew BK328.out)
     have n5_ := Aside0.mk (below_drew1 HB.out)
     clear HO314
     clear HO322
     clear HO325
     clear BK319
     clear BK328
     clear HB
     have HO314 := n0_
     have HO322 := n1_
     have HO325 := n2_
     have BK319 := n3_
     have BK328 := n4_
     have HB := n5_
     clear n0_ n1_ n2_ n3_ n4_ n5_
     refine start_ (n := 19) (S := fun w' => w'.cell? ⟨gb319, 0, none⟩ = some (.int .i64 t315) ∧ w'.cell? ⟨gb319, 1, none⟩ = some (.int .i64 t316) ∧ w'.cell? ⟨gb319, 2, none⟩ = some (.int .i64 t317) ∧ w'.cell? ⟨gb319, 3, none⟩ = some (.int .i64 t318) ∧ w'.cell? ⟨gb328, 0, none⟩ = some (.int .i64 t326) ∧ w'.cell? ⟨gb328, 1, none⟩ = some (.int .i64 t327)) (ds := []) #[false, false, false, false, false, false, false, false, false, false, false, false, false, false, false, false, false, false, false] (by kernel_rfl) rfl rfl ⟨(blk_cell BK319.out 0).trans rfl, (blk_cell BK319.out 1).trans rfl, (blk_cell BK319.out 2).trans rfl, (blk_cell BK319.out 3).trans rfl, (blk_cell BK328.out 0).trans rfl, (blk_cell BK328.out 1).trans rfl⟩ (fun hHeld => ?_); refine with_tabW dragomanlaw13_CreadSays.tab8 dragomanlaw13_CreadSays.bits8 (fun HT_ HW_ => ?_)
     generalize w82.drew = w83 at HO314 HO322 HO325 BK319 BK328 HB hHeld ⊢
     refine pure_ (i := 1) (N := some 28) (v := ?_) (a' := ?_) #[false, true, false, false, false, false, false, false, false, false, false, false, false, false, false, false, false, false, false] rfl rfl (any_of HT_.out (by kernel_rfl)) (fun _ _ _ h => h) (Or.inl ⟨by rfl, ?_⟩) ?_ ?_
     rotate_left
     ·intro w'
      go_simp
      with_reducible rfl
     rotate_left
     ·simp only [Act.put, List.setIfInBounds_toArray, List.set_cons_zero, List.set_cons_succ, i64_w, i32_w]
      rfl
     refine pure_ (i := 2) (N := some 29) (v := ?_) (a' := ?_) #[false, true, true, false, false, false, false, false, false, false, false, false, false, false, false, false, false, false, false] rfl rfl (any_of HT_.out (by kernel_rfl)) (fun _ _ _ h => h) (Or.inl ⟨by rfl, ?_⟩) ?_ ?_
     rotate_left
     ·intro w'
      go_simp
      with_reducible rfl
     rotate_left
     ·simp only [Act.put, List.setIfInBounds_toArray, List.set_cons_zero, List.set_cons_succ, i64_w, i32_w]
      rfl
     refine pure_ (i := 4) (N := some 31) (v := ?_) (a' := ?_) #[false, true, true, false, true, false, false, false, false, false, false, false, false, false, false, false, false, false, false] rfl rfl (any_of HT_.out (by kernel_rfl)) (fun _ _ _ h => h) (Or.inl ⟨by rfl, ?_⟩) ?_ ?_
     rotate_left
     ·intro w'
      go_simp
      with_reducible rfl
     rotate_left
     ·simp only [Act.put, List.setIfInBounds_toArray, List.set_cons_zero, List.set_cons_succ, i64_w, i32_w]
      rfl
     refine take_ (i := 0) (N := some 27) (v := ?_) (a' := ?_) #[true, true, true, false, true, false, false, false, false, false, false, false, false, false, false, false, false, false, false] rfl rfl (take_ofW HT_.out HW_.out (by kernel_rfl)) (fun _ _ _ h => h) (Or.inl ⟨by rfl, ?_⟩) hHeld ?_ ?_
     rotate_left
     ·rintro w' ⟨s0, s1, s2, s3, s4, s5⟩
      go_simp
      with_reducible rfl
     rotate_left
     ·simp only [Act.put, List.setIfInBounds_toArray, List.set_cons_zero, List.set_cons_succ, i64_w, i32_w]
      rfl
     refine take_ (i := 3) (N := some 30) (v := ?_) (a' := ?_) #[true, true, true, true, true, false, false, false, false, false, false, false, false, false, false, false, false, false, false] rfl rfl (take_ofW HT_.out HW_.out (by kernel_rfl)) (fun _ _ _ h => h) (Or.inl ⟨by rfl, ?_⟩) hHeld ?_ ?_
     rotate_left
     ·rintro w' ⟨s0, s1, s2, s3, s4, s5⟩
      go_simp
      with_reducible rfl
     rotate_left
     ·simp only [Act.put, List.setIfInBounds_toArray, List.set_cons_zero, List.set_cons_succ, i64_w, i32_w]
      rfl
     refine take_ (i := 5) (N := some 32) (v := ?_) (a' := ?_) #[true, true, true, true, true, true, false, false, false, false, false, false, false, false, false, false, false, false, false] rfl rfl (take_ofW HT_.out HW_.out (by kernel_rfl)) (fun _ _ _ h => h) (Or.inl ⟨by rfl, ?_⟩) hHeld ?_ ?_
     rotate_left
     ·rintro w' ⟨s0, s1, s2, s3, s4, s5⟩
      go_simp
      with_reducible rfl
     rotate_left
     ·simp only [Act.put, List.setIfInBounds_toArray, List.set_cons_zero, List.set_cons_succ, i64_w, i32_w]
      rfl
     refine one_ (i := 6) (N := some 33) #[true, true, true, true, true, true, true, false, false, false, false, false, false, false, false, false, false, false, false] rfl rfl (one_of HT_.out (by kernel_rfl)) (by decide) (fun K hK => ?_)
     refine goes_ Try.func11 (by kernel_rfl) rfl #[.string a0, .int .i64 t327, .int .i64 t326] (by rfl) rfl rfl (by (try simp only [List.map_toArray, List.map_cons, List.map_nil]); first | done | rfl | (simp only [List.length_drop, List.length_take]; rfl)) ?_
     with_reducible refine (dragomanref1_Fault.calls k a0 t327 t326 t331 t332 t333 t334 _ A45.out).mono ?_
     rintro e w84 ⟨rfl, hb⟩
     refine ⟨_, rfl, ?_⟩
     have n0_ := Aside0.mk (Kd.S_below (by (with_reducible repeat (first | apply Kd.S_alloc | apply Kd.S_drewN | apply Kd.S_drew)); exact HO314.out) hb)
     have n1_ := Aside0.mk (Kd.S_below (by (with_reducible repeat (first | apply Kd.S_alloc | apply Kd.S_drewN | apply Kd.S_drew)); exact HO322.out) hb)
     have n2_ := Aside0.mk (Kd.S_below (by (with_reducible repeat (first | apply Kd.S_alloc | apply Kd.S_drewN | apply Kd.S_drew)); exact HO325.out) hb)
     have n3_ := Aside0.mk (blk_below (g := gb319) (o := .cells #[.int .i64 t315, .int .i64 t316, .int .i64 t317, .int .i64 t318] 26 (0, 0)) (by (with_reducible repeat (first | refine blk_drewN ?_ _ | refine blk_drew ?_ | refine blk_alloc ?_ _)); exact BK319.out) hb)
     have n4_ := Aside0.mk (blk_below (g := gb328) (o := .cells #[.int .i64 t326, .int .i64 t327] 32 (0, 0)) (by (with_reducible repeat (first | refine blk_drewN ?_ _ | refine blk_drew ?_ | refine blk_alloc ?_ _)); exact BK328.out) hb)
     have n5_ := Aside0.mk (below_step (by repeat (first | (with_reducible first | exact HB.out | apply below_alloc | apply pw_below_drewN | apply below_drew1 | refine below_set ?_ GE319.out | refine below_set ?_ GE328.out) | exact HB.out)) hb)
     clear HO314
     clear HO322
     clear HO325
     clear BK319
     clear BK328
     clear HB
     have HO314 := n0_
     have HO322 := n1_
     have HO325 := n2_
     have BK319 := n3_
     have BK328 := n4_
     have HB := n5_
     clear n0_ n1_ n2_ n3_ n4_ n5_
     (try clear hb)
     (try clear hb2)
     (try clear hk)
     (try clear hi)
     refine hK.out _ _ ⟨(blk_cell BK319.out 0).trans rfl, (blk_cell BK319.out 1).trans rfl, (blk_cell BK319.out 2).trans rfl, (blk_cell BK319.out 3).trans rfl, (blk_cell BK328.out 0).trans rfl, (blk_cell BK328.out 1).trans rfl⟩ (fun hHeld => ?_)
     clear hK K
     refine norm_ (a' := ?_) ?_ ?_
     rotate_left
     ·show Act.put _ (some 33) _ = _
      simp only [Act.put, List.setIfInBounds_toArray, List.set_cons_zero, List.set_cons_succ, i64_w, i32_w]
      rfl
     refine pure_ (i := 7) (N := some 34) (v := ?_) (a' := ?_) #[true, true, true, true, true, true, true, true, false, false, false, false, false, false, false, false, false, false, false] rfl rfl (any_of HT_.out (by kernel_rfl)) (fun _ _ _ h => h) (Or.inl ⟨by rfl, ?_⟩) ?_ ?_
     rotate_left
     ·intro w'
      go_simp
      with_reducible rfl
     rotate_left
     ·simp only [Act.put, List.setIfInBounds_toArray, List.set_cons_zero, List.set_cons_succ, i64_w, i32_w]
      rfl
     refine pure_ (i := 8) (N := some 35) (v := ?_) (a' := ?_) #[true, true, true, true, true, true, true, true, true, false, false, false, false, false, false, false, false, false, false] rfl rfl (any_of HT_.out (by kernel_rfl)) (fun _ _ _ h => h) (Or.inl ⟨by rfl, ?_⟩) ?_ ?_
     rotate_left
     ·intro w'
      go_simp
      with_reducible rfl
     rotate_left
     ·simp only [Act.put, List.setIfInBounds_toArray, List.set_cons_zero, List.set_cons_succ, i64_w, i32_w]
      rfl
     refine pure_ (i := 9) (N := some 36) (v := undef) (a' := ?_) #[true, true, true, true, true, true, true, true, true, true, false, false, false, false, false, false, false, false, false] rfl rfl (any_of HT_.out (by kernel_rfl)) (fun _ _ _ h => h) (Or.inr ⟨by rfl, rfl⟩) ?_ ?_
     rotate_left
     ·simp only [Act.put, List.setIfInBounds_toArray, List.set_cons_zero, List.set_cons_succ, i64_w, i32_w]
      rfl
     refine pure_ (i := 10) (N := some 37) (v := undef) (a' := ?_) #[true, true, true, true, true, true, true, true, true, true, true, false, false, false, false, false, false, false, false] rfl rfl (any_of HT_.out (by kernel_rfl)) (fun _ _ _ h => h) (Or.inr ⟨by rfl, rfl⟩) ?_ ?_
     rotate_left
     ·simp only [Act.put, List.setIfInBounds_toArray, List.set_cons_zero, List.set_cons_succ, i64_w, i32_w]
      rfl
     refine pure_ (i := 11) (N := some 38) (v := undef) (a' := ?_) #[true, true, true, true, true, true, true, true, true, true, true, true, false, false, false, false, false, false, false] rfl rfl (any_of HT_.out (by kernel_rfl)) (fun _ _ _ h => h) (Or.inr ⟨by rfl, rfl⟩) ?_ ?_
     rotate_left
     ·simp only [Act.put, List.setIfInBounds_toArray, List.set_cons_zero, List.set_cons_succ, i64_w, i32_w]
      rfl
     refine pure_ (i := 12) (N := some 39) (v := ?_) (a' := ?_) #[true, true, true, true, true, true, true, true, true, true, true, true, true, false, false, false, false, false, false] rfl rfl (any_of HT_.out (by kernel_rfl)) (fun _ _ _ h => h) (Or.inl ⟨by rfl, ?_⟩) ?_ ?_
     rotate_left
     ·intro w'
      go_simp
      with_reducible rfl
     rotate_left
     ·simp only [Act.put, List.setIfInBounds_toArray, List.set_cons_zero, List.set_cons_succ, i64_w, i32_w]
      rfl
     refine pure_ (i := 13) (N := some 40) (v := ?_) (a' := ?_) #[true, true, true, true, true, true, true, true, true, true, true, true, true, true, false, false, false, false, false] rfl rfl (any_of HT_.out (by kernel_rfl)) (fun _ _ _ h => h) (Or.inl ⟨by rfl, ?_⟩) ?_ ?_
     rotate_left
     ·intro w'
      go_simp
      with_reducible rfl
     rotate_left
     ·simp only [Act.put, List.setIfInBounds_toArray, List.set_cons_zero, List.set_cons_succ, i64_w, i32_w]
      rfl
     refine pure_ (i := 14) (N := some 41) (v := undef) (a' := ?_) #[true, true, true, true, true, true, true, true, true, true, true, true, true, true, true, false, false, false, false] rfl rfl (any_of HT_.out (by kernel_rfl)) (fun _ _ _ h => h) (Or.inr ⟨by rfl, rfl⟩) ?_ ?_
     rotate_left
     ·simp only [Act.put, List.setIfInBounds_toArray, List.set_cons_zero, List.set_cons_succ, i64_w, i32_w]
      rfl
     refine pure_ (i := 15) (N := some 42) (v := undef) (a' := ?_) #[true, true, true, true, true, true, true, true, true, true, true, true, true, true, true, true, false, false, false] rfl rfl (any_of HT_.out (by kernel_rfl)) (fun _ _ _ h => h) (Or.inr ⟨by rfl, rfl⟩) ?_ ?_
     rotate_left
     ·simp only [Act.put, List.setIfInBounds_toArray, List.set_cons_zero, List.set_cons_succ, i64_w, i32_w]
      rfl
     refine pure_ (i := 16) (N := some 43) (v := undef) (a' := ?_) #[true, true, true, true, true, true, true, true, true, true, true, true, true, true, true, true, true, false, false] rfl rfl (any_of HT_.out (by kernel_rfl)) (fun _ _ _ h => h) (Or.inr ⟨by rfl, rfl⟩) ?_ ?_
     rotate_left
     ·simp only [Act.put, List.setIfInBounds_toArray, List.set_cons_zero, List.set_cons_succ, i64_w, i32_w]
      rfl
     refine pure_ (i := 17) (N := some 44) (v := ?_) (a' := ?_) #[true, true, true, true, true, true, true, true, true, true, true, true, true, true, true, true, true, true, false] rfl rfl (any_of HT_.out (by kernel_rfl)) (fun _ _ _ h => h) (Or.inl ⟨by rfl, ?_⟩) ?_ ?_
     rotate_left
     ·intro w'
      go_simp
      with_reducible rfl
     rotate_left
     ·simp only [Act.put, List.setIfInBounds_toArray, List.set_cons_zero, List.set_cons_succ, i64_w, i32_w]
      rfl
     refine pure_ (i := 18) (N := some 2) (v := ?_) (a' := ?_) #[true, true, true, true, true, true, true, true, true, true, true, true, true, true, true, true, true, true, true] rfl rfl (any_of HT_.out (by kernel_rfl)) (fun _ _ _ h => h) (Or.inl ⟨by rfl, ?_⟩) ?_ ?_
     rotate_left
     ·intro w'
      go_simp
      with_reducible rfl
     rotate_left
     ·simp only [Act.put, List.setIfInBounds_toArray, List.set_cons_zero, List.set_cons_succ, i64_w, i32_w]
      rfl
     refine done_ (done_of HT_.out (by kernel_rfl)) ?_
     try go_wp2
     go_ret
     exact ⟨by first | rfl | (simp [errW_none, errW_some] <;> rfl) | (simp [*, errW_none, errW_some, bne]; done) | (simp [*, errW_none, errW_some] <;> rfl), by repeat (first | (with_reducible first | exact HB.out | apply below_alloc | apply pw_below_drewN | apply below_drew1 | refine below_set ?_ GE319.out | refine below_set ?_ GE328.out) | exact HB.out)⟩
 ·replace c3 := Bool.eq_false_iff.mpr c3
  subst c3
  have H1 : (some false) = some r := by rw [if_neg (show ¬ (false = true) by decide)] at H; exact H
  clear H
  have H := H1
  clear H1
  obtain rfl := Option.some.inj H
  go_enter Try.func4, Try.ntmps4
  go_wp2_with (first | ((with_reducible refine gate_callee (f := 8) rfl ?_); refine goesL_ (some 8) rfl rfl Try.func8 (by kernel_rfl) rfl #[] rfl (by (try simp only [List.map_toArray, List.map_cons, List.map_nil]); first | done | rfl | (simp only [List.length_drop, List.length_take]; rfl)) ?_; (with_reducible refine (dragomanlaw13_awake.calls k  false _ A2.out).mono ?_); rintro e w85 ⟨rfl, hb⟩; refine ⟨_, rfl, ?_⟩; have n0_ := Aside0.mk (below_step (by repeat (first | (with_reducible first | exact HB.out | apply below_alloc | apply pw_below_drewN | apply below_drew1) | exact HB.out)) hb); clear HB; have HB := n0_; clear n0_; (try clear hb); (try clear hb2); (try clear hk); (try clear hi)))
  go_ret
  exact ⟨by first | rfl | (simp [errW_none, errW_some] <;> rfl) | (simp [*, errW_none, errW_some, bne]; done) | (simp [*, errW_none, errW_some] <;> rfl), by repeat (first | (with_reducible first | exact HB.out | apply below_alloc | apply pw_below_drewN | apply below_drew1) | exact HB.out)⟩
/-- THE ONE PURE STATEMENT of dragomanlaw13_CreadSays: yours. -/
def dragomanlaw13_CreadSays.Pure : Prop := ∀ (a0 : ByteArray), a0.size ≤ 140737488351232 → ∃ k, dragomanlaw13_CreadSays.f k a0 = some true
theorem dragomanlaw13_CreadSays.walk (P : dragomanlaw13_CreadSays.Pure) (a0 : ByteArray) (w : World) (w0 : a0.size ≤ 140737488351232) :
  Calls Try.prog 4 #[.string a0] w fun e w' => e = .returned (.bool true) ∧ Below w.heap.size w w' := by
 obtain ⟨k, h⟩ := P a0 w0
 refine (dragomanlaw13_CreadSays.calls k a0 true w h).mono ?_
 rintro e w' ⟨rfl, hd⟩
 exact ⟨rfl, hd⟩
end Go.Proofs.Ytjmmdphkgioooaa.P
end
section
namespace Go.Proofs.Ytjmmdphkgioooaa.La
open Go.RowKit Go.Proofs.Ytjmmdphkgioooaa.P Go.Proofs.YtjmmdphkgioooaaW.PrintWords Go.Proofs.YtjmmdphkgioooaaW.PrintLast Go.Proofs.YtjmmdphkgioooaaW.PrintMore
theorem drop_bt {t : ByteArray} {i : Nat} (h : i < t.size) : (bytesOf t).drop i = bt t (i : Int) :: (bytesOf t).drop (i + 1) := by
 have hl : i < (bytesOf t).length := by rw [size_of]; exact h
 rw [List.drop_eq_getElem_cons hl, bt_get]
 simp [List.getD_eq_getElem?_getD, hl]
theorem drop_end {t : ByteArray} {i : Nat} (h : ¬ i < t.size) : (bytesOf t).drop i = [] := List.drop_eq_nil_of_le (by rw [size_of]; omega)
theorem end_ev (t : ByteArray) (_hs : t.size ≤ 70000) (i : Nat) (hi0 : i ≤ 80000) : Ev (fun k => dragomanref13_end.f k t (i : Int)) ((lend ((bytesOf t).drop i) : Nat) : Int) := by
 by_cases hi : i < t.size
 ·refine Ev.congr (fun k => by rw [dragomanref13_end.f, if_pos (by omega), if_pos (by omega)]) ?_
  have hd := drop_bt hi
  have h2' : lend ((bytesOf t).drop i) = if bt t (i : Int) = 10 then 1 else if ((bytesOf t).drop i).take 2 = [13, 10] then 2 else 0 := by
   unfold lend
   rw [hd]
   simp only [List.take_succ_cons, List.take_zero, List.cons.injEq, and_true]
  rw [h2']
  by_cases h10 : bt t (i : Int) = 10
  ·rw [if_pos h10]
   exact Ev.step (fun k => by rw [dragomanref13_end.j0, if_pos (show (bt t (i : Int) == 10) = true from beq_iff_eq.2 h10)]; rfl) (Ev.now _)
  ·rw [if_neg h10]
   have hb : ¬ (bt t (i : Int) == 10) = true := fun h => h10 (beq_iff_eq.1 h)
   refine Ev.step (fun k => by rw [dragomanref13_end.j0, if_neg hb, wrap_id (show -9223372036854775808 ≤ (i : Int) + 1 by omega) (show (i : Int) + 1 < 9223372036854775808 by omega)]) ?_
   by_cases h2 : i + 1 < t.size
   ·refine Ev.congr (fun k => by rw [if_pos (show (i : Int) + 1 < (t.size : Int) by omega), if_pos (show (0 : Int) ≤ (i : Int) by omega), if_pos (show (i : Int) < (t.size : Int) by omega), if_pos (show (0 : Int) ≤ (i : Int) + 1 by omega)]) ?_
    have e : ((i : Int) + 1) = ((i + 1 : Nat) : Int) := by omega
    rw [e, hd, drop_bt h2]
    generalize bt t ((i + 1 : Nat) : Int) = y
    generalize bt t (i : Int) = x
    by_cases h13 : x = 13
    ·by_cases hb : y = 10
     ·refine Ev.congr (fun k => by rw [if_pos h13, if_pos hb]) ?_
      rw [if_pos (by simp [h13, hb])]
      exact Ev.now _
     ·refine Ev.congr (fun k => by rw [if_pos h13, if_neg hb]) ?_
      rw [if_neg (by simp [hb])]
      exact Ev.now _
    ·refine Ev.congr (fun k => by rw [if_neg h13]) ?_
     rw [if_neg (by simp [h13])]
     exact Ev.now _
   ·refine Ev.congr (fun k => by rw [if_neg (show ¬ (i : Int) + 1 < (t.size : Int) by omega)]) ?_
    rw [hd, drop_end h2, if_neg (by simp)]
    exact Ev.now _
 ·refine Ev.congr (fun k => by rw [dragomanref13_end.f, if_neg (by omega)]) ?_
  refine Ev.step (fun k => by rw [dragomanref13_end.j0, if_neg Bool.false_ne_true, wrap_id (show -9223372036854775808 ≤ (i : Int) + 1 by omega) (show (i : Int) + 1 < 9223372036854775808 by omega), if_neg (show ¬ (i : Int) + 1 < (t.size : Int) by omega)]) ?_
  rw [drop_end hi]
  exact Ev.now _
/-- What stands behind a field's text: is it as it may be? -/
def f13 (t : ByteArray) (s : ByteArray) (j : Nat) : ByteArray × Int × Int := if fbad ((bytesOf t).drop j) then (⟨#[]⟩, 0, (j : Int)) else (s, (j : Int), -1)
theorem qd_other {b : Int} (l : List Int) (hb : ¬ b = 34) : qd (b :: l) = (qd l).map (fun p => (b :: p.1, p.2 + 1)) := by
 cases l with
 | nil => simp [qd, hb]
 | cons c t => rw [qd, if_neg hb]
theorem f13_at {t : ByteArray} {j : Nat} (h : j < t.size) (s : ByteArray) : f13 t s j = if bt t (j : Int) = 44 then (s, (j : Int), -1) else if lend ((bytesOf t).drop j) = 0 then (⟨#[]⟩, 0, (j : Int)) else (s, (j : Int), -1) := by
 unfold f13
 have e : ((bytesOf t).drop j).take 1 = [bt t (j : Int)] := by rw [drop_bt h]; rfl
 have e2 : (bytesOf t).drop j ≠ [] := by rw [drop_bt h]; simp
 by_cases h44 : bt t (j : Int) = 44
 ·rw [if_pos h44, if_neg (show ¬ fbad ((bytesOf t).drop j) from fun h => h.2.1 (by rw [e, h44]))]
 ·rw [if_neg h44]
  by_cases hl : lend ((bytesOf t).drop j) = 0
  ·rw [if_pos hl, if_pos (show fbad ((bytesOf t).drop j) from ⟨e2, by rw [e]; simpa using h44, hl⟩)]
  ·rw [if_neg hl, if_neg (show ¬ fbad ((bytesOf t).drop j) from fun h => hl h.2.2)]
theorem f13_end {t : ByteArray} {j : Nat} (h : ¬ j < t.size) (s : ByteArray) : f13 t s j = (s, (j : Int), -1) := by
 unfold f13
 rw [if_neg (show ¬ fbad ((bytesOf t).drop j) from fun h' => h'.1 (drop_end h))]
theorem fq_ev (t : ByteArray) (hs : t.size ≤ 70000) : ∀ (n i : Nat) (s : ByteArray), i ≤ t.size → t.size - i = n → s.size ≤ i →
  Ev (fun k => dragomanref13_field.l0 k t s (i : Int)) (match qd ((bytesOf t).drop i) with | none => (⟨#[]⟩, 0, (t.size : Int)) | some p => f13 t (s ++ strOfNums p.1) (i + p.2)) := by
 intro n
 induction n using Nat.strongRecOn with
 | ind n ih =>
  intro i s hi hn hsz
  by_cases hlt : i < t.size
  ·have e1 : (i : Int) + 1 = ((i + 1 : Nat) : Int) := by omega
   by_cases h34 : bt t (i : Int) = 34
   ·by_cases h2 : i + 1 < t.size
    ·by_cases h34' : bt t ((i + 1 : Nat) : Int) = 34
     ·refine Ev.step (fun k => by rw [dragomanref13_field.l0, if_pos (by omega), if_pos (by omega), if_pos h34, wrap_id (by omega) (by omega), if_pos (by omega), if_pos (by omega), e1]) ?_
      refine Ev.step (fun k => by rw [dragomanref13_field.j2, if_pos (show (bt t ((i + 1 : Nat) : Int) == 34) = true from beq_iff_eq.2 h34'), if_pos (by omega), wrap_id (show -9223372036854775808 ≤ (i : Int) + 2 by omega) (show (i : Int) + 2 < 9223372036854775808 by omega)]) ?_
      have h := ih (t.size - (i + 2)) (by omega) (i + 2) (s ++ ⟨#[34]⟩) (by omega) rfl (by rw [size_append']; show s.size + 1 ≤ i + 2; omega)
      rw [drop_bt hlt, drop_bt h2, h34, h34', qd_two]
      cases hq : qd ((bytesOf t).drop (i + 1 + 1)) with
      | none => rw [show i + 2 = i + 1 + 1 from rfl, hq] at h; exact h
      | some p =>
       rw [show i + 2 = i + 1 + 1 from rfl, hq] at h
       have e2 : s ++ ⟨#[34]⟩ ++ strOfNums p.1 = s ++ strOfNums (34 :: p.1) := by
        apply bytesOf_inj
        have hB := qd_bytes ((bytes_of t).drop _) hq
        have hB2 : Bytes (34 :: p.1) := fun x hx => by
         rcases List.mem_cons.1 hx with rfl | hx
         ·omega
         ·exact hB x hx
        rw [bytesOf_append, bytesOf_append, bytesOf_append, strOfNums_bytes hB, strOfNums_bytes hB2]
        simp [bytesOf_data]
       simp only [e2] at h
       simp only [Option.map_some]
       rw [show i + (p.2 + 2) = i + 1 + 1 + p.2 by omega]
       exact h
     ·refine Ev.step (fun k => by rw [dragomanref13_field.l0, if_pos (by omega), if_pos (by omega), if_pos h34, wrap_id (by omega) (by omega), if_pos (by omega), if_pos (by omega), e1]) ?_
      rw [drop_bt hlt, h34, qd_end _ (by rw [drop_bt h2]; intro h; exact h34' (List.cons.inj h).1)]
      refine Ev.step (fun k => by rw [dragomanref13_field.j2, if_neg (show ¬ (bt t ((i + 1 : Nat) : Int) == 34) = true from fun h => h34' (beq_iff_eq.1 h)), wrap_id (show -9223372036854775808 ≤ (i : Int) + 1 by omega) (show (i : Int) + 1 < 9223372036854775808 by omega), e1, if_neg (show ¬ ((i + 1 : Nat) : Int) = (t.size : Int) by omega), if_pos (show (0 : Int) ≤ ((i + 1 : Nat) : Int) by omega), if_pos (show ((i + 1 : Nat) : Int) < (t.size : Int) by omega)]) ?_
      have e3 : s ++ strOfNums [] = s := by apply bytesOf_inj; rw [bytesOf_append, strOfNums_bytes (fun x hx => by cases hx)]; simp
      simp only [e3]
      rw [f13_at h2]
      by_cases h44 : bt t ((i + 1 : Nat) : Int) = 44
      ·simp only [if_pos h44]
       exact Ev.now _
      ·simp only [if_neg h44]
       refine Ev.bind (end_ev t hs (i + 1) (by omega)) ?_
       by_cases hl : lend ((bytesOf t).drop (i + 1)) = 0
       ·simp only [hl, if_true]
        exact Ev.now _
       ·simp only [if_neg hl, if_pos (show ((lend ((bytesOf t).drop (i + 1)) : Nat) : Int) > 0 by omega)]
        exact Ev.now _
    ·refine Ev.step (fun k => by rw [dragomanref13_field.l0, if_pos (by omega), if_pos (by omega), if_pos h34, wrap_id (by omega) (by omega), if_neg (by omega)]) ?_
     rw [drop_bt hlt, h34, drop_end h2]
     refine Ev.step (fun k => by rw [dragomanref13_field.j2, if_neg Bool.false_ne_true, wrap_id (show -9223372036854775808 ≤ (i : Int) + 1 by omega) (show (i : Int) + 1 < 9223372036854775808 by omega), if_pos (show (i : Int) + 1 = (t.size : Int) by omega)]) ?_
     have e3 : s ++ strOfNums [] = s := by apply bytesOf_inj; rw [bytesOf_append, strOfNums_bytes (fun x hx => by cases hx)]; simp
     show Ev _ (f13 t (s ++ strOfNums []) (i + 1))
     rw [e3, f13_end h2, e1]
     exact Ev.now _
   ·have e4 : t.extract (i : Int).toNat ((i : Int) + 1).toNat = strOfNums [bt t (i : Int)] := by
     apply bytesOf_inj
     have hb := bt_range t (i : Int)
     rw [strOfNums_bytes (fun x hx => by simp at hx; omega), bytesOf_extract, show ((i : Int) + 1).toNat = i + 1 by omega, Int.toNat_natCast, List.drop_take, drop_bt hlt, Nat.add_sub_cancel_left]
     rfl
    have hz : (strOfNums [bt t (i : Int)]).size = 1 := by
     have hb := bt_range t (i : Int)
     rw [size_strOfNums (fun x hx => by simp at hx; omega)]; rfl
    refine Ev.step (fun k => by rw [dragomanref13_field.l0, if_pos (by omega), if_pos (by omega), if_neg h34, wrap_id (by omega) (by omega), if_pos (by omega), if_pos (by omega), e4, if_pos (by omega)]) ?_
    have h := ih (t.size - (i + 1)) (by omega) (i + 1) (s ++ strOfNums [bt t (i : Int)]) (by omega) rfl (by rw [size_append', hz]; omega)
    rw [drop_bt hlt, qd_other _ h34, e1]
    cases hq : qd ((bytesOf t).drop (i + 1)) with
    | none => rw [hq] at h; exact h
    | some p =>
     rw [hq] at h
     have hb := bt_range t (i : Int)
     have e2 : s ++ strOfNums [bt t (i : Int)] ++ strOfNums p.1 = s ++ strOfNums (bt t (i : Int) :: p.1) := by
      apply bytesOf_inj
      have hB := qd_bytes ((bytes_of t).drop _) hq
      have hB2 : Bytes (bt t (i : Int) :: p.1) := fun x hx => by
       rcases List.mem_cons.1 hx with rfl | hx
       ·omega
       ·exact hB x hx
      rw [bytesOf_append, bytesOf_append, bytesOf_append, strOfNums_bytes hB, strOfNums_bytes hB2, strOfNums_bytes (fun x hx => by simp at hx; omega)]
      simp
     simp only [e2] at h
     simp only [Option.map_some]
     rw [show i + (p.2 + 1) = i + 1 + p.2 by omega]
     exact h
  ·refine Ev.step (fun k => by rw [dragomanref13_field.l0, if_neg (by omega)]) ?_
   rw [drop_end hlt]
   exact Ev.now _
theorem pln_cons {b : Int} (l : List Int) : pln (b :: l) = if odd4 b = true then [] else b :: pln l := by
 show List.takeWhile _ (b :: l) = _
 rw [List.takeWhile_cons]
 cases odd4 b <;> rfl
theorem odd4_iff {b : Int} : odd4 b = true ↔ b = 44 ∨ b = 10 ∨ b = 13 ∨ b = 34 := by
 simp [odd4, or_assoc]
theorem lend_not {t : ByteArray} {i : Nat} (h : i < t.size) (h10 : ¬ bt t (i : Int) = 10) (h13 : ¬ bt t (i : Int) = 13) : lend ((bytesOf t).drop i) = 0 := by
 unfold lend
 rw [drop_bt h, if_neg (by simp [h10]), if_neg (by simp [h13])]
theorem lend_ten {t : ByteArray} {i : Nat} (h : i < t.size) (h10 : bt t (i : Int) = 10) : lend ((bytesOf t).drop i) = 1 := by
 unfold lend
 rw [drop_bt h, if_pos (by simp [h10])]
theorem fp_ev (t : ByteArray) (hs : t.size ≤ 70000) (a : Nat) : ∀ (n i : Nat), a ≤ i → i ≤ t.size → t.size - i = n →
  Ev (fun k => dragomanref13_field.l1 k t (a : Int) (i : Int)) (f13 t (t.extract a (i + (pln ((bytesOf t).drop i)).length)) (i + (pln ((bytesOf t).drop i)).length))
 | 0, i, ha, hi, hn => by
  have hlt : ¬ i < t.size := by omega
  refine Ev.step (fun k => by rw [dragomanref13_field.l1, if_neg (show ¬ (i : Int) < (t.size : Int) by omega)]) ?_
  refine Ev.step (fun k => by rw [dragomanref13_field.j4, if_neg Bool.false_ne_true, if_pos (show (0 : Int) ≤ (a : Int) by omega), if_pos (show (a : Int) ≤ (i : Int) by omega), if_pos (show (i : Int) ≤ (t.size : Int) by omega)]) ?_
  rw [drop_end hlt]
  show Ev _ (f13 t (t.extract a (i + 0)) (i + 0))
  rw [Nat.add_zero, f13_end hlt]
  exact Ev.now _
 | n + 1, i, ha, hi, hn => by
  have hlt : i < t.size := by omega
  have hp : (pln ((bytesOf t).drop i)) = if odd4 (bt t (i : Int)) = true then [] else bt t (i : Int) :: pln ((bytesOf t).drop (i + 1)) := by rw [drop_bt hlt, pln_cons]
  by_cases h44 : bt t (i : Int) = 44
  ·refine Ev.step (fun k => by rw [dragomanref13_field.l1, if_pos (show (i : Int) < (t.size : Int) by omega), if_pos (show (0 : Int) ≤ (i : Int) by omega), if_pos h44]) ?_
   refine Ev.step (fun k => by rw [dragomanref13_field.j4, if_neg Bool.false_ne_true, if_pos (show (0 : Int) ≤ (a : Int) by omega), if_pos (show (a : Int) ≤ (i : Int) by omega), if_pos (show (i : Int) ≤ (t.size : Int) by omega)]) ?_
   rw [hp, if_pos (odd4_iff.2 (.inl h44))]
   show Ev _ (f13 t (t.extract a (i + 0)) (i + 0))
   rw [Nat.add_zero, f13_at hlt, if_pos h44]
   exact Ev.now _
  ·refine Ev.step (fun k => by rw [dragomanref13_field.l1, if_pos (show (i : Int) < (t.size : Int) by omega), if_pos (show (0 : Int) ≤ (i : Int) by omega), if_neg h44]) ?_
   refine Ev.bind (end_ev t hs i (by omega)) ?_
   by_cases hl : lend ((bytesOf t).drop i) = 0
   ·have e1 : (((lend ((bytesOf t).drop i) : Nat) : Int) == 0) = true := by rw [hl]; rfl
    have h10 : ¬ bt t (i : Int) = 10 := fun h => by rw [lend_ten hlt h] at hl; cases hl
    refine Ev.step (fun k => by rw [dragomanref13_field.j4, if_pos e1, if_pos (show (0 : Int) ≤ (i : Int) by omega), if_pos (show (i : Int) < (t.size : Int) by omega)]) ?_
    by_cases h34 : bt t (i : Int) = 34
    ·rw [hp, if_pos (odd4_iff.2 (.inr (.inr (.inr h34))))]
     show Ev _ (f13 t (t.extract a (i + 0)) (i + 0))
     rw [Nat.add_zero, f13_at hlt, if_neg h44, if_pos hl]
     exact Ev.congr (fun k => by rw [if_pos h34]) (Ev.now _)
    ·by_cases h13 : bt t (i : Int) = 13
     ·rw [hp, if_pos (odd4_iff.2 (.inr (.inr (.inl h13))))]
      show Ev _ (f13 t (t.extract a (i + 0)) (i + 0))
      rw [Nat.add_zero, f13_at hlt, if_neg h44, if_pos hl]
      exact Ev.congr (fun k => by rw [if_neg h34, if_pos h13]) (Ev.now _)
     ·refine Ev.congr (fun k => by rw [if_neg h34, if_neg h13, wrap_id (show -9223372036854775808 ≤ (i : Int) + 1 by omega) (show (i : Int) + 1 < 9223372036854775808 by omega)]) ?_
      have ih := fp_ev t hs a n (i + 1) (by omega) (by omega) (by omega)
      have ho : ¬ odd4 (bt t (i : Int)) = true := fun h => by
       rcases odd4_iff.1 h with h | h | h | h
       ·exact h44 h
       ·exact h10 h
       ·exact h13 h
       ·exact h34 h
      rw [hp, if_neg ho, List.length_cons, show i + ((pln ((bytesOf t).drop (i + 1))).length + 1) = i + 1 + (pln ((bytesOf t).drop (i + 1))).length by omega]
      exact ih
   ·have e1 : ¬ (((lend ((bytesOf t).drop i) : Nat) : Int) == 0) = true := fun h => hl (by have := beq_iff_eq.1 h; omega)
    refine Ev.step (fun k => by rw [dragomanref13_field.j4, if_neg e1, if_pos (show (0 : Int) ≤ (a : Int) by omega), if_pos (show (a : Int) ≤ (i : Int) by omega), if_pos (show (i : Int) ≤ (t.size : Int) by omega)]) ?_
    have ho : odd4 (bt t (i : Int)) = true := by
     by_cases h10 : bt t (i : Int) = 10
     ·exact odd4_iff.2 (.inr (.inl h10))
     ·by_cases h13 : bt t (i : Int) = 13
      ·exact odd4_iff.2 (.inr (.inr (.inl h13)))
      ·exact absurd (lend_not hlt h10 h13) hl
    rw [hp, if_pos ho]
    show Ev _ (f13 t (t.extract a (i + 0)) (i + 0))
    rw [Nat.add_zero, f13_at hlt, if_neg h44, if_neg hl]
    exact Ev.now _
/-- The document's own field. -/
def field13 (t : ByteArray) (i : Nat) : ByteArray × Int × Int := match raw ((bytesOf t).drop i) with
 | none => (⟨#[]⟩, 0, (t.size : Int))
 | some p => f13 t (strOfNums p.1) (i + p.2)
theorem field_ev (t : ByteArray) (hs : t.size ≤ 70000) (i : Nat) (hi : i ≤ t.size) : Ev (fun k => dragomanref13_field.f k t (i : Int)) (field13 t i) := by
 have hplain : ¬ ((bytesOf t).drop i).take 1 = [34] → Ev (fun k => dragomanref13_field.l1 k t (i : Int) (i : Int)) (field13 t i) := by
  intro h
  unfold field13 raw
  rw [if_neg h]
  have hp := fp_ev t hs i _ i (Nat.le_refl _) hi rfl
  have e : t.extract i (i + (pln ((bytesOf t).drop i)).length) = strOfNums (pln ((bytesOf t).drop i)) := by
   have hB : Bytes (pln ((bytesOf t).drop i)) := fun x hx => (bytes_of t) x (List.mem_of_mem_drop ((List.takeWhile_prefix _).subset hx))
   apply bytesOf_inj
   rw [strOfNums_bytes hB, bytesOf_extract, List.drop_take, Nat.add_sub_cancel_left, pln_take]
  rw [e] at hp
  exact hp
 by_cases hlt : i < t.size
 ·refine Ev.congr (fun k => by rw [dragomanref13_field.f, if_pos (show (i : Int) < (t.size : Int) by omega), if_pos (show (0 : Int) ≤ (i : Int) by omega)]) ?_
  by_cases h34 : bt t (i : Int) = 34
  ·refine Ev.step (fun k => by rw [dragomanref13_field.j0, if_pos (show (bt t (i : Int) == 34) = true from beq_iff_eq.2 h34), wrap_id (show -9223372036854775808 ≤ (i : Int) + 1 by omega) (show (i : Int) + 1 < 9223372036854775808 by omega), show (i : Int) + 1 = ((i + 1 : Nat) : Int) by omega]) ?_
   have hq := fq_ev t hs _ (i + 1) ⟨#[]⟩ (by omega) rfl (by show 0 ≤ i + 1; omega)
   unfold field13 raw
   rw [if_pos (by rw [drop_bt hlt, h34]; rfl), List.drop_drop]
   cases h : qd ((bytesOf t).drop (i + 1)) with
   | none => rw [h] at hq; exact hq
   | some p =>
    rw [h] at hq
    have e : (⟨#[]⟩ : ByteArray) ++ strOfNums p.1 = strOfNums p.1 := by
     apply bytesOf_inj
     rw [bytesOf_append]; rfl
    simp only [e] at hq
    simp only [Option.map_some]
    rw [show i + (p.2 + 1) = i + 1 + p.2 by omega]
    exact hq
  ·refine Ev.step (fun k => by rw [dragomanref13_field.j0, if_neg (show ¬ (bt t (i : Int) == 34) = true from fun h => h34 (beq_iff_eq.1 h))]) ?_
   exact hplain (by rw [drop_bt hlt]; simpa using h34)
 ·refine Ev.congr (fun k => by rw [dragomanref13_field.f, if_neg (show ¬ (i : Int) < (t.size : Int) by omega)]) ?_
  refine Ev.step (fun k => by rw [dragomanref13_field.j0, if_neg Bool.false_ne_true]) ?_
  exact hplain (by rw [drop_end hlt]; simp)
theorem field13_eq (t : ByteArray) (i : Nat) : match fieldS ((bytesOf t).drop i) i with
  | .inl e => (∃ b, field13 t i = (⟨#[]⟩, 0, b) ∧ e = (4, b.toNat) ∧ 0 ≤ b) ∨ (e = (2, i) ∧ ∃ p : List Int × Nat, field13 t i = (strOfNums p.1, ((i + p.2 : Nat) : Int), -1) ∧ 4096 < (strOfNums p.1).size ∧ p.2 ≤ ((bytesOf t).drop i).length)
  | .inr p => field13 t i = (strOfNums p.1, ((i + p.2 : Nat) : Int), -1) ∧ (strOfNums p.1).size ≤ 4096 ∧ p.2 ≤ ((bytesOf t).drop i).length := by
 unfold fieldS field13
 cases hr : raw ((bytesOf t).drop i) with
 | none =>
  simp only
  refine .inl ⟨(t.size : Int), rfl, ?_, by omega⟩
  by_cases hi : i ≤ t.size
  ·rw [List.length_drop, size_of, show i + (t.size - i) = t.size by omega]; rfl
  ·rw [List.drop_eq_nil_of_le (by rw [size_of]; omega)] at hr
   simp [raw] at hr
 | some p =>
  have hB := raw_bytes ((bytes_of t).drop i) hr
  have hl := raw_len hr
  have hz : (strOfNums p.1).size = p.1.length := size_strOfNums hB
  simp only [List.drop_drop]
  unfold f13
  by_cases hf : fbad ((bytesOf t).drop (i + p.2))
  ·rw [if_pos hf, if_pos hf]
   exact .inl ⟨((i + p.2 : Nat) : Int), rfl, rfl, by omega⟩
  ·rw [if_neg hf, if_neg hf]
   by_cases h4 : 4096 < p.1.length
   ·rw [if_pos h4]
    exact .inr ⟨rfl, p, rfl, by omega, hl.2⟩
   ·rw [if_neg h4]
    exact ⟨rfl, by omega, hl.2⟩
abbrev G13 (r : List (List S47)) : List (List ByteArray) := r.map (·.map S47.f0)
abbrev H13 (r : List (List S47)) : List (List Int) := r.map (·.map S47.f1)
def res13 : (Int × Nat) ⊕ List (List S47) → List (List ByteArray) × List (List Int) × Int × Int
 | .inl e => ([], [], e.1, (e.2 : Int))
 | .inr r => (G13 r, H13 r, 0, 0)
theorem r13_l1 (t : ByteArray) (hs : t.size ≤ 70000) (rows : List (List S47)) (hrl : rows.length ≤ 512) (from_ : Nat) (res) : ∀ (n : Nat) (acc : List S47) (i : Nat), acc.length + n = 64 → i ≤ t.size →
  (match rowS n acc ((bytesOf t).drop i) i with
   | .inl e => res = ([], [], e.1, (e.2 : Int))
   | .inr (r, _, j) => if rows ≠ [] ∧ r.length ≠ (rows.headD []).length then res = ([], [], 7, (from_ : Int)) else Ev (fun k => dragomanref13_Rows.l0 k t (G13 (rows ++ [r])) (H13 (rows ++ [r])) (j : Int)) res) →
  Ev (fun k => dragomanref13_Rows.l1 k t (G13 rows) (H13 rows) (i : Int) (from_ : Int) (acc.map S47.f0) (acc.map S47.f1)) res
 | 0, acc, i, hn, hi, h => by
  obtain rfl : res = ([], [], 2, (i : Int)) := h
  exact Ev.step (fun k => by rw [dragomanref13_Rows.l1, if_pos (by rw [List.length_map]; omega)]) (Ev.now _)
 | n + 1, acc, i, hn, hi, h => by
  have hf := field_ev t hs i hi
  have hq := field13_eq t i
  refine Ev.step (fun k => by rw [dragomanref13_Rows.l1, if_neg (by rw [List.length_map]; omega)]) ?_
  refine Ev.bind hf ?_
  rw [rowS] at h
  cases hfs : fieldS ((bytesOf t).drop i) i with
  | inl e =>
   rw [hfs] at h hq
   obtain rfl : res = ([], [], e.1, (e.2 : Int)) := h
   rcases hq with ⟨b, h1, rfl, h2⟩ | ⟨rfl, p, h1, h2, h3⟩
   ·rw [h1]
    refine Ev.congr (fun k => by rw [if_pos (show b ≥ 0 from h2)]) ?_
    rw [show ((b.toNat : Nat) : Int) = b by omega]
    exact Ev.now _
   ·rw [h1]
    exact Ev.congr (fun k => by rw [if_neg (show ¬ (-1 : Int) ≥ 0 by omega), if_pos (show ((strOfNums p.1).size : Int) > 4096 by omega)]) (Ev.now _)
  | inr p =>
   rw [hfs] at h hq
   obtain ⟨h1, h2, h3⟩ := hq
   rw [List.length_drop, size_of] at h3
   rw [h1]
   simp only [List.drop_drop] at h
   have ea : acc.map S47.f0 ++ [strOfNums p.1] = (acc ++ [(⟨strOfNums p.1, (i : Int)⟩ : S47)]).map S47.f0 := by simp
   have eb : acc.map S47.f1 ++ [(i : Int)] = (acc ++ [(⟨strOfNums p.1, (i : Int)⟩ : S47)]).map S47.f1 := by simp
   refine Ev.congr (fun k => by rw [if_neg (show ¬ (-1 : Int) ≥ 0 by omega), if_neg (show ¬ ((strOfNums p.1).size : Int) > 4096 by omega), if_pos (by rw [List.length_map]; omega), Option.bind_some, if_pos (by rw [List.length_map]; omega), Option.bind_some, ea, eb]) ?_
   obtain ⟨acc2, hacc⟩ : ∃ acc2, acc ++ [(⟨strOfNums p.1, (i : Int)⟩ : S47)] = acc2 := ⟨_, rfl⟩
   have hal : acc2.length = acc.length + 1 := by rw [← hacc]; simp
   rw [hacc] at h ⊢
   obtain ⟨j, hj⟩ : ∃ j, i + p.2 = j := ⟨_, rfl⟩
   rw [hj] at h ⊢
   have hjz : j ≤ t.size := by omega
   have htail : ¬ ((bytesOf t).drop j).take 1 = [44] → Ev (fun k => (dragomanref13_end.f k t (j : Int)).bind fun t280 => (if ((G13 rows).length : Int) > 0 then (if 0 < ((G13 rows).length : Int) then (if ((acc2.map S47.f0).length : Int) = ((rd_L4 (G13 rows) 0).length : Int) then (if (G13 rows).length < 5864062014805 then (if (H13 rows).length < 5864062014805 then (dragomanref13_Rows.l0 k t (G13 rows ++ [acc2.map S47.f0]) (H13 rows ++ [acc2.map S47.f1]) (wrap64 ((j : Int) + t280))) else (none)) else (none)) else (some (([] : List (List ByteArray)), ([] : List (List Int)), 7, (from_ : Int)))) else (none)) else (if (G13 rows).length < 5864062014805 then (if (H13 rows).length < 5864062014805 then (dragomanref13_Rows.l0 k t (G13 rows ++ [acc2.map S47.f0]) (H13 rows ++ [acc2.map S47.f1]) (wrap64 ((j : Int) + t280))) else (none)) else (none)))) res := by
    intro h44
    rw [if_neg h44] at h
    simp only at h
    have hlz := lend_le ((bytesOf t).drop j)
    rw [List.length_drop, size_of] at hlz
    refine Ev.bind (end_ev t hs j (by omega)) ?_
    obtain ⟨L, hL⟩ : ∃ L, lend ((bytesOf t).drop j) = L := ⟨_, rfl⟩
    rw [hL] at h hlz ⊢
    have eg : G13 rows ++ [acc2.map S47.f0] = G13 (rows ++ [acc2]) := by simp
    have eh : H13 rows ++ [acc2.map S47.f1] = H13 (rows ++ [acc2]) := by simp
    have ew : wrap64 ((j : Int) + (L : Int)) = ((j + L : Nat) : Int) := by rw [wrap_id (by omega) (by omega)]; omega
    rw [eg, eh, ew]
    have hgl : (G13 rows).length = rows.length := List.length_map _
    have hhl : (H13 rows).length = rows.length := List.length_map _
    have h0 : rd_L4 (G13 rows) 0 = (rows.headD []).map S47.f0 := by
     cases rows <;> rfl
    by_cases hr0 : rows = []
    ·rw [if_neg (fun h' => h'.1 hr0)] at h
     exact Ev.congr (fun k => by rw [if_neg (show ¬ ((G13 rows).length : Int) > 0 by rw [hgl, hr0]; simp), if_pos (by omega), if_pos (by omega)]) h
    ·have hpos : 0 < rows.length := List.length_pos_iff.2 hr0
     by_cases hle : acc2.length = (rows.headD []).length
     ·rw [if_neg (fun h' => h'.2 hle)] at h
      exact Ev.congr (fun k => by rw [if_pos (show ((G13 rows).length : Int) > 0 by omega), if_pos (show (0 : Int) < ((G13 rows).length : Int) by omega), if_pos (by rw [h0, List.length_map, List.length_map, hle]), if_pos (by omega), if_pos (by omega)]) h
     ·rw [if_pos ⟨hr0, hle⟩] at h
      subst h
      exact Ev.congr (fun k => by rw [if_pos (show ((G13 rows).length : Int) > 0 by omega), if_pos (show (0 : Int) < ((G13 rows).length : Int) by omega), if_neg (by rw [h0, List.length_map, List.length_map]; omega)]) (Ev.now _)
   by_cases hjl : j < t.size
   ·by_cases h44 : bt t (j : Int) = 44
    ·rw [if_pos (by rw [drop_bt hjl, h44]; rfl)] at h
     have ih := r13_l1 t hs rows hrl from_ res n acc2 (j + 1) (by omega) (by omega) (by
      rw [show i + (p.2 + 1) = j + 1 by omega] at h
      exact h)
     refine Ev.congr (fun k => by rw [if_neg (show ¬ (j : Int) ≥ (t.size : Int) by omega), if_pos (show (0 : Int) ≤ (j : Int) by omega), if_pos (show (j : Int) < (t.size : Int) by omega), if_pos h44, wrap_id (show -9223372036854775808 ≤ (j : Int) + 1 by omega) (show (j : Int) + 1 < 9223372036854775808 by omega)]; rfl) ih
    ·refine Ev.congr (fun k => by rw [if_neg (show ¬ (j : Int) ≥ (t.size : Int) by omega), if_pos (show (0 : Int) ≤ (j : Int) by omega), if_pos (show (j : Int) < (t.size : Int) by omega), if_neg h44]) (htail (by rw [drop_bt hjl]; simpa using h44))
   ·refine Ev.congr (fun k => by rw [if_pos (show (j : Int) ≥ (t.size : Int) by omega)]) (htail (by rw [drop_end hjl]; simp))
theorem r13_l0 (t : ByteArray) (hs : t.size ≤ 70000) : ∀ (n : Nat) (rows : List (List S47)) (i : Nat), rows.length + n = 513 → i ≤ t.size →
  Ev (fun k => dragomanref13_Rows.l0 k t (G13 rows) (H13 rows) (i : Int)) (res13 (wholeS n rows ((bytesOf t).drop i) i)) := by
 intro n
 induction n with
 | zero =>
  intro rows i hn hi
  by_cases hlt : i < t.size
  ·rw [wholeS, if_neg (by rw [drop_bt hlt]; simp)]
   exact Ev.step (fun k => by rw [dragomanref13_Rows.l0, if_pos (show (i : Int) < (t.size : Int) by omega), if_pos (by rw [List.length_map]; omega)]; rfl) (Ev.now _)
  ·rw [wholeS, if_pos (drop_end hlt)]
   exact Ev.step (fun k => by rw [dragomanref13_Rows.l0, if_neg (show ¬ (i : Int) < (t.size : Int) by omega)]; rfl) (Ev.now _)
 | succ n ih =>
  intro rows i hn hi
  by_cases hlt : i < t.size
  ·refine Ev.step (fun k => by rw [dragomanref13_Rows.l0, if_pos (show (i : Int) < (t.size : Int) by omega), if_neg (by rw [List.length_map]; omega)]) ?_
   refine r13_l1 t hs rows (by omega) i _ 64 [] i rfl hi ?_
   rw [wholeS, if_neg (by rw [drop_bt hlt]; simp)]
   cases hr : rowS 64 [] ((bytesOf t).drop i) i with
   | inl e => rfl
   | inr x =>
    obtain ⟨r, l2, j⟩ := x
    obtain ⟨h1, h2⟩ := rowS_drop 64 [] i r l2 j (by rw [size_of]; omega) hr
    rw [size_of] at h2
    simp only
    by_cases hc : rows ≠ [] ∧ r.length ≠ (rows.headD []).length
    ·rw [if_pos hc, if_pos hc]; rfl
    ·rw [if_neg hc, if_neg hc, h1]
     exact ih (rows ++ [r]) j (by rw [List.length_append]; simp; omega) h2
  ·rw [wholeS, if_pos (drop_end hlt)]
   exact Ev.step (fun k => by rw [dragomanref13_Rows.l0, if_neg (show ¬ (i : Int) < (t.size : Int) by omega)]; rfl) (Ev.now _)
/-- What the document's own reader answers. -/
def rows13 (s : ByteArray) : List (List ByteArray) × List (List Int) × Int × Int :=
 if 65536 < s.size then ([], [], 2, (s.size : Int)) else match bad (bytesOf s) with
  | some p => ([], [], 3, (p : Int))
  | none => res13 (wholeS 513 [] (bytesOf s) 0)
theorem rows13_ev (s : ByteArray) (hs : s.size ≤ 8796093022208) : Ev (fun k => dragomanref13_Rows.f k s) (rows13 s) := by
 unfold rows13
 by_cases hz : 65536 < s.size
 ·rw [if_pos hz]
  exact Ev.congr (fun k => by rw [dragomanref13_Rows.f, if_pos (by omega)]) (Ev.now _)
 ·rw [if_neg hz]
  refine Ev.congr (fun k => by rw [dragomanref13_Rows.f, if_neg (by omega)]) (Ev.bind (ref_valid_ev s (by omega)) ?_)
  cases hb : bad (bytesOf s) with
  | none =>
   have h := r13_l0 s (by omega) 513 [] 0 rfl (by omega)
   refine Ev.congr (fun k => if_neg (show ¬ rbadR 0 none ≥ 0 by simp [rbadR])) ?_
   exact h
  | some p =>
   refine Ev.congr (fun k => if_pos (show rbadR 0 (some p) ≥ 0 by simp [rbadR])) ?_
   simp only [rbadR, Nat.zero_add]
   exact Ev.now _
theorem texts_ev (a : List ByteArray) (ha : a.length ≤ 9000000000000) : ∀ (n i : Nat), i ≤ a.length → a.length - i = n → Ev (fun k => dragomanref17_Texts.l0 k a a (i : Int)) true
 | 0, i, hi, hn => Ev.step (fun k => by rw [dragomanref17_Texts.l0, if_neg (show ¬ (i : Int) < (a.length : Int) by omega)]) (Ev.now _)
 | n + 1, i, hi, hn => by
  refine Ev.step (fun k => by rw [dragomanref17_Texts.l0, if_pos (show (i : Int) < (a.length : Int) by omega), if_pos (show (0 : Int) ≤ (i : Int) by omega), if_pos (show (i : Int) < (a.length : Int) by omega), if_pos rfl, wrap_id (show -9223372036854775808 ≤ (i : Int) + 1 by omega) (show (i : Int) + 1 < 9223372036854775808 by omega)]) ?_
  exact texts_ev a ha n (i + 1) (by omega) (by omega)
theorem same_l0 (a : List (List ByteArray)) (ha : a.length ≤ 9000000000000) (hb : ∀ r ∈ a, r.length ≤ 9000000000000) : ∀ (n i : Nat), i ≤ a.length → a.length - i = n → Ev (fun k => dragomanref17_Rows.l0 k a a (i : Int)) true
 | 0, i, hi, hn => Ev.step (fun k => by rw [dragomanref17_Rows.l0, if_neg (show ¬ (i : Int) < (a.length : Int) by omega)]) (Ev.now _)
 | n + 1, i, hi, hn => by
  have hlt : i < a.length := by omega
  have hm : rd_L4 a (i : Int) ∈ a := by
   show a.getD (i : Int).toNat [] ∈ a
   rw [List.getD_eq_getElem?_getD, Int.toNat_natCast, List.getElem?_eq_getElem hlt]
   exact List.getElem_mem _
  refine Ev.step (fun k => by rw [dragomanref17_Rows.l0, if_pos (show (i : Int) < (a.length : Int) by omega), if_pos (show (0 : Int) ≤ (i : Int) by omega), if_pos (show (i : Int) < (a.length : Int) by omega)]) ?_
  refine Ev.bind (Ev.congr (fun k => by rw [dragomanref17_Texts.f, if_pos rfl]; rfl) (texts_ev _ (hb _ hm) _ 0 (Nat.zero_le _) rfl)) ?_
  refine Ev.congr (fun k => by rw [if_pos rfl, wrap_id (show -9223372036854775808 ≤ (i : Int) + 1 by omega) (show (i : Int) + 1 < 9223372036854775808 by omega)]) ?_
  exact same_l0 a ha hb n (i + 1) (by omega) (by omega)
theorem same_ev (a : List (List ByteArray)) (ha : a.length ≤ 9000000000000) (hb : ∀ r ∈ a, r.length ≤ 9000000000000) : Ev (fun k => dragomanref17_Rows.f k a a) true :=
 Ev.congr (fun k => by rw [dragomanref17_Rows.f, if_pos rfl]; rfl) (same_l0 a ha hb _ 0 (Nat.zero_le _) rfl)
end Go.Proofs.Ytjmmdphkgioooaa.La
end
section
namespace Go.Proofs.Ytjmmdphkgioooaa.La
open Go.RowKit Go.Proofs.Ytjmmdphkgioooaa.P Go.Proofs.YtjmmdphkgioooaaW.PrintWords Go.Proofs.YtjmmdphkgioooaaW.PrintLast Go.Proofs.YtjmmdphkgioooaaW.PrintMore
theorem readValid_ev (s : ByteArray) (hs : s.size ≤ 8796093022208) : Ev (fun k => cread_Valid.f k s) ((readR s).2.1 == 0) := by
 refine Ev.congr (fun k => by rw [cread_Valid.f]) (Ev.bind (fields_ev s hs) ?_)
 exact Ev.now _
theorem rows_f (s : ByteArray) (hs : s.size ≤ 8796093022208) : cread_Rows.f s = some (readR s) := by
 unfold cread_Rows.f
 rw [if_pos hs]
theorem awakeA : readR (⟨#[97, 44, 34, 98, 34, 34, 99, 34]⟩ : ByteArray) = ([[⟨#[97]⟩, ⟨#[98, 34, 99]⟩]], 0, 0, 0, 0) := by decide +kernel
theorem awakeB : readR (⟨#[97, 44, 98, 10, 99]⟩ : ByteArray) = ([], 7, 4, 2, 1) := by decide +kernel
theorem awakeC : readR (⟨#[97, 13, 10, 98]⟩ : ByteArray) = ([[⟨#[97]⟩], [⟨#[98]⟩]], 0, 0, 0, 0) := by decide +kernel
theorem awake13_ev : Ev (fun k => dragomanlaw13_awake.f k) true := by
 have h3 := readValid_ev (⟨#[97, 13, 10, 98]⟩ : ByteArray) (by decide)
 rw [awakeC] at h3
 refine Ev.congr (fun k => by rw [dragomanlaw13_awake.f, cread_Rows.f, cread_Rows.f, if_pos (by decide), if_pos (by decide), awakeA, awakeB, Option.bind_some, Option.bind_some, if_pos (by decide +kernel), if_pos (by decide +kernel), if_pos (by decide +kernel), if_pos (by decide +kernel), if_pos (by decide +kernel), if_pos (by decide +kernel), if_pos (by decide +kernel)]) ?_
 exact Ev.bind h3 (Ev.now _)
end Go.Proofs.Ytjmmdphkgioooaa.La
end
section
namespace Go.Proofs.Ytjmmdphkgioooaa.Pure
open Go.RowKit Go.Proofs.Ytjmmdphkgioooaa.P Go.Proofs.Ytjmmdphkgioooaa.La Go.Proofs.YtjmmdphkgioooaaW.PrintWords Go.Proofs.YtjmmdphkgioooaaW.PrintLast Go.Proofs.YtjmmdphkgioooaaW.PrintMore
/-- What the document says of a fault is what the package says. -/
theorem says_ev (s : ByteArray) (hs : s.size ≤ 3000) (h : ∀ e, wholeS 513 [] (bytesOf s) 0 = .inl e → e.1 ≠ 0) :
  (∃ rows, readR s = (rows, 0, 0, 0, 0) ∧ (rows13 s).1 = rows ∧ (rows13 s).2.2.1 = 0 ∧ rows.length ≤ 513 ∧ ∀ r ∈ rows, r.length ≤ 64) ∨
  (∃ e p, e ≠ 0 ∧ readR s = ([], faultR s p e) ∧ (rows13 s).2.2.1 = e ∧ (rows13 s).2.2.2 = p) := by
 have hb := fieldsR_bound s
 unfold readR rows13 fieldsR
 unfold fieldsR at hb
 rw [if_neg (by omega)] at hb ⊢
 rw [if_neg (show ¬ 65536 < s.size by omega)]
 cases hbad : bad (bytesOf s) with
 | some p => exact .inr ⟨3, p, by decide, rfl, rfl, rfl⟩
 | none =>
  rw [hbad] at hb
  simp only at hb ⊢
  cases hw : wholeS 513 [] (bytesOf s) 0 with
  | inl e => exact .inr ⟨e.1, e.2, h e hw, rfl, rfl, rfl⟩
  | inr rows =>
   rw [hw] at hb
   refine .inl ⟨G13 rows, rfl, rfl, rfl, by rw [List.length_map]; exact hb.1, fun r hr => ?_⟩
   obtain ⟨R, hR, rfl⟩ := List.mem_map.1 hr
   rw [List.length_map]
   exact hb.2 R hR
theorem rowS_err : ∀ (k : Nat) (acc : List S47) (l : List Int) (i : Nat) (e : Int × Nat), rowS k acc l i = .inl e → e.1 ≠ 0
 | 0, _, _, _, e, h => by obtain rfl := Sum.inl.inj h; simp
 | k + 1, acc, l, i, e, h => by
  rw [rowS] at h
  cases hf : fieldS l i with
  | inl e' =>
   rw [hf] at h
   obtain rfl := Sum.inl.inj h
   unfold fieldS at hf
   cases hr : raw l with
   | none => rw [hr] at hf; obtain rfl := Sum.inl.inj hf; simp
   | some q =>
    rw [hr] at hf
    simp only at hf
    split at hf
    ·obtain rfl := Sum.inl.inj hf; simp
    ·split at hf
     ·obtain rfl := Sum.inl.inj hf; simp
     ·cases hf
  | inr p =>
   rw [hf] at h
   simp only at h
   split at h
   ·exact rowS_err k _ _ _ e h
   ·cases h
theorem wholeS_err : ∀ (n : Nat) (rows : List (List S47)) (l : List Int) (i : Nat) (e : Int × Nat), wholeS n rows l i = .inl e → e.1 ≠ 0
 | 0, rows, l, i, e, h => by
  rw [wholeS] at h
  split at h
  ·cases h
  ·obtain rfl := Sum.inl.inj h; simp
 | n + 1, rows, l, i, e, h => by
  rw [wholeS] at h
  split at h
  ·cases h
  ·cases hr : rowS 64 [] l i with
   | inl e' => rw [hr] at h; obtain rfl := Sum.inl.inj h; exact rowS_err _ _ _ _ _ hr
   | inr x =>
    obtain ⟨a, l2, j⟩ := x
    rw [hr] at h
    simp only at h
    split at h
    ·obtain rfl := Sum.inl.inj h; simp
    ·exact wholeS_err n _ _ _ e h
theorem CreadSays : dragomanlaw13_CreadSays.Pure := by
 intro a0 _
 apply Ev.rounds
 refine Ev.congr (fun k => by rw [dragomanlaw13_CreadSays.f]) (Ev.bind awake13_ev ?_)
 refine Ev.congr (fun k => if_pos rfl) ?_
 by_cases hz : (a0.size : Int) > 3000
 ·exact Ev.congr (fun k => if_pos hz) (Ev.now _)
 ·refine Ev.congr (fun k => by rw [if_neg hz, rows_f a0 (by omega), Option.bind_some]) (Ev.bind (rows13_ev a0 (by omega)) ?_)
  have hv := readValid_ev a0 (by omega)
  rcases says_ev a0 (by omega) (fun e h => wholeS_err _ _ _ _ e h) with ⟨rows, h1, h2, h3, h4, h5⟩ | ⟨e, p, h0, h1, h2, h3⟩
  ·rw [h1] at hv ⊢
   rw [h2]
   refine Ev.congr (fun k => by rw [if_pos h3, if_pos (by rfl)]) ?_
   refine Ev.bind (same_ev rows (by omega) (fun r hr => by have := h5 r hr; omega)) ?_
   refine Ev.congr (fun k => if_pos rfl) ?_
   exact Ev.bind hv (Ev.now _)
  ·rw [h1] at hv ⊢
   refine Ev.congr (fun k => by rw [if_neg (by rw [h2]; exact h0), h2, h3]) ?_
   refine Ev.bind (ref_fault_ev a0 (by omega) p e) ?_
   refine Ev.congr (fun k => by rw [if_pos (by simp [faultR]), if_pos (by rfl)]) ?_
   refine Ev.bind hv ?_
   have e1 : ((faultR a0 p e).1 == 0) = false := beq_eq_false_iff_ne.2 h0
   show Ev (fun _ => some (!((faultR a0 p e).1 == 0))) true
   rw [e1]
   exact Ev.now _
end Go.Proofs.Ytjmmdphkgioooaa.Pure
end
