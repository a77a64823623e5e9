/- The parts of this claim's proof, in one text: what each Go function answers and that its call comes to it; plain facts of lists of numbers. Conditions as each theorem names them. -/
import Derived.ArgAppend
import Derived.Below
import Derived.BigQuiet
import Derived.Deep.AppendLies
import Derived.Deep.CutBlock
import Derived.Deep.DeepCutAuto
import Derived.Deep.Draws
import Derived.Deep.LoopGhost
import Derived.Deep.OwnRows
import Derived.Deep.QuietTactic
import Derived.Deep.RegionHeld3
import Derived.KernelRfl
import Derived.Laws.BitsLemmas
import Derived.Laws.BytesArg
import Derived.Laws.IdiomCopy
import Derived.Laws.MakeOwn
import Derived.Laws.OwnMore
import Derived.Laws.Rows
import Derived.Laws.Slices
import Derived.Lib.AppendStr
import Derived.Lib.Bytealg
import Derived.Lib.Bytes
import Derived.Lib.ConvBytes
import Derived.Maps.AppendAt
import Derived.OrdersHeld
import Derived.OwnWalk
import Derived.RowKit
import Derived.RowKit3
import Derived.Shelf.Bits.Mul64
import Derived.Shelf.LaysM
import Derived.Shelf.Small.Strs
import Derived.Shelf.Small.Utf8
import Derived.Shelf.Strings.AsciiSet
import Derived.Shelf.Strings.Builder1
import Derived.Shelf.Strings.Builder2
import Derived.Shelf.Strings.BuilderF
import Derived.Shelf.Strings.BuilderK
import Derived.Shelf.Strings.Count
import Derived.Shelf.Strings.IndexAny
import Derived.Shelf.Strings.IndexAnyAll
import Derived.Shelf.Strings.Prefix
import Derived.Shelf.Strings.Repeat
import Derived.Shelf.Strings.Runes
import Derived.Shelf.Strings.Search1
import Derived.Shelf.Strings.Search2
import Derived.Shelf.Strings.Search3
import Derived.Shelf.Strings.Shaped
import Derived.Shelf.Strings.Split
import Derived.Shelf.Strings.Trim
import Derived.Shelf.Unicode.DecodeSlow
import Derived.Tactics
import Derived.WalkKit
import Derived.WideLaws
import Derived.Test.YtoanbmggffkmgaaDoorProg
import Derived.Test.YtoanbmggffkmgaaDoorWApart
import Derived.Test.YtoanbmggffkmgaaDoorWArr
import Derived.Test.YtoanbmggffkmgaaDoorWAt
import Derived.Test.YtoanbmggffkmgaaDoorWEqStruct
import Derived.Test.YtoanbmggffkmgaaDoorWFoot
import Derived.Test.YtoanbmggffkmgaaDoorWFootNe
import Derived.Test.YtoanbmggffkmgaaDoorWFour
import Derived.Test.YtoanbmggffkmgaaDoorWGuard
import Derived.Test.YtoanbmggffkmgaaDoorWInv
import Derived.Test.YtoanbmggffkmgaaDoorWInvWords
import Derived.Test.YtoanbmggffkmgaaDoorWKept
import Derived.Test.YtoanbmggffkmgaaDoorWLast
import Derived.Test.YtoanbmggffkmgaaDoorWMake0
import Derived.Test.YtoanbmggffkmgaaDoorWMore
import Derived.Test.YtoanbmggffkmgaaDoorWN
import Derived.Test.YtoanbmggffkmgaaDoorWNEv
import Derived.Test.YtoanbmggffkmgaaDoorWQPut
import Derived.Test.YtoanbmggffkmgaaDoorWRepsOne
import Derived.Test.YtoanbmggffkmgaaDoorWShare
import Derived.Test.YtoanbmggffkmgaaDoorWTab
import Derived.Test.YtoanbmggffkmgaaDoorWWords
import Derived.Test.YtoanbmggffkmgaaDoorWZeros
section
namespace Go.Proofs.YtoanbmggffkmgaaDoor.P
open Go.RowKit Go.Proofs.YtoanbmggffkmgaaDoorW.PrintWords Go.Proofs.YtoanbmggffkmgaaDoorW.PrintLast Go.Proofs.YtoanbmggffkmgaaDoorW.PrintMore
attribute [local go_sem] max2_int min2_int max_two min_two max_three min_three max_four min_four   -- for this text's walks alone
set_option linter.unusedVariables false
set_option linter.unusedSimpArgs false
def errW : Option Int → Value
  | none => .nilIface
  | some c => .iface 0 (.int .i64 c)
theorem errW_none : errW none = .nilIface := rfl
theorem errW_some (c : Int) : errW (some c) = .iface 0 (.int .i64 c) := rfl
theorem info3 : (Tryd.prog.info? 3).map (fun i => (i.zero, i.size, i.bytes)) = some (some (.int .i64 0), 1, 8) := by kernel_rfl
theorem info5 : (Tryd.prog.info? 5).map (fun i => (i.zero, i.size, i.bytes)) = some (some (.int .u8 0), 1, 1) := by kernel_rfl
/-! #### struct type 53 -/
structure S53 where
  f0 : Int
  f1 : ByteArray
  f2 : Int
def z53 : S53 := ⟨(0 : Int), (⟨#[]⟩ : ByteArray), (0 : Int)⟩
end Go.Proofs.YtoanbmggffkmgaaDoor.P
end
section
namespace Go.Proofs.YtoanbmggffkmgaaDoor.P
open Go.RowKit Go.Proofs.YtoanbmggffkmgaaDoorW.PrintWords Go.Proofs.YtoanbmggffkmgaaDoorW.PrintLast Go.Proofs.YtoanbmggffkmgaaDoorW.PrintMore
attribute [local go_sem] max2_int min2_int max_two min_two max_three min_three max_four min_four   -- for this text's walks alone
set_option linter.unusedVariables false
set_option linter.unusedSimpArgs false
/-! ### dragomanref1_Good: function 26 -/
def dragomanref1_Good.f (a0 : Int) : Option (Bool) := if a0 ≥ 0 then (if a0 ≤ 1114111 then (if a0 < 55296 then (some true) else (some (decide (a0 > 57343)))) else (some false)) else (some false)
set_option maxHeartbeats 8000000 in
set_option maxRecDepth 100000 in
theorem dragomanref1_Good.calls (a0 : Int) (r : Bool) (w : World) (h : dragomanref1_Good.f a0 = some r) :
    Calls Tryd.prog 26 #[.int .i64 a0] w fun e w' => e = .returned (.bool r) ∧ Drawn0 w w' := by
  have H : (if a0 ≥ 0 then (if a0 ≤ 1114111 then (if a0 < 55296 then (some true) else (some (decide (a0 > 57343)))) else (some false)) else (some false)) = some r := h
  clear h
  by_cases c2 : a0 ≥ 0
  · rw [if_pos c2] at H
    have c2b0 : decide (0 ≤ a0) = true := decide_eq_true c2
    clear c2
    by_cases c3 : a0 ≤ 1114111
    · rw [if_pos c3] at H
      have c3b0 : decide (a0 ≤ 1114111) = true := decide_eq_true c3
      clear c3
      by_cases c4 : a0 < 55296
      · rw [if_pos c4] at H
        have c4b0 : decide (a0 < 55296) = true := decide_eq_true c4
        clear c4
        obtain rfl := Option.some.inj H
        go_enter Tryd.func26, Tryd.ntmps26
        go_wp2
        go_ret
        exact ⟨by first | rfl | (simp; done) | (simp [*]; done), by repeat (first | exact Drawn0.refl _ | apply Drawn0.step)⟩
      · rw [if_neg c4] at H
        have c4b0 : decide (a0 < 55296) = false := decide_eq_false c4
        clear c4
        obtain rfl := Option.some.inj H
        go_enter Tryd.func26, Tryd.ntmps26
        go_wp2
        go_ret
        exact ⟨by first | rfl | (simp; done) | (simp [*]; done), by repeat (first | exact Drawn0.refl _ | apply Drawn0.step)⟩
    · rw [if_neg c3] at H
      have c3b0 : decide (a0 ≤ 1114111) = false := decide_eq_false c3
      clear c3
      obtain rfl := Option.some.inj H
      go_enter Tryd.func26, Tryd.ntmps26
      go_wp2
      go_ret
      exact ⟨by first | rfl | (simp; done) | (simp [*]; done), by repeat (first | exact Drawn0.refl _ | apply Drawn0.step)⟩
  · rw [if_neg c2] at H
    have c2b0 : decide (0 ≤ a0) = false := decide_eq_false c2
    clear c2
    obtain rfl := Option.some.inj H
    go_enter Tryd.func26, Tryd.ntmps26
    go_wp2
    go_ret
    exact ⟨by first | rfl | (simp; done) | (simp [*]; done), by repeat (first | exact Drawn0.refl _ | apply Drawn0.step)⟩
end Go.Proofs.YtoanbmggffkmgaaDoor.P
end
section
namespace Go.Proofs.YtoanbmggffkmgaaDoor.P
open Go.RowKit Go.Proofs.YtoanbmggffkmgaaDoorW.PrintWords Go.Proofs.YtoanbmggffkmgaaDoorW.PrintLast Go.Proofs.YtoanbmggffkmgaaDoorW.PrintMore
attribute [local go_sem] max2_int min2_int max_two min_two max_three min_three max_four min_four   -- for this text's walks alone
set_option linter.unusedVariables false
set_option linter.unusedSimpArgs false
/-! ### dragomanref1_Put: function 27 -/
def dragomanref1_Put.f (a0 : Int) : Option (ByteArray) := (dragomanref1_Good.f a0).bind fun t325 => (if t325 = true then (if a0 < 128 then (some (strOfNums (([(a0) % 256] : List Int)))) else (if a0 < 2048 then (some (strOfNums (([(wrap64 (192 + (wrap64 (Int.tdiv a0 64)))) % 256, (wrap64 (128 + (Int.tmod a0 64))) % 256] : List Int)))) else (if a0 < 65536 then (some (strOfNums (([(wrap64 (224 + (wrap64 (Int.tdiv a0 4096)))) % 256, (wrap64 (128 + (Int.tmod (wrap64 (Int.tdiv a0 64)) 64))) % 256, (wrap64 (128 + (Int.tmod a0 64))) % 256] : List Int)))) else (some (strOfNums (([(wrap64 (240 + (wrap64 (Int.tdiv a0 262144)))) % 256, (wrap64 (128 + (Int.tmod (wrap64 (Int.tdiv a0 4096)) 64))) % 256, (wrap64 (128 + (Int.tmod (wrap64 (Int.tdiv a0 64)) 64))) % 256, (wrap64 (128 + (Int.tmod a0 64))) % 256] : List Int))))))) else (some (⟨#[]⟩ : ByteArray)))
set_option maxHeartbeats 8000000 in
set_option maxRecDepth 100000 in
theorem dragomanref1_Put.calls (a0 : Int) (r : ByteArray) (w : World) (h : dragomanref1_Put.f a0 = some r) :
    Calls Tryd.prog 27 #[.int .i64 a0] w fun e w' => e = .returned (.string r) ∧ Below w.heap.size w w' := by
  have HB := Aside0.mk (Below.refl w.heap.size w)
  have H : ((dragomanref1_Good.f a0).bind fun t325 => (if t325 = true then (if a0 < 128 then (some (strOfNums (([(a0) % 256] : List Int)))) else (if a0 < 2048 then (some (strOfNums (([(wrap64 (192 + (wrap64 (Int.tdiv a0 64)))) % 256, (wrap64 (128 + (Int.tmod a0 64))) % 256] : List Int)))) else (if a0 < 65536 then (some (strOfNums (([(wrap64 (224 + (wrap64 (Int.tdiv a0 4096)))) % 256, (wrap64 (128 + (Int.tmod (wrap64 (Int.tdiv a0 64)) 64))) % 256, (wrap64 (128 + (Int.tmod a0 64))) % 256] : List Int)))) else (some (strOfNums (([(wrap64 (240 + (wrap64 (Int.tdiv a0 262144)))) % 256, (wrap64 (128 + (Int.tmod (wrap64 (Int.tdiv a0 4096)) 64))) % 256, (wrap64 (128 + (Int.tmod (wrap64 (Int.tdiv a0 64)) 64))) % 256, (wrap64 (128 + (Int.tmod a0 64))) % 256] : List Int))))))) else (some (⟨#[]⟩ : ByteArray)))) = some r := h
  clear h
  replace H := Option.bind_eq_some_iff.mp H
  obtain ⟨t325, A20, H⟩ := H
  replace H : (if t325 = true then (if a0 < 128 then (some (strOfNums (([(a0) % 256] : List Int)))) else (if a0 < 2048 then (some (strOfNums (([(wrap64 (192 + (wrap64 (Int.tdiv a0 64)))) % 256, (wrap64 (128 + (Int.tmod a0 64))) % 256] : List Int)))) else (if a0 < 65536 then (some (strOfNums (([(wrap64 (224 + (wrap64 (Int.tdiv a0 4096)))) % 256, (wrap64 (128 + (Int.tmod (wrap64 (Int.tdiv a0 64)) 64))) % 256, (wrap64 (128 + (Int.tmod a0 64))) % 256] : List Int)))) else (some (strOfNums (([(wrap64 (240 + (wrap64 (Int.tdiv a0 262144)))) % 256, (wrap64 (128 + (Int.tmod (wrap64 (Int.tdiv a0 4096)) 64))) % 256, (wrap64 (128 + (Int.tmod (wrap64 (Int.tdiv a0 64)) 64))) % 256, (wrap64 (128 + (Int.tmod a0 64))) % 256] : List Int))))))) else (some (⟨#[]⟩ : ByteArray))) = some r := H
  have A2 := Aside0.mk A20
  clear A20
  by_cases c3 : t325 = true
  · subst c3
    have H1 : (if a0 < 128 then (some (strOfNums (([(a0) % 256] : List Int)))) else (if a0 < 2048 then (some (strOfNums (([(wrap64 (192 + (wrap64 (Int.tdiv a0 64)))) % 256, (wrap64 (128 + (Int.tmod a0 64))) % 256] : List Int)))) else (if a0 < 65536 then (some (strOfNums (([(wrap64 (224 + (wrap64 (Int.tdiv a0 4096)))) % 256, (wrap64 (128 + (Int.tmod (wrap64 (Int.tdiv a0 64)) 64))) % 256, (wrap64 (128 + (Int.tmod a0 64))) % 256] : List Int)))) else (some (strOfNums (([(wrap64 (240 + (wrap64 (Int.tdiv a0 262144)))) % 256, (wrap64 (128 + (Int.tmod (wrap64 (Int.tdiv a0 4096)) 64))) % 256, (wrap64 (128 + (Int.tmod (wrap64 (Int.tdiv a0 64)) 64))) % 256, (wrap64 (128 + (Int.tmod a0 64))) % 256] : List Int))))))) = some r := by rw [if_pos rfl] at H; exact H
    clear H
    have H := H1
    clear H1
    by_cases c4 : a0 < 128
    · rw [if_pos c4] at H
      have c4b0 : decide (a0 < 128) = true := decide_eq_true c4
      clear c4
      obtain ⟨y326, hy326⟩ : ∃ y_ : List Int, y_ = (([(a0) % 256] : List Int)) := ⟨_, rfl⟩
      replace H : (some (strOfNums y326)) = some r := by first | (rw [hy326]; with_reducible exact H) | (have H2_ := (Option.bind_some _ _).symm.trans H; rw [hy326]; with_reducible exact H2_) | (have H2_ := (Option.bind_some _ _).symm.trans H; with_reducible exact H2_) | with_reducible exact H | (rw [hy326]; exact H) | exact H
      have Ny326 := Aside0.mk hy326
      clear hy326
      obtain rfl := Option.some.inj H
      go_enter Tryd.func27, Tryd.ntmps27
      go_wp2_with (first | ((with_reducible refine gate_callee (f := 26) rfl ?_); refine goesL_ (some 4) rfl rfl Tryd.func26 (by kernel_rfl) rfl #[.int .i64 a0] rfl (by (try simp only [List.map_toArray, List.map_cons, List.map_nil]); first | done | rfl | (simp only [List.length_drop, List.length_take]; rfl)) ?_; (with_reducible refine (dragomanref1_Good.calls a0 true _ A2.out).mono ?_); rintro e w' ⟨rfl, ⟨nd, rfl⟩⟩; refine ⟨_, rfl, ?_⟩) | ((with_reducible refine gate_dst (N := 11) rfl ?_); refine Kd.R_lit (Kd.int .u8) _ 5 ?hg (N := 11) ?hd (xs := ([(a0) % 256] : List Int)) (inner := [.int .u8 ((a0) % 256)]) (ok := fun _ => True) (okp := fun _ => True) ?hr ?hp (fun _ hk => hk) trivial (Below.refl _ _) (Nat.le_refl _) (by simp) ?_; (case hd => rfl); (case hg => rfl); (case hr => first | (go_simp; done) | (go_simp; rfl)); (case hp => exact (Reps.one (show Kd.M (Kd.int .u8) _ _ _ ((a0) % 256) [.int .u8 ((a0) % 256)] from rfl) (Reps.none _ _))); intro v327 w5 ho6 hb hg_ hnew_; clear hg_ hnew_; (first | rw [← Ny326.out] at ho6 | (simp only [Int.reduceToNat] at ho6; rw [← Ny326.out] at ho6)); have n0_ := Aside0.mk (Kd.R_lower ho6 (below_size (by repeat (first | (with_reducible first | exact HB.out | apply below_alloc | apply pw_below_drewN | apply below_drew1) | exact HB.out)))); have n1_ := Aside0.mk (below_step (by repeat (first | (with_reducible first | exact HB.out | apply below_alloc | apply pw_below_drewN | apply below_drew1) | exact HB.out)) hb); clear HB; have HO328 := n0_; have HB := n1_; clear n0_ n1_; clear hb ho6; have hcv7 := own_string (P := Tryd.prog) Tryd.underlying46 Tryd.underlying5 Tryd.underlying9 (Kd.own_of_R HO328.out)))
      go_ret
      exact ⟨by first | rfl | (simp [errW_none, errW_some] <;> rfl) | (simp [*, errW_none, errW_some, bne]; done) | (simp [*, errW_none, errW_some] <;> rfl), by repeat (first | (with_reducible first | exact HB.out | apply below_alloc | apply pw_below_drewN | apply below_drew1) | exact HB.out)⟩
    · rw [if_neg c4] at H
      have c4b0 : decide (a0 < 128) = false := decide_eq_false c4
      clear c4
      by_cases c8 : a0 < 2048
      · rw [if_pos c8] at H
        have c8b0 : decide (a0 < 2048) = true := decide_eq_true c8
        clear c8
        obtain ⟨y329, hy329⟩ : ∃ y_ : List Int, y_ = (([(wrap64 (192 + (wrap64 (Int.tdiv a0 64)))) % 256, (wrap64 (128 + (Int.tmod a0 64))) % 256] : List Int)) := ⟨_, rfl⟩
        replace H : (some (strOfNums y329)) = some r := by first | (rw [hy329]; with_reducible exact H) | (have H2_ := (Option.bind_some _ _).symm.trans H; rw [hy329]; with_reducible exact H2_) | (have H2_ := (Option.bind_some _ _).symm.trans H; with_reducible exact H2_) | with_reducible exact H | (rw [hy329]; exact H) | exact H
        have Ny329 := Aside0.mk hy329
        clear hy329
        obtain rfl := Option.some.inj H
        go_enter Tryd.func27, Tryd.ntmps27
        go_wp2_with (first | ((with_reducible refine gate_callee (f := 26) rfl ?_); refine goesL_ (some 4) rfl rfl Tryd.func26 (by kernel_rfl) rfl #[.int .i64 a0] rfl (by (try simp only [List.map_toArray, List.map_cons, List.map_nil]); first | done | rfl | (simp only [List.length_drop, List.length_take]; rfl)) ?_; (with_reducible refine (dragomanref1_Good.calls a0 true _ A2.out).mono ?_); rintro e w' ⟨rfl, ⟨nd, rfl⟩⟩; refine ⟨_, rfl, ?_⟩) | ((with_reducible refine gate_dst (N := 24) rfl ?_); refine Kd.R_lit (Kd.int .u8) _ 5 ?hg (N := 24) ?hd (xs := ([(wrap64 (192 + (wrap64 (Int.tdiv a0 64)))) % 256, (wrap64 (128 + (Int.tmod a0 64))) % 256] : List Int)) (inner := [.int .u8 ((wrap64 (192 + (wrap64 (Int.tdiv a0 64)))) % 256), .int .u8 ((wrap64 (128 + (Int.tmod a0 64))) % 256)]) (ok := fun _ => True) (okp := fun _ => True) ?hr ?hp (fun _ hk => hk) trivial (Below.refl _ _) (Nat.le_refl _) (by simp) ?_; (case hd => rfl); (case hg => rfl); (case hr => first | (go_simp; done) | (go_simp; rfl)); (case hp => exact (Reps.one (show Kd.M (Kd.int .u8) _ _ _ ((wrap64 (192 + (wrap64 (Int.tdiv a0 64)))) % 256) [.int .u8 ((wrap64 (192 + (wrap64 (Int.tdiv a0 64)))) % 256)] from rfl) (Reps.one (show Kd.M (Kd.int .u8) _ _ _ ((wrap64 (128 + (Int.tmod a0 64))) % 256) [.int .u8 ((wrap64 (128 + (Int.tmod a0 64))) % 256)] from rfl) (Reps.none _ _)))); intro v330 w9 ho10 hb hg_ hnew_; clear hg_ hnew_; (first | rw [← Ny329.out] at ho10 | (simp only [Int.reduceToNat] at ho10; rw [← Ny329.out] at ho10)); have n0_ := Aside0.mk (Kd.R_lower ho10 (below_size (by repeat (first | (with_reducible first | exact HB.out | apply below_alloc | apply pw_below_drewN | apply below_drew1) | exact HB.out)))); have n1_ := Aside0.mk (below_step (by repeat (first | (with_reducible first | exact HB.out | apply below_alloc | apply pw_below_drewN | apply below_drew1) | exact HB.out)) hb); clear HB; have HO331 := n0_; have HB := n1_; clear n0_ n1_; clear hb ho10; have hcv11 := own_string (P := Tryd.prog) Tryd.underlying46 Tryd.underlying5 Tryd.underlying9 (Kd.own_of_R HO331.out)))
        go_ret
        exact ⟨by first | rfl | (simp [errW_none, errW_some] <;> rfl) | (simp [*, errW_none, errW_some, bne]; done) | (simp [*, errW_none, errW_some] <;> rfl), by repeat (first | (with_reducible first | exact HB.out | apply below_alloc | apply pw_below_drewN | apply below_drew1) | exact HB.out)⟩
      · rw [if_neg c8] at H
        have c8b0 : decide (a0 < 2048) = false := decide_eq_false c8
        clear c8
        by_cases c12 : a0 < 65536
        · rw [if_pos c12] at H
          have c12b0 : decide (a0 < 65536) = true := decide_eq_true c12
          clear c12
          obtain ⟨y332, hy332⟩ : ∃ y_ : List Int, y_ = (([(wrap64 (224 + (wrap64 (Int.tdiv a0 4096)))) % 256, (wrap64 (128 + (Int.tmod (wrap64 (Int.tdiv a0 64)) 64))) % 256, (wrap64 (128 + (Int.tmod a0 64))) % 256] : List Int)) := ⟨_, rfl⟩
          replace H : (some (strOfNums y332)) = some r := by first | (rw [hy332]; with_reducible exact H) | (have H2_ := (Option.bind_some _ _).symm.trans H; rw [hy332]; with_reducible exact H2_) | (have H2_ := (Option.bind_some _ _).symm.trans H; with_reducible exact H2_) | with_reducible exact H | (rw [hy332]; exact H) | exact H
          have Ny332 := Aside0.mk hy332
          clear hy332
          obtain rfl := Option.some.inj H
          go_enter Tryd.func27, Tryd.ntmps27
          go_wp2_with (first | ((with_reducible refine gate_callee (f := 26) rfl ?_); refine goesL_ (some 4) rfl rfl Tryd.func26 (by kernel_rfl) rfl #[.int .i64 a0] rfl (by (try simp only [List.map_toArray, List.map_cons, List.map_nil]); first | done | rfl | (simp only [List.length_drop, List.length_take]; rfl)) ?_; (with_reducible refine (dragomanref1_Good.calls a0 true _ A2.out).mono ?_); rintro e w' ⟨rfl, ⟨nd, rfl⟩⟩; refine ⟨_, rfl, ?_⟩) | ((with_reducible refine gate_dst (N := 42) rfl ?_); refine Kd.R_lit (Kd.int .u8) _ 5 ?hg (N := 42) ?hd (xs := ([(wrap64 (224 + (wrap64 (Int.tdiv a0 4096)))) % 256, (wrap64 (128 + (Int.tmod (wrap64 (Int.tdiv a0 64)) 64))) % 256, (wrap64 (128 + (Int.tmod a0 64))) % 256] : List Int)) (inner := [.int .u8 ((wrap64 (224 + (wrap64 (Int.tdiv a0 4096)))) % 256), .int .u8 ((wrap64 (128 + (Int.tmod (wrap64 (Int.tdiv a0 64)) 64))) % 256), .int .u8 ((wrap64 (128 + (Int.tmod a0 64))) % 256)]) (ok := fun _ => True) (okp := fun _ => True) ?hr ?hp (fun _ hk => hk) trivial (Below.refl _ _) (Nat.le_refl _) (by simp) ?_; (case hd => rfl); (case hg => rfl); (case hr => first | (go_simp; done) | (go_simp; rfl)); (case hp => exact (Reps.one (show Kd.M (Kd.int .u8) _ _ _ ((wrap64 (224 + (wrap64 (Int.tdiv a0 4096)))) % 256) [.int .u8 ((wrap64 (224 + (wrap64 (Int.tdiv a0 4096)))) % 256)] from rfl) (Reps.one (show Kd.M (Kd.int .u8) _ _ _ ((wrap64 (128 + (Int.tmod (wrap64 (Int.tdiv a0 64)) 64))) % 256) [.int .u8 ((wrap64 (128 + (Int.tmod (wrap64 (Int.tdiv a0 64)) 64))) % 256)] from rfl) (Reps.one (show Kd.M (Kd.int .u8) _ _ _ ((wrap64 (128 + (Int.tmod a0 64))) % 256) [.int .u8 ((wrap64 (128 + (Int.tmod a0 64))) % 256)] from rfl) (Reps.none _ _))))); intro v333 w13 ho14 hb hg_ hnew_; clear hg_ hnew_; (first | rw [← Ny332.out] at ho14 | (simp only [Int.reduceToNat] at ho14; rw [← Ny332.out] at ho14)); have n0_ := Aside0.mk (Kd.R_lower ho14 (below_size (by repeat (first | (with_reducible first | exact HB.out | apply below_alloc | apply pw_below_drewN | apply below_drew1) | exact HB.out)))); have n1_ := Aside0.mk (below_step (by repeat (first | (with_reducible first | exact HB.out | apply below_alloc | apply pw_below_drewN | apply below_drew1) | exact HB.out)) hb); clear HB; have HO334 := n0_; have HB := n1_; clear n0_ n1_; clear hb ho14; have hcv15 := own_string (P := Tryd.prog) Tryd.underlying46 Tryd.underlying5 Tryd.underlying9 (Kd.own_of_R HO334.out)))
          go_ret
          exact ⟨by first | rfl | (simp [errW_none, errW_some] <;> rfl) | (simp [*, errW_none, errW_some, bne]; done) | (simp [*, errW_none, errW_some] <;> rfl), by repeat (first | (with_reducible first | exact HB.out | apply below_alloc | apply pw_below_drewN | apply below_drew1) | exact HB.out)⟩
        · rw [if_neg c12] at H
          have c12b0 : decide (a0 < 65536) = false := decide_eq_false c12
          clear c12
          obtain ⟨y335, hy335⟩ : ∃ y_ : List Int, y_ = (([(wrap64 (240 + (wrap64 (Int.tdiv a0 262144)))) % 256, (wrap64 (128 + (Int.tmod (wrap64 (Int.tdiv a0 4096)) 64))) % 256, (wrap64 (128 + (Int.tmod (wrap64 (Int.tdiv a0 64)) 64))) % 256, (wrap64 (128 + (Int.tmod a0 64))) % 256] : List Int)) := ⟨_, rfl⟩
          replace H : (some (strOfNums y335)) = some r := by first | (rw [hy335]; with_reducible exact H) | (have H2_ := (Option.bind_some _ _).symm.trans H; rw [hy335]; with_reducible exact H2_) | (have H2_ := (Option.bind_some _ _).symm.trans H; with_reducible exact H2_) | with_reducible exact H | (rw [hy335]; exact H) | exact H
          have Ny335 := Aside0.mk hy335
          clear hy335
          obtain rfl := Option.some.inj H
          go_enter Tryd.func27, Tryd.ntmps27
          go_wp2_with (first | ((with_reducible refine gate_callee (f := 26) rfl ?_); refine goesL_ (some 4) rfl rfl Tryd.func26 (by kernel_rfl) rfl #[.int .i64 a0] rfl (by (try simp only [List.map_toArray, List.map_cons, List.map_nil]); first | done | rfl | (simp only [List.length_drop, List.length_take]; rfl)) ?_; (with_reducible refine (dragomanref1_Good.calls a0 true _ A2.out).mono ?_); rintro e w' ⟨rfl, ⟨nd, rfl⟩⟩; refine ⟨_, rfl, ?_⟩) | ((with_reducible refine gate_dst (N := 62) rfl ?_); refine Kd.R_lit (Kd.int .u8) _ 5 ?hg (N := 62) ?hd (xs := ([(wrap64 (240 + (wrap64 (Int.tdiv a0 262144)))) % 256, (wrap64 (128 + (Int.tmod (wrap64 (Int.tdiv a0 4096)) 64))) % 256, (wrap64 (128 + (Int.tmod (wrap64 (Int.tdiv a0 64)) 64))) % 256, (wrap64 (128 + (Int.tmod a0 64))) % 256] : List Int)) (inner := [.int .u8 ((wrap64 (240 + (wrap64 (Int.tdiv a0 262144)))) % 256), .int .u8 ((wrap64 (128 + (Int.tmod (wrap64 (Int.tdiv a0 4096)) 64))) % 256), .int .u8 ((wrap64 (128 + (Int.tmod (wrap64 (Int.tdiv a0 64)) 64))) % 256), .int .u8 ((wrap64 (128 + (Int.tmod a0 64))) % 256)]) (ok := fun _ => True) (okp := fun _ => True) ?hr ?hp (fun _ hk => hk) trivial (Below.refl _ _) (Nat.le_refl _) (by simp) ?_; (case hd => rfl); (case hg => rfl); (case hr => first | (go_simp; done) | (go_simp; rfl)); (case hp => exact (Reps.one (show Kd.M (Kd.int .u8) _ _ _ ((wrap64 (240 + (wrap64 (Int.tdiv a0 262144)))) % 256) [.int .u8 ((wrap64 (240 + (wrap64 (Int.tdiv a0 262144)))) % 256)] from rfl) (Reps.one (show Kd.M (Kd.int .u8) _ _ _ ((wrap64 (128 + (Int.tmod (wrap64 (Int.tdiv a0 4096)) 64))) % 256) [.int .u8 ((wrap64 (128 + (Int.tmod (wrap64 (Int.tdiv a0 4096)) 64))) % 256)] from rfl) (Reps.one (show Kd.M (Kd.int .u8) _ _ _ ((wrap64 (128 + (Int.tmod (wrap64 (Int.tdiv a0 64)) 64))) % 256) [.int .u8 ((wrap64 (128 + (Int.tmod (wrap64 (Int.tdiv a0 64)) 64))) % 256)] from rfl) (Reps.one (show Kd.M (Kd.int .u8) _ _ _ ((wrap64 (128 + (Int.tmod a0 64))) % 256) [.int .u8 ((wrap64 (128 + (Int.tmod a0 64))) % 256)] from rfl) (Reps.none _ _)))))); intro v336 w16 ho17 hb hg_ hnew_; clear hg_ hnew_; (first | rw [← Ny335.out] at ho17 | (simp only [Int.reduceToNat] at ho17; rw [← Ny335.out] at ho17)); have n0_ := Aside0.mk (Kd.R_lower ho17 (below_size (by repeat (first | (with_reducible first | exact HB.out | apply below_alloc | apply pw_below_drewN | apply below_drew1) | exact HB.out)))); have n1_ := Aside0.mk (below_step (by repeat (first | (with_reducible first | exact HB.out | apply below_alloc | apply pw_below_drewN | apply below_drew1) | exact HB.out)) hb); clear HB; have HO337 := n0_; have HB := n1_; clear n0_ n1_; clear hb ho17; have hcv18 := own_string (P := Tryd.prog) Tryd.underlying46 Tryd.underlying5 Tryd.underlying9 (Kd.own_of_R HO337.out)))
          go_ret
          exact ⟨by first | rfl | (simp [errW_none, errW_some] <;> rfl) | (simp [*, errW_none, errW_some, bne]; done) | (simp [*, errW_none, errW_some] <;> rfl), by repeat (first | (with_reducible first | exact HB.out | apply below_alloc | apply pw_below_drewN | apply below_drew1) | exact HB.out)⟩
  · replace c3 := Bool.eq_false_iff.mpr c3
    subst c3
    have H1 : (some (⟨#[]⟩ : ByteArray)) = some r := by rw [if_neg (show ¬ (false = true) by decide)] at H; exact H
    clear H
    have H := H1
    clear H1
    obtain rfl := Option.some.inj H
    go_enter Tryd.func27, Tryd.ntmps27
    go_wp2_with (first | ((with_reducible refine gate_callee (f := 26) rfl ?_); refine goesL_ (some 4) rfl rfl Tryd.func26 (by kernel_rfl) rfl #[.int .i64 a0] rfl (by (try simp only [List.map_toArray, List.map_cons, List.map_nil]); first | done | rfl | (simp only [List.length_drop, List.length_take]; rfl)) ?_; (with_reducible refine (dragomanref1_Good.calls a0 false _ A2.out).mono ?_); rintro e w' ⟨rfl, ⟨nd, rfl⟩⟩; refine ⟨_, rfl, ?_⟩))
    go_ret
    exact ⟨by first | rfl | (simp [errW_none, errW_some] <;> rfl) | (simp [*, errW_none, errW_some, bne]; done) | (simp [*, errW_none, errW_some] <;> rfl), by repeat (first | (with_reducible first | exact HB.out | apply below_alloc | apply pw_below_drewN | apply below_drew1) | exact HB.out)⟩
end Go.Proofs.YtoanbmggffkmgaaDoor.P
end
section
namespace Go.Proofs.YtoanbmggffkmgaaDoor.P
open Go.RowKit Go.Proofs.YtoanbmggffkmgaaDoorW.PrintWords Go.Proofs.YtoanbmggffkmgaaDoorW.PrintLast Go.Proofs.YtoanbmggffkmgaaDoorW.PrintMore
attribute [local go_sem] max2_int min2_int max_two min_two max_three min_three max_four min_four   -- for this text's walks alone
set_option linter.unusedVariables false
set_option linter.unusedSimpArgs false
/-! ### dragomanref1_Take: function 47 -/
mutual
def dragomanref1_Take.j3 : Nat → ByteArray → Int → Int → Option (Int × Int)
  | 0, _, _, _ => none
  | k + 1, x0, x5, x6 => if (x0.size : Int) < x5 then (some (0, 0)) else (dragomanref1_Take.l0 k x0 x5 x6 1)
def dragomanref1_Take.l0 : Nat → ByteArray → Int → Int → Int → Option (Int × Int)
  | 0, _, _, _, _ => none
  | k + 1, x0, x5, x6, x7 => if x7 < x5 then (if 0 ≤ x7 then (if x7 < (x0.size : Int) then (if (bt x0 x7) < 128 then (some (0, 0)) else (if (bt x0 x7) > 191 then (some (0, 0)) else (dragomanref1_Take.l0 k x0 x5 (wrap64 ((wrap64 ((wrap64 (64 * x6)) + (wrap64 (bt x0 x7)))) - 128)) (wrap64 (x7 + 1))))) else (none)) else (none)) else ((dragomanref1_Put.f x6).bind fun t338 => (if 0 ≤ x5 then (if x5 ≤ (x0.size : Int) then (if t338.toList = (x0.extract 0 (x5 : Int).toNat).toList then (some (x6, x5)) else (some (0, 0))) else (none)) else (none)))
def dragomanref1_Take.j0 : Nat → ByteArray → Int → Int → Int → Bool → Option (Int × Int)
  | 0, _, _, _, _, _ => none
  | k + 1, x0, x4, x5, x6, x14 => if x14 = true then (dragomanref1_Take.j3 k x0 4 (wrap64 (x4 - 240))) else (if x4 ≥ 224 then (dragomanref1_Take.j1 k x0 x4 x5 x6 (decide (x4 < 240))) else (dragomanref1_Take.j1 k x0 x4 x5 x6 false))
def dragomanref1_Take.j1 : Nat → ByteArray → Int → Int → Int → Bool → Option (Int × Int)
  | 0, _, _, _, _, _ => none
  | k + 1, x0, x4, x5, x6, x23 => if x23 = true then (dragomanref1_Take.j3 k x0 3 (wrap64 (x4 - 224))) else (if x4 ≥ 192 then (dragomanref1_Take.j2 k x0 x4 x5 x6 (decide (x4 < 224))) else (dragomanref1_Take.j2 k x0 x4 x5 x6 false))
def dragomanref1_Take.j2 : Nat → ByteArray → Int → Int → Int → Bool → Option (Int × Int)
  | 0, _, _, _, _, _ => none
  | k + 1, x0, x4, x5, x6, x32 => if x32 = true then (dragomanref1_Take.j3 k x0 2 (wrap64 (x4 - 192))) else (if x4 ≥ 128 then (some (0, 0)) else (dragomanref1_Take.j3 k x0 x5 x6))
end
def dragomanref1_Take.f (k : Nat) (a0 : ByteArray) : Option (Int × Int) := if a0.toList = ([] : List UInt8) then (some (0, 0)) else (if 0 < (a0.size : Int) then (if (wrap64 (bt a0 0)) ≥ 240 then (dragomanref1_Take.j0 k a0 (wrap64 (bt a0 0)) 1 (wrap64 (bt a0 0)) (decide ((wrap64 (bt a0 0)) < 248))) else (dragomanref1_Take.j0 k a0 (wrap64 (bt a0 0)) 1 (wrap64 (bt a0 0)) false)) else (none))
set_option maxHeartbeats 8000000 in
set_option maxRecDepth 100000 in
theorem dragomanref1_Take.calls (k : Nat) (a0 : ByteArray) (r1 : Int) (r2 : Int) (w : World) (h : dragomanref1_Take.f k a0 = some (r1, r2)) :
    Calls Tryd.prog 47 #[.string a0] w fun e w' => e = .returned (.tuple #[.int .i64 r1, .int .i64 r2]) ∧ Below w.heap.size w w' := by
  have HB := Aside0.mk (Below.refl w.heap.size w)
  have H : (if a0.toList = ([] : List UInt8) then (some (0, 0)) else (if 0 < (a0.size : Int) then (if (wrap64 (bt a0 0)) ≥ 240 then (dragomanref1_Take.j0 k a0 (wrap64 (bt a0 0)) 1 (wrap64 (bt a0 0)) (decide ((wrap64 (bt a0 0)) < 248))) else (dragomanref1_Take.j0 k a0 (wrap64 (bt a0 0)) 1 (wrap64 (bt a0 0)) false)) else (none))) = some (r1, r2) := h
  clear h
  by_cases c2 : a0.toList = ([] : List UInt8)
  · rw [if_pos c2] at H
    have c2b0 : (a0.toList == ([] : List UInt8)) = true := beq_iff_eq.mpr c2
    have c2b1 : (a0.toList != ([] : List UInt8)) = false := bne_eq_false_iff_eq.mpr c2
    clear c2
    simp only [Option.some.injEq, Prod.mk.injEq] at H
    obtain ⟨rfl, rfl⟩ := H
    go_enter Tryd.func47, Tryd.ntmps47
    go_wp2
    go_ret2
    exact ⟨by first | rfl | (simp [errW_none, errW_some] <;> rfl) | (simp [*, errW_none, errW_some, bne]; done) | (simp [*, errW_none, errW_some] <;> rfl), by repeat (first | (with_reducible first | exact HB.out | apply below_alloc | apply pw_below_drewN | apply below_drew1) | exact HB.out)⟩
  · rw [if_neg c2] at H
    have c2b0 : (a0.toList == ([] : List UInt8)) = false := beq_eq_false_iff_ne.mpr c2
    have c2b1 : (a0.toList != ([] : List UInt8)) = true := bne_iff_ne.mpr c2
    by_cases c3 : 0 < (a0.size : Int)
    · rw [if_pos c3] at H
      have c3b0 : decide (0 < (a0.size : Int)) = true := decide_eq_true c3
      have c3b1 : decide (0 < a0.size) = true := decide_eq_true (by omega)
      clear c3
      have HC5 := Aside0.mk H
      clear H
      have p4 : 0 ≤ (0 : Int) := (by omega)
      have q4 : 0 < a0.size := (by have : (0 : Int) < (a0.size : Int) := of_decide_eq_true (by first | (with_reducible assumption) | assumption); omega)
      have hx4 : ∀ h : 0 < a0.size, ((a0[0]'h).toNat : Int) = bt a0 0 := bt_at a0 0
      clear p4
      have qi4 : (0 < (a0.size : Int)) = True := eq_true (of_decide_eq_true (by first | (with_reducible assumption) | assumption))
      replace q4 := eq_true q4
      go_enter Tryd.func47, Tryd.ntmps47
      go_upto_block 0 with (fail)
      go_cut [5, 6] (fun v5 v6 wc => ∃ (kq : Nat) (x5_4 : Int) (x6_4 : Int), v5 = .int .i64 x5_4 ∧ v6 = .int .i64 x6_4 ∧ Aside0 (dragomanref1_Take.j3 kq a0 x5_4 x6_4 = some (r1, r2)) ∧ Aside0 (kq ≤ k) ∧ Aside0 (Below w.heap.size w wc))
      case first =>
        have H := HC5.out
        clear HC5
        have HC6 := Aside0.mk H
        clear H
        go_upto_region 5 with (fail)
        go_cut [14] (fun v14 wc => ∃ (kq : Nat) (x14_5 : Bool), v14 = .bool x14_5 ∧ Aside0 (dragomanref1_Take.j0 kq a0 (wrap64 (bt a0 0)) 1 (wrap64 (bt a0 0)) x14_5 = some (r1, r2)) ∧ Aside0 (kq ≤ k) ∧ Aside0 (Below w.heap.size w wc))
        case first =>
          have H := HC6.out
          clear HC6
          by_cases c7 : (wrap64 (bt a0 0)) ≥ 240
          · rw [if_pos c7] at H
            have c7b0 : decide (240 ≤ (wrap64 (bt a0 0))) = true := decide_eq_true c7
            clear c7
            (first | rw [c7b0] | (simp only [i64_w, i32_w]; rw [c7b0]) | skip)
            have H' := Aside0.mk H
            clear H
            go_wp2
            go_meet
            case rel => exact ⟨_, (decide ((wrap64 (bt a0 0)) < 248)), (by first | rfl | (simp; done) | (simp [*]; done)), H', ⟨by first | omega | exact Nat.le_refl _⟩, ⟨by repeat (first | (with_reducible first | exact HB.out | apply below_alloc | apply pw_below_drewN | apply below_drew1) | exact HB.out)⟩⟩
          · rw [if_neg c7] at H
            have c7b0 : decide (240 ≤ (wrap64 (bt a0 0))) = false := decide_eq_false c7
            clear c7
            (first | rw [c7b0] | (simp only [i64_w, i32_w]; rw [c7b0]) | skip)
            have H' := Aside0.mk H
            clear H
            go_wp2
            go_meet
            case rel => exact ⟨_, (false), (by first | rfl | (simp; done) | (simp [*]; done)), H', ⟨by first | omega | exact Nat.le_refl _⟩, ⟨by repeat (first | (with_reducible first | exact HB.out | apply below_alloc | apply pw_below_drewN | apply below_drew1) | exact HB.out)⟩⟩
        case rest =>
          clear HC6
          try clear c2
          try clear c2b0
          try clear c2b1
          try clear p2
          try clear c3
          try clear c3b0
          try clear c3b1
          try clear c4
          try clear p4
          try clear q4
          try clear hx4
          try clear qi4
          try clear p6
          try clear c7
          try clear c7b0
          try clear p4
          try clear q4
          obtain ⟨kq, x14_5, rfl, HA, HJ5, HB⟩ := hcut
          cases kq with
          | zero => exact absurd HA.out (by simp [dragomanref1_Take.j0])
          | succ kj5 =>
            have H := HA.out
            clear HA
            simp only [dragomanref1_Take.j0] at H
            by_cases c8 : x14_5 = true
            · subst c8
              have H1 : (dragomanref1_Take.j3 kj5 a0 4 (wrap64 ((wrap64 (bt a0 0)) - 240))) = some (r1, r2) := by rw [if_pos rfl] at H; exact H
              clear H
              have H := H1
              clear H1
              have H' := Aside0.mk H
              clear H
              go_wp2
              go_meet
              case rel => exact ⟨_, (4), (wrap64 ((wrap64 (bt a0 0)) - 240)), (by first | rfl | (simp; done) | (simp [*]; done)), (by first | rfl | (simp; done) | (simp [*]; done)), H', ⟨by have := HJ5.out; first | omega | exact Nat.le_refl _⟩, ⟨by repeat (first | (with_reducible first | exact HB.out | apply below_alloc | apply pw_below_drewN | apply below_drew1) | exact HB.out)⟩⟩
            · replace c8 := Bool.eq_false_iff.mpr c8
              subst c8
              have H1 : (if (wrap64 (bt a0 0)) ≥ 224 then (dragomanref1_Take.j1 kj5 a0 (wrap64 (bt a0 0)) 1 (wrap64 (bt a0 0)) (decide ((wrap64 (bt a0 0)) < 240))) else (dragomanref1_Take.j1 kj5 a0 (wrap64 (bt a0 0)) 1 (wrap64 (bt a0 0)) false)) = some (r1, r2) := by rw [if_neg (show ¬ (false = true) by decide)] at H; exact H
              clear H
              have H := H1
              clear H1
              have HC9 := Aside0.mk H
              clear H
              go_upto_region 7 with (fail)
              go_cut [23] (fun v23 wc => ∃ (kq : Nat) (x23_8 : Bool), v23 = .bool x23_8 ∧ Aside0 (dragomanref1_Take.j1 kq a0 (wrap64 (bt a0 0)) 1 (wrap64 (bt a0 0)) x23_8 = some (r1, r2)) ∧ Aside0 (kq ≤ kj5) ∧ Aside0 (Below w.heap.size w wc))
              case first =>
                have H := HC9.out
                clear HC9
                by_cases c10 : (wrap64 (bt a0 0)) ≥ 224
                · rw [if_pos c10] at H
                  have c10b0 : decide (224 ≤ (wrap64 (bt a0 0))) = true := decide_eq_true c10
                  clear c10
                  (first | rw [c10b0] | (simp only [i64_w, i32_w]; rw [c10b0]) | skip)
                  have H' := Aside0.mk H
                  clear H
                  go_wp2
                  go_meet
                  case rel => exact ⟨_, (decide ((wrap64 (bt a0 0)) < 240)), (by first | rfl | (simp; done) | (simp [*]; done)), H', ⟨by have := HJ5.out; first | omega | exact Nat.le_refl _⟩, ⟨by repeat (first | (with_reducible first | exact HB.out | apply below_alloc | apply pw_below_drewN | apply below_drew1) | exact HB.out)⟩⟩
                · rw [if_neg c10] at H
                  have c10b0 : decide (224 ≤ (wrap64 (bt a0 0))) = false := decide_eq_false c10
                  clear c10
                  (first | rw [c10b0] | (simp only [i64_w, i32_w]; rw [c10b0]) | skip)
                  have H' := Aside0.mk H
                  clear H
                  go_wp2
                  go_meet
                  case rel => exact ⟨_, (false), (by first | rfl | (simp; done) | (simp [*]; done)), H', ⟨by have := HJ5.out; first | omega | exact Nat.le_refl _⟩, ⟨by repeat (first | (with_reducible first | exact HB.out | apply below_alloc | apply pw_below_drewN | apply below_drew1) | exact HB.out)⟩⟩
              case rest =>
                clear HC9
                try clear c1
                try clear c2
                try clear c2b0
                try clear c2b1
                try clear p2
                try clear c3
                try clear c3b0
                try clear c3b1
                try clear c4
                try clear p4
                try clear q4
                try clear hx4
                try clear qi4
                try clear p6
                try clear c7
                try clear c7b0
                try clear c8
                try clear c10
                try clear c10b0
                try clear p2
                try clear p4
                try clear p6
                try clear q4
                obtain ⟨kq, x23_8, rfl, HA, HJ8, HB⟩ := hcut
                cases kq with
                | zero => exact absurd HA.out (by simp [dragomanref1_Take.j1])
                | succ kj8 =>
                  have H := HA.out
                  clear HA
                  simp only [dragomanref1_Take.j1] at H
                  by_cases c11 : x23_8 = true
                  · subst c11
                    have H1 : (dragomanref1_Take.j3 kj8 a0 3 (wrap64 ((wrap64 (bt a0 0)) - 224))) = some (r1, r2) := by rw [if_pos rfl] at H; exact H
                    clear H
                    have H := H1
                    clear H1
                    have H' := Aside0.mk H
                    clear H
                    go_wp2
                    go_meet
                    case rel => exact ⟨_, (3), (wrap64 ((wrap64 (bt a0 0)) - 224)), (by first | rfl | (simp; done) | (simp [*]; done)), (by first | rfl | (simp; done) | (simp [*]; done)), H', ⟨by have := HJ5.out; have := HJ8.out; first | omega | exact Nat.le_refl _⟩, ⟨by repeat (first | (with_reducible first | exact HB.out | apply below_alloc | apply pw_below_drewN | apply below_drew1) | exact HB.out)⟩⟩
                  · replace c11 := Bool.eq_false_iff.mpr c11
                    subst c11
                    have H1 : (if (wrap64 (bt a0 0)) ≥ 192 then (dragomanref1_Take.j2 kj8 a0 (wrap64 (bt a0 0)) 1 (wrap64 (bt a0 0)) (decide ((wrap64 (bt a0 0)) < 224))) else (dragomanref1_Take.j2 kj8 a0 (wrap64 (bt a0 0)) 1 (wrap64 (bt a0 0)) false)) = some (r1, r2) := by rw [if_neg (show ¬ (false = true) by decide)] at H; exact H
                    clear H
                    have H := H1
                    clear H1
                    have HC12 := Aside0.mk H
                    clear H
                    go_upto_region 9 with (fail)
                    go_cut [32] (fun v32 wc => ∃ (kq : Nat) (x32_11 : Bool), v32 = .bool x32_11 ∧ Aside0 (dragomanref1_Take.j2 kq a0 (wrap64 (bt a0 0)) 1 (wrap64 (bt a0 0)) x32_11 = some (r1, r2)) ∧ Aside0 (kq ≤ kj8) ∧ Aside0 (Below w.heap.size w wc))
                    case first =>
                      have H := HC12.out
                      clear HC12
                      by_cases c13 : (wrap64 (bt a0 0)) ≥ 192
                      · rw [if_pos c13] at H
                        have c13b0 : decide (192 ≤ (wrap64 (bt a0 0))) = true := decide_eq_true c13
                        clear c13
                        (first | rw [c13b0] | (simp only [i64_w, i32_w]; rw [c13b0]) | skip)
                        have H' := Aside0.mk H
                        clear H
                        go_wp2
                        go_meet
                        case rel => exact ⟨_, (decide ((wrap64 (bt a0 0)) < 224)), (by first | rfl | (simp; done) | (simp [*]; done)), H', ⟨by have := HJ5.out; have := HJ8.out; first | omega | exact Nat.le_refl _⟩, ⟨by repeat (first | (with_reducible first | exact HB.out | apply below_alloc | apply pw_below_drewN | apply below_drew1) | exact HB.out)⟩⟩
                      · rw [if_neg c13] at H
                        have c13b0 : decide (192 ≤ (wrap64 (bt a0 0))) = false := decide_eq_false c13
                        clear c13
                        (first | rw [c13b0] | (simp only [i64_w, i32_w]; rw [c13b0]) | skip)
                        have H' := Aside0.mk H
                        clear H
                        go_wp2
                        go_meet
                        case rel => exact ⟨_, (false), (by first | rfl | (simp; done) | (simp [*]; done)), H', ⟨by have := HJ5.out; have := HJ8.out; first | omega | exact Nat.le_refl _⟩, ⟨by repeat (first | (with_reducible first | exact HB.out | apply below_alloc | apply pw_below_drewN | apply below_drew1) | exact HB.out)⟩⟩
                    case rest =>
                      clear HC12
                      try clear c1
                      try clear c2
                      try clear c2b0
                      try clear c2b1
                      try clear p2
                      try clear c3
                      try clear c3b0
                      try clear c3b1
                      try clear c4
                      try clear p4
                      try clear q4
                      try clear hx4
                      try clear qi4
                      try clear p6
                      try clear c7
                      try clear c7b0
                      try clear c8
                      try clear c10
                      try clear c10b0
                      try clear c11
                      try clear c13
                      try clear c13b0
                      try clear p2
                      try clear p4
                      try clear p6
                      try clear q4
                      obtain ⟨kq, x32_11, rfl, HA, HJ11, HB⟩ := hcut
                      cases kq with
                      | zero => exact absurd HA.out (by simp [dragomanref1_Take.j2])
                      | succ kj11 =>
                        have H := HA.out
                        clear HA
                        simp only [dragomanref1_Take.j2] at H
                        by_cases c14 : x32_11 = true
                        · subst c14
                          have H1 : (dragomanref1_Take.j3 kj11 a0 2 (wrap64 ((wrap64 (bt a0 0)) - 192))) = some (r1, r2) := by rw [if_pos rfl] at H; exact H
                          clear H
                          have H := H1
                          clear H1
                          have H' := Aside0.mk H
                          clear H
                          go_wp2
                          go_meet
                          case rel => exact ⟨_, (2), (wrap64 ((wrap64 (bt a0 0)) - 192)), (by first | rfl | (simp; done) | (simp [*]; done)), (by first | rfl | (simp; done) | (simp [*]; done)), H', ⟨by have := HJ5.out; have := HJ8.out; have := HJ11.out; first | omega | exact Nat.le_refl _⟩, ⟨by repeat (first | (with_reducible first | exact HB.out | apply below_alloc | apply pw_below_drewN | apply below_drew1) | exact HB.out)⟩⟩
                        · replace c14 := Bool.eq_false_iff.mpr c14
                          subst c14
                          have H1 : (if (wrap64 (bt a0 0)) ≥ 128 then (some (0, 0)) else (dragomanref1_Take.j3 kj11 a0 1 (wrap64 (bt a0 0)))) = some (r1, r2) := by rw [if_neg (show ¬ (false = true) by decide)] at H; exact H
                          clear H
                          have H := H1
                          clear H1
                          by_cases c15 : (wrap64 (bt a0 0)) ≥ 128
                          · rw [if_pos c15] at H
                            have c15b0 : decide (128 ≤ (wrap64 (bt a0 0))) = true := decide_eq_true c15
                            clear c15
                            simp only [Option.some.injEq, Prod.mk.injEq] at H
                            obtain ⟨rfl, rfl⟩ := H
                            go_wp2
                            go_ret2
                            exact ⟨by first | rfl | (simp [errW_none, errW_some] <;> rfl) | (simp [*, errW_none, errW_some, bne]; done) | (simp [*, errW_none, errW_some] <;> rfl), by repeat (first | (with_reducible first | exact HB.out | apply below_alloc | apply pw_below_drewN | apply below_drew1) | exact HB.out)⟩
                          · rw [if_neg c15] at H
                            have c15b0 : decide (128 ≤ (wrap64 (bt a0 0))) = false := decide_eq_false c15
                            clear c15
                            have H' := Aside0.mk H
                            clear H
                            go_wp2
                            go_meet
                            case rel => exact ⟨_, (1), ((wrap64 (bt a0 0))), (by first | rfl | (simp; done) | (simp [*]; done)), (by first | rfl | (simp; done) | (simp [*]; done)), H', ⟨by have := HJ5.out; have := HJ8.out; have := HJ11.out; first | omega | exact Nat.le_refl _⟩, ⟨by repeat (first | (with_reducible first | exact HB.out | apply below_alloc | apply pw_below_drewN | apply below_drew1) | exact HB.out)⟩⟩
      case rest =>
        clear HC5
        try clear c1
        try clear c2
        try clear c2b0
        try clear c2b1
        try clear p2
        try clear c3
        try clear c3b0
        try clear c3b1
        try clear c4
        try clear p4
        try clear q4
        try clear hx4
        try clear qi4
        try clear p6
        try clear c7
        try clear c7b0
        try clear c8
        try clear c10
        try clear c10b0
        try clear c11
        try clear c13
        try clear c13b0
        try clear c14
        try clear c15
        try clear c15b0
        try clear p2
        try clear p4
        try clear p6
        try clear q4
        obtain ⟨kq, x5_4, x6_4, rfl, rfl, HA, HJ4, HB⟩ := hcut
        cases kq with
        | zero => exact absurd HA.out (by simp [dragomanref1_Take.j3])
        | succ kj4 =>
          have H := HA.out
          clear HA
          simp only [dragomanref1_Take.j3] at H
          by_cases c16 : (a0.size : Int) < x5_4
          · rw [if_pos c16] at H
            have c16b0 : decide ((a0.size : Int) < x5_4) = true := decide_eq_true c16
            clear c16
            simp only [Option.some.injEq, Prod.mk.injEq] at H
            obtain ⟨rfl, rfl⟩ := H
            go_wp2
            go_ret2
            exact ⟨by first | rfl | (simp [errW_none, errW_some] <;> rfl) | (simp [*, errW_none, errW_some, bne]; done) | (simp [*, errW_none, errW_some] <;> rfl), by repeat (first | (with_reducible first | exact HB.out | apply below_alloc | apply pw_below_drewN | apply below_drew1) | exact HB.out)⟩
          · rw [if_neg c16] at H
            have c16b0 : decide ((a0.size : Int) < x5_4) = false := decide_eq_false c16
            clear c16
            have H' := Aside0.mk H
            clear H
            go_wp2
            go_loopg [6, 7] kj4 (fun kq v6 v7 w' => ∃ (x6_2 : Int) (x7_2 : Int), v6 = .int .i64 x6_2 ∧ v7 = .int .i64 x7_2 ∧ Aside0 (dragomanref1_Take.l0 kq a0 x5_4 x6_2 x7_2 = some (r1, r2)) ∧ Aside0 (kq ≤ kj4) ∧ Aside0 (Below w.heap.size w w'))
            case atStart => exact ⟨(x6_4), (1), (by first | rfl | (simp; done) | (simp [*]; done)), (by first | rfl | (simp; done) | (simp [*]; done)), H', ⟨Nat.le_refl _⟩, ⟨by repeat (first | (with_reducible first | exact HB.out | apply below_alloc | apply pw_below_drewN | apply below_drew1) | exact HB.out)⟩⟩
            case round =>
              clear H'
              try clear c1
              try clear c2
              try clear c2b0
              try clear c2b1
              try clear p2
              try clear c3
              try clear c3b0
              try clear c3b1
              try clear c4
              try clear p4
              try clear q4
              try clear hx4
              try clear qi4
              try clear p6
              try clear c7
              try clear c7b0
              try clear c8
              try clear c10
              try clear c10b0
              try clear c11
              try clear c13
              try clear c13b0
              try clear c14
              try clear c15
              try clear c15b0
              try clear c16
              try clear c16b0
              try clear p2
              try clear p4
              try clear p6
              try clear q4
              obtain ⟨x6_2, x7_2, rfl, rfl, HA, HK2, HB⟩ := hrel
              cases gk with
              | zero => exact absurd HA.out (by simp [dragomanref1_Take.l0])
              | succ k2 =>
                have H := HA.out
                clear HA
                simp only [dragomanref1_Take.l0] at H
                by_cases c17 : x7_2 < x5_4
                · rw [if_pos c17] at H
                  have c17b0 : decide (x7_2 < x5_4) = true := decide_eq_true c17
                  clear c17
                  by_cases c18 : 0 ≤ x7_2
                  · rw [if_pos c18] at H
                    have c18b0 : decide (0 ≤ x7_2) = true := decide_eq_true c18
                    clear c18
                    by_cases c19 : x7_2 < (a0.size : Int)
                    · rw [if_pos c19] at H
                      have c19b0 : decide (x7_2 < (a0.size : Int)) = true := decide_eq_true c19
                      clear c19
                      by_cases c21 : (bt a0 x7_2) < 128
                      · rw [if_pos c21] at H
                        have c21b0 : decide ((bt a0 x7_2) < 128) = true := decide_eq_true c21
                        clear c21
                        simp only [Option.some.injEq, Prod.mk.injEq] at H
                        obtain ⟨rfl, rfl⟩ := H
                        have p20 : 0 ≤ (x7_2 : Int) := of_decide_eq_true (by first | (with_reducible assumption) | assumption)
                        have q20 : x7_2 < (a0.size : Int) := of_decide_eq_true (by first | (with_reducible assumption) | assumption)
                        have hx20 := bt_at a0 x7_2
                        replace p20 := eq_true p20
                        replace q20 := eq_true q20
                        go_wp2
                        go_ret2
                        exact ⟨by first | rfl | (simp [errW_none, errW_some] <;> rfl) | (simp [*, errW_none, errW_some, bne]; done) | (simp [*, errW_none, errW_some] <;> rfl), by repeat (first | (with_reducible first | exact HB.out | apply below_alloc | apply pw_below_drewN | apply below_drew1) | exact HB.out)⟩
                      · rw [if_neg c21] at H
                        have c21b0 : decide ((bt a0 x7_2) < 128) = false := decide_eq_false c21
                        clear c21
                        by_cases c23 : (bt a0 x7_2) > 191
                        · rw [if_pos c23] at H
                          have c23b0 : decide (191 < (bt a0 x7_2)) = true := decide_eq_true c23
                          clear c23
                          simp only [Option.some.injEq, Prod.mk.injEq] at H
                          obtain ⟨rfl, rfl⟩ := H
                          have p20 : 0 ≤ (x7_2 : Int) := of_decide_eq_true (by first | (with_reducible assumption) | assumption)
                          have q20 : x7_2 < (a0.size : Int) := of_decide_eq_true (by first | (with_reducible assumption) | assumption)
                          have hx20 := bt_at a0 x7_2
                          replace p20 := eq_true p20
                          replace q20 := eq_true q20
                          have p22 : 0 ≤ (x7_2 : Int) := of_decide_eq_true (by first | (with_reducible assumption) | assumption)
                          have q22 : x7_2 < (a0.size : Int) := of_decide_eq_true (by first | (with_reducible assumption) | assumption)
                          have hx22 := bt_at a0 x7_2
                          replace p22 := eq_true p22
                          replace q22 := eq_true q22
                          go_wp2
                          go_ret2
                          exact ⟨by first | rfl | (simp [errW_none, errW_some] <;> rfl) | (simp [*, errW_none, errW_some, bne]; done) | (simp [*, errW_none, errW_some] <;> rfl), by repeat (first | (with_reducible first | exact HB.out | apply below_alloc | apply pw_below_drewN | apply below_drew1) | exact HB.out)⟩
                        · rw [if_neg c23] at H
                          have c23b0 : decide (191 < (bt a0 x7_2)) = false := decide_eq_false c23
                          clear c23
                          have H' := Aside0.mk H
                          clear H
                          have p20 : 0 ≤ (x7_2 : Int) := of_decide_eq_true (by first | (with_reducible assumption) | assumption)
                          have q20 : x7_2 < (a0.size : Int) := of_decide_eq_true (by first | (with_reducible assumption) | assumption)
                          have hx20 := bt_at a0 x7_2
                          replace p20 := eq_true p20
                          replace q20 := eq_true q20
                          have p22 : 0 ≤ (x7_2 : Int) := of_decide_eq_true (by first | (with_reducible assumption) | assumption)
                          have q22 : x7_2 < (a0.size : Int) := of_decide_eq_true (by first | (with_reducible assumption) | assumption)
                          have hx22 := bt_at a0 x7_2
                          replace p22 := eq_true p22
                          replace q22 := eq_true q22
                          have p24 : 0 ≤ (x7_2 : Int) := of_decide_eq_true (by first | (with_reducible assumption) | assumption)
                          have q24 : x7_2 < (a0.size : Int) := of_decide_eq_true (by first | (with_reducible assumption) | assumption)
                          have hx24 := bt_at a0 x7_2
                          replace p24 := eq_true p24
                          replace q24 := eq_true q24
                          go_wp2
                          go_roundg k2
                          case measure => have := HJ4.out; have := HK2.out; omega
                          case rel => exact ⟨(wrap64 ((wrap64 ((wrap64 (64 * x6_2)) + (wrap64 (bt a0 x7_2)))) - 128)), (wrap64 (x7_2 + 1)), (by first | rfl | (simp; done) | (simp [*]; done)), (by first | rfl | (simp; done) | (simp [*]; done)), H', ⟨by have := HJ4.out; have := HK2.out; omega⟩, ⟨by repeat (first | (with_reducible first | exact HB.out | apply below_alloc | apply pw_below_drewN | apply below_drew1) | exact HB.out)⟩⟩
                    · rw [if_neg c19] at H
                      exact absurd H (by simp)
                  · rw [if_neg c18] at H
                    exact absurd H (by simp)
                · rw [if_neg c17] at H
                  have c17b0 : decide (x7_2 < x5_4) = false := decide_eq_false c17
                  clear c17
                  replace H := Option.bind_eq_some_iff.mp H
                  obtain ⟨t338, A250, H⟩ := H
                  replace H : (if 0 ≤ x5_4 then (if x5_4 ≤ (a0.size : Int) then (if t338.toList = (a0.extract 0 (x5_4 : Int).toNat).toList then (some (x6_2, x5_4)) else (some (0, 0))) else (none)) else (none)) = some (r1, r2) := H
                  have A25 := Aside0.mk A250
                  clear A250
                  by_cases c26 : 0 ≤ x5_4
                  · rw [if_pos c26] at H
                    have c26b0 := eq_true c26
                    have c26b1 : decide (0 ≤ x5_4) = true := decide_eq_true c26
                    clear c26
                    by_cases c27 : x5_4 ≤ (a0.size : Int)
                    · rw [if_pos c27] at H
                      have c27b0 := eq_true c27
                      have c27b1 : decide (x5_4 ≤ (a0.size : Int)) = true := decide_eq_true c27
                      clear c27
                      by_cases c28 : t338.toList = (a0.extract 0 (x5_4 : Int).toNat).toList
                      · rw [if_pos c28] at H
                        have c28b0 : (t338.toList == (a0.extract 0 (x5_4 : Int).toNat).toList) = true := beq_iff_eq.mpr c28
                        have c28b1 : (t338.toList != (a0.extract 0 (x5_4 : Int).toNat).toList) = false := bne_eq_false_iff_eq.mpr c28
                        clear c28
                        simp only [Option.some.injEq, Prod.mk.injEq] at H
                        obtain ⟨rfl, rfl⟩ := H
                        try go_wp2
                        have n0_ := Aside0.mk (below_drew1 HB.out)
                        clear HB
                        have HB := n0_
                        clear n0_
                        refine start_ (n := 6) (S := fun w' => True) (ds := []) #[false, false, false, false, false, false] (by kernel_rfl) rfl rfl trivial (fun hHeld => ?_)
                        generalize wr.drew = w29 at HB hHeld ⊢
                        refine pure_ (i := 0) (N := some 71) (v := ?_) (a' := ?_) #[true, false, false, false, false, false] rfl rfl (by kernel_rfl) (fun _ _ _ h => h) (Or.inl ⟨by rfl, ?_⟩) ?_ ?_
                        rotate_left
                        · intro w'
                          go_simp
                          with_reducible rfl
                        rotate_left
                        · simp only [Act.put, List.setIfInBounds_toArray, List.set_cons_zero, List.set_cons_succ, i64_w, i32_w]
                          rfl
                        refine pure_ (i := 2) (N := some 73) (v := ?_) (a' := ?_) #[true, false, true, false, false, false] rfl rfl (by kernel_rfl) (fun _ _ _ h => h) (Or.inl ⟨by rfl, ?_⟩) ?_ ?_
                        rotate_left
                        · intro w'
                          go_simp
                          with_reducible rfl
                        rotate_left
                        · simp only [Act.put, List.setIfInBounds_toArray, List.set_cons_zero, List.set_cons_succ, i64_w, i32_w]
                          rfl
                        refine pure_ (i := 3) (N := some 74) (v := ?_) (a' := ?_) #[true, false, true, true, false, false] rfl rfl (by kernel_rfl) (fun _ _ _ h => h) (Or.inl ⟨by rfl, ?_⟩) ?_ ?_
                        rotate_left
                        · intro w'
                          go_simp
                          with_reducible rfl
                        rotate_left
                        · simp only [Act.put, List.setIfInBounds_toArray, List.set_cons_zero, List.set_cons_succ, i64_w, i32_w]
                          rfl
                        refine pure_ (i := 4) (N := some 75) (v := ?_) (a' := ?_) #[true, false, true, true, true, false] rfl rfl (by kernel_rfl) (fun _ _ _ h => h) (Or.inl ⟨by rfl, ?_⟩) ?_ ?_
                        rotate_left
                        · intro w'
                          go_simp
                          with_reducible rfl
                        rotate_left
                        · simp only [Act.put, List.setIfInBounds_toArray, List.set_cons_zero, List.set_cons_succ, i64_w, i32_w]
                          rfl
                        refine one_ (i := 1) (N := some 72) #[true, true, true, true, true, false] rfl rfl (by kernel_rfl) (by decide) (fun K hK => ?_)
                        refine goes_ Tryd.func27 (by kernel_rfl) rfl #[.int .i64 x6_2] (by rfl) rfl rfl (by (try simp only [List.map_toArray, List.map_cons, List.map_nil]); first | done | rfl | (simp only [List.length_drop, List.length_take]; rfl)) ?_
                        with_reducible refine (dragomanref1_Put.calls x6_2 t338 _ A25.out).mono ?_
                        rintro e w30 ⟨rfl, hb⟩
                        refine ⟨_, rfl, ?_⟩
                        have n0_ := Aside0.mk (below_step (by repeat (first | (with_reducible first | exact HB.out | apply below_alloc | apply pw_below_drewN | apply below_drew1) | exact HB.out)) hb)
                        clear HB
                        have HB := n0_
                        clear n0_
                        (try clear hb)
                        (try clear hb2)
                        (try clear hk)
                        (try clear hi)
                        refine hK.out _ _ trivial (fun hHeld => ?_)
                        clear hK K
                        refine norm_ (a' := ?_) ?_ ?_
                        rotate_left
                        · show Act.put _ (some 72) _ = _
                          simp only [Act.put, List.setIfInBounds_toArray, List.set_cons_zero, List.set_cons_succ, i64_w, i32_w]
                          rfl
                        refine pure_ (i := 5) (N := some 76) (v := ?_) (a' := ?_) #[true, true, true, true, true, true] rfl rfl (by kernel_rfl) (fun _ _ _ h => h) (Or.inl ⟨by rfl, ?_⟩) ?_ ?_
                        rotate_left
                        · intro w'
                          go_simp
                          with_reducible rfl
                        rotate_left
                        · simp only [Act.put, List.setIfInBounds_toArray, List.set_cons_zero, List.set_cons_succ, i64_w, i32_w]
                          rfl
                        refine done_ (by kernel_rfl) ?_
                        try go_wp2
                        go_ret2
                        exact ⟨by first | rfl | (simp [errW_none, errW_some] <;> rfl) | (simp [*, errW_none, errW_some, bne]; done) | (simp [*, errW_none, errW_some] <;> rfl), by repeat (first | (with_reducible first | exact HB.out | apply below_alloc | apply pw_below_drewN | apply below_drew1) | exact HB.out)⟩
                      · rw [if_neg c28] at H
                        have c28b0 : (t338.toList == (a0.extract 0 (x5_4 : Int).toNat).toList) = false := beq_eq_false_iff_ne.mpr c28
                        have c28b1 : (t338.toList != (a0.extract 0 (x5_4 : Int).toNat).toList) = true := bne_iff_ne.mpr c28
                        simp only [Option.some.injEq, Prod.mk.injEq] at H
                        obtain ⟨rfl, rfl⟩ := H
                        try go_wp2
                        have n0_ := Aside0.mk (below_drew1 HB.out)
                        clear HB
                        have HB := n0_
                        clear n0_
                        refine start_ (n := 6) (S := fun w' => True) (ds := []) #[false, false, false, false, false, false] (by kernel_rfl) rfl rfl trivial (fun hHeld => ?_)
                        generalize wr.drew = w31 at HB hHeld ⊢
                        refine pure_ (i := 0) (N := some 71) (v := ?_) (a' := ?_) #[true, false, false, false, false, false] rfl rfl (by kernel_rfl) (fun _ _ _ h => h) (Or.inl ⟨by rfl, ?_⟩) ?_ ?_
                        rotate_left
                        · intro w'
                          go_simp
                          with_reducible rfl
                        rotate_left
                        · simp only [Act.put, List.setIfInBounds_toArray, List.set_cons_zero, List.set_cons_succ, i64_w, i32_w]
                          rfl
                        refine pure_ (i := 2) (N := some 73) (v := ?_) (a' := ?_) #[true, false, true, false, false, false] rfl rfl (by kernel_rfl) (fun _ _ _ h => h) (Or.inl ⟨by rfl, ?_⟩) ?_ ?_
                        rotate_left
                        · intro w'
                          go_simp
                          with_reducible rfl
                        rotate_left
                        · simp only [Act.put, List.setIfInBounds_toArray, List.set_cons_zero, List.set_cons_succ, i64_w, i32_w]
                          rfl
                        refine pure_ (i := 3) (N := some 74) (v := ?_) (a' := ?_) #[true, false, true, true, false, false] rfl rfl (by kernel_rfl) (fun _ _ _ h => h) (Or.inl ⟨by rfl, ?_⟩) ?_ ?_
                        rotate_left
                        · intro w'
                          go_simp
                          with_reducible rfl
                        rotate_left
                        · simp only [Act.put, List.setIfInBounds_toArray, List.set_cons_zero, List.set_cons_succ, i64_w, i32_w]
                          rfl
                        refine pure_ (i := 4) (N := some 75) (v := ?_) (a' := ?_) #[true, false, true, true, true, false] rfl rfl (by kernel_rfl) (fun _ _ _ h => h) (Or.inl ⟨by rfl, ?_⟩) ?_ ?_
                        rotate_left
                        · intro w'
                          go_simp
                          with_reducible rfl
                        rotate_left
                        · simp only [Act.put, List.setIfInBounds_toArray, List.set_cons_zero, List.set_cons_succ, i64_w, i32_w]
                          rfl
                        refine one_ (i := 1) (N := some 72) #[true, true, true, true, true, false] rfl rfl (by kernel_rfl) (by decide) (fun K hK => ?_)
                        refine goes_ Tryd.func27 (by kernel_rfl) rfl #[.int .i64 x6_2] (by rfl) rfl rfl (by (try simp only [List.map_toArray, List.map_cons, List.map_nil]); first | done | rfl | (simp only [List.length_drop, List.length_take]; rfl)) ?_
                        with_reducible refine (dragomanref1_Put.calls x6_2 t338 _ A25.out).mono ?_
                        rintro e w32 ⟨rfl, hb⟩
                        refine ⟨_, rfl, ?_⟩
                        have n0_ := Aside0.mk (below_step (by repeat (first | (with_reducible first | exact HB.out | apply below_alloc | apply pw_below_drewN | apply below_drew1) | exact HB.out)) hb)
                        clear HB
                        have HB := n0_
                        clear n0_
                        (try clear hb)
                        (try clear hb2)
                        (try clear hk)
                        (try clear hi)
                        refine hK.out _ _ trivial (fun hHeld => ?_)
                        clear hK K
                        refine norm_ (a' := ?_) ?_ ?_
                        rotate_left
                        · show Act.put _ (some 72) _ = _
                          simp only [Act.put, List.setIfInBounds_toArray, List.set_cons_zero, List.set_cons_succ, i64_w, i32_w]
                          rfl
                        refine pure_ (i := 5) (N := some 76) (v := ?_) (a' := ?_) #[true, true, true, true, true, true] rfl rfl (by kernel_rfl) (fun _ _ _ h => h) (Or.inl ⟨by rfl, ?_⟩) ?_ ?_
                        rotate_left
                        · intro w'
                          go_simp
                          with_reducible rfl
                        rotate_left
                        · simp only [Act.put, List.setIfInBounds_toArray, List.set_cons_zero, List.set_cons_succ, i64_w, i32_w]
                          rfl
                        refine done_ (by kernel_rfl) ?_
                        try go_wp2
                        go_ret2
                        exact ⟨by first | rfl | (simp [errW_none, errW_some] <;> rfl) | (simp [*, errW_none, errW_some, bne]; done) | (simp [*, errW_none, errW_some] <;> rfl), by repeat (first | (with_reducible first | exact HB.out | apply below_alloc | apply pw_below_drewN | apply below_drew1) | exact HB.out)⟩
                    · rw [if_neg c27] at H
                      exact absurd H (by simp)
                  · rw [if_neg c26] at H
                    exact absurd H (by simp)
    · rw [if_neg c3] at H
      exact absurd H (by simp)
end Go.Proofs.YtoanbmggffkmgaaDoor.P
end
section
namespace Go.Proofs.YtoanbmggffkmgaaDoor.P
open Go.RowKit Go.Proofs.YtoanbmggffkmgaaDoorW.PrintWords Go.Proofs.YtoanbmggffkmgaaDoorW.PrintLast Go.Proofs.YtoanbmggffkmgaaDoorW.PrintMore
attribute [local go_sem] max2_int min2_int max_two min_two max_three min_three max_four min_four   -- for this text's walks alone
set_option linter.unusedVariables false
set_option linter.unusedSimpArgs false
/-! ### dragomanref1_Valid: function 25 -/
def dragomanref1_Valid.l0 : Nat → ByteArray → Int → Option (Int)
  | 0, _, _ => none
  | k + 1, x0, x3 => if x3 < (x0.size : Int) then (if 0 ≤ x3 then (if x3 ≤ (x0.size : Int) then ((dragomanref1_Take.f k (x0.extract (x3 : Int).toNat x0.size)).bind fun bt339 => (if bt339.2 = 0 then (some x3) else (dragomanref1_Valid.l0 k x0 (wrap64 (x3 + bt339.2))))) else (none)) else (none)) else (some (-1))
def dragomanref1_Valid.f (k : Nat) (a0 : ByteArray) : Option (Int) := dragomanref1_Valid.l0 k a0 0
set_option maxHeartbeats 8000000 in
set_option maxRecDepth 100000 in
theorem dragomanref1_Valid.calls (k : Nat) (a0 : ByteArray) (r : Int) (w : World) (h : dragomanref1_Valid.f k a0 = some r) :
    Calls Tryd.prog 25 #[.string a0] w fun e w' => e = .returned (.int .i64 r) ∧ Below w.heap.size w w' := by
  have HB := Aside0.mk (Below.refl w.heap.size w)
  have H : (dragomanref1_Valid.l0 k a0 0) = some r := h
  clear h
  have H' := Aside0.mk H
  clear H
  go_enter Tryd.func25, Tryd.ntmps25
  go_wp2
  go_loopg [3] k (fun kq v3 w' => ∃ (x3_1 : Int), v3 = .int .i64 x3_1 ∧ Aside0 (dragomanref1_Valid.l0 kq a0 x3_1 = some r) ∧ Aside0 (kq ≤ k) ∧ Aside0 (Below w.heap.size w w'))
  case atStart => exact ⟨(0), (by first | rfl | (simp; done) | (simp [*]; done)), H', ⟨Nat.le_refl _⟩, ⟨by repeat (first | (with_reducible first | exact HB.out | apply below_alloc | apply pw_below_drewN | apply below_drew1) | exact HB.out)⟩⟩
  case round =>
    clear H'
    obtain ⟨x3_1, rfl, HA, HK1, HB⟩ := hrel
    cases gk with
    | zero => exact absurd HA.out (by simp [dragomanref1_Valid.l0])
    | succ k1 =>
      have H := HA.out
      clear HA
      simp only [dragomanref1_Valid.l0] at H
      by_cases c2 : x3_1 < (a0.size : Int)
      · rw [if_pos c2] at H
        have c2b0 : decide (x3_1 < (a0.size : Int)) = true := decide_eq_true c2
        clear c2
        by_cases c3 : 0 ≤ x3_1
        · rw [if_pos c3] at H
          have c3b0 := eq_true c3
          have c3b1 : decide (0 ≤ x3_1) = true := decide_eq_true c3
          clear c3
          by_cases c4 : x3_1 ≤ (a0.size : Int)
          · rw [if_pos c4] at H
            have c4b0 := eq_true c4
            have c4b1 : decide (x3_1 ≤ (a0.size : Int)) = true := decide_eq_true c4
            clear c4
            replace H := Option.bind_eq_some_iff.mp H
            obtain ⟨⟨t339, t340⟩, A50, H⟩ := H
            replace H : (if t340 = 0 then (some x3_1) else (dragomanref1_Valid.l0 k1 a0 (wrap64 (x3_1 + t340)))) = some r := H
            have A5 := Aside0.mk A50
            clear A50
            by_cases c6 : t340 = 0
            · rw [if_pos c6] at H
              have c6b0 : (t340 == 0) = true := beq_iff_eq.mpr c6
              have c6b1 : (t340 != 0) = false := bne_eq_false_iff_eq.mpr c6
              clear c6
              obtain rfl := Option.some.inj H
              go_wp2_with (first | ((with_reducible refine gate_callee (f := 47) rfl ?_); refine goesL_ (some 14) rfl rfl Tryd.func47 (by kernel_rfl) rfl #[.string (a0.extract (x3_1 : Int).toNat a0.size)] rfl (by (try simp only [List.map_toArray, List.map_cons, List.map_nil]); first | done | rfl | (simp only [List.length_drop, List.length_take]; rfl)) ?_; (with_reducible refine (dragomanref1_Take.calls k1 (a0.extract (x3_1 : Int).toNat a0.size) t339 t340 _ A5.out).mono ?_); rintro e w7 ⟨rfl, hb⟩; refine ⟨_, rfl, ?_⟩; have n0_ := Aside0.mk (below_step (by repeat (first | (with_reducible first | exact HB.out | apply below_alloc | apply pw_below_drewN | apply below_drew1) | exact HB.out)) hb); clear HB; have HB := n0_; clear n0_; (try clear hb); (try clear hb2); (try clear hk); (try clear hi)))
              go_ret
              exact ⟨by first | rfl | (simp [errW_none, errW_some] <;> rfl) | (simp [*, errW_none, errW_some, bne]; done) | (simp [*, errW_none, errW_some] <;> rfl), by repeat (first | (with_reducible first | exact HB.out | apply below_alloc | apply pw_below_drewN | apply below_drew1) | exact HB.out)⟩
            · rw [if_neg c6] at H
              have c6b0 : (t340 == 0) = false := beq_eq_false_iff_ne.mpr c6
              have c6b1 : (t340 != 0) = true := bne_iff_ne.mpr c6
              have H' := Aside0.mk H
              clear H
              go_wp2_with (first | ((with_reducible refine gate_callee (f := 47) rfl ?_); refine goesL_ (some 14) rfl rfl Tryd.func47 (by kernel_rfl) rfl #[.string (a0.extract (x3_1 : Int).toNat a0.size)] rfl (by (try simp only [List.map_toArray, List.map_cons, List.map_nil]); first | done | rfl | (simp only [List.length_drop, List.length_take]; rfl)) ?_; (with_reducible refine (dragomanref1_Take.calls k1 (a0.extract (x3_1 : Int).toNat a0.size) t339 t340 _ A5.out).mono ?_); rintro e w8 ⟨rfl, hb⟩; refine ⟨_, rfl, ?_⟩; have n0_ := Aside0.mk (below_step (by repeat (first | (with_reducible first | exact HB.out | apply below_alloc | apply pw_below_drewN | apply below_drew1) | exact HB.out)) hb); clear HB; have HB := n0_; clear n0_; (try clear hb); (try clear hb2); (try clear hk); (try clear hi)))
              go_roundg k1
              case measure => have := HK1.out; omega
              case rel => exact ⟨(wrap64 (x3_1 + t340)), (by first | rfl | (simp; done) | (simp [*]; done)), H', ⟨by have := HK1.out; omega⟩, ⟨by repeat (first | (with_reducible first | exact HB.out | apply below_alloc | apply pw_below_drewN | apply below_drew1) | exact HB.out)⟩⟩
          · rw [if_neg c4] at H
            exact absurd H (by simp)
        · rw [if_neg c3] at H
          exact absurd H (by simp)
      · rw [if_neg c2] at H
        have c2b0 : decide (x3_1 < (a0.size : Int)) = false := decide_eq_false c2
        clear c2
        obtain rfl := Option.some.inj H
        go_wp2
        go_ret
        exact ⟨by first | rfl | (simp [errW_none, errW_some] <;> rfl) | (simp [*, errW_none, errW_some, bne]; done) | (simp [*, errW_none, errW_some] <;> rfl), by repeat (first | (with_reducible first | exact HB.out | apply below_alloc | apply pw_below_drewN | apply below_drew1) | exact HB.out)⟩
end Go.Proofs.YtoanbmggffkmgaaDoor.P
end
section
namespace Go.Proofs.YtoanbmggffkmgaaDoor.P
open Go.RowKit Go.Proofs.YtoanbmggffkmgaaDoorW.PrintWords Go.Proofs.YtoanbmggffkmgaaDoorW.PrintLast Go.Proofs.YtoanbmggffkmgaaDoorW.PrintMore
attribute [local go_sem] max2_int min2_int max_two min_two max_three min_three max_four min_four   -- for this text's walks alone
attribute [-simp] ByteArray.size_extract
theorem pxdragomanref5hex_empty (l : List UInt8) : l.isEmpty = !(l != []) := by cases l <;> rfl
set_option linter.unusedVariables false
set_option linter.unusedSimpArgs false
/-! ### dragomanref5_Hex: function 24 -/
mutual
def dragomanref5_Hex.l0 : Nat → ByteArray → Int → Int → Option (Int × Bool)
  | 0, _, _, _ => none
  | k + 1, x0, x4, x5 => if x5 < (x0.size : Int) then (if 0 ≤ x5 then (if (bt x0 x5) ≥ 48 then (dragomanref5_Hex.j1 k x0 x4 x5 (bt x0 x5) (decide ((bt x0 x5) ≤ 57))) else (dragomanref5_Hex.j1 k x0 x4 x5 (bt x0 x5) false)) else (none)) else (some (x4, (x0.toList != ([] : List UInt8))))
def dragomanref5_Hex.j1 : Nat → ByteArray → Int → Int → Int → Bool → Option (Int × Bool)
  | 0, _, _, _, _, _ => none
  | k + 1, x0, x4, x5, x6, x16 => if x16 = true then (if x5 ≥ 8 then (some (0, false)) else (dragomanref5_Hex.l0 k x0 (wrap64 ((wrap64 (16 * x4)) + ((x6 - 48) % 256))) (wrap64 (x5 + 1)))) else (if x6 ≥ 97 then (dragomanref5_Hex.j2 k x0 x4 x5 x6 (decide (x6 ≤ 102))) else (dragomanref5_Hex.j2 k x0 x4 x5 x6 false))
def dragomanref5_Hex.j2 : Nat → ByteArray → Int → Int → Int → Bool → Option (Int × Bool)
  | 0, _, _, _, _, _ => none
  | k + 1, x0, x4, x5, x6, x29 => if x29 = true then (if x5 ≥ 8 then (some (0, false)) else (dragomanref5_Hex.l0 k x0 (wrap64 ((wrap64 ((wrap64 (16 * x4)) + ((x6 - 97) % 256))) + 10)) (wrap64 (x5 + 1)))) else (if x6 ≥ 65 then (dragomanref5_Hex.j3 k x0 x4 x5 x6 (decide (x6 ≤ 70))) else (dragomanref5_Hex.j3 k x0 x4 x5 x6 false))
def dragomanref5_Hex.j3 : Nat → ByteArray → Int → Int → Int → Bool → Option (Int × Bool)
  | 0, _, _, _, _, _ => none
  | k + 1, x0, x4, x5, x6, x43 => if x43 = true then (if x5 ≥ 8 then (some (0, false)) else (dragomanref5_Hex.l0 k x0 (wrap64 ((wrap64 ((wrap64 (16 * x4)) + ((x6 - 65) % 256))) + 10)) (wrap64 (x5 + 1)))) else (some (0, false))
end
def dragomanref5_Hex.f (k : Nat) (a0 : ByteArray) : Option (Int × Bool) := dragomanref5_Hex.l0 k a0 0 0
set_option maxHeartbeats 8000000 in
set_option maxRecDepth 100000 in
theorem dragomanref5_Hex.calls (k : Nat) (a0 : ByteArray) (r1 : Int) (r2 : Bool) (w : World) (h : dragomanref5_Hex.f k a0 = some (r1, r2)) :
    Calls Tryd.prog 24 #[.string a0] w fun e w' => e = .returned (.tuple #[.int .i64 r1, .bool r2]) ∧ Drawn0 w w' := by
  have H : (dragomanref5_Hex.l0 k a0 0 0) = some (r1, r2) := h
  clear h
  have H' := Aside0.mk H
  clear H
  go_enter Tryd.func24, Tryd.ntmps24
  go_wp2
  go_loopg [4, 5] k (fun kq v4 v5 w' => ∃ (x4_1 : Int) (x5_1 : Int), v4 = .int .i64 x4_1 ∧ v5 = .int .i64 x5_1 ∧ Aside0 (dragomanref5_Hex.l0 kq a0 x4_1 x5_1 = some (r1, r2)) ∧ Aside0 (kq ≤ k) ∧ Drawn0 w w')
  case atStart => exact ⟨(0), (0), (by first | rfl | (simp; done) | (simp [*]; done)), (by first | rfl | (simp; done) | (simp [*]; done)), H', ⟨Nat.le_refl _⟩, by repeat (first | exact Drawn0.refl _ | apply Drawn0.step)⟩
  case round =>
    clear H'
    obtain ⟨x4_1, x5_1, rfl, rfl, HA, HK1, ⟨m1, rfl⟩⟩ := hrel
    cases gk with
    | zero => exact absurd HA.out (by simp [dragomanref5_Hex.l0])
    | succ k1 =>
      have H := HA.out
      clear HA
      simp only [dragomanref5_Hex.l0] at H
      by_cases c2 : x5_1 < (a0.size : Int)
      · rw [if_pos c2] at H
        have c2b0 : decide (x5_1 < (a0.size : Int)) = true := decide_eq_true c2
        clear c2
        by_cases c3 : 0 ≤ x5_1
        · rw [if_pos c3] at H
          have c3b0 : decide (0 ≤ x5_1) = true := decide_eq_true c3
          clear c3
          have HC5 := Aside0.mk H
          clear H
          have p4 : 0 ≤ (x5_1 : Int) := of_decide_eq_true (by first | (with_reducible assumption) | assumption)
          have q4 : x5_1 < (a0.size : Int) := of_decide_eq_true (by first | (with_reducible assumption) | assumption)
          have hx4 := bt_at a0 x5_1
          replace p4 := eq_true p4
          replace q4 := eq_true q4
          go_upto_region 7 with (fail)
          go_cut [16] (fun v16 wc => ∃ (kq : Nat) (x16_4 : Bool), v16 = .bool x16_4 ∧ Aside0 (dragomanref5_Hex.j1 kq a0 x4_1 x5_1 (bt a0 x5_1) x16_4 = some (r1, r2)) ∧ Aside0 (kq ≤ k1) ∧ Drawn0 w wc)
          case first =>
            have H := HC5.out
            clear HC5
            by_cases c6 : (bt a0 x5_1) ≥ 48
            · rw [if_pos c6] at H
              have c6b0 : decide (48 ≤ (bt a0 x5_1)) = true := decide_eq_true c6
              clear c6
              (first | rw [c6b0] | (simp only [i64_w, i32_w]; rw [c6b0]) | skip)
              have H' := Aside0.mk H
              clear H
              go_wp2
              go_meet
              case rel => exact ⟨_, (decide ((bt a0 x5_1) ≤ 57)), (by first | rfl | (simp; done) | (simp [*]; done)), H', ⟨by have := HK1.out; first | omega | exact Nat.le_refl _⟩, by repeat (first | exact Drawn0.refl _ | apply Drawn0.step)⟩
            · rw [if_neg c6] at H
              have c6b0 : decide (48 ≤ (bt a0 x5_1)) = false := decide_eq_false c6
              clear c6
              (first | rw [c6b0] | (simp only [i64_w, i32_w]; rw [c6b0]) | skip)
              have H' := Aside0.mk H
              clear H
              go_wp2
              go_meet
              case rel => exact ⟨_, (false), (by first | rfl | (simp; done) | (simp [*]; done)), H', ⟨by have := HK1.out; first | omega | exact Nat.le_refl _⟩, by repeat (first | exact Drawn0.refl _ | apply Drawn0.step)⟩
          case rest =>
            clear HC5
            try clear c2
            try clear c2b0
            try clear p2
            try clear c3
            try clear c3b0
            try clear p4
            try clear q4
            try clear hx4
            try clear c6
            try clear c6b0
            try clear p4
            try clear q4
            obtain ⟨kq, x16_4, rfl, HA, HJ4, ⟨mc4, rfl⟩⟩ := hcut
            cases kq with
            | zero => exact absurd HA.out (by simp [dragomanref5_Hex.j1])
            | succ kj4 =>
              have H := HA.out
              clear HA
              simp only [dragomanref5_Hex.j1] at H
              by_cases c7 : x16_4 = true
              · subst c7
                have H1 : (if x5_1 ≥ 8 then (some (0, false)) else (dragomanref5_Hex.l0 kj4 a0 (wrap64 ((wrap64 (16 * x4_1)) + (((bt a0 x5_1) - 48) % 256))) (wrap64 (x5_1 + 1)))) = some (r1, r2) := by rw [if_pos rfl] at H; exact H
                clear H
                have H := H1
                clear H1
                by_cases c8 : x5_1 ≥ 8
                · rw [if_pos c8] at H
                  have c8b0 : decide (8 ≤ x5_1) = true := decide_eq_true c8
                  clear c8
                  simp only [Option.some.injEq, Prod.mk.injEq] at H
                  obtain ⟨rfl, rfl⟩ := H
                  go_wp2
                  go_ret2
                  exact ⟨by first | rfl | (simp only [bne, Bool.not_not]; done) | (rw [pxdragomanref5hex_empty]; done) | (simp; exact pxdragomanref5hex_empty _) | (simp; done) | (simp [*]; done), by repeat (first | exact Drawn0.refl _ | apply Drawn0.step)⟩
                · rw [if_neg c8] at H
                  have c8b0 : decide (8 ≤ x5_1) = false := decide_eq_false c8
                  clear c8
                  have H' := Aside0.mk H
                  clear H
                  go_wp2
                  go_roundg kj4
                  case measure => have := HK1.out; have := HJ4.out; omega
                  case rel => exact ⟨(wrap64 ((wrap64 (16 * x4_1)) + (((bt a0 x5_1) - 48) % 256))), (wrap64 (x5_1 + 1)), (by first | rfl | (simp; done) | (simp [*]; done)), (by first | rfl | (simp; done) | (simp [*]; done)), H', ⟨by have := HK1.out; have := HJ4.out; omega⟩, by repeat (first | exact Drawn0.refl _ | apply Drawn0.step)⟩
              · replace c7 := Bool.eq_false_iff.mpr c7
                subst c7
                have H1 : (if (bt a0 x5_1) ≥ 97 then (dragomanref5_Hex.j2 kj4 a0 x4_1 x5_1 (bt a0 x5_1) (decide ((bt a0 x5_1) ≤ 102))) else (dragomanref5_Hex.j2 kj4 a0 x4_1 x5_1 (bt a0 x5_1) false)) = some (r1, r2) := by rw [if_neg (show ¬ (false = true) by decide)] at H; exact H
                clear H
                have H := H1
                clear H1
                have HC9 := Aside0.mk H
                clear H
                go_upto_region 9 with (fail)
                go_cut [29] (fun v29 wc => ∃ (kq : Nat) (x29_8 : Bool), v29 = .bool x29_8 ∧ Aside0 (dragomanref5_Hex.j2 kq a0 x4_1 x5_1 (bt a0 x5_1) x29_8 = some (r1, r2)) ∧ Aside0 (kq ≤ kj4) ∧ Drawn0 w wc)
                case first =>
                  have H := HC9.out
                  clear HC9
                  by_cases c10 : (bt a0 x5_1) ≥ 97
                  · rw [if_pos c10] at H
                    have c10b0 : decide (97 ≤ (bt a0 x5_1)) = true := decide_eq_true c10
                    clear c10
                    (first | rw [c10b0] | (simp only [i64_w, i32_w]; rw [c10b0]) | skip)
                    have H' := Aside0.mk H
                    clear H
                    go_wp2
                    go_meet
                    case rel => exact ⟨_, (decide ((bt a0 x5_1) ≤ 102)), (by first | rfl | (simp; done) | (simp [*]; done)), H', ⟨by have := HK1.out; have := HJ4.out; first | omega | exact Nat.le_refl _⟩, by repeat (first | exact Drawn0.refl _ | apply Drawn0.step)⟩
                  · rw [if_neg c10] at H
                    have c10b0 : decide (97 ≤ (bt a0 x5_1)) = false := decide_eq_false c10
                    clear c10
                    (first | rw [c10b0] | (simp only [i64_w, i32_w]; rw [c10b0]) | skip)
                    have H' := Aside0.mk H
                    clear H
                    go_wp2
                    go_meet
                    case rel => exact ⟨_, (false), (by first | rfl | (simp; done) | (simp [*]; done)), H', ⟨by have := HK1.out; have := HJ4.out; first | omega | exact Nat.le_refl _⟩, by repeat (first | exact Drawn0.refl _ | apply Drawn0.step)⟩
                case rest =>
                  clear HC9
                  try clear c1
                  try clear c2
                  try clear c2b0
                  try clear p2
                  try clear c3
                  try clear c3b0
                  try clear c4
                  try clear p4
                  try clear q4
                  try clear hx4
                  try clear c6
                  try clear c6b0
                  try clear p6
                  try clear c7
                  try clear c8
                  try clear c8b0
                  try clear c10
                  try clear c10b0
                  try clear p2
                  try clear p4
                  try clear q4
                  obtain ⟨kq, x29_8, rfl, HA, HJ8, ⟨mc8, rfl⟩⟩ := hcut
                  cases kq with
                  | zero => exact absurd HA.out (by simp [dragomanref5_Hex.j2])
                  | succ kj8 =>
                    have H := HA.out
                    clear HA
                    simp only [dragomanref5_Hex.j2] at H
                    by_cases c11 : x29_8 = true
                    · subst c11
                      have H1 : (if x5_1 ≥ 8 then (some (0, false)) else (dragomanref5_Hex.l0 kj8 a0 (wrap64 ((wrap64 ((wrap64 (16 * x4_1)) + (((bt a0 x5_1) - 97) % 256))) + 10)) (wrap64 (x5_1 + 1)))) = some (r1, r2) := by rw [if_pos rfl] at H; exact H
                      clear H
                      have H := H1
                      clear H1
                      by_cases c12 : x5_1 ≥ 8
                      · rw [if_pos c12] at H
                        have c12b0 : decide (8 ≤ x5_1) = true := decide_eq_true c12
                        clear c12
                        simp only [Option.some.injEq, Prod.mk.injEq] at H
                        obtain ⟨rfl, rfl⟩ := H
                        go_wp2
                        go_ret2
                        exact ⟨by first | rfl | (simp only [bne, Bool.not_not]; done) | (rw [pxdragomanref5hex_empty]; done) | (simp; exact pxdragomanref5hex_empty _) | (simp; done) | (simp [*]; done), by repeat (first | exact Drawn0.refl _ | apply Drawn0.step)⟩
                      · rw [if_neg c12] at H
                        have c12b0 : decide (8 ≤ x5_1) = false := decide_eq_false c12
                        clear c12
                        have H' := Aside0.mk H
                        clear H
                        go_wp2
                        go_roundg kj8
                        case measure => have := HK1.out; have := HJ4.out; have := HJ8.out; omega
                        case rel => exact ⟨(wrap64 ((wrap64 ((wrap64 (16 * x4_1)) + (((bt a0 x5_1) - 97) % 256))) + 10)), (wrap64 (x5_1 + 1)), (by first | rfl | (simp; done) | (simp [*]; done)), (by first | rfl | (simp; done) | (simp [*]; done)), H', ⟨by have := HK1.out; have := HJ4.out; have := HJ8.out; omega⟩, by repeat (first | exact Drawn0.refl _ | apply Drawn0.step)⟩
                    · replace c11 := Bool.eq_false_iff.mpr c11
                      subst c11
                      have H1 : (if (bt a0 x5_1) ≥ 65 then (dragomanref5_Hex.j3 kj8 a0 x4_1 x5_1 (bt a0 x5_1) (decide ((bt a0 x5_1) ≤ 70))) else (dragomanref5_Hex.j3 kj8 a0 x4_1 x5_1 (bt a0 x5_1) false)) = some (r1, r2) := by rw [if_neg (show ¬ (false = true) by decide)] at H; exact H
                      clear H
                      have H := H1
                      clear H1
                      have HC13 := Aside0.mk H
                      clear H
                      go_upto_region 11 with (fail)
                      go_cut [43] (fun v43 wc => ∃ (kq : Nat) (x43_12 : Bool), v43 = .bool x43_12 ∧ Aside0 (dragomanref5_Hex.j3 kq a0 x4_1 x5_1 (bt a0 x5_1) x43_12 = some (r1, r2)) ∧ Aside0 (kq ≤ kj8) ∧ Drawn0 w wc)
                      case first =>
                        have H := HC13.out
                        clear HC13
                        by_cases c14 : (bt a0 x5_1) ≥ 65
                        · rw [if_pos c14] at H
                          have c14b0 : decide (65 ≤ (bt a0 x5_1)) = true := decide_eq_true c14
                          clear c14
                          (first | rw [c14b0] | (simp only [i64_w, i32_w]; rw [c14b0]) | skip)
                          have H' := Aside0.mk H
                          clear H
                          go_wp2
                          go_meet
                          case rel => exact ⟨_, (decide ((bt a0 x5_1) ≤ 70)), (by first | rfl | (simp; done) | (simp [*]; done)), H', ⟨by have := HK1.out; have := HJ4.out; have := HJ8.out; first | omega | exact Nat.le_refl _⟩, by repeat (first | exact Drawn0.refl _ | apply Drawn0.step)⟩
                        · rw [if_neg c14] at H
                          have c14b0 : decide (65 ≤ (bt a0 x5_1)) = false := decide_eq_false c14
                          clear c14
                          (first | rw [c14b0] | (simp only [i64_w, i32_w]; rw [c14b0]) | skip)
                          have H' := Aside0.mk H
                          clear H
                          go_wp2
                          go_meet
                          case rel => exact ⟨_, (false), (by first | rfl | (simp; done) | (simp [*]; done)), H', ⟨by have := HK1.out; have := HJ4.out; have := HJ8.out; first | omega | exact Nat.le_refl _⟩, by repeat (first | exact Drawn0.refl _ | apply Drawn0.step)⟩
                      case rest =>
                        clear HC13
                        try clear c1
                        try clear c2
                        try clear c2b0
                        try clear p2
                        try clear c3
                        try clear c3b0
                        try clear c4
                        try clear p4
                        try clear q4
                        try clear hx4
                        try clear c6
                        try clear c6b0
                        try clear p6
                        try clear c7
                        try clear c8
                        try clear c8b0
                        try clear c10
                        try clear c10b0
                        try clear c11
                        try clear c12
                        try clear c12b0
                        try clear c14
                        try clear c14b0
                        try clear p2
                        try clear p4
                        try clear p6
                        try clear q4
                        obtain ⟨kq, x43_12, rfl, HA, HJ12, ⟨mc12, rfl⟩⟩ := hcut
                        cases kq with
                        | zero => exact absurd HA.out (by simp [dragomanref5_Hex.j3])
                        | succ kj12 =>
                          have H := HA.out
                          clear HA
                          simp only [dragomanref5_Hex.j3] at H
                          by_cases c15 : x43_12 = true
                          · subst c15
                            have H1 : (if x5_1 ≥ 8 then (some (0, false)) else (dragomanref5_Hex.l0 kj12 a0 (wrap64 ((wrap64 ((wrap64 (16 * x4_1)) + (((bt a0 x5_1) - 65) % 256))) + 10)) (wrap64 (x5_1 + 1)))) = some (r1, r2) := by rw [if_pos rfl] at H; exact H
                            clear H
                            have H := H1
                            clear H1
                            by_cases c16 : x5_1 ≥ 8
                            · rw [if_pos c16] at H
                              have c16b0 : decide (8 ≤ x5_1) = true := decide_eq_true c16
                              clear c16
                              simp only [Option.some.injEq, Prod.mk.injEq] at H
                              obtain ⟨rfl, rfl⟩ := H
                              go_wp2
                              go_ret2
                              exact ⟨by first | rfl | (simp only [bne, Bool.not_not]; done) | (rw [pxdragomanref5hex_empty]; done) | (simp; exact pxdragomanref5hex_empty _) | (simp; done) | (simp [*]; done), by repeat (first | exact Drawn0.refl _ | apply Drawn0.step)⟩
                            · rw [if_neg c16] at H
                              have c16b0 : decide (8 ≤ x5_1) = false := decide_eq_false c16
                              clear c16
                              have H' := Aside0.mk H
                              clear H
                              go_wp2
                              go_roundg kj12
                              case measure => have := HK1.out; have := HJ4.out; have := HJ8.out; have := HJ12.out; omega
                              case rel => exact ⟨(wrap64 ((wrap64 ((wrap64 (16 * x4_1)) + (((bt a0 x5_1) - 65) % 256))) + 10)), (wrap64 (x5_1 + 1)), (by first | rfl | (simp; done) | (simp [*]; done)), (by first | rfl | (simp; done) | (simp [*]; done)), H', ⟨by have := HK1.out; have := HJ4.out; have := HJ8.out; have := HJ12.out; omega⟩, by repeat (first | exact Drawn0.refl _ | apply Drawn0.step)⟩
                          · replace c15 := Bool.eq_false_iff.mpr c15
                            subst c15
                            have H1 : (some (0, false)) = some (r1, r2) := by rw [if_neg (show ¬ (false = true) by decide)] at H; exact H
                            clear H
                            have H := H1
                            clear H1
                            simp only [Option.some.injEq, Prod.mk.injEq] at H
                            obtain ⟨rfl, rfl⟩ := H
                            go_wp2
                            go_ret2
                            exact ⟨by first | rfl | (simp only [bne, Bool.not_not]; done) | (rw [pxdragomanref5hex_empty]; done) | (simp; exact pxdragomanref5hex_empty _) | (simp; done) | (simp [*]; done), by repeat (first | exact Drawn0.refl _ | apply Drawn0.step)⟩
        · rw [if_neg c3] at H
          exact absurd H (by simp)
      · rw [if_neg c2] at H
        have c2b0 : decide (x5_1 < (a0.size : Int)) = false := decide_eq_false c2
        clear c2
        simp only [Option.some.injEq, Prod.mk.injEq] at H
        obtain ⟨rfl, rfl⟩ := H
        go_wp2
        go_ret2
        exact ⟨by first | rfl | (simp only [bne, Bool.not_not]; done) | (rw [pxdragomanref5hex_empty]; done) | (simp; exact pxdragomanref5hex_empty _) | (simp; done) | (simp [*]; done), by repeat (first | exact Drawn0.refl _ | apply Drawn0.step)⟩
end Go.Proofs.YtoanbmggffkmgaaDoor.P
end
section
namespace Go.Proofs.YtoanbmggffkmgaaDoor.P
open Go.RowKit Go.Proofs.YtoanbmggffkmgaaDoorW.PrintWords Go.Proofs.YtoanbmggffkmgaaDoorW.PrintLast Go.Proofs.YtoanbmggffkmgaaDoorW.PrintMore
attribute [local go_sem] max2_int min2_int max_two min_two max_three min_three max_four min_four   -- for this text's walks alone
set_option linter.unusedVariables false
set_option linter.unusedSimpArgs false
/-! ### utf_Good: function 87 -/
def utf_Good.f (a0 : Int) : Option (Bool) := if a0 ≥ 0 then (if a0 ≤ 1114111 then (if a0 < 55296 then (some true) else (some (decide (a0 > 57343)))) else (some false)) else (some false)
set_option maxHeartbeats 8000000 in
set_option maxRecDepth 100000 in
theorem utf_Good.calls (a0 : Int) (r : Bool) (w : World) (h : utf_Good.f a0 = some r) :
    Calls Tryd.prog 87 #[.int .i64 a0] w fun e w' => e = .returned (.bool r) ∧ Drawn0 w w' := by
  have H : (if a0 ≥ 0 then (if a0 ≤ 1114111 then (if a0 < 55296 then (some true) else (some (decide (a0 > 57343)))) else (some false)) else (some false)) = some r := h
  clear h
  by_cases c2 : a0 ≥ 0
  · rw [if_pos c2] at H
    have c2b0 : decide (0 ≤ a0) = true := decide_eq_true c2
    clear c2
    by_cases c3 : a0 ≤ 1114111
    · rw [if_pos c3] at H
      have c3b0 : decide (a0 ≤ 1114111) = true := decide_eq_true c3
      clear c3
      by_cases c4 : a0 < 55296
      · rw [if_pos c4] at H
        have c4b0 : decide (a0 < 55296) = true := decide_eq_true c4
        clear c4
        obtain rfl := Option.some.inj H
        go_enter Tryd.func87, Tryd.ntmps87
        go_wp2
        go_ret
        exact ⟨by first | rfl | (simp; done) | (simp [*]; done), by repeat (first | exact Drawn0.refl _ | apply Drawn0.step)⟩
      · rw [if_neg c4] at H
        have c4b0 : decide (a0 < 55296) = false := decide_eq_false c4
        clear c4
        obtain rfl := Option.some.inj H
        go_enter Tryd.func87, Tryd.ntmps87
        go_wp2
        go_ret
        exact ⟨by first | rfl | (simp; done) | (simp [*]; done), by repeat (first | exact Drawn0.refl _ | apply Drawn0.step)⟩
    · rw [if_neg c3] at H
      have c3b0 : decide (a0 ≤ 1114111) = false := decide_eq_false c3
      clear c3
      obtain rfl := Option.some.inj H
      go_enter Tryd.func87, Tryd.ntmps87
      go_wp2
      go_ret
      exact ⟨by first | rfl | (simp; done) | (simp [*]; done), by repeat (first | exact Drawn0.refl _ | apply Drawn0.step)⟩
  · rw [if_neg c2] at H
    have c2b0 : decide (0 ≤ a0) = false := decide_eq_false c2
    clear c2
    obtain rfl := Option.some.inj H
    go_enter Tryd.func87, Tryd.ntmps87
    go_wp2
    go_ret
    exact ⟨by first | rfl | (simp; done) | (simp [*]; done), by repeat (first | exact Drawn0.refl _ | apply Drawn0.step)⟩
end Go.Proofs.YtoanbmggffkmgaaDoor.P
end
section
namespace Go.Proofs.YtoanbmggffkmgaaDoor.P
open Go.RowKit Go.Proofs.YtoanbmggffkmgaaDoorW.PrintWords Go.Proofs.YtoanbmggffkmgaaDoorW.PrintLast Go.Proofs.YtoanbmggffkmgaaDoorW.PrintMore
attribute [local go_sem] max2_int min2_int max_two min_two max_three min_three max_four min_four   -- for this text's walks alone
set_option linter.unusedVariables false
set_option linter.unusedSimpArgs false
/-! ### utf_begins: function 88 -/
def utf_begins.f (a0 : Int) : Option (Int × Int) := if a0 < 128 then (some (1, wrap64 (a0))) else (if a0 < 192 then (some (0, 0)) else (if a0 < 224 then (some (2, wrap64 (Go.bits .andNot .u8 a0 192))) else (if a0 < 240 then (some (3, wrap64 (Go.bits .andNot .u8 a0 224))) else (if a0 < 248 then (some (4, wrap64 (Go.bits .andNot .u8 a0 240))) else (some (0, 0))))))
set_option maxHeartbeats 8000000 in
set_option maxRecDepth 100000 in
theorem utf_begins.calls (a0 : Int) (r1 : Int) (r2 : Int) (w : World) (h : utf_begins.f a0 = some (r1, r2)) :
    Calls Tryd.prog 88 #[.int .u8 a0] w fun e w' => e = .returned (.tuple #[.int .i64 r1, .int .i64 r2]) ∧ Drawn0 w w' := by
  have H : (if a0 < 128 then (some (1, wrap64 (a0))) else (if a0 < 192 then (some (0, 0)) else (if a0 < 224 then (some (2, wrap64 (Go.bits .andNot .u8 a0 192))) else (if a0 < 240 then (some (3, wrap64 (Go.bits .andNot .u8 a0 224))) else (if a0 < 248 then (some (4, wrap64 (Go.bits .andNot .u8 a0 240))) else (some (0, 0))))))) = some (r1, r2) := h
  clear h
  by_cases c2 : a0 < 128
  · rw [if_pos c2] at H
    have c2b0 : decide (a0 < 128) = true := decide_eq_true c2
    clear c2
    simp only [Option.some.injEq, Prod.mk.injEq] at H
    obtain ⟨rfl, rfl⟩ := H
    go_enter Tryd.func88, Tryd.ntmps88
    go_wp2
    go_ret2
    exact ⟨by first | rfl | (simp; done) | (simp [*]; done), by repeat (first | exact Drawn0.refl _ | apply Drawn0.step)⟩
  · rw [if_neg c2] at H
    have c2b0 : decide (a0 < 128) = false := decide_eq_false c2
    clear c2
    by_cases c3 : a0 < 192
    · rw [if_pos c3] at H
      have c3b0 : decide (a0 < 192) = true := decide_eq_true c3
      clear c3
      simp only [Option.some.injEq, Prod.mk.injEq] at H
      obtain ⟨rfl, rfl⟩ := H
      go_enter Tryd.func88, Tryd.ntmps88
      go_wp2
      go_ret2
      exact ⟨by first | rfl | (simp; done) | (simp [*]; done), by repeat (first | exact Drawn0.refl _ | apply Drawn0.step)⟩
    · rw [if_neg c3] at H
      have c3b0 : decide (a0 < 192) = false := decide_eq_false c3
      clear c3
      by_cases c4 : a0 < 224
      · rw [if_pos c4] at H
        have c4b0 : decide (a0 < 224) = true := decide_eq_true c4
        clear c4
        simp only [Option.some.injEq, Prod.mk.injEq] at H
        obtain ⟨rfl, rfl⟩ := H
        go_enter Tryd.func88, Tryd.ntmps88
        go_wp2
        go_ret2
        exact ⟨by first | rfl | (simp; done) | (simp [*]; done), by repeat (first | exact Drawn0.refl _ | apply Drawn0.step)⟩
      · rw [if_neg c4] at H
        have c4b0 : decide (a0 < 224) = false := decide_eq_false c4
        clear c4
        by_cases c5 : a0 < 240
        · rw [if_pos c5] at H
          have c5b0 : decide (a0 < 240) = true := decide_eq_true c5
          clear c5
          simp only [Option.some.injEq, Prod.mk.injEq] at H
          obtain ⟨rfl, rfl⟩ := H
          go_enter Tryd.func88, Tryd.ntmps88
          go_wp2
          go_ret2
          exact ⟨by first | rfl | (simp; done) | (simp [*]; done), by repeat (first | exact Drawn0.refl _ | apply Drawn0.step)⟩
        · rw [if_neg c5] at H
          have c5b0 : decide (a0 < 240) = false := decide_eq_false c5
          clear c5
          by_cases c6 : a0 < 248
          · rw [if_pos c6] at H
            have c6b0 : decide (a0 < 248) = true := decide_eq_true c6
            clear c6
            simp only [Option.some.injEq, Prod.mk.injEq] at H
            obtain ⟨rfl, rfl⟩ := H
            go_enter Tryd.func88, Tryd.ntmps88
            go_wp2
            go_ret2
            exact ⟨by first | rfl | (simp; done) | (simp [*]; done), by repeat (first | exact Drawn0.refl _ | apply Drawn0.step)⟩
          · rw [if_neg c6] at H
            have c6b0 : decide (a0 < 248) = false := decide_eq_false c6
            clear c6
            simp only [Option.some.injEq, Prod.mk.injEq] at H
            obtain ⟨rfl, rfl⟩ := H
            go_enter Tryd.func88, Tryd.ntmps88
            go_wp2
            go_ret2
            exact ⟨by first | rfl | (simp; done) | (simp [*]; done), by repeat (first | exact Drawn0.refl _ | apply Drawn0.step)⟩
end Go.Proofs.YtoanbmggffkmgaaDoor.P
end
section
namespace Go.Proofs.YtoanbmggffkmgaaDoor.P
open Go.RowKit Go.Proofs.YtoanbmggffkmgaaDoorW.PrintWords Go.Proofs.YtoanbmggffkmgaaDoorW.PrintLast Go.Proofs.YtoanbmggffkmgaaDoorW.PrintMore
attribute [local go_sem] max2_int min2_int max_two min_two max_three min_three max_four min_four   -- for this text's walks alone
set_option linter.unusedVariables false
set_option linter.unusedSimpArgs false
/-! ### utf_size: function 89 -/
def utf_size.f (a0 : Int) : Option (Int) := if a0 < 128 then (some 1) else (if a0 < 2048 then (some 2) else (if a0 < 65536 then (some 3) else (some 4)))
set_option maxHeartbeats 8000000 in
set_option maxRecDepth 100000 in
theorem utf_size.calls (a0 : Int) (r : Int) (w : World) (h : utf_size.f a0 = some r) :
    Calls Tryd.prog 89 #[.int .i64 a0] w fun e w' => e = .returned (.int .i64 r) ∧ Drawn0 w w' := by
  have H : (if a0 < 128 then (some 1) else (if a0 < 2048 then (some 2) else (if a0 < 65536 then (some 3) else (some 4)))) = some r := h
  clear h
  by_cases c2 : a0 < 128
  · rw [if_pos c2] at H
    have c2b0 : decide (a0 < 128) = true := decide_eq_true c2
    clear c2
    obtain rfl := Option.some.inj H
    go_enter Tryd.func89, Tryd.ntmps89
    go_wp2
    go_ret
    exact ⟨by first | rfl | (simp; done) | (simp [*]; done), by repeat (first | exact Drawn0.refl _ | apply Drawn0.step)⟩
  · rw [if_neg c2] at H
    have c2b0 : decide (a0 < 128) = false := decide_eq_false c2
    clear c2
    by_cases c3 : a0 < 2048
    · rw [if_pos c3] at H
      have c3b0 : decide (a0 < 2048) = true := decide_eq_true c3
      clear c3
      obtain rfl := Option.some.inj H
      go_enter Tryd.func89, Tryd.ntmps89
      go_wp2
      go_ret
      exact ⟨by first | rfl | (simp; done) | (simp [*]; done), by repeat (first | exact Drawn0.refl _ | apply Drawn0.step)⟩
    · rw [if_neg c3] at H
      have c3b0 : decide (a0 < 2048) = false := decide_eq_false c3
      clear c3
      by_cases c4 : a0 < 65536
      · rw [if_pos c4] at H
        have c4b0 : decide (a0 < 65536) = true := decide_eq_true c4
        clear c4
        obtain rfl := Option.some.inj H
        go_enter Tryd.func89, Tryd.ntmps89
        go_wp2
        go_ret
        exact ⟨by first | rfl | (simp; done) | (simp [*]; done), by repeat (first | exact Drawn0.refl _ | apply Drawn0.step)⟩
      · rw [if_neg c4] at H
        have c4b0 : decide (a0 < 65536) = false := decide_eq_false c4
        clear c4
        obtain rfl := Option.some.inj H
        go_enter Tryd.func89, Tryd.ntmps89
        go_wp2
        go_ret
        exact ⟨by first | rfl | (simp; done) | (simp [*]; done), by repeat (first | exact Drawn0.refl _ | apply Drawn0.step)⟩
end Go.Proofs.YtoanbmggffkmgaaDoor.P
end
section
namespace Go.Proofs.YtoanbmggffkmgaaDoor.P
open Go.RowKit Go.Proofs.YtoanbmggffkmgaaDoorW.PrintWords Go.Proofs.YtoanbmggffkmgaaDoorW.PrintLast Go.Proofs.YtoanbmggffkmgaaDoorW.PrintMore
attribute [local go_sem] max2_int min2_int max_two min_two max_three min_three max_four min_four   -- for this text's walks alone
set_option linter.unusedVariables false
set_option linter.unusedSimpArgs false
/-! ### utf_Take: function 66 -/
mutual
def utf_Take.j0 : Nat → ByteArray → Int → Int → Bool → Option (Int × Int)
  | 0, _, _, _, _ => none
  | k + 1, x0, x4, x5, x22 => if x22 = true then (some (0, 0)) else (utf_Take.l0 k x0 x4 x5 1)
def utf_Take.l0 : Nat → ByteArray → Int → Int → Int → Option (Int × Int)
  | 0, _, _, _, _ => none
  | k + 1, x0, x4, x5, x6 => if x6 < x4 then (if 0 ≤ x6 then (if x6 < (x0.size : Int) then (if (Go.bits .and .u8 (bt x0 x6) 192) = 128 then (utf_Take.l0 k x0 x4 (Go.bits .or .i64 (wrap64 (x5 * 64)) (wrap64 (Go.bits .and .u8 (bt x0 x6) 63))) (wrap64 (x6 + 1))) else (some (0, 0))) else (none)) else (none)) else ((utf_Good.f x5).bind fun t106 => (if t106 = true then ((utf_size.f x5).bind fun t107 => (if t107 = x4 then (some (x5, x4)) else (some (0, 0)))) else (some (0, 0))))
end
def utf_Take.f (k : Nat) (a0 : ByteArray) : Option (Int × Int) := if a0.toList = ([] : List UInt8) then (some (0, 0)) else (if 0 < (a0.size : Int) then ((utf_begins.f (bt a0 0)).bind fun bt104 => (if bt104.1 = 0 then (utf_Take.j0 k a0 bt104.1 bt104.2 true) else (utf_Take.j0 k a0 bt104.1 bt104.2 (decide (bt104.1 > (a0.size : Int)))))) else (none))
set_option maxHeartbeats 8000000 in
set_option maxRecDepth 100000 in
theorem utf_Take.calls (k : Nat) (a0 : ByteArray) (r1 : Int) (r2 : Int) (w : World) (h : utf_Take.f k a0 = some (r1, r2)) :
    Calls Tryd.prog 66 #[.string a0] w fun e w' => e = .returned (.tuple #[.int .i64 r1, .int .i64 r2]) ∧ Drawn0 w w' := by
  have H : (if a0.toList = ([] : List UInt8) then (some (0, 0)) else (if 0 < (a0.size : Int) then ((utf_begins.f (bt a0 0)).bind fun bt104 => (if bt104.1 = 0 then (utf_Take.j0 k a0 bt104.1 bt104.2 true) else (utf_Take.j0 k a0 bt104.1 bt104.2 (decide (bt104.1 > (a0.size : Int)))))) else (none))) = some (r1, r2) := h
  clear h
  by_cases c2 : a0.toList = ([] : List UInt8)
  · rw [if_pos c2] at H
    have c2b0 : (a0.toList == ([] : List UInt8)) = true := beq_iff_eq.mpr c2
    have c2b1 : (a0.toList != ([] : List UInt8)) = false := bne_eq_false_iff_eq.mpr c2
    clear c2
    simp only [Option.some.injEq, Prod.mk.injEq] at H
    obtain ⟨rfl, rfl⟩ := H
    go_enter Tryd.func66, Tryd.ntmps66
    go_wp2
    go_ret2
    exact ⟨by first | rfl | (simp; done) | (simp [*]; done), by repeat (first | exact Drawn0.refl _ | apply Drawn0.step)⟩
  · rw [if_neg c2] at H
    have c2b0 : (a0.toList == ([] : List UInt8)) = false := beq_eq_false_iff_ne.mpr c2
    have c2b1 : (a0.toList != ([] : List UInt8)) = true := bne_iff_ne.mpr c2
    by_cases c3 : 0 < (a0.size : Int)
    · rw [if_pos c3] at H
      have c3b0 : decide (0 < (a0.size : Int)) = true := decide_eq_true c3
      have c3b1 : decide (0 < a0.size) = true := decide_eq_true (by omega)
      clear c3
      replace H := Option.bind_eq_some_iff.mp H
      obtain ⟨⟨t104, t105⟩, A50, H⟩ := H
      replace H : (if t104 = 0 then (utf_Take.j0 k a0 t104 t105 true) else (utf_Take.j0 k a0 t104 t105 (decide (t104 > (a0.size : Int))))) = some (r1, r2) := H
      have A5 := Aside0.mk A50
      clear A50
      have HC6 := Aside0.mk H
      clear H
      have p4 : 0 ≤ (0 : Int) := (by omega)
      have q4 : 0 < a0.size := (by have : (0 : Int) < (a0.size : Int) := of_decide_eq_true (by first | (with_reducible assumption) | assumption); omega)
      have hx4 : ∀ h : 0 < a0.size, ((a0[0]'h).toNat : Int) = bt a0 0 := bt_at a0 0
      clear p4
      have qi4 : (0 < (a0.size : Int)) = True := eq_true (of_decide_eq_true (by first | (with_reducible assumption) | assumption))
      replace q4 := eq_true q4
      go_enter Tryd.func66, Tryd.ntmps66
      go_upto_region 4 with (first | ((with_reducible refine gate_callee (f := 88) rfl ?_); refine goesL_ (some 12) rfl rfl Tryd.func88 (by kernel_rfl) rfl #[.int .u8 (bt a0 0)] rfl (by (try simp only [List.map_toArray, List.map_cons, List.map_nil]); first | done | rfl | (simp only [List.length_drop, List.length_take]; rfl)) ?_; (with_reducible refine (utf_begins.calls (bt a0 0) t104 t105 _ A5.out).mono ?_); rintro e w' ⟨rfl, ⟨nd, rfl⟩⟩; refine ⟨_, rfl, ?_⟩))
      (try simp only [Act.put, List.setIfInBounds_toArray, List.set_cons_zero, List.set_cons_succ])
      go_cut [22] (fun v22 wc => ∃ (kq : Nat) (x22_5 : Bool), v22 = .bool x22_5 ∧ Aside0 (utf_Take.j0 kq a0 t104 t105 x22_5 = some (r1, r2)) ∧ Aside0 (kq ≤ k) ∧ Drawn0 w wc)
      case first =>
        have H := HC6.out
        clear HC6
        by_cases c7 : t104 = 0
        · rw [if_pos c7] at H
          have c7b0 : (t104 == 0) = true := beq_iff_eq.mpr c7
          have c7b1 : (t104 != 0) = false := bne_eq_false_iff_eq.mpr c7
          clear c7
          (first | rw [c7b0] | (simp only [i64_w, i32_w]; rw [c7b0]) | skip)
          have H' := Aside0.mk H
          clear H
          go_wp2
          go_meet
          case rel => exact ⟨_, (true), (by first | rfl | (simp; done) | (simp [*]; done)), H', ⟨by first | omega | exact Nat.le_refl _⟩, by repeat (first | exact Drawn0.refl _ | apply Drawn0.step)⟩
        · rw [if_neg c7] at H
          have c7b0 : (t104 == 0) = false := beq_eq_false_iff_ne.mpr c7
          have c7b1 : (t104 != 0) = true := bne_iff_ne.mpr c7
          (first | rw [c7b0] | (simp only [i64_w, i32_w]; rw [c7b0]) | skip)
          have H' := Aside0.mk H
          clear H
          go_wp2
          go_meet
          case rel => exact ⟨_, (decide (t104 > (a0.size : Int))), (by first | rfl | (simp; done) | (simp [*]; done)), H', ⟨by first | omega | exact Nat.le_refl _⟩, by repeat (first | exact Drawn0.refl _ | apply Drawn0.step)⟩
      case rest =>
        clear HC6
        try clear c2
        try clear c2b0
        try clear c2b1
        try clear p2
        try clear c3
        try clear c3b0
        try clear c3b1
        try clear p4
        try clear q4
        try clear hx4
        try clear qi4
        try clear c6
        try clear c7
        try clear c7b0
        try clear c7b1
        try clear p4
        try clear q4
        obtain ⟨kq, x22_5, rfl, HA, HJ5, ⟨mc5, rfl⟩⟩ := hcut
        cases kq with
        | zero => exact absurd HA.out (by simp [utf_Take.j0])
        | succ kj5 =>
          have H := HA.out
          clear HA
          simp only [utf_Take.j0] at H
          by_cases c8 : x22_5 = true
          · subst c8
            have H1 : (some (0, 0)) = some (r1, r2) := by rw [if_pos rfl] at H; exact H
            clear H
            have H := H1
            clear H1
            simp only [Option.some.injEq, Prod.mk.injEq] at H
            obtain ⟨rfl, rfl⟩ := H
            go_wp2
            go_ret2
            exact ⟨by first | rfl | (simp; done) | (simp [*]; done), by repeat (first | exact Drawn0.refl _ | apply Drawn0.step)⟩
          · replace c8 := Bool.eq_false_iff.mpr c8
            subst c8
            have H1 : (utf_Take.l0 kj5 a0 t104 t105 1) = some (r1, r2) := by rw [if_neg (show ¬ (false = true) by decide)] at H; exact H
            clear H
            have H := H1
            clear H1
            have H' := Aside0.mk H
            clear H
            go_wp2
            go_loopg [5, 6] kj5 (fun kq v5 v6 w' => ∃ (x5_2 : Int) (x6_2 : Int), v5 = .int .i64 x5_2 ∧ v6 = .int .i64 x6_2 ∧ Aside0 (utf_Take.l0 kq a0 t104 x5_2 x6_2 = some (r1, r2)) ∧ Aside0 (kq ≤ kj5) ∧ Drawn0 w w')
            case atStart => exact ⟨(t105), (1), (by first | rfl | (simp; done) | (simp [*]; done)), (by first | rfl | (simp; done) | (simp [*]; done)), H', ⟨Nat.le_refl _⟩, by repeat (first | exact Drawn0.refl _ | apply Drawn0.step)⟩
            case round =>
              clear H'
              try clear c2
              try clear c2b0
              try clear c2b1
              try clear p2
              try clear c3
              try clear c3b0
              try clear c3b1
              try clear p4
              try clear q4
              try clear hx4
              try clear qi4
              try clear c5
              try clear c6
              try clear c7
              try clear c7b0
              try clear c7b1
              try clear c8
              try clear p2
              try clear p4
              try clear q4
              obtain ⟨x5_2, x6_2, rfl, rfl, HA, HK2, ⟨m2, rfl⟩⟩ := hrel
              cases gk with
              | zero => exact absurd HA.out (by simp [utf_Take.l0])
              | succ k2 =>
                have H := HA.out
                clear HA
                simp only [utf_Take.l0] at H
                by_cases c9 : x6_2 < t104
                · rw [if_pos c9] at H
                  have c9b0 : decide (x6_2 < t104) = true := decide_eq_true c9
                  clear c9
                  by_cases c10 : 0 ≤ x6_2
                  · rw [if_pos c10] at H
                    have c10b0 : decide (0 ≤ x6_2) = true := decide_eq_true c10
                    clear c10
                    by_cases c11 : x6_2 < (a0.size : Int)
                    · rw [if_pos c11] at H
                      have c11b0 : decide (x6_2 < (a0.size : Int)) = true := decide_eq_true c11
                      clear c11
                      by_cases c13 : (Go.bits .and .u8 (bt a0 x6_2) 192) = 128
                      · rw [if_pos c13] at H
                        have c13b0 : ((Go.bits .and .u8 (bt a0 x6_2) 192) == 128) = true := beq_iff_eq.mpr c13
                        have c13b1 : ((Go.bits .and .u8 (bt a0 x6_2) 192) != 128) = false := bne_eq_false_iff_eq.mpr c13
                        clear c13
                        have H' := Aside0.mk H
                        clear H
                        have p12 : 0 ≤ (x6_2 : Int) := of_decide_eq_true (by first | (with_reducible assumption) | assumption)
                        have q12 : x6_2 < (a0.size : Int) := of_decide_eq_true (by first | (with_reducible assumption) | assumption)
                        have hx12 := bt_at a0 x6_2
                        replace p12 := eq_true p12
                        replace q12 := eq_true q12
                        have p14 : 0 ≤ (x6_2 : Int) := of_decide_eq_true (by first | (with_reducible assumption) | assumption)
                        have q14 : x6_2 < (a0.size : Int) := of_decide_eq_true (by first | (with_reducible assumption) | assumption)
                        have hx14 := bt_at a0 x6_2
                        replace p14 := eq_true p14
                        replace q14 := eq_true q14
                        go_wp2
                        go_roundg k2
                        case measure => have := HJ5.out; have := HK2.out; omega
                        case rel => exact ⟨(Go.bits .or .i64 (wrap64 (x5_2 * 64)) (wrap64 (Go.bits .and .u8 (bt a0 x6_2) 63))), (wrap64 (x6_2 + 1)), (by first | rfl | (simp; done) | (simp [*]; done)), (by first | rfl | (simp; done) | (simp [*]; done)), H', ⟨by have := HJ5.out; have := HK2.out; omega⟩, by repeat (first | exact Drawn0.refl _ | apply Drawn0.step)⟩
                      · rw [if_neg c13] at H
                        have c13b0 : ((Go.bits .and .u8 (bt a0 x6_2) 192) == 128) = false := beq_eq_false_iff_ne.mpr c13
                        have c13b1 : ((Go.bits .and .u8 (bt a0 x6_2) 192) != 128) = true := bne_iff_ne.mpr c13
                        simp only [Option.some.injEq, Prod.mk.injEq] at H
                        obtain ⟨rfl, rfl⟩ := H
                        have p12 : 0 ≤ (x6_2 : Int) := of_decide_eq_true (by first | (with_reducible assumption) | assumption)
                        have q12 : x6_2 < (a0.size : Int) := of_decide_eq_true (by first | (with_reducible assumption) | assumption)
                        have hx12 := bt_at a0 x6_2
                        replace p12 := eq_true p12
                        replace q12 := eq_true q12
                        go_wp2
                        go_ret2
                        exact ⟨by first | rfl | (simp; done) | (simp [*]; done), by repeat (first | exact Drawn0.refl _ | apply Drawn0.step)⟩
                    · rw [if_neg c11] at H
                      exact absurd H (by simp)
                  · rw [if_neg c10] at H
                    exact absurd H (by simp)
                · rw [if_neg c9] at H
                  have c9b0 : decide (x6_2 < t104) = false := decide_eq_false c9
                  clear c9
                  replace H := Option.bind_eq_some_iff.mp H
                  obtain ⟨t106, A150, H⟩ := H
                  replace H : (if t106 = true then ((utf_size.f x5_2).bind fun t107 => (if t107 = t104 then (some (x5_2, t104)) else (some (0, 0)))) else (some (0, 0))) = some (r1, r2) := H
                  have A15 := Aside0.mk A150
                  clear A150
                  by_cases c16 : t106 = true
                  · subst c16
                    have H1 : ((utf_size.f x5_2).bind fun t107 => (if t107 = t104 then (some (x5_2, t104)) else (some (0, 0)))) = some (r1, r2) := by rw [if_pos rfl] at H; exact H
                    clear H
                    have H := H1
                    clear H1
                    replace H := Option.bind_eq_some_iff.mp H
                    obtain ⟨t107, A170, H⟩ := H
                    replace H : (if t107 = t104 then (some (x5_2, t104)) else (some (0, 0))) = some (r1, r2) := H
                    have A17 := Aside0.mk A170
                    clear A170
                    by_cases c18 : t107 = t104
                    · rw [if_pos c18] at H
                      have c18b0 : (t107 == t104) = true := beq_iff_eq.mpr c18
                      have c18b1 : (t107 != t104) = false := bne_eq_false_iff_eq.mpr c18
                      clear c18
                      simp only [Option.some.injEq, Prod.mk.injEq] at H
                      obtain ⟨rfl, rfl⟩ := H
                      go_wp2_with (first | ((with_reducible refine gate_callee (f := 87) rfl ?_); refine goesL_ (some 42) rfl rfl Tryd.func87 (by kernel_rfl) rfl #[.int .i64 x5_2] rfl (by (try simp only [List.map_toArray, List.map_cons, List.map_nil]); first | done | rfl | (simp only [List.length_drop, List.length_take]; rfl)) ?_; (with_reducible refine (utf_Good.calls x5_2 true _ A15.out).mono ?_); rintro e w' ⟨rfl, ⟨nd, rfl⟩⟩; refine ⟨_, rfl, ?_⟩) | (go_at_call 89; (with_reducible refine (utf_size.calls x5_2 t107 _ A17.out).mono ?_); rintro e w' ⟨rfl, ⟨nd, rfl⟩⟩))
                      go_ret2
                      exact ⟨by first | rfl | (simp; done) | (simp [*]; done), by repeat (first | exact Drawn0.refl _ | apply Drawn0.step)⟩
                    · rw [if_neg c18] at H
                      have c18b0 : (t107 == t104) = false := beq_eq_false_iff_ne.mpr c18
                      have c18b1 : (t107 != t104) = true := bne_iff_ne.mpr c18
                      simp only [Option.some.injEq, Prod.mk.injEq] at H
                      obtain ⟨rfl, rfl⟩ := H
                      go_wp2_with (first | ((with_reducible refine gate_callee (f := 87) rfl ?_); refine goesL_ (some 42) rfl rfl Tryd.func87 (by kernel_rfl) rfl #[.int .i64 x5_2] rfl (by (try simp only [List.map_toArray, List.map_cons, List.map_nil]); first | done | rfl | (simp only [List.length_drop, List.length_take]; rfl)) ?_; (with_reducible refine (utf_Good.calls x5_2 true _ A15.out).mono ?_); rintro e w' ⟨rfl, ⟨nd, rfl⟩⟩; refine ⟨_, rfl, ?_⟩) | (go_at_call 89; (with_reducible refine (utf_size.calls x5_2 t107 _ A17.out).mono ?_); rintro e w' ⟨rfl, ⟨nd, rfl⟩⟩))
                      go_ret2
                      exact ⟨by first | rfl | (simp; done) | (simp [*]; done), by repeat (first | exact Drawn0.refl _ | apply Drawn0.step)⟩
                  · replace c16 := Bool.eq_false_iff.mpr c16
                    subst c16
                    have H1 : (some (0, 0)) = some (r1, r2) := by rw [if_neg (show ¬ (false = true) by decide)] at H; exact H
                    clear H
                    have H := H1
                    clear H1
                    simp only [Option.some.injEq, Prod.mk.injEq] at H
                    obtain ⟨rfl, rfl⟩ := H
                    go_wp2_with (first | ((with_reducible refine gate_callee (f := 87) rfl ?_); refine goesL_ (some 42) rfl rfl Tryd.func87 (by kernel_rfl) rfl #[.int .i64 x5_2] rfl (by (try simp only [List.map_toArray, List.map_cons, List.map_nil]); first | done | rfl | (simp only [List.length_drop, List.length_take]; rfl)) ?_; (with_reducible refine (utf_Good.calls x5_2 false _ A15.out).mono ?_); rintro e w' ⟨rfl, ⟨nd, rfl⟩⟩; refine ⟨_, rfl, ?_⟩))
                    go_ret2
                    exact ⟨by first | rfl | (simp; done) | (simp [*]; done), by repeat (first | exact Drawn0.refl _ | apply Drawn0.step)⟩
    · rw [if_neg c3] at H
      exact absurd H (by simp)
end Go.Proofs.YtoanbmggffkmgaaDoor.P
end
section
namespace Go.Proofs.YtoanbmggffkmgaaDoor.P
open Go.RowKit Go.Proofs.YtoanbmggffkmgaaDoorW.PrintWords Go.Proofs.YtoanbmggffkmgaaDoorW.PrintLast Go.Proofs.YtoanbmggffkmgaaDoorW.PrintMore
attribute [local go_sem] max2_int min2_int max_two min_two max_three min_three max_four min_four   -- for this text's walks alone
set_option linter.unusedVariables false
set_option linter.unusedSimpArgs false
/-! ### utf_Put: function 67 -/
def utf_Put.f (l0 : List Int) (a1 : Int) : Option (List Int) := if 0 ≤ (wrap64 ((l0.length : Int) + 4)) then (if wrap64 ((l0.length : Int) + 4) ≤ 281474976710656 then ((some (([] : List Int) : List Int)).bind fun y138 => (if y138.length + l0.length < 140737488355328 then ((some (y138 ++ l0 : List Int)).bind fun y141 => ((utf_Good.f a1).bind fun t144 => (if t144 = true then ((utf_size.f a1).bind fun t145 => (if t145 = 1 then (if y141.length < 140737488355328 then (some (y141 ++ [(a1) % 256])) else (none)) else (if t145 = 2 then ((some (([(Go.bits .or .i64 192 (a1 / 64)) % 256, (Go.bits .or .i64 128 (Go.bits .and .i64 a1 63)) % 256] : List Int) : List Int)).bind fun y149 => (if y141.length + y149.length < 140737488355328 then (some (y141 ++ y149)) else (none))) else (if t145 = 3 then ((some (([(Go.bits .or .i64 224 (a1 / 4096)) % 256, (Go.bits .or .i64 128 (Go.bits .and .i64 (a1 / 64) 63)) % 256, (Go.bits .or .i64 128 (Go.bits .and .i64 a1 63)) % 256] : List Int) : List Int)).bind fun y155 => (if y141.length + y155.length < 140737488355328 then (some (y141 ++ y155)) else (none))) else ((some (([(Go.bits .or .i64 240 (a1 / 262144)) % 256, (Go.bits .or .i64 128 (Go.bits .and .i64 (a1 / 4096) 63)) % 256, (Go.bits .or .i64 128 (Go.bits .and .i64 (a1 / 64) 63)) % 256, (Go.bits .or .i64 128 (Go.bits .and .i64 a1 63)) % 256] : List Int) : List Int)).bind fun y161 => (if y141.length + y161.length < 140737488355328 then (some (y141 ++ y161)) else (none))))))) else (some y141)))) else (none))) else (none)) else (none)
set_option maxHeartbeats 8000000 in
set_option maxRecDepth 100000 in
theorem utf_Put.calls (A0 : Option Addr) (c0 : Nat) (l0 : List Int) (a1 : Int) (r : List Int) (w : World) (hr0 : Kd.C (Kd.int .u8) w A0 l0.length l0) (hc0 : l0.length ≤ c0) (h : utf_Put.f l0 a1 = some r) :
    Calls Tryd.prog 67 #[.slice A0 l0.length c0, .int .i64 a1] w fun e w' => ∃ v0_ : Value, e = .returned (v0_) ∧ Kd.R (Kd.int .u8) 5 w' w.heap.size (fun _ => True) v0_ r ∧ Below w.heap.size w w' := by
  have HR0 := Aside0.mk hr0
  have HC0 := Aside0.mk hc0
  clear hr0 hc0
  have HB := Aside0.mk (Below.refl w.heap.size w)
  have H : (if 0 ≤ (wrap64 ((l0.length : Int) + 4)) then (if wrap64 ((l0.length : Int) + 4) ≤ 281474976710656 then ((some (([] : List Int) : List Int)).bind fun y138 => (if y138.length + l0.length < 140737488355328 then ((some (y138 ++ l0 : List Int)).bind fun y141 => ((utf_Good.f a1).bind fun t144 => (if t144 = true then ((utf_size.f a1).bind fun t145 => (if t145 = 1 then (if y141.length < 140737488355328 then (some (y141 ++ [(a1) % 256])) else (none)) else (if t145 = 2 then ((some (([(Go.bits .or .i64 192 (a1 / 64)) % 256, (Go.bits .or .i64 128 (Go.bits .and .i64 a1 63)) % 256] : List Int) : List Int)).bind fun y149 => (if y141.length + y149.length < 140737488355328 then (some (y141 ++ y149)) else (none))) else (if t145 = 3 then ((some (([(Go.bits .or .i64 224 (a1 / 4096)) % 256, (Go.bits .or .i64 128 (Go.bits .and .i64 (a1 / 64) 63)) % 256, (Go.bits .or .i64 128 (Go.bits .and .i64 a1 63)) % 256] : List Int) : List Int)).bind fun y155 => (if y141.length + y155.length < 140737488355328 then (some (y141 ++ y155)) else (none))) else ((some (([(Go.bits .or .i64 240 (a1 / 262144)) % 256, (Go.bits .or .i64 128 (Go.bits .and .i64 (a1 / 4096) 63)) % 256, (Go.bits .or .i64 128 (Go.bits .and .i64 (a1 / 64) 63)) % 256, (Go.bits .or .i64 128 (Go.bits .and .i64 a1 63)) % 256] : List Int) : List Int)).bind fun y161 => (if y141.length + y161.length < 140737488355328 then (some (y141 ++ y161)) else (none))))))) else (some y141)))) else (none))) else (none)) else (none)) = some r := h
  clear h
  obtain ⟨ji3, hji3⟩ : ∃ j_ : Int, (wrap64 ((l0.length : Int) + 4)) = j_ := ⟨_, rfl⟩
  replace H : (if 0 ≤ (ji3) then (if ji3 ≤ 281474976710656 then ((some (([] : List Int) : List Int)).bind fun y138 => (if y138.length + l0.length < 140737488355328 then ((some (y138 ++ l0 : List Int)).bind fun y141 => ((utf_Good.f a1).bind fun t144 => (if t144 = true then ((utf_size.f a1).bind fun t145 => (if t145 = 1 then (if y141.length < 140737488355328 then (some (y141 ++ [(a1) % 256])) else (none)) else (if t145 = 2 then ((some (([(Go.bits .or .i64 192 (a1 / 64)) % 256, (Go.bits .or .i64 128 (Go.bits .and .i64 a1 63)) % 256] : List Int) : List Int)).bind fun y149 => (if y141.length + y149.length < 140737488355328 then (some (y141 ++ y149)) else (none))) else (if t145 = 3 then ((some (([(Go.bits .or .i64 224 (a1 / 4096)) % 256, (Go.bits .or .i64 128 (Go.bits .and .i64 (a1 / 64) 63)) % 256, (Go.bits .or .i64 128 (Go.bits .and .i64 a1 63)) % 256] : List Int) : List Int)).bind fun y155 => (if y141.length + y155.length < 140737488355328 then (some (y141 ++ y155)) else (none))) else ((some (([(Go.bits .or .i64 240 (a1 / 262144)) % 256, (Go.bits .or .i64 128 (Go.bits .and .i64 (a1 / 4096) 63)) % 256, (Go.bits .or .i64 128 (Go.bits .and .i64 (a1 / 64) 63)) % 256, (Go.bits .or .i64 128 (Go.bits .and .i64 a1 63)) % 256] : List Int) : List Int)).bind fun y161 => (if y141.length + y161.length < 140737488355328 then (some (y141 ++ y161)) else (none))))))) else (some y141)))) else (none))) else (none)) else (none)) = some r := by first | (rw [hji3] at H; exact H) | (simp only [hji3] at H ⊢; exact H)
  have hji3w : (IntKind.i64.wrap ((l0.length : Int) + 4)) = ji3 := (i64_w _).trans hji3
  by_cases c4 : 0 ≤ (ji3)
  · rw [if_pos c4] at H
    have c4b0 := eq_true c4
    have c4b1 : decide (0 ≤ (ji3)) = true := decide_eq_true c4
    clear c4
    by_cases c5 : ji3 ≤ 281474976710656
    · rw [if_pos c5] at H
      have c5b0 := eq_true c5
      have c5b1 : decide (ji3 ≤ 281474976710656) = true := decide_eq_true c5
      clear c5
      obtain ⟨y138, hy138⟩ : ∃ y_ : List Int, y_ = (([] : List Int)) := ⟨_, rfl⟩
      replace H : (if y138.length + l0.length < 140737488355328 then ((some (y138 ++ l0 : List Int)).bind fun y141 => ((utf_Good.f a1).bind fun t144 => (if t144 = true then ((utf_size.f a1).bind fun t145 => (if t145 = 1 then (if y141.length < 140737488355328 then (some (y141 ++ [(a1) % 256])) else (none)) else (if t145 = 2 then ((some (([(Go.bits .or .i64 192 (a1 / 64)) % 256, (Go.bits .or .i64 128 (Go.bits .and .i64 a1 63)) % 256] : List Int) : List Int)).bind fun y149 => (if y141.length + y149.length < 140737488355328 then (some (y141 ++ y149)) else (none))) else (if t145 = 3 then ((some (([(Go.bits .or .i64 224 (a1 / 4096)) % 256, (Go.bits .or .i64 128 (Go.bits .and .i64 (a1 / 64) 63)) % 256, (Go.bits .or .i64 128 (Go.bits .and .i64 a1 63)) % 256] : List Int) : List Int)).bind fun y155 => (if y141.length + y155.length < 140737488355328 then (some (y141 ++ y155)) else (none))) else ((some (([(Go.bits .or .i64 240 (a1 / 262144)) % 256, (Go.bits .or .i64 128 (Go.bits .and .i64 (a1 / 4096) 63)) % 256, (Go.bits .or .i64 128 (Go.bits .and .i64 (a1 / 64) 63)) % 256, (Go.bits .or .i64 128 (Go.bits .and .i64 a1 63)) % 256] : List Int) : List Int)).bind fun y161 => (if y141.length + y161.length < 140737488355328 then (some (y141 ++ y161)) else (none))))))) else (some y141)))) else (none)) = some r := by first | (rw [hy138]; with_reducible exact H) | (have H2_ := (Option.bind_some _ _).symm.trans H; rw [hy138]; with_reducible exact H2_) | (have H2_ := (Option.bind_some _ _).symm.trans H; with_reducible exact H2_) | with_reducible exact H | (rw [hy138]; exact H) | exact H
      have Ny138 := Aside0.mk hy138
      clear hy138
      by_cases c6 : y138.length + l0.length < 140737488355328
      · rw [if_pos c6] at H
        have LMc6 := Aside0.mk c6
        clear c6
        obtain ⟨y141, hy141⟩ : ∃ y_ : List Int, y_ = (y138 ++ l0) := ⟨_, rfl⟩
        replace H : ((utf_Good.f a1).bind fun t144 => (if t144 = true then ((utf_size.f a1).bind fun t145 => (if t145 = 1 then (if y141.length < 140737488355328 then (some (y141 ++ [(a1) % 256])) else (none)) else (if t145 = 2 then ((some (([(Go.bits .or .i64 192 (a1 / 64)) % 256, (Go.bits .or .i64 128 (Go.bits .and .i64 a1 63)) % 256] : List Int) : List Int)).bind fun y149 => (if y141.length + y149.length < 140737488355328 then (some (y141 ++ y149)) else (none))) else (if t145 = 3 then ((some (([(Go.bits .or .i64 224 (a1 / 4096)) % 256, (Go.bits .or .i64 128 (Go.bits .and .i64 (a1 / 64) 63)) % 256, (Go.bits .or .i64 128 (Go.bits .and .i64 a1 63)) % 256] : List Int) : List Int)).bind fun y155 => (if y141.length + y155.length < 140737488355328 then (some (y141 ++ y155)) else (none))) else ((some (([(Go.bits .or .i64 240 (a1 / 262144)) % 256, (Go.bits .or .i64 128 (Go.bits .and .i64 (a1 / 4096) 63)) % 256, (Go.bits .or .i64 128 (Go.bits .and .i64 (a1 / 64) 63)) % 256, (Go.bits .or .i64 128 (Go.bits .and .i64 a1 63)) % 256] : List Int) : List Int)).bind fun y161 => (if y141.length + y161.length < 140737488355328 then (some (y141 ++ y161)) else (none))))))) else (some y141))) = some r := by first | (rw [hy141]; with_reducible exact H) | (have H2_ := (Option.bind_some _ _).symm.trans H; rw [hy141]; with_reducible exact H2_) | (have H2_ := (Option.bind_some _ _).symm.trans H; with_reducible exact H2_) | with_reducible exact H | (rw [hy141]; exact H) | exact H
        have Ny141 := Aside0.mk hy141
        clear hy141
        replace H := Option.bind_eq_some_iff.mp H
        obtain ⟨t144, A70, H⟩ := H
        replace H : (if t144 = true then ((utf_size.f a1).bind fun t145 => (if t145 = 1 then (if y141.length < 140737488355328 then (some (y141 ++ [(a1) % 256])) else (none)) else (if t145 = 2 then ((some (([(Go.bits .or .i64 192 (a1 / 64)) % 256, (Go.bits .or .i64 128 (Go.bits .and .i64 a1 63)) % 256] : List Int) : List Int)).bind fun y149 => (if y141.length + y149.length < 140737488355328 then (some (y141 ++ y149)) else (none))) else (if t145 = 3 then ((some (([(Go.bits .or .i64 224 (a1 / 4096)) % 256, (Go.bits .or .i64 128 (Go.bits .and .i64 (a1 / 64) 63)) % 256, (Go.bits .or .i64 128 (Go.bits .and .i64 a1 63)) % 256] : List Int) : List Int)).bind fun y155 => (if y141.length + y155.length < 140737488355328 then (some (y141 ++ y155)) else (none))) else ((some (([(Go.bits .or .i64 240 (a1 / 262144)) % 256, (Go.bits .or .i64 128 (Go.bits .and .i64 (a1 / 4096) 63)) % 256, (Go.bits .or .i64 128 (Go.bits .and .i64 (a1 / 64) 63)) % 256, (Go.bits .or .i64 128 (Go.bits .and .i64 a1 63)) % 256] : List Int) : List Int)).bind fun y161 => (if y141.length + y161.length < 140737488355328 then (some (y141 ++ y161)) else (none))))))) else (some y141)) = some r := H
        have A7 := Aside0.mk A70
        clear A70
        by_cases c8 : t144 = true
        · subst c8
          have H1 : ((utf_size.f a1).bind fun t145 => (if t145 = 1 then (if y141.length < 140737488355328 then (some (y141 ++ [(a1) % 256])) else (none)) else (if t145 = 2 then ((some (([(Go.bits .or .i64 192 (a1 / 64)) % 256, (Go.bits .or .i64 128 (Go.bits .and .i64 a1 63)) % 256] : List Int) : List Int)).bind fun y149 => (if y141.length + y149.length < 140737488355328 then (some (y141 ++ y149)) else (none))) else (if t145 = 3 then ((some (([(Go.bits .or .i64 224 (a1 / 4096)) % 256, (Go.bits .or .i64 128 (Go.bits .and .i64 (a1 / 64) 63)) % 256, (Go.bits .or .i64 128 (Go.bits .and .i64 a1 63)) % 256] : List Int) : List Int)).bind fun y155 => (if y141.length + y155.length < 140737488355328 then (some (y141 ++ y155)) else (none))) else ((some (([(Go.bits .or .i64 240 (a1 / 262144)) % 256, (Go.bits .or .i64 128 (Go.bits .and .i64 (a1 / 4096) 63)) % 256, (Go.bits .or .i64 128 (Go.bits .and .i64 (a1 / 64) 63)) % 256, (Go.bits .or .i64 128 (Go.bits .and .i64 a1 63)) % 256] : List Int) : List Int)).bind fun y161 => (if y141.length + y161.length < 140737488355328 then (some (y141 ++ y161)) else (none))))))) = some r := by rw [if_pos rfl] at H; exact H
          clear H
          have H := H1
          clear H1
          replace H := Option.bind_eq_some_iff.mp H
          obtain ⟨t145, A90, H⟩ := H
          replace H : (if t145 = 1 then (if y141.length < 140737488355328 then (some (y141 ++ [(a1) % 256])) else (none)) else (if t145 = 2 then ((some (([(Go.bits .or .i64 192 (a1 / 64)) % 256, (Go.bits .or .i64 128 (Go.bits .and .i64 a1 63)) % 256] : List Int) : List Int)).bind fun y149 => (if y141.length + y149.length < 140737488355328 then (some (y141 ++ y149)) else (none))) else (if t145 = 3 then ((some (([(Go.bits .or .i64 224 (a1 / 4096)) % 256, (Go.bits .or .i64 128 (Go.bits .and .i64 (a1 / 64) 63)) % 256, (Go.bits .or .i64 128 (Go.bits .and .i64 a1 63)) % 256] : List Int) : List Int)).bind fun y155 => (if y141.length + y155.length < 140737488355328 then (some (y141 ++ y155)) else (none))) else ((some (([(Go.bits .or .i64 240 (a1 / 262144)) % 256, (Go.bits .or .i64 128 (Go.bits .and .i64 (a1 / 4096) 63)) % 256, (Go.bits .or .i64 128 (Go.bits .and .i64 (a1 / 64) 63)) % 256, (Go.bits .or .i64 128 (Go.bits .and .i64 a1 63)) % 256] : List Int) : List Int)).bind fun y161 => (if y141.length + y161.length < 140737488355328 then (some (y141 ++ y161)) else (none)))))) = some r := H
          have A9 := Aside0.mk A90
          clear A90
          by_cases c10 : t145 = 1
          · rw [if_pos c10] at H
            have c10b0 : (t145 == 1) = true := beq_iff_eq.mpr c10
            have c10b1 : (t145 != 1) = false := bne_eq_false_iff_eq.mpr c10
            clear c10
            by_cases c11 : y141.length < 140737488355328
            · rw [if_pos c11] at H
              have LMc11 := Aside0.mk c11
              clear c11
              obtain ⟨y146, hy146⟩ : ∃ y_ : List Int, y_ = (y141 ++ [(a1) % 256]) := ⟨_, rfl⟩
              replace H : (some y146) = some r := by first | (rw [hy146]; with_reducible exact H) | (have H2_ := (Option.bind_some _ _).symm.trans H; rw [hy146]; with_reducible exact H2_) | (have H2_ := (Option.bind_some _ _).symm.trans H; with_reducible exact H2_) | with_reducible exact H | (rw [hy146]; exact H) | exact H
              have Ny146 := Aside0.mk hy146
              clear hy146
              obtain rfl := Option.some.inj H
              go_enter Tryd.func67, Tryd.ntmps67
              go_wp2_with (first | ((with_reducible refine gate_dst (N := 9) rfl ?_); refine Kd.R_make0 (Kd.int .u8) _ 5 rfl (N := 9) rfl 46 _ _ rfl ji3 rfl rfl Tryd.underlying46 (.int .u8 0) 1 info5 (by omega) (ok := fun _ => True) trivial (of_decide_eq_true (by first | (with_reducible assumption) | assumption)) (by have h_ : ji3 ≤ 281474976710656 := of_decide_eq_true (by first | (with_reducible assumption) | assumption); omega) (Below.refl _ _) (Nat.le_refl _) ?_; intro v139 w12 ho13 hb hg_ hnew_; clear hg_ hnew_; rw [← Ny138.out] at ho13; have n0_ := Aside0.mk (Kd.R_lower ho13 (below_size (by repeat (first | (with_reducible first | exact HB.out | apply below_alloc | apply pw_below_drewN | apply below_drew1) | exact HB.out)))); have n1_ := Aside0.mk (below_step (by repeat (first | (with_reducible first | exact HB.out | apply below_alloc | apply pw_below_drewN | apply below_drew1) | exact HB.out)) hb); clear HB; have HO140 := n0_; have HB := n1_; clear n0_ n1_; clear hb ho13) | ((with_reducible refine gate_builtin (b := .append) (xs := #[.tmp 9, .tmp 10]) rfl ?_); at_builtin; refine Kd.R_append_rows (Kd.int .u8) (w0 := w) w.heap.size rfl (.tmp 9) (.tmp 10) 46 5 (.int .u8 0) 1 rfl Tryd.underlying46 info5 rfl (by decide) (by omega) v139 y138 l0 _ _ _ (fun _ => True) (fun _ => False) rfl rfl ?aO ?aR (fun _ _ h => h) (fun _ h => h.elim) ?aF ?aB ?aS ?aL ?_; (case aR => repeat (first | exact (Kd.C_below HR0.out HB.out) | (with_reducible refine Kd.C_alloc ?_ _) | (with_reducible refine Kd.C_drewN ?_ _) | (with_reducible refine Kd.C_drew ?_))); (case aB => exact (by repeat (first | (with_reducible first | exact HB.out | apply below_alloc | apply pw_below_drewN | apply below_drew1) | exact HB.out))); (case aF => exact (fun _ _ => trivial)); (case aO => exact (by (with_reducible repeat (first | apply Kd.R_alloc | apply Kd.R_drewN | apply Kd.R_drew)); exact HO140.out)); (case aS => exact (below_size (by repeat (first | (with_reducible first | exact HB.out | apply below_alloc | apply pw_below_drewN | apply below_drew1) | exact HB.out)))); (case aL => have := LMc6.out; omega); intro v142 w14 ho hb hg hat; rw [← Ny141.out] at ho; have n0_ := Aside0.mk (hb); have n1_ := Aside0.mk (ho); clear HB; clear HO140; have HB := n0_; have HO143 := n1_; clear n0_ n1_; clear ho hb hg hat) | ((with_reducible refine gate_callee (f := 87) rfl ?_); refine goesL_ (some 13) rfl rfl Tryd.func87 (by kernel_rfl) rfl #[.int .i64 a1] rfl (by (try simp only [List.map_toArray, List.map_cons, List.map_nil]); first | done | rfl | (simp only [List.length_drop, List.length_take]; rfl)) ?_; (with_reducible refine (utf_Good.calls a1 true _ A7.out).mono ?_); rintro e w' ⟨rfl, ⟨nd, rfl⟩⟩; refine ⟨_, rfl, ?_⟩) | ((with_reducible refine gate_callee (f := 89) rfl ?_); refine goesL_ (some 17) rfl rfl Tryd.func89 (by kernel_rfl) rfl #[.int .i64 a1] rfl (by (try simp only [List.map_toArray, List.map_cons, List.map_nil]); first | done | rfl | (simp only [List.length_drop, List.length_take]; rfl)) ?_; (with_reducible refine (utf_size.calls a1 t145 _ A9.out).mono ?_); rintro e w' ⟨rfl, ⟨nd, rfl⟩⟩; refine ⟨_, rfl, ?_⟩) | ((with_reducible refine gate_builtin (b := .append) (xs := #[.tmp 20, .tmp 23]) rfl ?_); at_builtin; refine Kd.R_append (Kd.int .u8) (w0 := w) w.heap.size rfl (.tmp 20) (.tmp 23) 46 5 (.int .u8 0) 1 rfl Tryd.underlying46 info5 rfl (by decide) (by omega) v142 y141 ((a1) % 256) [.int .u8 ((a1) % 256)] (fun _ => True) (fun _ => False) rfl rfl ?aP (fun _ hk => hk.elim) ?aF ?aO ?aB ?aS ?aL ?_; (case aP => exact rfl); (case aB => exact (by repeat (first | (with_reducible first | exact HB.out | apply below_alloc | apply pw_below_drewN | apply below_drew1) | exact HB.out))); (case aF => exact (fun _ _ => trivial)); (case aO => exact (by (with_reducible repeat (first | apply Kd.R_alloc | apply Kd.R_drewN | apply Kd.R_drew)); exact HO143.out)); (case aS => exact (below_size (by repeat (first | (with_reducible first | exact HB.out | apply below_alloc | apply pw_below_drewN | apply below_drew1) | exact HB.out)))); (case aL => have := LMc11.out; omega); intro v147 w15 ho hb hg hat; rw [← Ny146.out] at ho; have n0_ := Aside0.mk (hb); have n1_ := Aside0.mk (ho); clear HB; clear HO143; have HB := n0_; have HO148 := n1_; clear n0_ n1_; clear ho hb hg hat))
              go_ret
              exact ⟨_, by first | rfl | (simp [errW_none, errW_some] <;> rfl) | (simp [*, errW_none, errW_some, bne]; done) | (simp only [← hji3]; first | rfl | (simp [errW_none, errW_some] <;> rfl)) | (simp [*, errW_none, errW_some] <;> rfl), by (with_reducible repeat (first | apply Kd.R_alloc | apply Kd.R_drewN | apply Kd.R_drew)); exact HO148.out, by repeat (first | (with_reducible first | exact HB.out | apply below_alloc | apply pw_below_drewN | apply below_drew1) | exact HB.out)⟩
            · rw [if_neg c11] at H
              exact absurd H (by simp)
          · rw [if_neg c10] at H
            have c10b0 : (t145 == 1) = false := beq_eq_false_iff_ne.mpr c10
            have c10b1 : (t145 != 1) = true := bne_iff_ne.mpr c10
            by_cases c16 : t145 = 2
            · rw [if_pos c16] at H
              have c16b0 : (t145 == 2) = true := beq_iff_eq.mpr c16
              have c16b1 : (t145 != 2) = false := bne_eq_false_iff_eq.mpr c16
              clear c16
              obtain ⟨y149, hy149⟩ : ∃ y_ : List Int, y_ = (([(Go.bits .or .i64 192 (a1 / 64)) % 256, (Go.bits .or .i64 128 (Go.bits .and .i64 a1 63)) % 256] : List Int)) := ⟨_, rfl⟩
              replace H : (if y141.length + y149.length < 140737488355328 then (some (y141 ++ y149)) else (none)) = some r := by first | (rw [hy149]; with_reducible exact H) | (have H2_ := (Option.bind_some _ _).symm.trans H; rw [hy149]; with_reducible exact H2_) | (have H2_ := (Option.bind_some _ _).symm.trans H; with_reducible exact H2_) | with_reducible exact H | (rw [hy149]; exact H) | exact H
              have Ny149 := Aside0.mk hy149
              clear hy149
              by_cases c17 : y141.length + y149.length < 140737488355328
              · rw [if_pos c17] at H
                have LMc17 := Aside0.mk c17
                clear c17
                obtain ⟨y152, hy152⟩ : ∃ y_ : List Int, y_ = (y141 ++ y149) := ⟨_, rfl⟩
                replace H : (some y152) = some r := by first | (rw [hy152]; with_reducible exact H) | (have H2_ := (Option.bind_some _ _).symm.trans H; rw [hy152]; with_reducible exact H2_) | (have H2_ := (Option.bind_some _ _).symm.trans H; with_reducible exact H2_) | with_reducible exact H | (rw [hy152]; exact H) | exact H
                have Ny152 := Aside0.mk hy152
                clear hy152
                obtain rfl := Option.some.inj H
                go_enter Tryd.func67, Tryd.ntmps67
                go_wp2_with (first | ((with_reducible refine gate_dst (N := 9) rfl ?_); refine Kd.R_make0 (Kd.int .u8) _ 5 rfl (N := 9) rfl 46 _ _ rfl ji3 rfl rfl Tryd.underlying46 (.int .u8 0) 1 info5 (by omega) (ok := fun _ => True) trivial (of_decide_eq_true (by first | (with_reducible assumption) | assumption)) (by have h_ : ji3 ≤ 281474976710656 := of_decide_eq_true (by first | (with_reducible assumption) | assumption); omega) (Below.refl _ _) (Nat.le_refl _) ?_; intro v139 w18 ho19 hb hg_ hnew_; clear hg_ hnew_; rw [← Ny138.out] at ho19; have n0_ := Aside0.mk (Kd.R_lower ho19 (below_size (by repeat (first | (with_reducible first | exact HB.out | apply below_alloc | apply pw_below_drewN | apply below_drew1) | exact HB.out)))); have n1_ := Aside0.mk (below_step (by repeat (first | (with_reducible first | exact HB.out | apply below_alloc | apply pw_below_drewN | apply below_drew1) | exact HB.out)) hb); clear HB; have HO140 := n0_; have HB := n1_; clear n0_ n1_; clear hb ho19) | ((with_reducible refine gate_builtin (b := .append) (xs := #[.tmp 9, .tmp 10]) rfl ?_); at_builtin; refine Kd.R_append_rows (Kd.int .u8) (w0 := w) w.heap.size rfl (.tmp 9) (.tmp 10) 46 5 (.int .u8 0) 1 rfl Tryd.underlying46 info5 rfl (by decide) (by omega) v139 y138 l0 _ _ _ (fun _ => True) (fun _ => False) rfl rfl ?aO ?aR (fun _ _ h => h) (fun _ h => h.elim) ?aF ?aB ?aS ?aL ?_; (case aR => repeat (first | exact (Kd.C_below HR0.out HB.out) | (with_reducible refine Kd.C_alloc ?_ _) | (with_reducible refine Kd.C_drewN ?_ _) | (with_reducible refine Kd.C_drew ?_))); (case aB => exact (by repeat (first | (with_reducible first | exact HB.out | apply below_alloc | apply pw_below_drewN | apply below_drew1) | exact HB.out))); (case aF => exact (fun _ _ => trivial)); (case aO => exact (by (with_reducible repeat (first | apply Kd.R_alloc | apply Kd.R_drewN | apply Kd.R_drew)); exact HO140.out)); (case aS => exact (below_size (by repeat (first | (with_reducible first | exact HB.out | apply below_alloc | apply pw_below_drewN | apply below_drew1) | exact HB.out)))); (case aL => have := LMc6.out; omega); intro v142 w20 ho hb hg hat; rw [← Ny141.out] at ho; have n0_ := Aside0.mk (hb); have n1_ := Aside0.mk (ho); clear HB; clear HO140; have HB := n0_; have HO143 := n1_; clear n0_ n1_; clear ho hb hg hat) | ((with_reducible refine gate_callee (f := 87) rfl ?_); refine goesL_ (some 13) rfl rfl Tryd.func87 (by kernel_rfl) rfl #[.int .i64 a1] rfl (by (try simp only [List.map_toArray, List.map_cons, List.map_nil]); first | done | rfl | (simp only [List.length_drop, List.length_take]; rfl)) ?_; (with_reducible refine (utf_Good.calls a1 true _ A7.out).mono ?_); rintro e w' ⟨rfl, ⟨nd, rfl⟩⟩; refine ⟨_, rfl, ?_⟩) | ((with_reducible refine gate_callee (f := 89) rfl ?_); refine goesL_ (some 17) rfl rfl Tryd.func89 (by kernel_rfl) rfl #[.int .i64 a1] rfl (by (try simp only [List.map_toArray, List.map_cons, List.map_nil]); first | done | rfl | (simp only [List.length_drop, List.length_take]; rfl)) ?_; (with_reducible refine (utf_size.calls a1 t145 _ A9.out).mono ?_); rintro e w' ⟨rfl, ⟨nd, rfl⟩⟩; refine ⟨_, rfl, ?_⟩) | ((with_reducible refine gate_dst (N := 36) rfl ?_); refine Kd.R_lit (Kd.int .u8) _ 5 ?hg (N := 36) ?hd (xs := ([(Go.bits .or .i64 192 (a1 / 64)) % 256, (Go.bits .or .i64 128 (Go.bits .and .i64 a1 63)) % 256] : List Int)) (inner := [.int .u8 ((Go.bits .or .i64 192 (a1 / 64)) % 256), .int .u8 ((Go.bits .or .i64 128 (Go.bits .and .i64 a1 63)) % 256)]) (ok := fun _ => True) (okp := fun _ => True) ?hr ?hp (fun _ hk => hk) trivial (Below.refl _ _) (Nat.le_refl _) (by simp) ?_; (case hd => rfl); (case hg => rfl); (case hr => first | (go_simp; done) | (go_simp; rfl)); (case hp => exact (Reps.one (show Kd.M (Kd.int .u8) _ _ _ ((Go.bits .or .i64 192 (a1 / 64)) % 256) [.int .u8 ((Go.bits .or .i64 192 (a1 / 64)) % 256)] from rfl) (Reps.one (show Kd.M (Kd.int .u8) _ _ _ ((Go.bits .or .i64 128 (Go.bits .and .i64 a1 63)) % 256) [.int .u8 ((Go.bits .or .i64 128 (Go.bits .and .i64 a1 63)) % 256)] from rfl) (Reps.none _ _)))); intro v150 w21 ho22 hb hg_ hnew_; clear hg_ hnew_; (first | rw [← Ny149.out] at ho22 | (simp only [Int.reduceToNat] at ho22; rw [← Ny149.out] at ho22)); have n0_ := Aside0.mk (Kd.R_elder' (by (with_reducible repeat (first | apply Kd.R_alloc | apply Kd.R_drewN | apply Kd.R_drew)); exact HO143.out) (Kd.R_base ho22) hb); have n1_ := Aside0.mk (Kd.R_lower (Kd.R_new' ho22 (Kd.R_lt (by (with_reducible repeat (first | apply Kd.R_alloc | apply Kd.R_drewN | apply Kd.R_drew)); exact HO143.out))) (below_size (by repeat (first | (with_reducible first | exact HB.out | apply below_alloc | apply pw_below_drewN | apply below_drew1) | exact HB.out)))); have n2_ := Aside0.mk (below_step (by repeat (first | (with_reducible first | exact HB.out | apply below_alloc | apply pw_below_drewN | apply below_drew1) | exact HB.out)) hb); clear HO143; clear HB; have HO143 := n0_; have HO151 := n1_; have HB := n2_; clear n0_ n1_ n2_; clear hb ho22; obtain ⟨Ao24, co24, eo24⟩ := Kd.R_slice HO151.out; subst eo24) | ((with_reducible refine gate_builtin (b := .append) (xs := #[.tmp 27, .tmp 36]) rfl ?_); at_builtin; refine Kd.R_append_rows (Kd.int .u8) (w0 := w) w.heap.size rfl (.tmp 27) (.tmp 36) 46 5 (.int .u8 0) 1 rfl Tryd.underlying46 info5 rfl (by decide) (by omega) v142 y141 y149 _ _ _ (fun k_ => some k_ ≠ (.slice Ao24 y149.length co24 : Value).ownBlock) (fun _ => False) rfl rfl ?aO ?aR (fun _ _ h => h) (fun _ h => h.elim) ?aF ?aB ?aS ?aL ?_; (case aR => repeat (first | exact (Kd.R_reads' HO151.out).2.2 | (with_reducible refine Kd.C_alloc ?_ _) | (with_reducible refine Kd.C_drewN ?_ _) | (with_reducible refine Kd.C_drew ?_))); (case aB => exact (by repeat (first | (with_reducible first | exact HB.out | apply below_alloc | apply pw_below_drewN | apply below_drew1) | exact HB.out))); (case aF => exact (fun k_ hk => Kd.fresh' (Kd.R_lt (by (with_reducible repeat (first | apply Kd.R_alloc | apply Kd.R_drewN | apply Kd.R_drew)); exact HO151.out)) k_ hk)); (case aO => exact (by (with_reducible repeat (first | apply Kd.R_alloc | apply Kd.R_drewN | apply Kd.R_drew)); exact Kd.R_mono HO143.out (fun _ hk => hk.2))); (case aS => exact (below_size (by repeat (first | (with_reducible first | exact HB.out | apply below_alloc | apply pw_below_drewN | apply below_drew1) | exact HB.out)))); (case aL => have := LMc17.out; omega); intro v153 w23 ho hb hg hat; rw [← Ny152.out] at ho; have n0_ := Aside0.mk (Kd.R_after (ok := (fun _ => True)) (by (with_reducible repeat (first | apply Kd.R_alloc | apply Kd.R_drewN | apply Kd.R_drew)); exact HO151.out) hg hat); have n1_ := Aside0.mk (hb); have n2_ := Aside0.mk (ho); clear HO151; clear HB; clear HO143; have HO151 := n0_; have HB := n1_; have HO154 := n2_; clear n0_ n1_ n2_; clear ho hb hg hat))
                go_ret
                exact ⟨_, by first | rfl | (simp [errW_none, errW_some] <;> rfl) | (simp [*, errW_none, errW_some, bne]; done) | (simp only [← hji3]; first | rfl | (simp [errW_none, errW_some] <;> rfl)) | (simp [*, errW_none, errW_some] <;> rfl), by (with_reducible repeat (first | apply Kd.R_alloc | apply Kd.R_drewN | apply Kd.R_drew)); exact Kd.R_mono HO154.out (fun _ hk => trivial), by repeat (first | (with_reducible first | exact HB.out | apply below_alloc | apply pw_below_drewN | apply below_drew1) | exact HB.out)⟩
              · rw [if_neg c17] at H
                exact absurd H (by simp)
            · rw [if_neg c16] at H
              have c16b0 : (t145 == 2) = false := beq_eq_false_iff_ne.mpr c16
              have c16b1 : (t145 != 2) = true := bne_iff_ne.mpr c16
              by_cases c25 : t145 = 3
              · rw [if_pos c25] at H
                have c25b0 : (t145 == 3) = true := beq_iff_eq.mpr c25
                have c25b1 : (t145 != 3) = false := bne_eq_false_iff_eq.mpr c25
                clear c25
                obtain ⟨y155, hy155⟩ : ∃ y_ : List Int, y_ = (([(Go.bits .or .i64 224 (a1 / 4096)) % 256, (Go.bits .or .i64 128 (Go.bits .and .i64 (a1 / 64) 63)) % 256, (Go.bits .or .i64 128 (Go.bits .and .i64 a1 63)) % 256] : List Int)) := ⟨_, rfl⟩
                replace H : (if y141.length + y155.length < 140737488355328 then (some (y141 ++ y155)) else (none)) = some r := by first | (rw [hy155]; with_reducible exact H) | (have H2_ := (Option.bind_some _ _).symm.trans H; rw [hy155]; with_reducible exact H2_) | (have H2_ := (Option.bind_some _ _).symm.trans H; with_reducible exact H2_) | with_reducible exact H | (rw [hy155]; exact H) | exact H
                have Ny155 := Aside0.mk hy155
                clear hy155
                by_cases c26 : y141.length + y155.length < 140737488355328
                · rw [if_pos c26] at H
                  have LMc26 := Aside0.mk c26
                  clear c26
                  obtain ⟨y158, hy158⟩ : ∃ y_ : List Int, y_ = (y141 ++ y155) := ⟨_, rfl⟩
                  replace H : (some y158) = some r := by first | (rw [hy158]; with_reducible exact H) | (have H2_ := (Option.bind_some _ _).symm.trans H; rw [hy158]; with_reducible exact H2_) | (have H2_ := (Option.bind_some _ _).symm.trans H; with_reducible exact H2_) | with_reducible exact H | (rw [hy158]; exact H) | exact H
                  have Ny158 := Aside0.mk hy158
                  clear hy158
                  obtain rfl := Option.some.inj H
                  go_enter Tryd.func67, Tryd.ntmps67
                  go_wp2_with (first | ((with_reducible refine gate_dst (N := 9) rfl ?_); refine Kd.R_make0 (Kd.int .u8) _ 5 rfl (N := 9) rfl 46 _ _ rfl ji3 rfl rfl Tryd.underlying46 (.int .u8 0) 1 info5 (by omega) (ok := fun _ => True) trivial (of_decide_eq_true (by first | (with_reducible assumption) | assumption)) (by have h_ : ji3 ≤ 281474976710656 := of_decide_eq_true (by first | (with_reducible assumption) | assumption); omega) (Below.refl _ _) (Nat.le_refl _) ?_; intro v139 w27 ho28 hb hg_ hnew_; clear hg_ hnew_; rw [← Ny138.out] at ho28; have n0_ := Aside0.mk (Kd.R_lower ho28 (below_size (by repeat (first | (with_reducible first | exact HB.out | apply below_alloc | apply pw_below_drewN | apply below_drew1) | exact HB.out)))); have n1_ := Aside0.mk (below_step (by repeat (first | (with_reducible first | exact HB.out | apply below_alloc | apply pw_below_drewN | apply below_drew1) | exact HB.out)) hb); clear HB; have HO140 := n0_; have HB := n1_; clear n0_ n1_; clear hb ho28) | ((with_reducible refine gate_builtin (b := .append) (xs := #[.tmp 9, .tmp 10]) rfl ?_); at_builtin; refine Kd.R_append_rows (Kd.int .u8) (w0 := w) w.heap.size rfl (.tmp 9) (.tmp 10) 46 5 (.int .u8 0) 1 rfl Tryd.underlying46 info5 rfl (by decide) (by omega) v139 y138 l0 _ _ _ (fun _ => True) (fun _ => False) rfl rfl ?aO ?aR (fun _ _ h => h) (fun _ h => h.elim) ?aF ?aB ?aS ?aL ?_; (case aR => repeat (first | exact (Kd.C_below HR0.out HB.out) | (with_reducible refine Kd.C_alloc ?_ _) | (with_reducible refine Kd.C_drewN ?_ _) | (with_reducible refine Kd.C_drew ?_))); (case aB => exact (by repeat (first | (with_reducible first | exact HB.out | apply below_alloc | apply pw_below_drewN | apply below_drew1) | exact HB.out))); (case aF => exact (fun _ _ => trivial)); (case aO => exact (by (with_reducible repeat (first | apply Kd.R_alloc | apply Kd.R_drewN | apply Kd.R_drew)); exact HO140.out)); (case aS => exact (below_size (by repeat (first | (with_reducible first | exact HB.out | apply below_alloc | apply pw_below_drewN | apply below_drew1) | exact HB.out)))); (case aL => have := LMc6.out; omega); intro v142 w29 ho hb hg hat; rw [← Ny141.out] at ho; have n0_ := Aside0.mk (hb); have n1_ := Aside0.mk (ho); clear HB; clear HO140; have HB := n0_; have HO143 := n1_; clear n0_ n1_; clear ho hb hg hat) | ((with_reducible refine gate_callee (f := 87) rfl ?_); refine goesL_ (some 13) rfl rfl Tryd.func87 (by kernel_rfl) rfl #[.int .i64 a1] rfl (by (try simp only [List.map_toArray, List.map_cons, List.map_nil]); first | done | rfl | (simp only [List.length_drop, List.length_take]; rfl)) ?_; (with_reducible refine (utf_Good.calls a1 true _ A7.out).mono ?_); rintro e w' ⟨rfl, ⟨nd, rfl⟩⟩; refine ⟨_, rfl, ?_⟩) | ((with_reducible refine gate_callee (f := 89) rfl ?_); refine goesL_ (some 17) rfl rfl Tryd.func89 (by kernel_rfl) rfl #[.int .i64 a1] rfl (by (try simp only [List.map_toArray, List.map_cons, List.map_nil]); first | done | rfl | (simp only [List.length_drop, List.length_take]; rfl)) ?_; (with_reducible refine (utf_size.calls a1 t145 _ A9.out).mono ?_); rintro e w' ⟨rfl, ⟨nd, rfl⟩⟩; refine ⟨_, rfl, ?_⟩) | ((with_reducible refine gate_dst (N := 54) rfl ?_); refine Kd.R_lit (Kd.int .u8) _ 5 ?hg (N := 54) ?hd (xs := ([(Go.bits .or .i64 224 (a1 / 4096)) % 256, (Go.bits .or .i64 128 (Go.bits .and .i64 (a1 / 64) 63)) % 256, (Go.bits .or .i64 128 (Go.bits .and .i64 a1 63)) % 256] : List Int)) (inner := [.int .u8 ((Go.bits .or .i64 224 (a1 / 4096)) % 256), .int .u8 ((Go.bits .or .i64 128 (Go.bits .and .i64 (a1 / 64) 63)) % 256), .int .u8 ((Go.bits .or .i64 128 (Go.bits .and .i64 a1 63)) % 256)]) (ok := fun _ => True) (okp := fun _ => True) ?hr ?hp (fun _ hk => hk) trivial (Below.refl _ _) (Nat.le_refl _) (by simp) ?_; (case hd => rfl); (case hg => rfl); (case hr => first | (go_simp; done) | (go_simp; rfl)); (case hp => exact (Reps.one (show Kd.M (Kd.int .u8) _ _ _ ((Go.bits .or .i64 224 (a1 / 4096)) % 256) [.int .u8 ((Go.bits .or .i64 224 (a1 / 4096)) % 256)] from rfl) (Reps.one (show Kd.M (Kd.int .u8) _ _ _ ((Go.bits .or .i64 128 (Go.bits .and .i64 (a1 / 64) 63)) % 256) [.int .u8 ((Go.bits .or .i64 128 (Go.bits .and .i64 (a1 / 64) 63)) % 256)] from rfl) (Reps.one (show Kd.M (Kd.int .u8) _ _ _ ((Go.bits .or .i64 128 (Go.bits .and .i64 a1 63)) % 256) [.int .u8 ((Go.bits .or .i64 128 (Go.bits .and .i64 a1 63)) % 256)] from rfl) (Reps.none _ _))))); intro v156 w30 ho31 hb hg_ hnew_; clear hg_ hnew_; (first | rw [← Ny155.out] at ho31 | (simp only [Int.reduceToNat] at ho31; rw [← Ny155.out] at ho31)); have n0_ := Aside0.mk (Kd.R_elder' (by (with_reducible repeat (first | apply Kd.R_alloc | apply Kd.R_drewN | apply Kd.R_drew)); exact HO143.out) (Kd.R_base ho31) hb); have n1_ := Aside0.mk (Kd.R_lower (Kd.R_new' ho31 (Kd.R_lt (by (with_reducible repeat (first | apply Kd.R_alloc | apply Kd.R_drewN | apply Kd.R_drew)); exact HO143.out))) (below_size (by repeat (first | (with_reducible first | exact HB.out | apply below_alloc | apply pw_below_drewN | apply below_drew1) | exact HB.out)))); have n2_ := Aside0.mk (below_step (by repeat (first | (with_reducible first | exact HB.out | apply below_alloc | apply pw_below_drewN | apply below_drew1) | exact HB.out)) hb); clear HO143; clear HB; have HO143 := n0_; have HO157 := n1_; have HB := n2_; clear n0_ n1_ n2_; clear hb ho31; obtain ⟨Ao33, co33, eo33⟩ := Kd.R_slice HO157.out; subst eo33) | ((with_reducible refine gate_builtin (b := .append) (xs := #[.tmp 40, .tmp 54]) rfl ?_); at_builtin; refine Kd.R_append_rows (Kd.int .u8) (w0 := w) w.heap.size rfl (.tmp 40) (.tmp 54) 46 5 (.int .u8 0) 1 rfl Tryd.underlying46 info5 rfl (by decide) (by omega) v142 y141 y155 _ _ _ (fun k_ => some k_ ≠ (.slice Ao33 y155.length co33 : Value).ownBlock) (fun _ => False) rfl rfl ?aO ?aR (fun _ _ h => h) (fun _ h => h.elim) ?aF ?aB ?aS ?aL ?_; (case aR => repeat (first | exact (Kd.R_reads' HO157.out).2.2 | (with_reducible refine Kd.C_alloc ?_ _) | (with_reducible refine Kd.C_drewN ?_ _) | (with_reducible refine Kd.C_drew ?_))); (case aB => exact (by repeat (first | (with_reducible first | exact HB.out | apply below_alloc | apply pw_below_drewN | apply below_drew1) | exact HB.out))); (case aF => exact (fun k_ hk => Kd.fresh' (Kd.R_lt (by (with_reducible repeat (first | apply Kd.R_alloc | apply Kd.R_drewN | apply Kd.R_drew)); exact HO157.out)) k_ hk)); (case aO => exact (by (with_reducible repeat (first | apply Kd.R_alloc | apply Kd.R_drewN | apply Kd.R_drew)); exact Kd.R_mono HO143.out (fun _ hk => hk.2))); (case aS => exact (below_size (by repeat (first | (with_reducible first | exact HB.out | apply below_alloc | apply pw_below_drewN | apply below_drew1) | exact HB.out)))); (case aL => have := LMc26.out; omega); intro v159 w32 ho hb hg hat; rw [← Ny158.out] at ho; have n0_ := Aside0.mk (Kd.R_after (ok := (fun _ => True)) (by (with_reducible repeat (first | apply Kd.R_alloc | apply Kd.R_drewN | apply Kd.R_drew)); exact HO157.out) hg hat); have n1_ := Aside0.mk (hb); have n2_ := Aside0.mk (ho); clear HO157; clear HB; clear HO143; have HO157 := n0_; have HB := n1_; have HO160 := n2_; clear n0_ n1_ n2_; clear ho hb hg hat))
                  go_ret
                  exact ⟨_, by first | rfl | (simp [errW_none, errW_some] <;> rfl) | (simp [*, errW_none, errW_some, bne]; done) | (simp only [← hji3]; first | rfl | (simp [errW_none, errW_some] <;> rfl)) | (simp [*, errW_none, errW_some] <;> rfl), by (with_reducible repeat (first | apply Kd.R_alloc | apply Kd.R_drewN | apply Kd.R_drew)); exact Kd.R_mono HO160.out (fun _ hk => trivial), by repeat (first | (with_reducible first | exact HB.out | apply below_alloc | apply pw_below_drewN | apply below_drew1) | exact HB.out)⟩
                · rw [if_neg c26] at H
                  exact absurd H (by simp)
              · rw [if_neg c25] at H
                have c25b0 : (t145 == 3) = false := beq_eq_false_iff_ne.mpr c25
                have c25b1 : (t145 != 3) = true := bne_iff_ne.mpr c25
                obtain ⟨y161, hy161⟩ : ∃ y_ : List Int, y_ = (([(Go.bits .or .i64 240 (a1 / 262144)) % 256, (Go.bits .or .i64 128 (Go.bits .and .i64 (a1 / 4096) 63)) % 256, (Go.bits .or .i64 128 (Go.bits .and .i64 (a1 / 64) 63)) % 256, (Go.bits .or .i64 128 (Go.bits .and .i64 a1 63)) % 256] : List Int)) := ⟨_, rfl⟩
                replace H : (if y141.length + y161.length < 140737488355328 then (some (y141 ++ y161)) else (none)) = some r := by first | (rw [hy161]; with_reducible exact H) | (have H2_ := (Option.bind_some _ _).symm.trans H; rw [hy161]; with_reducible exact H2_) | (have H2_ := (Option.bind_some _ _).symm.trans H; with_reducible exact H2_) | with_reducible exact H | (rw [hy161]; exact H) | exact H
                have Ny161 := Aside0.mk hy161
                clear hy161
                by_cases c34 : y141.length + y161.length < 140737488355328
                · rw [if_pos c34] at H
                  have LMc34 := Aside0.mk c34
                  clear c34
                  obtain ⟨y164, hy164⟩ : ∃ y_ : List Int, y_ = (y141 ++ y161) := ⟨_, rfl⟩
                  replace H : (some y164) = some r := by first | (rw [hy164]; with_reducible exact H) | (have H2_ := (Option.bind_some _ _).symm.trans H; rw [hy164]; with_reducible exact H2_) | (have H2_ := (Option.bind_some _ _).symm.trans H; with_reducible exact H2_) | with_reducible exact H | (rw [hy164]; exact H) | exact H
                  have Ny164 := Aside0.mk hy164
                  clear hy164
                  obtain rfl := Option.some.inj H
                  go_enter Tryd.func67, Tryd.ntmps67
                  go_wp2_with (first | ((with_reducible refine gate_dst (N := 9) rfl ?_); refine Kd.R_make0 (Kd.int .u8) _ 5 rfl (N := 9) rfl 46 _ _ rfl ji3 rfl rfl Tryd.underlying46 (.int .u8 0) 1 info5 (by omega) (ok := fun _ => True) trivial (of_decide_eq_true (by first | (with_reducible assumption) | assumption)) (by have h_ : ji3 ≤ 281474976710656 := of_decide_eq_true (by first | (with_reducible assumption) | assumption); omega) (Below.refl _ _) (Nat.le_refl _) ?_; intro v139 w35 ho36 hb hg_ hnew_; clear hg_ hnew_; rw [← Ny138.out] at ho36; have n0_ := Aside0.mk (Kd.R_lower ho36 (below_size (by repeat (first | (with_reducible first | exact HB.out | apply below_alloc | apply pw_below_drewN | apply below_drew1) | exact HB.out)))); have n1_ := Aside0.mk (below_step (by repeat (first | (with_reducible first | exact HB.out | apply below_alloc | apply pw_below_drewN | apply below_drew1) | exact HB.out)) hb); clear HB; have HO140 := n0_; have HB := n1_; clear n0_ n1_; clear hb ho36) | ((with_reducible refine gate_builtin (b := .append) (xs := #[.tmp 9, .tmp 10]) rfl ?_); at_builtin; refine Kd.R_append_rows (Kd.int .u8) (w0 := w) w.heap.size rfl (.tmp 9) (.tmp 10) 46 5 (.int .u8 0) 1 rfl Tryd.underlying46 info5 rfl (by decide) (by omega) v139 y138 l0 _ _ _ (fun _ => True) (fun _ => False) rfl rfl ?aO ?aR (fun _ _ h => h) (fun _ h => h.elim) ?aF ?aB ?aS ?aL ?_; (case aR => repeat (first | exact (Kd.C_below HR0.out HB.out) | (with_reducible refine Kd.C_alloc ?_ _) | (with_reducible refine Kd.C_drewN ?_ _) | (with_reducible refine Kd.C_drew ?_))); (case aB => exact (by repeat (first | (with_reducible first | exact HB.out | apply below_alloc | apply pw_below_drewN | apply below_drew1) | exact HB.out))); (case aF => exact (fun _ _ => trivial)); (case aO => exact (by (with_reducible repeat (first | apply Kd.R_alloc | apply Kd.R_drewN | apply Kd.R_drew)); exact HO140.out)); (case aS => exact (below_size (by repeat (first | (with_reducible first | exact HB.out | apply below_alloc | apply pw_below_drewN | apply below_drew1) | exact HB.out)))); (case aL => have := LMc6.out; omega); intro v142 w37 ho hb hg hat; rw [← Ny141.out] at ho; have n0_ := Aside0.mk (hb); have n1_ := Aside0.mk (ho); clear HB; clear HO140; have HB := n0_; have HO143 := n1_; clear n0_ n1_; clear ho hb hg hat) | ((with_reducible refine gate_callee (f := 87) rfl ?_); refine goesL_ (some 13) rfl rfl Tryd.func87 (by kernel_rfl) rfl #[.int .i64 a1] rfl (by (try simp only [List.map_toArray, List.map_cons, List.map_nil]); first | done | rfl | (simp only [List.length_drop, List.length_take]; rfl)) ?_; (with_reducible refine (utf_Good.calls a1 true _ A7.out).mono ?_); rintro e w' ⟨rfl, ⟨nd, rfl⟩⟩; refine ⟨_, rfl, ?_⟩) | ((with_reducible refine gate_callee (f := 89) rfl ?_); refine goesL_ (some 17) rfl rfl Tryd.func89 (by kernel_rfl) rfl #[.int .i64 a1] rfl (by (try simp only [List.map_toArray, List.map_cons, List.map_nil]); first | done | rfl | (simp only [List.length_drop, List.length_take]; rfl)) ?_; (with_reducible refine (utf_size.calls a1 t145 _ A9.out).mono ?_); rintro e w' ⟨rfl, ⟨nd, rfl⟩⟩; refine ⟨_, rfl, ?_⟩) | ((with_reducible refine gate_dst (N := 75) rfl ?_); refine Kd.R_lit (Kd.int .u8) _ 5 ?hg (N := 75) ?hd (xs := ([(Go.bits .or .i64 240 (a1 / 262144)) % 256, (Go.bits .or .i64 128 (Go.bits .and .i64 (a1 / 4096) 63)) % 256, (Go.bits .or .i64 128 (Go.bits .and .i64 (a1 / 64) 63)) % 256, (Go.bits .or .i64 128 (Go.bits .and .i64 a1 63)) % 256] : List Int)) (inner := [.int .u8 ((Go.bits .or .i64 240 (a1 / 262144)) % 256), .int .u8 ((Go.bits .or .i64 128 (Go.bits .and .i64 (a1 / 4096) 63)) % 256), .int .u8 ((Go.bits .or .i64 128 (Go.bits .and .i64 (a1 / 64) 63)) % 256), .int .u8 ((Go.bits .or .i64 128 (Go.bits .and .i64 a1 63)) % 256)]) (ok := fun _ => True) (okp := fun _ => True) ?hr ?hp (fun _ hk => hk) trivial (Below.refl _ _) (Nat.le_refl _) (by simp) ?_; (case hd => rfl); (case hg => rfl); (case hr => first | (go_simp; done) | (go_simp; rfl)); (case hp => exact (Reps.one (show Kd.M (Kd.int .u8) _ _ _ ((Go.bits .or .i64 240 (a1 / 262144)) % 256) [.int .u8 ((Go.bits .or .i64 240 (a1 / 262144)) % 256)] from rfl) (Reps.one (show Kd.M (Kd.int .u8) _ _ _ ((Go.bits .or .i64 128 (Go.bits .and .i64 (a1 / 4096) 63)) % 256) [.int .u8 ((Go.bits .or .i64 128 (Go.bits .and .i64 (a1 / 4096) 63)) % 256)] from rfl) (Reps.one (show Kd.M (Kd.int .u8) _ _ _ ((Go.bits .or .i64 128 (Go.bits .and .i64 (a1 / 64) 63)) % 256) [.int .u8 ((Go.bits .or .i64 128 (Go.bits .and .i64 (a1 / 64) 63)) % 256)] from rfl) (Reps.one (show Kd.M (Kd.int .u8) _ _ _ ((Go.bits .or .i64 128 (Go.bits .and .i64 a1 63)) % 256) [.int .u8 ((Go.bits .or .i64 128 (Go.bits .and .i64 a1 63)) % 256)] from rfl) (Reps.none _ _)))))); intro v162 w38 ho39 hb hg_ hnew_; clear hg_ hnew_; (first | rw [← Ny161.out] at ho39 | (simp only [Int.reduceToNat] at ho39; rw [← Ny161.out] at ho39)); have n0_ := Aside0.mk (Kd.R_elder' (by (with_reducible repeat (first | apply Kd.R_alloc | apply Kd.R_drewN | apply Kd.R_drew)); exact HO143.out) (Kd.R_base ho39) hb); have n1_ := Aside0.mk (Kd.R_lower (Kd.R_new' ho39 (Kd.R_lt (by (with_reducible repeat (first | apply Kd.R_alloc | apply Kd.R_drewN | apply Kd.R_drew)); exact HO143.out))) (below_size (by repeat (first | (with_reducible first | exact HB.out | apply below_alloc | apply pw_below_drewN | apply below_drew1) | exact HB.out)))); have n2_ := Aside0.mk (below_step (by repeat (first | (with_reducible first | exact HB.out | apply below_alloc | apply pw_below_drewN | apply below_drew1) | exact HB.out)) hb); clear HO143; clear HB; have HO143 := n0_; have HO163 := n1_; have HB := n2_; clear n0_ n1_ n2_; clear hb ho39; obtain ⟨Ao41, co41, eo41⟩ := Kd.R_slice HO163.out; subst eo41) | ((with_reducible refine gate_builtin (b := .append) (xs := #[.tmp 56, .tmp 75]) rfl ?_); at_builtin; refine Kd.R_append_rows (Kd.int .u8) (w0 := w) w.heap.size rfl (.tmp 56) (.tmp 75) 46 5 (.int .u8 0) 1 rfl Tryd.underlying46 info5 rfl (by decide) (by omega) v142 y141 y161 _ _ _ (fun k_ => some k_ ≠ (.slice Ao41 y161.length co41 : Value).ownBlock) (fun _ => False) rfl rfl ?aO ?aR (fun _ _ h => h) (fun _ h => h.elim) ?aF ?aB ?aS ?aL ?_; (case aR => repeat (first | exact (Kd.R_reads' HO163.out).2.2 | (with_reducible refine Kd.C_alloc ?_ _) | (with_reducible refine Kd.C_drewN ?_ _) | (with_reducible refine Kd.C_drew ?_))); (case aB => exact (by repeat (first | (with_reducible first | exact HB.out | apply below_alloc | apply pw_below_drewN | apply below_drew1) | exact HB.out))); (case aF => exact (fun k_ hk => Kd.fresh' (Kd.R_lt (by (with_reducible repeat (first | apply Kd.R_alloc | apply Kd.R_drewN | apply Kd.R_drew)); exact HO163.out)) k_ hk)); (case aO => exact (by (with_reducible repeat (first | apply Kd.R_alloc | apply Kd.R_drewN | apply Kd.R_drew)); exact Kd.R_mono HO143.out (fun _ hk => hk.2))); (case aS => exact (below_size (by repeat (first | (with_reducible first | exact HB.out | apply below_alloc | apply pw_below_drewN | apply below_drew1) | exact HB.out)))); (case aL => have := LMc34.out; omega); intro v165 w40 ho hb hg hat; rw [← Ny164.out] at ho; have n0_ := Aside0.mk (Kd.R_after (ok := (fun _ => True)) (by (with_reducible repeat (first | apply Kd.R_alloc | apply Kd.R_drewN | apply Kd.R_drew)); exact HO163.out) hg hat); have n1_ := Aside0.mk (hb); have n2_ := Aside0.mk (ho); clear HO163; clear HB; clear HO143; have HO163 := n0_; have HB := n1_; have HO166 := n2_; clear n0_ n1_ n2_; clear ho hb hg hat))
                  go_ret
                  exact ⟨_, by first | rfl | (simp [errW_none, errW_some] <;> rfl) | (simp [*, errW_none, errW_some, bne]; done) | (simp only [← hji3]; first | rfl | (simp [errW_none, errW_some] <;> rfl)) | (simp [*, errW_none, errW_some] <;> rfl), by (with_reducible repeat (first | apply Kd.R_alloc | apply Kd.R_drewN | apply Kd.R_drew)); exact Kd.R_mono HO166.out (fun _ hk => trivial), by repeat (first | (with_reducible first | exact HB.out | apply below_alloc | apply pw_below_drewN | apply below_drew1) | exact HB.out)⟩
                · rw [if_neg c34] at H
                  exact absurd H (by simp)
        · replace c8 := Bool.eq_false_iff.mpr c8
          subst c8
          have H1 : (some y141) = some r := by rw [if_neg (show ¬ (false = true) by decide)] at H; exact H
          clear H
          have H := H1
          clear H1
          obtain rfl := Option.some.inj H
          go_enter Tryd.func67, Tryd.ntmps67
          go_wp2_with (first | ((with_reducible refine gate_dst (N := 9) rfl ?_); refine Kd.R_make0 (Kd.int .u8) _ 5 rfl (N := 9) rfl 46 _ _ rfl ji3 rfl rfl Tryd.underlying46 (.int .u8 0) 1 info5 (by omega) (ok := fun _ => True) trivial (of_decide_eq_true (by first | (with_reducible assumption) | assumption)) (by have h_ : ji3 ≤ 281474976710656 := of_decide_eq_true (by first | (with_reducible assumption) | assumption); omega) (Below.refl _ _) (Nat.le_refl _) ?_; intro v139 w42 ho43 hb hg_ hnew_; clear hg_ hnew_; rw [← Ny138.out] at ho43; have n0_ := Aside0.mk (Kd.R_lower ho43 (below_size (by repeat (first | (with_reducible first | exact HB.out | apply below_alloc | apply pw_below_drewN | apply below_drew1) | exact HB.out)))); have n1_ := Aside0.mk (below_step (by repeat (first | (with_reducible first | exact HB.out | apply below_alloc | apply pw_below_drewN | apply below_drew1) | exact HB.out)) hb); clear HB; have HO140 := n0_; have HB := n1_; clear n0_ n1_; clear hb ho43) | ((with_reducible refine gate_builtin (b := .append) (xs := #[.tmp 9, .tmp 10]) rfl ?_); at_builtin; refine Kd.R_append_rows (Kd.int .u8) (w0 := w) w.heap.size rfl (.tmp 9) (.tmp 10) 46 5 (.int .u8 0) 1 rfl Tryd.underlying46 info5 rfl (by decide) (by omega) v139 y138 l0 _ _ _ (fun _ => True) (fun _ => False) rfl rfl ?aO ?aR (fun _ _ h => h) (fun _ h => h.elim) ?aF ?aB ?aS ?aL ?_; (case aR => repeat (first | exact (Kd.C_below HR0.out HB.out) | (with_reducible refine Kd.C_alloc ?_ _) | (with_reducible refine Kd.C_drewN ?_ _) | (with_reducible refine Kd.C_drew ?_))); (case aB => exact (by repeat (first | (with_reducible first | exact HB.out | apply below_alloc | apply pw_below_drewN | apply below_drew1) | exact HB.out))); (case aF => exact (fun _ _ => trivial)); (case aO => exact (by (with_reducible repeat (first | apply Kd.R_alloc | apply Kd.R_drewN | apply Kd.R_drew)); exact HO140.out)); (case aS => exact (below_size (by repeat (first | (with_reducible first | exact HB.out | apply below_alloc | apply pw_below_drewN | apply below_drew1) | exact HB.out)))); (case aL => have := LMc6.out; omega); intro v142 w44 ho hb hg hat; rw [← Ny141.out] at ho; have n0_ := Aside0.mk (hb); have n1_ := Aside0.mk (ho); clear HB; clear HO140; have HB := n0_; have HO143 := n1_; clear n0_ n1_; clear ho hb hg hat) | ((with_reducible refine gate_callee (f := 87) rfl ?_); refine goesL_ (some 13) rfl rfl Tryd.func87 (by kernel_rfl) rfl #[.int .i64 a1] rfl (by (try simp only [List.map_toArray, List.map_cons, List.map_nil]); first | done | rfl | (simp only [List.length_drop, List.length_take]; rfl)) ?_; (with_reducible refine (utf_Good.calls a1 false _ A7.out).mono ?_); rintro e w' ⟨rfl, ⟨nd, rfl⟩⟩; refine ⟨_, rfl, ?_⟩))
          go_ret
          exact ⟨_, by first | rfl | (simp [errW_none, errW_some] <;> rfl) | (simp [*, errW_none, errW_some, bne]; done) | (simp only [← hji3]; first | rfl | (simp [errW_none, errW_some] <;> rfl)) | (simp [*, errW_none, errW_some] <;> rfl), by (with_reducible repeat (first | apply Kd.R_alloc | apply Kd.R_drewN | apply Kd.R_drew)); exact HO143.out, by repeat (first | (with_reducible first | exact HB.out | apply below_alloc | apply pw_below_drewN | apply below_drew1) | exact HB.out)⟩
      · rw [if_neg c6] at H
        exact absurd H (by simp)
    · rw [if_neg c5] at H
      exact absurd H (by simp)
  · rw [if_neg c4] at H
    exact absurd H (by simp)
end Go.Proofs.YtoanbmggffkmgaaDoor.P
end
section
namespace Go.Proofs.YtoanbmggffkmgaaDoor.La
open Go.RowKit Go.Proofs.YtoanbmggffkmgaaDoorW.PrintWords Go.Proofs.YtoanbmggffkmgaaDoorW.PrintLast Go.Proofs.YtoanbmggffkmgaaDoorW.PrintMore
theorem bytesOf_data (s : ByteArray) : bytesOf s = s.data.toList.map fun b => (b.toNat : Int) := rfl
theorem toList_data' (s : ByteArray) : s.toList = s.data.toList := ByteArray.toList_eq s
theorem map_toNat_inj {l m : List UInt8} (h : l.map (fun b => (b.toNat : Int)) = m.map fun b => (b.toNat : Int)) : l = m := by
  induction l generalizing m with
  | nil => cases m with
    | nil => rfl
    | cons a t => simp at h
  | cons a t ih => cases m with
    | nil => simp at h
    | cons b u =>
      simp only [List.map_cons, List.cons.injEq] at h
      obtain ⟨h1, h2⟩ := h
      have : a = b := UInt8.toNat_inj.1 (by omega)
      rw [this, ih h2]
theorem bytesOf_inj {s t : ByteArray} (h : bytesOf s = bytesOf t) : s = t := by
  have h1 := map_toNat_inj h
  cases s with | mk a => cases t with | mk b =>
  congr 1
  exact Array.toList_inj.1 h1
theorem toList_eq_iff (s t : ByteArray) : s.toList = t.toList ↔ bytesOf s = bytesOf t := by
  rw [toList_data', toList_data']
  exact ⟨fun h => by rw [bytesOf_data, bytesOf_data, h], fun h => map_toNat_inj h⟩
theorem toList_nil_iff (s : ByteArray) : s.toList = ([] : List UInt8) ↔ bytesOf s = [] := by
  rw [toList_data', bytesOf_data]
  simp
theorem bytesOf_append (s t : ByteArray) : bytesOf (s ++ t) = bytesOf s ++ bytesOf t := by
  simp [bytesOf_data, ByteArray.data_append]
theorem bytesOf_extract (s : ByteArray) (i j : Nat) : bytesOf (s.extract i j) = ((bytesOf s).take j).drop i := by
  simp [bytesOf_data, ByteArray.data_extract, Array.toList_extract, List.map_drop, List.map_take, List.extract, List.take_drop]
  by_cases h : i ≤ j
  · rw [show i + (j - i) = j by omega]
  · rw [show j - i = 0 by omega]
    simp
    omega
theorem bytesOf_drop (s : ByteArray) (i : Nat) : bytesOf (s.extract i s.size) = (bytesOf s).drop i := by
  rw [bytesOf_extract, List.take_of_length_le (by rw [bytesOf_length]; omega)]
theorem bytesOf_take (s : ByteArray) (j : Nat) : bytesOf (s.extract 0 j) = (bytesOf s).take j := by
  rw [bytesOf_extract, List.drop_zero]
def Bytes (l : List Int) : Prop := ∀ x ∈ l, 0 ≤ x ∧ x < 256
theorem bytes_of (s : ByteArray) : Bytes (bytesOf s) := by
  intro x hx
  rw [bytesOf_data] at hx
  obtain ⟨b, _, rfl⟩ := List.mem_map.1 hx
  have := b.toNat_lt
  omega
theorem Bytes.drop {l : List Int} (h : Bytes l) (n : Nat) : Bytes (l.drop n) := fun x hx => h x (List.mem_of_mem_drop hx)
theorem Bytes.take {l : List Int} (h : Bytes l) (n : Nat) : Bytes (l.take n) := fun x hx => h x (List.mem_of_mem_take hx)
theorem Bytes.append {l m : List Int} (h : Bytes l) (k : Bytes m) : Bytes (l ++ m) := fun x hx => (List.mem_append.1 hx).elim (h x) (k x)
theorem Bytes.left {l m : List Int} (h : Bytes (l ++ m)) : Bytes l := fun x hx => h x (List.mem_append.2 (.inl hx))
theorem Bytes.right {l m : List Int} (h : Bytes (l ++ m)) : Bytes m := fun x hx => h x (List.mem_append.2 (.inr hx))
theorem strOfNums_bytes {l : List Int} (h : Bytes l) : bytesOf (strOfNums l) = l := by
  have : (strOfNums l).data.toList = l.map fun n => UInt8.ofNat n.toNat := by
    have := Go.Lib.strOfNums_toList l
    rw [toList_data'] at this
    exact this
  rw [bytesOf_data, this, List.map_map]
  induction l with
  | nil => rfl
  | cons a t ih =>
    have ha := h a List.mem_cons_self
    rw [List.map_cons, ih (fun x hx => h x (List.mem_cons_of_mem _ hx)) (by
      have := Go.Lib.strOfNums_toList t
      rw [toList_data'] at this
      exact this)]
    simp only [Function.comp_apply, UInt8.toNat_ofNat', List.cons.injEq, and_true]
    omega
theorem strOfNums_of (s : ByteArray) : strOfNums (bytesOf s) = s := bytesOf_inj (strOfNums_bytes (bytes_of s))
theorem size_of (s : ByteArray) : (bytesOf s).length = s.size := bytesOf_length s
theorem size_strOfNums {l : List Int} (h : Bytes l) : (strOfNums l).size = l.length := by rw [← size_of, strOfNums_bytes h]
theorem bt_get (s : ByteArray) (i : Int) : bt s i = (bytesOf s).getD i.toNat 0 := (rd_bytesOf s i).symm
theorem size_append' (s t : ByteArray) : (s ++ t).size = s.size + t.size := by
  rw [← size_of, bytesOf_append, List.length_append, size_of, size_of]
theorem size_drop (s : ByteArray) (i : Nat) : (s.extract i s.size).size = s.size - i := by
  rw [← size_of, bytesOf_drop, List.length_drop, size_of]
theorem wrap_id {n : Int} (h0 : -9223372036854775808 ≤ n) (h1 : n < 9223372036854775808) : wrap64 n = n := by
  unfold wrap64
  omega
end Go.Proofs.YtoanbmggffkmgaaDoor.La
end
section
namespace Go.Proofs.YtoanbmggffkmgaaDoor.La
open Go.RowKit Go.Proofs.YtoanbmggffkmgaaDoorW.PrintWords Go.Proofs.YtoanbmggffkmgaaDoorW.PrintLast Go.Proofs.YtoanbmggffkmgaaDoorW.PrintMore
/-- Where a number stands first; -1: nowhere. -/
def idx : List Int → Int → Int
  | [], _ => -1
  | b :: l, c => if b = c then 0 else if idx l c = -1 then -1 else idx l c + 1
theorem u8_of {c : Int} (h0 : 0 ≤ c) (h1 : c < 256) : ((c.toNat.toUInt8).toNat : Int) = c := by
  simp only [Nat.toUInt8_eq, UInt8.toNat_ofNat']
  omega
theorem u8_eq_iff {b : UInt8} {c : Int} (h0 : 0 ≤ c) (h1 : c < 256) : b = c.toNat.toUInt8 ↔ (b.toNat : Int) = c := by
  rw [← UInt8.toNat_inj]
  have := u8_of h0 h1
  omega
theorem idx_of (l : List UInt8) {c : Int} (h0 : 0 ≤ c) (h1 : c < 256) : Lib.indexByte l c.toNat.toUInt8 = idx (l.map fun b => (b.toNat : Int)) c := by
  induction l with
  | nil => rfl
  | cons b l ih =>
    simp only [Lib.indexByte, List.map_cons, idx, ih, beq_iff_eq, u8_eq_iff h0 h1]
end Go.Proofs.YtoanbmggffkmgaaDoor.La
end
section
namespace Go.Proofs
open Go.Shelf
def Tryd.lays161_ren : Go.Shelf.Ren := ⟨fun | 161 => 55 | 231 => 76 | 227 => 77 | 233 => 78 | 235 => 79 | 228 => 96 | 197 => 97 | 151 => 98 | 260 => 109 | 152 => 110 | 137 => 56 | 119 => 117 | 224 => 118 | 225 => 119 | 217 => 80 | 266 => 99 | n => n, fun | 9 => 9 | 4 => 4 | 3 => 3 | 5 => 5 | 117 => 101 | 116 => 100 | 0 => 0 | 124 => 104 | 105 => 117 | 21 => 21 | 119 => 129 | 46 => 67 | 139 => 132 | 138 => 131 | n => n, fun | 3 => 1 | 4 => 2 | n => n⟩
theorem Tryd.lays161 : Go.Proofs.Lays.n161 Tryd.prog Tryd.lays161_ren := {
  mixed := by kernel_rfl
  f119 := Tryd.func117.trans (congrArg some (by kernel_rfl))
  f137 := Tryd.func56.trans (congrArg some (by kernel_rfl))
  f151 := Tryd.func98.trans (congrArg some (by kernel_rfl))
  f152 := Tryd.func110.trans (congrArg some (by kernel_rfl))
  f161 := Tryd.func55.trans (congrArg some (by kernel_rfl))
  f197 := Tryd.func97.trans (congrArg some (by kernel_rfl))
  f217 := Tryd.func80.trans (congrArg some (by kernel_rfl))
  f224 := Tryd.func118.trans (congrArg some (by kernel_rfl))
  f225 := Tryd.func119.trans (congrArg some (by kernel_rfl))
  f227 := Tryd.func77.trans (congrArg some (by kernel_rfl))
  f228 := Tryd.func96.trans (congrArg some (by kernel_rfl))
  f231 := Tryd.func76.trans (congrArg some (by kernel_rfl))
  f233 := Tryd.func78.trans (congrArg some (by kernel_rfl))
  f235 := Tryd.func79.trans (congrArg some (by kernel_rfl))
  f260 := Tryd.func109.trans (congrArg some (by kernel_rfl))
  f266 := Tryd.func99.trans (congrArg some (by kernel_rfl))
  t0 := Tryd.underlying0
  a0 := Tryd.isAgg0
  z0 := Tryd.sizeOf0
  v0 := Tryd.zeroValue0
  t3 := Tryd.underlying3
  a3 := Tryd.isAgg3
  z3 := Tryd.sizeOf3
  v3 := Tryd.zeroValue3
  t4 := Tryd.underlying4
  a4 := Tryd.isAgg4
  z4 := Tryd.sizeOf4
  v4 := Tryd.zeroValue4
  t5 := Tryd.underlying5
  a5 := Tryd.isAgg5
  z5 := Tryd.sizeOf5
  v5 := Tryd.zeroValue5
  t9 := Tryd.underlying9
  a9 := Tryd.isAgg9
  z9 := Tryd.sizeOf9
  v9 := Tryd.zeroValue9
  t21 := Tryd.underlying21
  a21 := Tryd.isAgg21
  z21 := Tryd.sizeOf21
  v21 := Tryd.zeroValue21
  t46 := Tryd.underlying67
  a46 := Tryd.isAgg67
  z46 := Tryd.sizeOf67
  v46 := Tryd.zeroValue67
  t105 := Tryd.underlying117
  a105 := Tryd.isAgg117
  z105 := Tryd.sizeOf117
  v105 := Tryd.zeroValue117
  t116 := Tryd.underlying100
  a116 := Tryd.isAgg100
  z116 := Tryd.sizeOf100
  t117 := Tryd.underlying101
  a117 := Tryd.isAgg101
  z117 := Tryd.sizeOf101
  v117 := Tryd.zeroValue101
  t119 := Tryd.underlying129
  a119 := Tryd.isAgg129
  z119 := Tryd.sizeOf129
  t124 := Tryd.underlying104
  a124 := Tryd.isAgg104
  z124 := Tryd.sizeOf104
  v124 := Tryd.zeroValue104
  t138 := Tryd.underlying131
  a138 := Tryd.isAgg131
  z138 := Tryd.sizeOf131
  v138 := Tryd.zeroValue131
  t139 := Tryd.underlying132
  a139 := Tryd.isAgg132
  z139 := Tryd.sizeOf132
  v139 := Tryd.zeroValue132
  g3 := by kernel_rfl
  g4 := by kernel_rfl }
def Tryd.lays137_ren : Go.Shelf.Ren := ⟨fun | 137 => 56 | 217 => 80 | 266 => 99 | n => n, fun | 9 => 9 | 5 => 5 | 3 => 3 | n => n, fun | n => n⟩
theorem Tryd.lays137 : Go.Proofs.Lays.n137 Tryd.prog Tryd.lays137_ren := {
  mixed := by kernel_rfl
  f137 := Tryd.func56.trans (congrArg some (by kernel_rfl))
  f217 := Tryd.func80.trans (congrArg some (by kernel_rfl))
  f266 := Tryd.func99.trans (congrArg some (by kernel_rfl))
  t3 := Tryd.underlying3
  a3 := Tryd.isAgg3
  z3 := Tryd.sizeOf3
  v3 := Tryd.zeroValue3
  t5 := Tryd.underlying5
  a5 := Tryd.isAgg5
  z5 := Tryd.sizeOf5
  v5 := Tryd.zeroValue5
  t9 := Tryd.underlying9
  a9 := Tryd.isAgg9
  z9 := Tryd.sizeOf9
  v9 := Tryd.zeroValue9 }
open Go.RowKit in
theorem Tryd.strings_IndexByte (s : ByteArray) (c : Int) (w : World) :
    Calls Tryd.prog 56 #[.string s, .int .u8 c] w fun e w' => e = .returned (.int .i64 (Lib.indexByte s.data.toList c.toNat.toUInt8)) ∧ w' = w := Any.strings_IndexByte Tryd.lays137 s c w
end Go.Proofs
end
section
namespace Go.Proofs.YtoanbmggffkmgaaDoor.P
open Go.RowKit Go.Proofs.YtoanbmggffkmgaaDoor.La Go.Proofs.YtoanbmggffkmgaaDoorW.PrintWords Go.Proofs.YtoanbmggffkmgaaDoorW.PrintLast Go.Proofs.YtoanbmggffkmgaaDoorW.PrintMore
def strings_IndexByte.f (a0 : ByteArray) (a1 : Int) : Option Int := if 0 ≤ a1 ∧ a1 < 256 then some (idx (bytesOf a0) a1) else none
theorem strings_IndexByte.calls (a0 : ByteArray) (a1 : Int) (r : Int) (w : World) (h : strings_IndexByte.f a0 a1 = some r) :
    Calls Tryd.prog 56 #[.string a0, .int .u8 a1] w fun e w' => e = .returned (.int .i64 r) ∧ Drawn0 w w' := by
  unfold strings_IndexByte.f at h
  split at h
  · rename_i hc
    obtain rfl := Option.some.inj h
    refine (Tryd.strings_IndexByte a0 a1 w).mono fun e w' he => ?_
    obtain ⟨rfl, rfl⟩ := he
    exact ⟨by rw [idx_of _ hc.1 hc.2]; rfl, Drawn0.refl _⟩
  · cases h
end Go.Proofs.YtoanbmggffkmgaaDoor.P
end
section
namespace Go.Proofs.YtoanbmggffkmgaaDoor.P
open Go.RowKit Go.Proofs.YtoanbmggffkmgaaDoorW.PrintWords Go.Proofs.YtoanbmggffkmgaaDoorW.PrintLast Go.Proofs.YtoanbmggffkmgaaDoorW.PrintMore
attribute [local go_sem] max2_int min2_int max_two min_two max_three min_three max_four min_four   -- for this text's walks alone
set_option linter.unusedVariables false
set_option linter.unusedSimpArgs false
/-! ### esc_quote: function 45 -/
mutual
def esc_quote.l0 : Nat → ByteArray → Bool → List Int → Option (ByteArray)
  | 0, _, _, _ => none
  | k + 1, x0, x1, x5 => if x0.toList = ([] : List UInt8) then (if x5.length < 140737488355328 then (some (strOfNums (x5 ++ [34]))) else (none)) else ((utf_Take.f k x0).bind fun bt478 => (if bt478.2 = 0 then (esc_quote.j1 k x0 x1 x5 65533 1) else (esc_quote.j1 k x0 x1 x5 bt478.1 bt478.2)))
def esc_quote.j1 : Nat → ByteArray → Bool → List Int → Int → Int → Option (ByteArray)
  | 0, _, _, _, _, _ => none
  | k + 1, x0, x1, x5, x6, x7 => if 0 ≤ x7 then (if x7 ≤ (x0.size : Int) then ((strings_IndexByte.f (⟨#[34, 92, 8, 12, 10, 13, 9]⟩ : ByteArray) ((mn x6 255) % 256)).bind fun t480 => (if x6 < 256 then (esc_quote.j2 k (x0.extract (x7 : Int).toNat x0.size) x1 x5 x6 t480 (decide (t480 ≥ 0))) else (esc_quote.j2 k (x0.extract (x7 : Int).toNat x0.size) x1 x5 x6 t480 false))) else (none)) else (none)
def esc_quote.j2 : Nat → ByteArray → Bool → List Int → Int → Int → Bool → Option (ByteArray)
  | 0, _, _, _, _, _, _ => none
  | k + 1, x0, x1, x5, x6, x8, x29 => if x29 = true then (if 0 ≤ x8 then (if x8 < 7 then ((some (([92, bt (⟨#[34, 92, 98, 102, 110, 114, 116]⟩ : ByteArray) x8] : List Int) : List Int)).bind fun y481 => (if x5.length + y481.length < 140737488355328 then (esc_quote.l0 k x0 x1 (x5 ++ y481)) else (none))) else (none)) else (none)) else (if x6 < 32 then (if 0 ≤ (x6 / 16) then (if (x6 / 16) < 16 then (if 0 ≤ (Go.bits .and .i64 x6 15) then (if (Go.bits .and .i64 x6 15) < 16 then ((some (([92, 117, 48, 48, bt (⟨#[48, 49, 50, 51, 52, 53, 54, 55, 56, 57, 97, 98, 99, 100, 101, 102]⟩ : ByteArray) (x6 / 16), bt (⟨#[48, 49, 50, 51, 52, 53, 54, 55, 56, 57, 97, 98, 99, 100, 101, 102]⟩ : ByteArray) (Go.bits .and .i64 x6 15)] : List Int) : List Int)).bind fun y487 => (if x5.length + y487.length < 140737488355328 then (esc_quote.l0 k x0 x1 (x5 ++ y487)) else (none))) else (none)) else (none)) else (none)) else (none)) else (if x6 = 127 then (if x1 = true then (if 0 ≤ (x6 / 16) then (if (x6 / 16) < 16 then (if 0 ≤ (Go.bits .and .i64 x6 15) then (if (Go.bits .and .i64 x6 15) < 16 then ((some (([92, 117, 48, 48, bt (⟨#[48, 49, 50, 51, 52, 53, 54, 55, 56, 57, 97, 98, 99, 100, 101, 102]⟩ : ByteArray) (x6 / 16), bt (⟨#[48, 49, 50, 51, 52, 53, 54, 55, 56, 57, 97, 98, 99, 100, 101, 102]⟩ : ByteArray) (Go.bits .and .i64 x6 15)] : List Int) : List Int)).bind fun y493 => (if x5.length + y493.length < 140737488355328 then (esc_quote.l0 k x0 x1 (x5 ++ y493)) else (none))) else (none)) else (none)) else (none)) else (none)) else ((utf_Put.f x5 x6).bind fun t499 => (esc_quote.l0 k x0 x1 t499))) else ((utf_Put.f x5 x6).bind fun t502 => (esc_quote.l0 k x0 x1 t502))))
end
def esc_quote.f (k : Nat) (a0 : ByteArray) (a1 : Bool) : Option (ByteArray) := esc_quote.l0 k a0 a1 (([34] : List Int))
def esc_quote.T12 : Bool × List (List Nat × List Nat) := (true, [([], []), ([], []), ([1], [1]), ([2], [2]), ([], []), ([4], [4]), ([5], [5]), ([3, 6], [3, 6]), ([0, 7], [0, 7]), ([8, 8, 0, 1, 2, 3, 4, 5, 6, 7, 8], [0, 8])])
def esc_quote.B12 : List Nat := [0, 0, 2, 6, 0, 16, 48, 126, 255, 511]
theorem esc_quote.tab12 : rtab .any (opsOf Tryd.f45 12) = esc_quote.T12 := by kernel_rfl
theorem esc_quote.bits12 : waitsOk esc_quote.T12.2 esc_quote.B12 = true := by kernel_rfl
set_option maxHeartbeats 8000000 in
set_option maxRecDepth 100000 in
theorem esc_quote.calls (k : Nat) (a0 : ByteArray) (a1 : Bool) (r : ByteArray) (w : World) (h : esc_quote.f k a0 a1 = some r) :
    Calls Tryd.prog 45 #[.string a0, .bool a1] w fun e w' => e = .returned (.string r) ∧ Below w.heap.size w w' := by
  have HB := Aside0.mk (Below.refl w.heap.size w)
  have H : (esc_quote.l0 k a0 a1 (([34] : List Int))) = some r := h
  clear h
  obtain ⟨y472, hy472⟩ : ∃ y_ : List Int, y_ = (([34] : List Int)) := ⟨_, rfl⟩
  replace H : (esc_quote.l0 k a0 a1 y472) = some r := by first | (rw [hy472]; with_reducible exact H) | (have H2_ := (Option.bind_some _ _).symm.trans H; rw [hy472]; with_reducible exact H2_) | (have H2_ := (Option.bind_some _ _).symm.trans H; with_reducible exact H2_) | with_reducible exact H | (rw [hy472]; exact H) | exact H
  have Ny472 := Aside0.mk hy472
  clear hy472
  have H' := Aside0.mk H
  clear H
  go_enter Tryd.func45, Tryd.ntmps45
  go_wp2_with (first | ((with_reducible refine gate_dst (N := 9) rfl ?_); refine Kd.R_lit (Kd.int .u8) _ 5 ?hg (N := 9) ?hd (xs := ([34] : List Int)) (inner := [.int .u8 34]) (ok := fun _ => True) (okp := fun _ => True) ?hr ?hp (fun _ hk => hk) trivial (Below.refl _ _) (Nat.le_refl _) (by simp) ?_; (case hd => rfl); (case hg => rfl); (case hr => first | (go_simp; done) | (go_simp; rfl)); (case hp => exact (Reps.one (show Kd.M (Kd.int .u8) _ _ _ 34 [.int .u8 34] from rfl) (Reps.none _ _))); intro v473 w3 ho4 hb hg_ hnew_; clear hg_ hnew_; (first | rw [← Ny472.out] at ho4 | (simp only [Int.reduceToNat] at ho4; rw [← Ny472.out] at ho4)); have n0_ := Aside0.mk (Kd.R_lower ho4 (below_size (by repeat (first | (with_reducible first | exact HB.out | apply below_alloc | apply pw_below_drewN | apply below_drew1) | exact HB.out)))); have n1_ := Aside0.mk (below_step (by repeat (first | (with_reducible first | exact HB.out | apply below_alloc | apply pw_below_drewN | apply below_drew1) | exact HB.out)) hb); clear HB; have HO474 := n0_; have HB := n1_; clear n0_ n1_; clear hb ho4))
  go_loopg [0, 5] k (fun kq v0 v5 w' => ∃ (x0_1 : ByteArray) (x5_1 : List Int), v0 = .string x0_1 ∧ Aside0 (esc_quote.l0 kq x0_1 a1 x5_1 = some r) ∧ Aside0 (kq ≤ k) ∧ Aside0 (Kd.R (Kd.int .u8) 5 w' w.heap.size (fun _ => True) v5 x5_1) ∧ Aside0 (Below w.heap.size w w'))
  case atStart => exact ⟨(a0), (y472), (by first | rfl | (simp; done) | (simp [*]; done)), H', ⟨Nat.le_refl _⟩, ⟨by (with_reducible repeat (first | apply Kd.R_alloc | apply Kd.R_drewN | apply Kd.R_drew)); exact HO474.out⟩, ⟨by repeat (first | (with_reducible first | exact HB.out | apply below_alloc | apply pw_below_drewN | apply below_drew1) | exact HB.out)⟩⟩
  case round =>
    clear H'
    try clear p2
    try clear c4
    obtain ⟨x0_1, x5_1, rfl, HA, HK1, HO_5, HB⟩ := hrel
    cases gk with
    | zero => exact absurd HA.out (by simp [esc_quote.l0])
    | succ k1 =>
      have H := HA.out
      clear HA
      simp only [esc_quote.l0] at H
      by_cases c5 : x0_1.toList = ([] : List UInt8)
      · rw [if_pos c5] at H
        have c5b0 : (x0_1.toList == ([] : List UInt8)) = true := beq_iff_eq.mpr c5
        have c5b1 : (x0_1.toList != ([] : List UInt8)) = false := bne_eq_false_iff_eq.mpr c5
        have c5b2 : x0_1.toList.isEmpty = true := List.isEmpty_iff.mpr c5
        (try simp only [c5b2, Bool.not_true, Bool.not_false])
        clear c5
        by_cases c6 : x5_1.length < 140737488355328
        · rw [if_pos c6] at H
          have LMc6 := Aside0.mk c6
          clear c6
          obtain ⟨y475, hy475⟩ : ∃ y_ : List Int, y_ = (x5_1 ++ [34]) := ⟨_, rfl⟩
          replace H : (some (strOfNums y475)) = some r := by first | (rw [hy475]; with_reducible exact H) | (have H2_ := (Option.bind_some _ _).symm.trans H; rw [hy475]; with_reducible exact H2_) | (have H2_ := (Option.bind_some _ _).symm.trans H; with_reducible exact H2_) | with_reducible exact H | (rw [hy475]; exact H) | exact H
          have Ny475 := Aside0.mk hy475
          clear hy475
          obtain rfl := Option.some.inj H
          go_wp2_with (first | ((with_reducible refine gate_builtin (b := .append) (xs := #[.tmp 60, .tmp 61]) rfl ?_); at_builtin; refine Kd.R_append (Kd.int .u8) (w0 := w) w.heap.size rfl (.tmp 60) (.tmp 61) 46 5 (.int .u8 0) 1 rfl Tryd.underlying46 info5 rfl (by decide) (by omega) u5 x5_1 34 [.int .u8 34] (fun _ => True) (fun _ => False) rfl rfl ?aP (fun _ hk => hk.elim) ?aF ?aO ?aB ?aS ?aL ?_; (case aP => exact rfl); (case aB => exact (by repeat (first | (with_reducible first | exact HB.out | apply below_alloc | apply pw_below_drewN | apply below_drew1) | exact HB.out))); (case aF => exact (fun _ _ => trivial)); (case aO => exact (by (with_reducible repeat (first | apply Kd.R_alloc | apply Kd.R_drewN | apply Kd.R_drew)); exact HO_5.out)); (case aS => exact (below_size (by repeat (first | (with_reducible first | exact HB.out | apply below_alloc | apply pw_below_drewN | apply below_drew1) | exact HB.out)))); (case aL => have := LMc6.out; omega); intro v476 w7 ho hb hg hat; rw [← Ny475.out] at ho; have n0_ := Aside0.mk (hb); have n1_ := Aside0.mk (ho); clear HB; clear HO_5; have HB := n0_; have HO477 := n1_; clear n0_ n1_; clear ho hb hg hat; have hcv8 := own_string (P := Tryd.prog) Tryd.underlying46 Tryd.underlying5 Tryd.underlying9 (Kd.own_of_R HO477.out)))
          go_ret
          exact ⟨by first | rfl | (simp [errW_none, errW_some] <;> rfl) | (simp [*, errW_none, errW_some, bne]; done) | (simp [*, errW_none, errW_some] <;> rfl), by repeat (first | (with_reducible first | exact HB.out | apply below_alloc | apply pw_below_drewN | apply below_drew1) | exact HB.out)⟩
        · rw [if_neg c6] at H
          exact absurd H (by simp)
      · rw [if_neg c5] at H
        have c5b0 : (x0_1.toList == ([] : List UInt8)) = false := beq_eq_false_iff_ne.mpr c5
        have c5b1 : (x0_1.toList != ([] : List UInt8)) = true := bne_iff_ne.mpr c5
        have c5b2 : x0_1.toList.isEmpty = false := List.isEmpty_eq_false_iff.mpr c5
        (try simp only [c5b2, Bool.not_true, Bool.not_false])
        replace H := Option.bind_eq_some_iff.mp H
        obtain ⟨⟨t478, t479⟩, A90, H⟩ := H
        replace H : (if t479 = 0 then (esc_quote.j1 k1 x0_1 a1 x5_1 65533 1) else (esc_quote.j1 k1 x0_1 a1 x5_1 t478 t479)) = some r := H
        have A9 := Aside0.mk A90
        clear A90
        have HC10 := Aside0.mk H
        clear H
        go_upto_if 18 with (first | ((with_reducible refine gate_callee (f := 66) rfl ?_); refine goesL_ (some 14) rfl rfl Tryd.func66 (by kernel_rfl) rfl #[.string x0_1] rfl (by (try simp only [List.map_toArray, List.map_cons, List.map_nil]); first | done | rfl | (simp only [List.length_drop, List.length_take]; rfl)) ?_; (with_reducible refine (utf_Take.calls k1 x0_1 t478 t479 _ A9.out).mono ?_); rintro e w' ⟨rfl, ⟨nd, rfl⟩⟩; refine ⟨_, rfl, ?_⟩))
        (try simp only [Act.put, List.setIfInBounds_toArray, List.set_cons_zero, List.set_cons_succ])
        go_cut [6, 7] (fun v6 v7 wc => ∃ (kq : Nat) (x6_9 : Int) (x7_9 : Int), v6 = .int .i64 x6_9 ∧ v7 = .int .i64 x7_9 ∧ Aside0 (esc_quote.j1 kq x0_1 a1 x5_1 x6_9 x7_9 = some r) ∧ Aside0 (kq ≤ k1) ∧ Aside0 (Kd.R (Kd.int .u8) 5 wc w.heap.size (fun _ => True) u5 x5_1) ∧ Aside0 (Below w.heap.size w wc))
        case first =>
          have H := HC10.out
          clear HC10
          by_cases c11 : t479 = 0
          · rw [if_pos c11] at H
            have c11b0 : (t479 == 0) = true := beq_iff_eq.mpr c11
            have c11b1 : (t479 != 0) = false := bne_eq_false_iff_eq.mpr c11
            clear c11
            (first | rw [c11b0] | (simp only [i64_w, i32_w]; rw [c11b0]) | skip)
            have H' := Aside0.mk H
            clear H
            go_wp2
            go_meet
            case rel => exact ⟨_, (65533), (1), (by first | rfl | (simp; done) | (simp [*]; done)), (by first | rfl | (simp; done) | (simp [*]; done)), H', ⟨by have := HK1.out; first | omega | exact Nat.le_refl _⟩, ⟨by (with_reducible repeat (first | apply Kd.R_alloc | apply Kd.R_drewN | apply Kd.R_drew)); exact HO_5.out⟩, ⟨by repeat (first | (with_reducible first | exact HB.out | apply below_alloc | apply pw_below_drewN | apply below_drew1) | exact HB.out)⟩⟩
          · rw [if_neg c11] at H
            have c11b0 : (t479 == 0) = false := beq_eq_false_iff_ne.mpr c11
            have c11b1 : (t479 != 0) = true := bne_iff_ne.mpr c11
            (first | rw [c11b0] | (simp only [i64_w, i32_w]; rw [c11b0]) | skip)
            have H' := Aside0.mk H
            clear H
            go_wp2
            go_meet
            case rel => exact ⟨_, (t478), (t479), (by first | rfl | (simp; done) | (simp [*]; done)), (by first | rfl | (simp; done) | (simp [*]; done)), H', ⟨by have := HK1.out; first | omega | exact Nat.le_refl _⟩, ⟨by (with_reducible repeat (first | apply Kd.R_alloc | apply Kd.R_drewN | apply Kd.R_drew)); exact HO_5.out⟩, ⟨by repeat (first | (with_reducible first | exact HB.out | apply below_alloc | apply pw_below_drewN | apply below_drew1) | exact HB.out)⟩⟩
        case rest =>
          clear HC10
          try clear c1
          try clear p2
          try clear c4
          try clear c5
          try clear c5b0
          try clear c5b1
          try clear c6
          try clear hcv8
          try clear c11
          try clear c11b0
          try clear c11b1
          try clear p2
          obtain ⟨kq, x6_9, x7_9, rfl, rfl, HA, HJ9, HO_5, HB⟩ := hcut
          cases kq with
          | zero => exact absurd HA.out (by simp [esc_quote.j1])
          | succ kj9 =>
            have H := HA.out
            clear HA
            simp only [esc_quote.j1] at H
            by_cases c12 : 0 ≤ x7_9
            · rw [if_pos c12] at H
              have c12b0 := eq_true c12
              have c12b1 : decide (0 ≤ x7_9) = true := decide_eq_true c12
              clear c12
              by_cases c13 : x7_9 ≤ (x0_1.size : Int)
              · rw [if_pos c13] at H
                have c13b0 := eq_true c13
                have c13b1 : decide (x7_9 ≤ (x0_1.size : Int)) = true := decide_eq_true c13
                clear c13
                obtain ⟨ji14, hji14⟩ : ∃ j_ : Int, (mn x6_9 255) = j_ := ⟨_, rfl⟩
                replace H : ((strings_IndexByte.f (⟨#[34, 92, 8, 12, 10, 13, 9]⟩ : ByteArray) ((ji14) % 256)).bind fun t480 => (if x6_9 < 256 then (esc_quote.j2 kj9 (x0_1.extract (x7_9 : Int).toNat x0_1.size) a1 x5_1 x6_9 t480 (decide (t480 ≥ 0))) else (esc_quote.j2 kj9 (x0_1.extract (x7_9 : Int).toNat x0_1.size) a1 x5_1 x6_9 t480 false))) = some r := by first | (rw [hji14] at H; exact H) | (simp only [hji14] at H ⊢; exact H)
                have hji14_ : (if 255 < x6_9 then 255 else x6_9) = ji14 := hji14
                replace H := Option.bind_eq_some_iff.mp H
                obtain ⟨t480, A150, H⟩ := H
                replace H : (if x6_9 < 256 then (esc_quote.j2 kj9 (x0_1.extract (x7_9 : Int).toNat x0_1.size) a1 x5_1 x6_9 t480 (decide (t480 ≥ 0))) else (esc_quote.j2 kj9 (x0_1.extract (x7_9 : Int).toNat x0_1.size) a1 x5_1 x6_9 t480 false)) = some r := H
                have A15 := Aside0.mk A150
                clear A150
                have HC16 := Aside0.mk H
                clear H
                go_upto_region 9 with (first | ((with_reducible refine gate_callee (f := 56) rfl ?_); refine goesL_ (some 25) rfl rfl Tryd.func56 (by kernel_rfl) rfl #[.string (⟨#[34, 92, 8, 12, 10, 13, 9]⟩ : ByteArray), .int .u8 ((ji14) % 256)] rfl (by (try simp only [List.map_toArray, List.map_cons, List.map_nil]); first | done | (simp only [hji14]; rfl) | rfl | (simp only [List.length_drop, List.length_take]; rfl)) ?_; (with_reducible refine (strings_IndexByte.calls (⟨#[34, 92, 8, 12, 10, 13, 9]⟩ : ByteArray) ((ji14) % 256) t480 _ A15.out).mono ?_); rintro e w' ⟨rfl, ⟨nd, rfl⟩⟩; refine ⟨_, rfl, ?_⟩))
                (try simp only [Act.put, List.setIfInBounds_toArray, List.set_cons_zero, List.set_cons_succ])
                go_cut [29] (fun v29 wc => ∃ (kq : Nat) (x29_15 : Bool), v29 = .bool x29_15 ∧ Aside0 (esc_quote.j2 kq (x0_1.extract (x7_9 : Int).toNat x0_1.size) a1 x5_1 x6_9 t480 x29_15 = some r) ∧ Aside0 (kq ≤ kj9) ∧ Aside0 (Kd.R (Kd.int .u8) 5 wc w.heap.size (fun _ => True) u5 x5_1) ∧ Aside0 (Below w.heap.size w wc))
                case first =>
                  have H := HC16.out
                  clear HC16
                  by_cases c17 : x6_9 < 256
                  · rw [if_pos c17] at H
                    have c17b0 : decide (x6_9 < 256) = true := decide_eq_true c17
                    clear c17
                    (first | rw [c17b0] | (simp only [i64_w, i32_w]; rw [c17b0]) | skip)
                    have H' := Aside0.mk H
                    clear H
                    go_wp2
                    go_meet
                    case rel => exact ⟨_, (decide (t480 ≥ 0)), (by first | rfl | (simp; done) | (simp [*]; done)), H', ⟨by have := HK1.out; have := HJ9.out; first | omega | exact Nat.le_refl _⟩, ⟨by (with_reducible repeat (first | apply Kd.R_alloc | apply Kd.R_drewN | apply Kd.R_drew)); exact HO_5.out⟩, ⟨by repeat (first | (with_reducible first | exact HB.out | apply below_alloc | apply pw_below_drewN | apply below_drew1) | exact HB.out)⟩⟩
                  · rw [if_neg c17] at H
                    have c17b0 : decide (x6_9 < 256) = false := decide_eq_false c17
                    clear c17
                    (first | rw [c17b0] | (simp only [i64_w, i32_w]; rw [c17b0]) | skip)
                    have H' := Aside0.mk H
                    clear H
                    go_wp2
                    go_meet
                    case rel => exact ⟨_, (false), (by first | rfl | (simp; done) | (simp [*]; done)), H', ⟨by have := HK1.out; have := HJ9.out; first | omega | exact Nat.le_refl _⟩, ⟨by (with_reducible repeat (first | apply Kd.R_alloc | apply Kd.R_drewN | apply Kd.R_drew)); exact HO_5.out⟩, ⟨by repeat (first | (with_reducible first | exact HB.out | apply below_alloc | apply pw_below_drewN | apply below_drew1) | exact HB.out)⟩⟩
                case rest =>
                  clear HC16
                  try clear c1
                  try clear p2
                  try clear c4
                  try clear c5
                  try clear c5b0
                  try clear c5b1
                  try clear c6
                  try clear hcv8
                  try clear c11
                  try clear c11b0
                  try clear c11b1
                  try clear c12
                  try clear c12b0
                  try clear c12b1
                  try clear c13
                  try clear c13b0
                  try clear c13b1
                  try clear c17
                  try clear c17b0
                  try clear p2
                  obtain ⟨kq, x29_15, rfl, HA, HJ15, HO_5, HB⟩ := hcut
                  cases kq with
                  | zero => exact absurd HA.out (by simp [esc_quote.j2])
                  | succ kj15 =>
                    have H := HA.out
                    clear HA
                    simp only [esc_quote.j2] at H
                    by_cases c18 : x29_15 = true
                    · subst c18
                      have H1 : (if 0 ≤ t480 then (if t480 < 7 then ((some (([92, bt (⟨#[34, 92, 98, 102, 110, 114, 116]⟩ : ByteArray) t480] : List Int) : List Int)).bind fun y481 => (if x5_1.length + y481.length < 140737488355328 then (esc_quote.l0 kj15 (x0_1.extract (x7_9 : Int).toNat x0_1.size) a1 (x5_1 ++ y481)) else (none))) else (none)) else (none)) = some r := by rw [if_pos rfl] at H; exact H
                      clear H
                      have H := H1
                      clear H1
                      by_cases c19 : 0 ≤ t480
                      · rw [if_pos c19] at H
                        have c19b0 : decide (0 ≤ t480) = true := decide_eq_true c19
                        clear c19
                        by_cases c20 : t480 < 7
                        · rw [if_pos c20] at H
                          have c20b0 : decide (t480 < 7) = true := decide_eq_true c20
                          clear c20
                          obtain ⟨y481, hy481⟩ : ∃ y_ : List Int, y_ = (([92, bt (⟨#[34, 92, 98, 102, 110, 114, 116]⟩ : ByteArray) t480] : List Int)) := ⟨_, rfl⟩
                          replace H : (if x5_1.length + y481.length < 140737488355328 then (esc_quote.l0 kj15 (x0_1.extract (x7_9 : Int).toNat x0_1.size) a1 (x5_1 ++ y481)) else (none)) = some r := by first | (rw [hy481]; with_reducible exact H) | (have H2_ := (Option.bind_some _ _).symm.trans H; rw [hy481]; with_reducible exact H2_) | (have H2_ := (Option.bind_some _ _).symm.trans H; with_reducible exact H2_) | with_reducible exact H | (rw [hy481]; exact H) | exact H
                          have Ny481 := Aside0.mk hy481
                          clear hy481
                          by_cases c22 : x5_1.length + y481.length < 140737488355328
                          · rw [if_pos c22] at H
                            have LMc22 := Aside0.mk c22
                            clear c22
                            obtain ⟨y484, hy484⟩ : ∃ y_ : List Int, y_ = (x5_1 ++ y481) := ⟨_, rfl⟩
                            replace H : (esc_quote.l0 kj15 (x0_1.extract (x7_9 : Int).toNat x0_1.size) a1 y484) = some r := by first | (rw [hy484]; with_reducible exact H) | (have H2_ := (Option.bind_some _ _).symm.trans H; rw [hy484]; with_reducible exact H2_) | (have H2_ := (Option.bind_some _ _).symm.trans H; with_reducible exact H2_) | with_reducible exact H | (rw [hy484]; exact H) | exact H
                            have Ny484 := Aside0.mk hy484
                            clear hy484
                            have H' := Aside0.mk H
                            clear H
                            have p21 : 0 ≤ (t480 : Int) := of_decide_eq_true (by first | (with_reducible assumption) | assumption)
                            have q21 : t480 < (7 : Int) := of_decide_eq_true (by first | (with_reducible assumption) | assumption)
                            have hx21 := bt_at (⟨#[34, 92, 98, 102, 110, 114, 116]⟩ : ByteArray) t480
                            replace p21 := eq_true p21
                            replace q21 := eq_true q21
                            go_wp2_with (first | ((with_reducible refine gate_dst (N := 39) rfl ?_); refine Kd.R_lit (Kd.int .u8) _ 5 ?hg (N := 39) ?hd (xs := ([92, bt (⟨#[34, 92, 98, 102, 110, 114, 116]⟩ : ByteArray) t480] : List Int)) (inner := [.int .u8 92, .int .u8 (bt (⟨#[34, 92, 98, 102, 110, 114, 116]⟩ : ByteArray) t480)]) (ok := fun _ => True) (okp := fun _ => True) ?hr ?hp (fun _ hk => hk) trivial (Below.refl _ _) (Nat.le_refl _) (by simp) ?_; (case hd => rfl); (case hg => rfl); (case hr => first | (go_simp; done) | (go_simp; rfl)); (case hp => exact (Reps.one (show Kd.M (Kd.int .u8) _ _ _ 92 [.int .u8 92] from rfl) (Reps.one (show Kd.M (Kd.int .u8) _ _ _ (bt (⟨#[34, 92, 98, 102, 110, 114, 116]⟩ : ByteArray) t480) [.int .u8 (bt (⟨#[34, 92, 98, 102, 110, 114, 116]⟩ : ByteArray) t480)] from rfl) (Reps.none _ _)))); intro v482 w23 ho24 hb hg_ hnew_; clear hg_ hnew_; (first | rw [← Ny481.out] at ho24 | (simp only [Int.reduceToNat] at ho24; rw [← Ny481.out] at ho24)); have n0_ := Aside0.mk (Kd.R_elder' (by (with_reducible repeat (first | apply Kd.R_alloc | apply Kd.R_drewN | apply Kd.R_drew)); exact HO_5.out) (Kd.R_base ho24) hb); have n1_ := Aside0.mk (Kd.R_lower (Kd.R_new' ho24 (Kd.R_lt (by (with_reducible repeat (first | apply Kd.R_alloc | apply Kd.R_drewN | apply Kd.R_drew)); exact HO_5.out))) (below_size (by repeat (first | (with_reducible first | exact HB.out | apply below_alloc | apply pw_below_drewN | apply below_drew1) | exact HB.out)))); have n2_ := Aside0.mk (below_step (by repeat (first | (with_reducible first | exact HB.out | apply below_alloc | apply pw_below_drewN | apply below_drew1) | exact HB.out)) hb); clear HO_5; clear HB; have HO_5 := n0_; have HO483 := n1_; have HB := n2_; clear n0_ n1_ n2_; clear hb ho24; obtain ⟨Ao26, co26, eo26⟩ := Kd.R_slice HO483.out; subst eo26) | ((with_reducible refine gate_builtin (b := .append) (xs := #[.tmp 36, .tmp 39]) rfl ?_); at_builtin; refine Kd.R_append_rows (Kd.int .u8) (w0 := w) w.heap.size rfl (.tmp 36) (.tmp 39) 46 5 (.int .u8 0) 1 rfl Tryd.underlying46 info5 rfl (by decide) (by omega) u5 x5_1 y481 _ _ _ (fun k_ => some k_ ≠ (.slice Ao26 y481.length co26 : Value).ownBlock) (fun _ => False) rfl rfl ?aO ?aR (fun _ _ h => h) (fun _ h => h.elim) ?aF ?aB ?aS ?aL ?_; (case aR => repeat (first | exact (Kd.R_reads' HO483.out).2.2 | (with_reducible refine Kd.C_alloc ?_ _) | (with_reducible refine Kd.C_drewN ?_ _) | (with_reducible refine Kd.C_drew ?_))); (case aB => exact (by repeat (first | (with_reducible first | exact HB.out | apply below_alloc | apply pw_below_drewN | apply below_drew1) | exact HB.out))); (case aF => exact (fun k_ hk => Kd.fresh' (Kd.R_lt (by (with_reducible repeat (first | apply Kd.R_alloc | apply Kd.R_drewN | apply Kd.R_drew)); exact HO483.out)) k_ hk)); (case aO => exact (by (with_reducible repeat (first | apply Kd.R_alloc | apply Kd.R_drewN | apply Kd.R_drew)); exact Kd.R_mono HO_5.out (fun _ hk => hk.2))); (case aS => exact (below_size (by repeat (first | (with_reducible first | exact HB.out | apply below_alloc | apply pw_below_drewN | apply below_drew1) | exact HB.out)))); (case aL => have := LMc22.out; omega); intro v485 w25 ho hb hg hat; rw [← Ny484.out] at ho; have n0_ := Aside0.mk (Kd.R_after (ok := (fun _ => True)) (by (with_reducible repeat (first | apply Kd.R_alloc | apply Kd.R_drewN | apply Kd.R_drew)); exact HO483.out) hg hat); have n1_ := Aside0.mk (hb); have n2_ := Aside0.mk (ho); clear HO483; clear HB; clear HO_5; have HO483 := n0_; have HB := n1_; have HO486 := n2_; clear n0_ n1_ n2_; clear ho hb hg hat))
                            go_roundg kj15
                            case measure => have := HK1.out; have := HJ9.out; have := HJ15.out; omega
                            case rel => exact ⟨((x0_1.extract (x7_9 : Int).toNat x0_1.size)), (y484), (by first | rfl | (simp; done) | (simp [*]; done)), H', ⟨by have := HK1.out; have := HJ9.out; have := HJ15.out; omega⟩, ⟨by (with_reducible repeat (first | apply Kd.R_alloc | apply Kd.R_drewN | apply Kd.R_drew)); exact Kd.R_mono HO486.out (fun _ hk => trivial)⟩, ⟨by repeat (first | (with_reducible first | exact HB.out | apply below_alloc | apply pw_below_drewN | apply below_drew1) | exact HB.out)⟩⟩
                          · rw [if_neg c22] at H
                            exact absurd H (by simp)
                        · rw [if_neg c20] at H
                          exact absurd H (by simp)
                      · rw [if_neg c19] at H
                        exact absurd H (by simp)
                    · replace c18 := Bool.eq_false_iff.mpr c18
                      subst c18
                      have H1 : (if x6_9 < 32 then (if 0 ≤ (x6_9 / 16) then (if (x6_9 / 16) < 16 then (if 0 ≤ (Go.bits .and .i64 x6_9 15) then (if (Go.bits .and .i64 x6_9 15) < 16 then ((some (([92, 117, 48, 48, bt (⟨#[48, 49, 50, 51, 52, 53, 54, 55, 56, 57, 97, 98, 99, 100, 101, 102]⟩ : ByteArray) (x6_9 / 16), bt (⟨#[48, 49, 50, 51, 52, 53, 54, 55, 56, 57, 97, 98, 99, 100, 101, 102]⟩ : ByteArray) (Go.bits .and .i64 x6_9 15)] : List Int) : List Int)).bind fun y487 => (if x5_1.length + y487.length < 140737488355328 then (esc_quote.l0 kj15 (x0_1.extract (x7_9 : Int).toNat x0_1.size) a1 (x5_1 ++ y487)) else (none))) else (none)) else (none)) else (none)) else (none)) else (if x6_9 = 127 then (if a1 = true then (if 0 ≤ (x6_9 / 16) then (if (x6_9 / 16) < 16 then (if 0 ≤ (Go.bits .and .i64 x6_9 15) then (if (Go.bits .and .i64 x6_9 15) < 16 then ((some (([92, 117, 48, 48, bt (⟨#[48, 49, 50, 51, 52, 53, 54, 55, 56, 57, 97, 98, 99, 100, 101, 102]⟩ : ByteArray) (x6_9 / 16), bt (⟨#[48, 49, 50, 51, 52, 53, 54, 55, 56, 57, 97, 98, 99, 100, 101, 102]⟩ : ByteArray) (Go.bits .and .i64 x6_9 15)] : List Int) : List Int)).bind fun y493 => (if x5_1.length + y493.length < 140737488355328 then (esc_quote.l0 kj15 (x0_1.extract (x7_9 : Int).toNat x0_1.size) a1 (x5_1 ++ y493)) else (none))) else (none)) else (none)) else (none)) else (none)) else ((utf_Put.f x5_1 x6_9).bind fun t499 => (esc_quote.l0 kj15 (x0_1.extract (x7_9 : Int).toNat x0_1.size) a1 t499))) else ((utf_Put.f x5_1 x6_9).bind fun t502 => (esc_quote.l0 kj15 (x0_1.extract (x7_9 : Int).toNat x0_1.size) a1 t502)))) = some r := by rw [if_neg (show ¬ (false = true) by decide)] at H; exact H
                      clear H
                      have H := H1
                      clear H1
                      by_cases c27 : x6_9 < 32
                      · rw [if_pos c27] at H
                        have c27b0 : decide (x6_9 < 32) = true := decide_eq_true c27
                        clear c27
                        obtain ⟨ji28, hji28⟩ : ∃ j_ : Int, (x6_9 / 16) = j_ := ⟨_, rfl⟩
                        replace H : (if 0 ≤ (ji28) then (if (ji28) < 16 then (if 0 ≤ (Go.bits .and .i64 x6_9 15) then (if (Go.bits .and .i64 x6_9 15) < 16 then ((some (([92, 117, 48, 48, bt (⟨#[48, 49, 50, 51, 52, 53, 54, 55, 56, 57, 97, 98, 99, 100, 101, 102]⟩ : ByteArray) (ji28), bt (⟨#[48, 49, 50, 51, 52, 53, 54, 55, 56, 57, 97, 98, 99, 100, 101, 102]⟩ : ByteArray) (Go.bits .and .i64 x6_9 15)] : List Int) : List Int)).bind fun y487 => (if x5_1.length + y487.length < 140737488355328 then (esc_quote.l0 kj15 (x0_1.extract (x7_9 : Int).toNat x0_1.size) a1 (x5_1 ++ y487)) else (none))) else (none)) else (none)) else (none)) else (none)) = some r := by first | (rw [hji28] at H; exact H) | (simp only [hji28] at H ⊢; exact H)
                        by_cases c29 : 0 ≤ (ji28)
                        · rw [if_pos c29] at H
                          have c29b0 : decide (0 ≤ (ji28)) = true := decide_eq_true c29
                          clear c29
                          by_cases c30 : (ji28) < 16
                          · rw [if_pos c30] at H
                            have c30b0 : decide ((ji28) < 16) = true := decide_eq_true c30
                            clear c30
                            by_cases c32 : 0 ≤ (Go.bits .and .i64 x6_9 15)
                            · rw [if_pos c32] at H
                              have c32b0 : decide (0 ≤ (Go.bits .and .i64 x6_9 15)) = true := decide_eq_true c32
                              clear c32
                              by_cases c33 : (Go.bits .and .i64 x6_9 15) < 16
                              · rw [if_pos c33] at H
                                have c33b0 : decide ((Go.bits .and .i64 x6_9 15) < 16) = true := decide_eq_true c33
                                clear c33
                                obtain ⟨y487, hy487⟩ : ∃ y_ : List Int, y_ = (([92, 117, 48, 48, bt (⟨#[48, 49, 50, 51, 52, 53, 54, 55, 56, 57, 97, 98, 99, 100, 101, 102]⟩ : ByteArray) (ji28), bt (⟨#[48, 49, 50, 51, 52, 53, 54, 55, 56, 57, 97, 98, 99, 100, 101, 102]⟩ : ByteArray) (Go.bits .and .i64 x6_9 15)] : List Int)) := ⟨_, rfl⟩
                                replace H : (if x5_1.length + y487.length < 140737488355328 then (esc_quote.l0 kj15 (x0_1.extract (x7_9 : Int).toNat x0_1.size) a1 (x5_1 ++ y487)) else (none)) = some r := by first | (rw [hy487]; with_reducible exact H) | (have H2_ := (Option.bind_some _ _).symm.trans H; rw [hy487]; with_reducible exact H2_) | (have H2_ := (Option.bind_some _ _).symm.trans H; with_reducible exact H2_) | with_reducible exact H | (rw [hy487]; exact H) | exact H
                                have Ny487 := Aside0.mk hy487
                                clear hy487
                                by_cases c35 : x5_1.length + y487.length < 140737488355328
                                · rw [if_pos c35] at H
                                  have LMc35 := Aside0.mk c35
                                  clear c35
                                  obtain ⟨y490, hy490⟩ : ∃ y_ : List Int, y_ = (x5_1 ++ y487) := ⟨_, rfl⟩
                                  replace H : (esc_quote.l0 kj15 (x0_1.extract (x7_9 : Int).toNat x0_1.size) a1 y490) = some r := by first | (rw [hy490]; with_reducible exact H) | (have H2_ := (Option.bind_some _ _).symm.trans H; rw [hy490]; with_reducible exact H2_) | (have H2_ := (Option.bind_some _ _).symm.trans H; with_reducible exact H2_) | with_reducible exact H | (rw [hy490]; exact H) | exact H
                                  have Ny490 := Aside0.mk hy490
                                  clear hy490
                                  have H' := Aside0.mk H
                                  clear H
                                  try go_wp2
                                  have n0_ := Aside0.mk (Kd.R_drew HO_5.out)
                                  have n1_ := Aside0.mk (below_drew1 HB.out)
                                  clear HO_5
                                  clear HB
                                  have HO_5 := n0_
                                  have HB := n1_
                                  clear n0_ n1_
                                  have p31 : 0 ≤ ((ji28) : Int) := of_decide_eq_true (by first | (with_reducible assumption) | assumption)
                                  have q31 : (ji28) < (16 : Int) := of_decide_eq_true (by first | (with_reducible assumption) | assumption)
                                  have hx31 := bt_at (⟨#[48, 49, 50, 51, 52, 53, 54, 55, 56, 57, 97, 98, 99, 100, 101, 102]⟩ : ByteArray) (ji28)
                                  replace p31 := eq_true p31
                                  replace q31 := eq_true q31
                                  have p34 : 0 ≤ ((Go.bits .and .i64 x6_9 15) : Int) := of_decide_eq_true (by first | (with_reducible assumption) | assumption)
                                  have q34 : (Go.bits .and .i64 x6_9 15) < (16 : Int) := of_decide_eq_true (by first | (with_reducible assumption) | assumption)
                                  have hx34 := bt_at (⟨#[48, 49, 50, 51, 52, 53, 54, 55, 56, 57, 97, 98, 99, 100, 101, 102]⟩ : ByteArray) (Go.bits .and .i64 x6_9 15)
                                  replace p34 := eq_true p34
                                  replace q34 := eq_true q34
                                  refine start_ (n := 10) (S := fun w' => True) (ds := []) #[false, false, false, false, false, false, false, false, false, false] (by kernel_rfl) rfl rfl trivial (fun hHeld => ?_); refine with_tabW esc_quote.tab12 esc_quote.bits12 (fun HT_ HW_ => ?_)
                                  generalize wc.drew = w36 at HO_5 HB hHeld ⊢
                                  refine pure_ (i := 0) (N := some 51) (v := ?_) (a' := ?_) #[true, false, false, false, false, false, false, false, false, false] rfl rfl (any_of HT_.out (by kernel_rfl)) (fun _ _ _ h => h) (Or.inl ⟨by rfl, ?_⟩) ?_ ?_
                                  rotate_left
                                  · intro w'
                                    go_simp
                                    with_reducible rfl
                                  rotate_left
                                  · simp only [Act.put, List.setIfInBounds_toArray, List.set_cons_zero, List.set_cons_succ, i64_w, i32_w]
                                    rfl
                                  refine pure_ (i := 1) (N := some 52) (v := ?_) (a' := ?_) #[true, true, false, false, false, false, false, false, false, false] rfl rfl (any_of HT_.out (by kernel_rfl)) (fun _ _ _ h => h) (Or.inl ⟨by rfl, ?_⟩) ?_ ?_
                                  rotate_left
                                  · intro w'
                                    go_simp
                                    with_reducible rfl
                                  rotate_left
                                  · simp only [Act.put, List.setIfInBounds_toArray, List.set_cons_zero, List.set_cons_succ, i64_w, i32_w]
                                    rfl
                                  refine pure_ (i := 2) (N := some 53) (v := ?_) (a' := ?_) #[true, true, true, false, false, false, false, false, false, false] rfl rfl (any_of HT_.out (by kernel_rfl)) (fun _ _ _ h => h) (Or.inl ⟨by rfl, ?_⟩) ?_ ?_
                                  rotate_left
                                  · intro w'
                                    go_simp
                                    with_reducible rfl
                                  rotate_left
                                  · simp only [Act.put, List.setIfInBounds_toArray, List.set_cons_zero, List.set_cons_succ, i64_w, i32_w]
                                    rfl
                                  refine pure_ (i := 4) (N := some 55) (v := ?_) (a' := ?_) #[true, true, true, false, true, false, false, false, false, false] rfl rfl (any_of HT_.out (by kernel_rfl)) (fun _ _ _ h => h) (Or.inl ⟨by rfl, ?_⟩) ?_ ?_
                                  rotate_left
                                  · intro w'
                                    go_simp
                                    with_reducible rfl
                                  rotate_left
                                  · simp only [Act.put, List.setIfInBounds_toArray, List.set_cons_zero, List.set_cons_succ, i64_w, i32_w]
                                    rfl
                                  refine pure_ (i := 5) (N := some 56) (v := ?_) (a' := ?_) #[true, true, true, false, true, true, false, false, false, false] rfl rfl (any_of HT_.out (by kernel_rfl)) (fun _ _ _ h => h) (Or.inl ⟨by rfl, ?_⟩) ?_ ?_
                                  rotate_left
                                  · intro w'
                                    go_simp
                                    with_reducible rfl
                                  rotate_left
                                  · simp only [Act.put, List.setIfInBounds_toArray, List.set_cons_zero, List.set_cons_succ, i64_w, i32_w]
                                    rfl
                                  refine take_ (i := 3) (N := some 54) (v := ?_) (a' := ?_) #[true, true, true, true, true, true, false, false, false, false] rfl rfl (take_ofW HT_.out HW_.out (by kernel_rfl)) (fun _ _ _ h => h) (Or.inl ⟨by rfl, ?_⟩) hHeld ?_ ?_
                                  rotate_left
                                  · intro w' _
                                    go_simp
                                    with_reducible rfl
                                  rotate_left
                                  · simp only [Act.put, List.setIfInBounds_toArray, List.set_cons_zero, List.set_cons_succ, i64_w, i32_w]
                                    rfl
                                  refine take_ (i := 6) (N := some 57) (v := ?_) (a' := ?_) #[true, true, true, true, true, true, true, false, false, false] rfl rfl (take_ofW HT_.out HW_.out (by kernel_rfl)) (fun _ _ _ h => h) (Or.inl ⟨by rfl, ?_⟩) hHeld ?_ ?_
                                  rotate_left
                                  · intro w' _
                                    go_simp
                                    with_reducible rfl
                                  rotate_left
                                  · simp only [Act.put, List.setIfInBounds_toArray, List.set_cons_zero, List.set_cons_succ, i64_w, i32_w]
                                    rfl
                                  refine one_ (i := 7) (N := some 58) #[true, true, true, true, true, true, true, true, false, false] rfl rfl (one_of HT_.out (by kernel_rfl)) (by decide) (fun K hK => ?_)
                                  refine Kd.R_lit_step (Kd.int .u8) _ 5 ?hg (N := 58) ?hd (xs := ([92, 117, 48, 48, bt (⟨#[48, 49, 50, 51, 52, 53, 54, 55, 56, 57, 97, 98, 99, 100, 101, 102]⟩ : ByteArray) (ji28), bt (⟨#[48, 49, 50, 51, 52, 53, 54, 55, 56, 57, 97, 98, 99, 100, 101, 102]⟩ : ByteArray) (Go.bits .and .i64 x6_9 15)] : List Int)) (inner := [.int .u8 92, .int .u8 117, .int .u8 48, .int .u8 48, .int .u8 (bt (⟨#[48, 49, 50, 51, 52, 53, 54, 55, 56, 57, 97, 98, 99, 100, 101, 102]⟩ : ByteArray) (ji28)), .int .u8 (bt (⟨#[48, 49, 50, 51, 52, 53, 54, 55, 56, 57, 97, 98, 99, 100, 101, 102]⟩ : ByteArray) (Go.bits .and .i64 x6_9 15))]) (ok := fun _ => True) (okp := fun _ => True) ?hr ?hp (fun _ hk => hk) trivial (Below.refl _ _) (Nat.le_refl _) (by simp) ?_; (case hd => rfl); (case hg => rfl); (case hr => first | (go_simp; done) | (go_simp; rfl)); (case hp => exact (Reps.one (show Kd.M (Kd.int .u8) _ _ _ 92 [.int .u8 92] from rfl) (Reps.one (show Kd.M (Kd.int .u8) _ _ _ 117 [.int .u8 117] from rfl) (Reps.one (show Kd.M (Kd.int .u8) _ _ _ 48 [.int .u8 48] from rfl) (Reps.one (show Kd.M (Kd.int .u8) _ _ _ 48 [.int .u8 48] from rfl) (Reps.one (show Kd.M (Kd.int .u8) _ _ _ (bt (⟨#[48, 49, 50, 51, 52, 53, 54, 55, 56, 57, 97, 98, 99, 100, 101, 102]⟩ : ByteArray) (ji28)) [.int .u8 (bt (⟨#[48, 49, 50, 51, 52, 53, 54, 55, 56, 57, 97, 98, 99, 100, 101, 102]⟩ : ByteArray) (ji28))] from rfl) (Reps.one (show Kd.M (Kd.int .u8) _ _ _ (bt (⟨#[48, 49, 50, 51, 52, 53, 54, 55, 56, 57, 97, 98, 99, 100, 101, 102]⟩ : ByteArray) (Go.bits .and .i64 x6_9 15)) [.int .u8 (bt (⟨#[48, 49, 50, 51, 52, 53, 54, 55, 56, 57, 97, 98, 99, 100, 101, 102]⟩ : ByteArray) (Go.bits .and .i64 x6_9 15))] from rfl) (Reps.none _ _))))))))
                                  intro v488 w37 ho38 hb hg_ hnew_
                                  clear hg_ hnew_
                                  (first | rw [← Ny487.out] at ho38 | (simp only [Int.reduceToNat] at ho38; rw [← Ny487.out] at ho38))
                                  have n0_ := Aside0.mk (Kd.R_elder' (by (with_reducible repeat (first | apply Kd.R_alloc | apply Kd.R_drewN | apply Kd.R_drew)); exact HO_5.out) (Kd.R_base ho38) hb)
                                  have n1_ := Aside0.mk (Kd.R_lower (Kd.R_new' ho38 (Kd.R_lt (by (with_reducible repeat (first | apply Kd.R_alloc | apply Kd.R_drewN | apply Kd.R_drew)); exact HO_5.out))) (below_size (by repeat (first | (with_reducible first | exact HB.out | apply below_alloc | apply pw_below_drewN | apply below_drew1) | exact HB.out))))
                                  have n2_ := Aside0.mk (below_step (by repeat (first | (with_reducible first | exact HB.out | apply below_alloc | apply pw_below_drewN | apply below_drew1) | exact HB.out)) hb)
                                  clear HO_5
                                  clear HB
                                  have HO_5 := n0_
                                  have HO489 := n1_
                                  have HB := n2_
                                  clear n0_ n1_ n2_
                                  clear hb ho38
                                  obtain ⟨Ao40, co40, eo40⟩ := Kd.R_slice HO489.out
                                  (first | subst eo40 | (injection eo40 with f1_ f2_ f3_; have f4_ := f1_.symm; have f5_ := f3_.symm; clear f1_ f2_ f3_; subst f4_; subst f5_))
                                  refine hK.out _ _ trivial (fun hHeld => ?_)
                                  clear hK K
                                  refine norm_ (a' := ?_) ?_ ?_
                                  rotate_left
                                  · show Act.put _ (some 58) _ = _
                                    simp only [Act.put, List.setIfInBounds_toArray, List.set_cons_zero, List.set_cons_succ, i64_w, i32_w]
                                    rfl
                                  refine one_ (i := 8) (N := some 59) #[true, true, true, true, true, true, true, true, true, false] rfl rfl (one_of HT_.out (by kernel_rfl)) (by decide) (fun K hK => ?_)
                                  refine Kd.R_append_rows_step (Kd.int .u8) (w0 := w) w.heap.size (by rfl) (.tmp 51) (.tmp 58) 46 5 (.int .u8 0) 1 rfl Tryd.underlying46 info5 rfl (by decide) (by omega) u5 x5_1 y487 _ _ _ (fun k_ => some k_ ≠ (.slice Ao40 y487.length co40 : Value).ownBlock) (fun _ => False) rfl rfl ?aO ?aR (fun _ _ h => h) (fun _ h => h.elim) ?aF ?aB ?aS ?aL ?_
                                  (case aR => repeat (first | exact (Kd.R_reads' HO489.out).2.2 | (with_reducible refine Kd.C_alloc ?_ _) | (with_reducible refine Kd.C_drewN ?_ _) | (with_reducible refine Kd.C_drew ?_)))
                                  (case aB => exact (by repeat (first | (with_reducible first | exact HB.out | apply below_alloc | apply pw_below_drewN | apply below_drew1) | exact HB.out)))
                                  (case aF => exact (fun k_ hk => Kd.fresh' (Kd.R_lt (by (with_reducible repeat (first | apply Kd.R_alloc | apply Kd.R_drewN | apply Kd.R_drew)); exact HO489.out)) k_ hk))
                                  (case aO => exact (by (with_reducible repeat (first | apply Kd.R_alloc | apply Kd.R_drewN | apply Kd.R_drew)); exact Kd.R_mono HO_5.out (fun _ hk => hk.2)))
                                  (case aS => exact (below_size (by repeat (first | (with_reducible first | exact HB.out | apply below_alloc | apply pw_below_drewN | apply below_drew1) | exact HB.out))))
                                  (case aL => have := LMc35.out; omega)
                                  intro v491 w39 ho hb hg hat
                                  rw [← Ny490.out] at ho
                                  have n0_ := Aside0.mk (Kd.R_after (ok := (fun _ => True)) (by (with_reducible repeat (first | apply Kd.R_alloc | apply Kd.R_drewN | apply Kd.R_drew)); exact HO489.out) hg hat)
                                  have n1_ := Aside0.mk (hb)
                                  have n2_ := Aside0.mk (ho)
                                  clear HO489
                                  clear HB
                                  clear HO_5
                                  have HO489 := n0_
                                  have HB := n1_
                                  have HO492 := n2_
                                  clear n0_ n1_ n2_
                                  clear ho hb hg hat
                                  refine hK.out _ _ trivial (fun hHeld => ?_)
                                  clear hK K
                                  refine norm_ (a' := ?_) ?_ ?_
                                  rotate_left
                                  · show Act.put _ (some 59) _ = _
                                    simp only [Act.put, List.setIfInBounds_toArray, List.set_cons_zero, List.set_cons_succ, i64_w, i32_w]
                                    rfl
                                  refine pure_ (i := 9) (N := some 5) (v := ?_) (a' := ?_) #[true, true, true, true, true, true, true, true, true, true] rfl rfl (any_of HT_.out (by kernel_rfl)) (fun _ _ _ h => h) (Or.inl ⟨by rfl, ?_⟩) ?_ ?_
                                  rotate_left
                                  · intro w'
                                    go_simp
                                    with_reducible rfl
                                  rotate_left
                                  · simp only [Act.put, List.setIfInBounds_toArray, List.set_cons_zero, List.set_cons_succ, i64_w, i32_w]
                                    rfl
                                  refine done_ (done_of HT_.out (by kernel_rfl)) ?_
                                  try go_wp2
                                  go_roundg kj15
                                  case measure => have := HK1.out; have := HJ9.out; have := HJ15.out; omega
                                  case rel => exact ⟨((x0_1.extract (x7_9 : Int).toNat x0_1.size)), (y490), (by first | rfl | (simp; done) | (simp [*]; done)), H', ⟨by have := HK1.out; have := HJ9.out; have := HJ15.out; omega⟩, ⟨by (with_reducible repeat (first | apply Kd.R_alloc | apply Kd.R_drewN | apply Kd.R_drew)); exact Kd.R_mono HO492.out (fun _ hk => trivial)⟩, ⟨by repeat (first | (with_reducible first | exact HB.out | apply below_alloc | apply pw_below_drewN | apply below_drew1) | exact HB.out)⟩⟩
                                · rw [if_neg c35] at H
                                  exact absurd H (by simp)
                              · rw [if_neg c33] at H
                                exact absurd H (by simp)
                            · rw [if_neg c32] at H
                              exact absurd H (by simp)
                          · rw [if_neg c30] at H
                            exact absurd H (by simp)
                        · rw [if_neg c29] at H
                          exact absurd H (by simp)
                      · rw [if_neg c27] at H
                        have c27b0 : decide (x6_9 < 32) = false := decide_eq_false c27
                        clear c27
                        by_cases c41 : x6_9 = 127
                        · rw [if_pos c41] at H
                          have c41b0 : (x6_9 == 127) = true := beq_iff_eq.mpr c41
                          have c41b1 : (x6_9 != 127) = false := bne_eq_false_iff_eq.mpr c41
                          clear c41
                          by_cases c42 : a1 = true
                          · subst c42
                            have H1 : (if 0 ≤ (x6_9 / 16) then (if (x6_9 / 16) < 16 then (if 0 ≤ (Go.bits .and .i64 x6_9 15) then (if (Go.bits .and .i64 x6_9 15) < 16 then ((some (([92, 117, 48, 48, bt (⟨#[48, 49, 50, 51, 52, 53, 54, 55, 56, 57, 97, 98, 99, 100, 101, 102]⟩ : ByteArray) (x6_9 / 16), bt (⟨#[48, 49, 50, 51, 52, 53, 54, 55, 56, 57, 97, 98, 99, 100, 101, 102]⟩ : ByteArray) (Go.bits .and .i64 x6_9 15)] : List Int) : List Int)).bind fun y493 => (if x5_1.length + y493.length < 140737488355328 then (esc_quote.l0 kj15 (x0_1.extract (x7_9 : Int).toNat x0_1.size) true (x5_1 ++ y493)) else (none))) else (none)) else (none)) else (none)) else (none)) = some r := by rw [if_pos rfl] at H; exact H
                            clear H
                            have H := H1
                            clear H1
                            obtain ⟨ji43, hji43⟩ : ∃ j_ : Int, (x6_9 / 16) = j_ := ⟨_, rfl⟩
                            replace H : (if 0 ≤ (ji43) then (if (ji43) < 16 then (if 0 ≤ (Go.bits .and .i64 x6_9 15) then (if (Go.bits .and .i64 x6_9 15) < 16 then ((some (([92, 117, 48, 48, bt (⟨#[48, 49, 50, 51, 52, 53, 54, 55, 56, 57, 97, 98, 99, 100, 101, 102]⟩ : ByteArray) (ji43), bt (⟨#[48, 49, 50, 51, 52, 53, 54, 55, 56, 57, 97, 98, 99, 100, 101, 102]⟩ : ByteArray) (Go.bits .and .i64 x6_9 15)] : List Int) : List Int)).bind fun y493 => (if x5_1.length + y493.length < 140737488355328 then (esc_quote.l0 kj15 (x0_1.extract (x7_9 : Int).toNat x0_1.size) true (x5_1 ++ y493)) else (none))) else (none)) else (none)) else (none)) else (none)) = some r := by first | (rw [hji43] at H; exact H) | (simp only [hji43] at H ⊢; exact H)
                            by_cases c44 : 0 ≤ (ji43)
                            · rw [if_pos c44] at H
                              have c44b0 : decide (0 ≤ (ji43)) = true := decide_eq_true c44
                              clear c44
                              by_cases c45 : (ji43) < 16
                              · rw [if_pos c45] at H
                                have c45b0 : decide ((ji43) < 16) = true := decide_eq_true c45
                                clear c45
                                by_cases c47 : 0 ≤ (Go.bits .and .i64 x6_9 15)
                                · rw [if_pos c47] at H
                                  have c47b0 : decide (0 ≤ (Go.bits .and .i64 x6_9 15)) = true := decide_eq_true c47
                                  clear c47
                                  by_cases c48 : (Go.bits .and .i64 x6_9 15) < 16
                                  · rw [if_pos c48] at H
                                    have c48b0 : decide ((Go.bits .and .i64 x6_9 15) < 16) = true := decide_eq_true c48
                                    clear c48
                                    obtain ⟨y493, hy493⟩ : ∃ y_ : List Int, y_ = (([92, 117, 48, 48, bt (⟨#[48, 49, 50, 51, 52, 53, 54, 55, 56, 57, 97, 98, 99, 100, 101, 102]⟩ : ByteArray) (ji43), bt (⟨#[48, 49, 50, 51, 52, 53, 54, 55, 56, 57, 97, 98, 99, 100, 101, 102]⟩ : ByteArray) (Go.bits .and .i64 x6_9 15)] : List Int)) := ⟨_, rfl⟩
                                    replace H : (if x5_1.length + y493.length < 140737488355328 then (esc_quote.l0 kj15 (x0_1.extract (x7_9 : Int).toNat x0_1.size) true (x5_1 ++ y493)) else (none)) = some r := by first | (rw [hy493]; with_reducible exact H) | (have H2_ := (Option.bind_some _ _).symm.trans H; rw [hy493]; with_reducible exact H2_) | (have H2_ := (Option.bind_some _ _).symm.trans H; with_reducible exact H2_) | with_reducible exact H | (rw [hy493]; exact H) | exact H
                                    have Ny493 := Aside0.mk hy493
                                    clear hy493
                                    by_cases c50 : x5_1.length + y493.length < 140737488355328
                                    · rw [if_pos c50] at H
                                      have LMc50 := Aside0.mk c50
                                      clear c50
                                      obtain ⟨y496, hy496⟩ : ∃ y_ : List Int, y_ = (x5_1 ++ y493) := ⟨_, rfl⟩
                                      replace H : (esc_quote.l0 kj15 (x0_1.extract (x7_9 : Int).toNat x0_1.size) true y496) = some r := by first | (rw [hy496]; with_reducible exact H) | (have H2_ := (Option.bind_some _ _).symm.trans H; rw [hy496]; with_reducible exact H2_) | (have H2_ := (Option.bind_some _ _).symm.trans H; with_reducible exact H2_) | with_reducible exact H | (rw [hy496]; exact H) | exact H
                                      have Ny496 := Aside0.mk hy496
                                      clear hy496
                                      have H' := Aside0.mk H
                                      clear H
                                      try go_wp2
                                      have n0_ := Aside0.mk (Kd.R_drew HO_5.out)
                                      have n1_ := Aside0.mk (below_drew1 HB.out)
                                      clear HO_5
                                      clear HB
                                      have HO_5 := n0_
                                      have HB := n1_
                                      clear n0_ n1_
                                      have p46 : 0 ≤ ((ji43) : Int) := of_decide_eq_true (by first | (with_reducible assumption) | assumption)
                                      have q46 : (ji43) < (16 : Int) := of_decide_eq_true (by first | (with_reducible assumption) | assumption)
                                      have hx46 := bt_at (⟨#[48, 49, 50, 51, 52, 53, 54, 55, 56, 57, 97, 98, 99, 100, 101, 102]⟩ : ByteArray) (ji43)
                                      replace p46 := eq_true p46
                                      replace q46 := eq_true q46
                                      have p49 : 0 ≤ ((Go.bits .and .i64 x6_9 15) : Int) := of_decide_eq_true (by first | (with_reducible assumption) | assumption)
                                      have q49 : (Go.bits .and .i64 x6_9 15) < (16 : Int) := of_decide_eq_true (by first | (with_reducible assumption) | assumption)
                                      have hx49 := bt_at (⟨#[48, 49, 50, 51, 52, 53, 54, 55, 56, 57, 97, 98, 99, 100, 101, 102]⟩ : ByteArray) (Go.bits .and .i64 x6_9 15)
                                      replace p49 := eq_true p49
                                      replace q49 := eq_true q49
                                      refine start_ (n := 10) (S := fun w' => True) (ds := []) #[false, false, false, false, false, false, false, false, false, false] (by kernel_rfl) rfl rfl trivial (fun hHeld => ?_); refine with_tabW esc_quote.tab12 esc_quote.bits12 (fun HT_ HW_ => ?_)
                                      generalize wc.drew = w51 at HO_5 HB hHeld ⊢
                                      refine pure_ (i := 0) (N := some 51) (v := ?_) (a' := ?_) #[true, false, false, false, false, false, false, false, false, false] rfl rfl (any_of HT_.out (by kernel_rfl)) (fun _ _ _ h => h) (Or.inl ⟨by rfl, ?_⟩) ?_ ?_
                                      rotate_left
                                      · intro w'
                                        go_simp
                                        with_reducible rfl
                                      rotate_left
                                      · simp only [Act.put, List.setIfInBounds_toArray, List.set_cons_zero, List.set_cons_succ, i64_w, i32_w]
                                        rfl
                                      refine pure_ (i := 1) (N := some 52) (v := ?_) (a' := ?_) #[true, true, false, false, false, false, false, false, false, false] rfl rfl (any_of HT_.out (by kernel_rfl)) (fun _ _ _ h => h) (Or.inl ⟨by rfl, ?_⟩) ?_ ?_
                                      rotate_left
                                      · intro w'
                                        go_simp
                                        with_reducible rfl
                                      rotate_left
                                      · simp only [Act.put, List.setIfInBounds_toArray, List.set_cons_zero, List.set_cons_succ, i64_w, i32_w]
                                        rfl
                                      refine pure_ (i := 2) (N := some 53) (v := ?_) (a' := ?_) #[true, true, true, false, false, false, false, false, false, false] rfl rfl (any_of HT_.out (by kernel_rfl)) (fun _ _ _ h => h) (Or.inl ⟨by rfl, ?_⟩) ?_ ?_
                                      rotate_left
                                      · intro w'
                                        go_simp
                                        with_reducible rfl
                                      rotate_left
                                      · simp only [Act.put, List.setIfInBounds_toArray, List.set_cons_zero, List.set_cons_succ, i64_w, i32_w]
                                        rfl
                                      refine pure_ (i := 4) (N := some 55) (v := ?_) (a' := ?_) #[true, true, true, false, true, false, false, false, false, false] rfl rfl (any_of HT_.out (by kernel_rfl)) (fun _ _ _ h => h) (Or.inl ⟨by rfl, ?_⟩) ?_ ?_
                                      rotate_left
                                      · intro w'
                                        go_simp
                                        with_reducible rfl
                                      rotate_left
                                      · simp only [Act.put, List.setIfInBounds_toArray, List.set_cons_zero, List.set_cons_succ, i64_w, i32_w]
                                        rfl
                                      refine pure_ (i := 5) (N := some 56) (v := ?_) (a' := ?_) #[true, true, true, false, true, true, false, false, false, false] rfl rfl (any_of HT_.out (by kernel_rfl)) (fun _ _ _ h => h) (Or.inl ⟨by rfl, ?_⟩) ?_ ?_
                                      rotate_left
                                      · intro w'
                                        go_simp
                                        with_reducible rfl
                                      rotate_left
                                      · simp only [Act.put, List.setIfInBounds_toArray, List.set_cons_zero, List.set_cons_succ, i64_w, i32_w]
                                        rfl
                                      refine take_ (i := 3) (N := some 54) (v := ?_) (a' := ?_) #[true, true, true, true, true, true, false, false, false, false] rfl rfl (take_ofW HT_.out HW_.out (by kernel_rfl)) (fun _ _ _ h => h) (Or.inl ⟨by rfl, ?_⟩) hHeld ?_ ?_
                                      rotate_left
                                      · intro w' _
                                        go_simp
                                        with_reducible rfl
                                      rotate_left
                                      · simp only [Act.put, List.setIfInBounds_toArray, List.set_cons_zero, List.set_cons_succ, i64_w, i32_w]
                                        rfl
                                      refine take_ (i := 6) (N := some 57) (v := ?_) (a' := ?_) #[true, true, true, true, true, true, true, false, false, false] rfl rfl (take_ofW HT_.out HW_.out (by kernel_rfl)) (fun _ _ _ h => h) (Or.inl ⟨by rfl, ?_⟩) hHeld ?_ ?_
                                      rotate_left
                                      · intro w' _
                                        go_simp
                                        with_reducible rfl
                                      rotate_left
                                      · simp only [Act.put, List.setIfInBounds_toArray, List.set_cons_zero, List.set_cons_succ, i64_w, i32_w]
                                        rfl
                                      refine one_ (i := 7) (N := some 58) #[true, true, true, true, true, true, true, true, false, false] rfl rfl (one_of HT_.out (by kernel_rfl)) (by decide) (fun K hK => ?_)
                                      refine Kd.R_lit_step (Kd.int .u8) _ 5 ?hg (N := 58) ?hd (xs := ([92, 117, 48, 48, bt (⟨#[48, 49, 50, 51, 52, 53, 54, 55, 56, 57, 97, 98, 99, 100, 101, 102]⟩ : ByteArray) (ji43), bt (⟨#[48, 49, 50, 51, 52, 53, 54, 55, 56, 57, 97, 98, 99, 100, 101, 102]⟩ : ByteArray) (Go.bits .and .i64 x6_9 15)] : List Int)) (inner := [.int .u8 92, .int .u8 117, .int .u8 48, .int .u8 48, .int .u8 (bt (⟨#[48, 49, 50, 51, 52, 53, 54, 55, 56, 57, 97, 98, 99, 100, 101, 102]⟩ : ByteArray) (ji43)), .int .u8 (bt (⟨#[48, 49, 50, 51, 52, 53, 54, 55, 56, 57, 97, 98, 99, 100, 101, 102]⟩ : ByteArray) (Go.bits .and .i64 x6_9 15))]) (ok := fun _ => True) (okp := fun _ => True) ?hr ?hp (fun _ hk => hk) trivial (Below.refl _ _) (Nat.le_refl _) (by simp) ?_; (case hd => rfl); (case hg => rfl); (case hr => first | (go_simp; done) | (go_simp; rfl)); (case hp => exact (Reps.one (show Kd.M (Kd.int .u8) _ _ _ 92 [.int .u8 92] from rfl) (Reps.one (show Kd.M (Kd.int .u8) _ _ _ 117 [.int .u8 117] from rfl) (Reps.one (show Kd.M (Kd.int .u8) _ _ _ 48 [.int .u8 48] from rfl) (Reps.one (show Kd.M (Kd.int .u8) _ _ _ 48 [.int .u8 48] from rfl) (Reps.one (show Kd.M (Kd.int .u8) _ _ _ (bt (⟨#[48, 49, 50, 51, 52, 53, 54, 55, 56, 57, 97, 98, 99, 100, 101, 102]⟩ : ByteArray) (ji43)) [.int .u8 (bt (⟨#[48, 49, 50, 51, 52, 53, 54, 55, 56, 57, 97, 98, 99, 100, 101, 102]⟩ : ByteArray) (ji43))] from rfl) (Reps.one (show Kd.M (Kd.int .u8) _ _ _ (bt (⟨#[48, 49, 50, 51, 52, 53, 54, 55, 56, 57, 97, 98, 99, 100, 101, 102]⟩ : ByteArray) (Go.bits .and .i64 x6_9 15)) [.int .u8 (bt (⟨#[48, 49, 50, 51, 52, 53, 54, 55, 56, 57, 97, 98, 99, 100, 101, 102]⟩ : ByteArray) (Go.bits .and .i64 x6_9 15))] from rfl) (Reps.none _ _))))))))
                                      intro v494 w52 ho53 hb hg_ hnew_
                                      clear hg_ hnew_
                                      (first | rw [← Ny493.out] at ho53 | (simp only [Int.reduceToNat] at ho53; rw [← Ny493.out] at ho53))
                                      have n0_ := Aside0.mk (Kd.R_elder' (by (with_reducible repeat (first | apply Kd.R_alloc | apply Kd.R_drewN | apply Kd.R_drew)); exact HO_5.out) (Kd.R_base ho53) hb)
                                      have n1_ := Aside0.mk (Kd.R_lower (Kd.R_new' ho53 (Kd.R_lt (by (with_reducible repeat (first | apply Kd.R_alloc | apply Kd.R_drewN | apply Kd.R_drew)); exact HO_5.out))) (below_size (by repeat (first | (with_reducible first | exact HB.out | apply below_alloc | apply pw_below_drewN | apply below_drew1) | exact HB.out))))
                                      have n2_ := Aside0.mk (below_step (by repeat (first | (with_reducible first | exact HB.out | apply below_alloc | apply pw_below_drewN | apply below_drew1) | exact HB.out)) hb)
                                      clear HO_5
                                      clear HB
                                      have HO_5 := n0_
                                      have HO495 := n1_
                                      have HB := n2_
                                      clear n0_ n1_ n2_
                                      clear hb ho53
                                      obtain ⟨Ao55, co55, eo55⟩ := Kd.R_slice HO495.out
                                      (first | subst eo55 | (injection eo55 with f1_ f2_ f3_; have f4_ := f1_.symm; have f5_ := f3_.symm; clear f1_ f2_ f3_; subst f4_; subst f5_))
                                      refine hK.out _ _ trivial (fun hHeld => ?_)
                                      clear hK K
                                      refine norm_ (a' := ?_) ?_ ?_
                                      rotate_left
                                      · show Act.put _ (some 58) _ = _
                                        simp only [Act.put, List.setIfInBounds_toArray, List.set_cons_zero, List.set_cons_succ, i64_w, i32_w]
                                        rfl
                                      refine one_ (i := 8) (N := some 59) #[true, true, true, true, true, true, true, true, true, false] rfl rfl (one_of HT_.out (by kernel_rfl)) (by decide) (fun K hK => ?_)
                                      refine Kd.R_append_rows_step (Kd.int .u8) (w0 := w) w.heap.size (by rfl) (.tmp 51) (.tmp 58) 46 5 (.int .u8 0) 1 rfl Tryd.underlying46 info5 rfl (by decide) (by omega) u5 x5_1 y493 _ _ _ (fun k_ => some k_ ≠ (.slice Ao55 y493.length co55 : Value).ownBlock) (fun _ => False) rfl rfl ?aO ?aR (fun _ _ h => h) (fun _ h => h.elim) ?aF ?aB ?aS ?aL ?_
                                      (case aR => repeat (first | exact (Kd.R_reads' HO495.out).2.2 | (with_reducible refine Kd.C_alloc ?_ _) | (with_reducible refine Kd.C_drewN ?_ _) | (with_reducible refine Kd.C_drew ?_)))
                                      (case aB => exact (by repeat (first | (with_reducible first | exact HB.out | apply below_alloc | apply pw_below_drewN | apply below_drew1) | exact HB.out)))
                                      (case aF => exact (fun k_ hk => Kd.fresh' (Kd.R_lt (by (with_reducible repeat (first | apply Kd.R_alloc | apply Kd.R_drewN | apply Kd.R_drew)); exact HO495.out)) k_ hk))
                                      (case aO => exact (by (with_reducible repeat (first | apply Kd.R_alloc | apply Kd.R_drewN | apply Kd.R_drew)); exact Kd.R_mono HO_5.out (fun _ hk => hk.2)))
                                      (case aS => exact (below_size (by repeat (first | (with_reducible first | exact HB.out | apply below_alloc | apply pw_below_drewN | apply below_drew1) | exact HB.out))))
                                      (case aL => have := LMc50.out; omega)
                                      intro v497 w54 ho hb hg hat
                                      rw [← Ny496.out] at ho
                                      have n0_ := Aside0.mk (Kd.R_after (ok := (fun _ => True)) (by (with_reducible repeat (first | apply Kd.R_alloc | apply Kd.R_drewN | apply Kd.R_drew)); exact HO495.out) hg hat)
                                      have n1_ := Aside0.mk (hb)
                                      have n2_ := Aside0.mk (ho)
                                      clear HO495
                                      clear HB
                                      clear HO_5
                                      have HO495 := n0_
                                      have HB := n1_
                                      have HO498 := n2_
                                      clear n0_ n1_ n2_
                                      clear ho hb hg hat
                                      refine hK.out _ _ trivial (fun hHeld => ?_)
                                      clear hK K
                                      refine norm_ (a' := ?_) ?_ ?_
                                      rotate_left
                                      · show Act.put _ (some 59) _ = _
                                        simp only [Act.put, List.setIfInBounds_toArray, List.set_cons_zero, List.set_cons_succ, i64_w, i32_w]
                                        rfl
                                      refine pure_ (i := 9) (N := some 5) (v := ?_) (a' := ?_) #[true, true, true, true, true, true, true, true, true, true] rfl rfl (any_of HT_.out (by kernel_rfl)) (fun _ _ _ h => h) (Or.inl ⟨by rfl, ?_⟩) ?_ ?_
                                      rotate_left
                                      · intro w'
                                        go_simp
                                        with_reducible rfl
                                      rotate_left
                                      · simp only [Act.put, List.setIfInBounds_toArray, List.set_cons_zero, List.set_cons_succ, i64_w, i32_w]
                                        rfl
                                      refine done_ (done_of HT_.out (by kernel_rfl)) ?_
                                      try go_wp2
                                      go_roundg kj15
                                      case measure => have := HK1.out; have := HJ9.out; have := HJ15.out; omega
                                      case rel => exact ⟨((x0_1.extract (x7_9 : Int).toNat x0_1.size)), (y496), (by first | rfl | (simp; done) | (simp [*]; done)), H', ⟨by have := HK1.out; have := HJ9.out; have := HJ15.out; omega⟩, ⟨by (with_reducible repeat (first | apply Kd.R_alloc | apply Kd.R_drewN | apply Kd.R_drew)); exact Kd.R_mono HO498.out (fun _ hk => trivial)⟩, ⟨by repeat (first | (with_reducible first | exact HB.out | apply below_alloc | apply pw_below_drewN | apply below_drew1) | exact HB.out)⟩⟩
                                    · rw [if_neg c50] at H
                                      exact absurd H (by simp)
                                  · rw [if_neg c48] at H
                                    exact absurd H (by simp)
                                · rw [if_neg c47] at H
                                  exact absurd H (by simp)
                              · rw [if_neg c45] at H
                                exact absurd H (by simp)
                            · rw [if_neg c44] at H
                              exact absurd H (by simp)
                          · replace c42 := Bool.eq_false_iff.mpr c42
                            subst c42
                            have H1 : ((utf_Put.f x5_1 x6_9).bind fun t499 => (esc_quote.l0 kj15 (x0_1.extract (x7_9 : Int).toNat x0_1.size) false t499)) = some r := by rw [if_neg (show ¬ (false = true) by decide)] at H; exact H
                            clear H
                            have H := H1
                            clear H1
                            replace H := Option.bind_eq_some_iff.mp H
                            obtain ⟨t499, A560, H⟩ := H
                            replace H : (esc_quote.l0 kj15 (x0_1.extract (x7_9 : Int).toNat x0_1.size) false t499) = some r := H
                            have A56 := Aside0.mk A560
                            clear A560
                            have H' := Aside0.mk H
                            clear H
                            obtain ⟨Ao57, co57, eo57⟩ := Kd.R_slice HO_5.out
                            subst eo57
                            go_wp2_with (first | ((with_reducible refine gate_callee (f := 67) rfl ?_); refine goesL_ (some 28) rfl rfl Tryd.func67 (by kernel_rfl) rfl #[.slice Ao57 x5_1.length co57, .int .i64 x6_9] rfl (by (try simp only [List.map_toArray, List.map_cons, List.map_nil]); first | done | rfl | (simp only [List.length_drop, List.length_take]; rfl)) ?_; (with_reducible refine (utf_Put.calls _ _ x5_1 x6_9 t499 _ ?side1 ?side2 A56.out).mono ?_); (case side1 => repeat (first | exact (Kd.R_reads' HO_5.out).2.2 | (with_reducible refine Kd.C_alloc ?_ _) | (with_reducible refine Kd.C_drewN ?_ _) | (with_reducible refine Kd.C_drew ?_))); (case side2 => exact (Kd.R_reads' HO_5.out).2.1); rintro e w58 ⟨v500, rfl, ho0, hb⟩; refine ⟨_, rfl, ?_⟩; have n0_ := Aside0.mk (Kd.R_elder' (by (with_reducible repeat (first | apply Kd.R_alloc | apply Kd.R_drewN | apply Kd.R_drew)); exact HO_5.out) (Kd.R_base ho0) hb); have n1_ := Aside0.mk (Kd.R_lower (Kd.R_new' ho0 (Kd.R_lt (by (with_reducible repeat (first | apply Kd.R_alloc | apply Kd.R_drewN | apply Kd.R_drew)); exact HO_5.out))) (below_size (by repeat (first | (with_reducible first | exact HB.out | apply below_alloc | apply pw_below_drewN | apply below_drew1) | exact HB.out)))); have n2_ := Aside0.mk (below_step (by repeat (first | (with_reducible first | exact HB.out | apply below_alloc | apply pw_below_drewN | apply below_drew1) | exact HB.out)) hb); clear HO_5; clear HB; have HO_5 := n0_; have HO501 := n1_; have HB := n2_; clear n0_ n1_ n2_; (try clear hb); (try clear hb2); (try clear hk); (try clear hi); (try clear ho0)))
                            go_roundg kj15
                            case measure => have := HK1.out; have := HJ9.out; have := HJ15.out; omega
                            case rel => exact ⟨((x0_1.extract (x7_9 : Int).toNat x0_1.size)), (t499), (by first | rfl | (simp; done) | (simp [*]; done)), H', ⟨by have := HK1.out; have := HJ9.out; have := HJ15.out; omega⟩, ⟨by (with_reducible repeat (first | apply Kd.R_alloc | apply Kd.R_drewN | apply Kd.R_drew)); exact Kd.R_mono HO501.out (fun _ hk => trivial)⟩, ⟨by repeat (first | (with_reducible first | exact HB.out | apply below_alloc | apply pw_below_drewN | apply below_drew1) | exact HB.out)⟩⟩
                        · rw [if_neg c41] at H
                          have c41b0 : (x6_9 == 127) = false := beq_eq_false_iff_ne.mpr c41
                          have c41b1 : (x6_9 != 127) = true := bne_iff_ne.mpr c41
                          replace H := Option.bind_eq_some_iff.mp H
                          obtain ⟨t502, A590, H⟩ := H
                          replace H : (esc_quote.l0 kj15 (x0_1.extract (x7_9 : Int).toNat x0_1.size) a1 t502) = some r := H
                          have A59 := Aside0.mk A590
                          clear A590
                          have H' := Aside0.mk H
                          clear H
                          obtain ⟨Ao60, co60, eo60⟩ := Kd.R_slice HO_5.out
                          subst eo60
                          go_wp2_with (first | ((with_reducible refine gate_callee (f := 67) rfl ?_); refine goesL_ (some 28) rfl rfl Tryd.func67 (by kernel_rfl) rfl #[.slice Ao60 x5_1.length co60, .int .i64 x6_9] rfl (by (try simp only [List.map_toArray, List.map_cons, List.map_nil]); first | done | rfl | (simp only [List.length_drop, List.length_take]; rfl)) ?_; (with_reducible refine (utf_Put.calls _ _ x5_1 x6_9 t502 _ ?side1 ?side2 A59.out).mono ?_); (case side1 => repeat (first | exact (Kd.R_reads' HO_5.out).2.2 | (with_reducible refine Kd.C_alloc ?_ _) | (with_reducible refine Kd.C_drewN ?_ _) | (with_reducible refine Kd.C_drew ?_))); (case side2 => exact (Kd.R_reads' HO_5.out).2.1); rintro e w61 ⟨v503, rfl, ho0, hb⟩; refine ⟨_, rfl, ?_⟩; have n0_ := Aside0.mk (Kd.R_elder' (by (with_reducible repeat (first | apply Kd.R_alloc | apply Kd.R_drewN | apply Kd.R_drew)); exact HO_5.out) (Kd.R_base ho0) hb); have n1_ := Aside0.mk (Kd.R_lower (Kd.R_new' ho0 (Kd.R_lt (by (with_reducible repeat (first | apply Kd.R_alloc | apply Kd.R_drewN | apply Kd.R_drew)); exact HO_5.out))) (below_size (by repeat (first | (with_reducible first | exact HB.out | apply below_alloc | apply pw_below_drewN | apply below_drew1) | exact HB.out)))); have n2_ := Aside0.mk (below_step (by repeat (first | (with_reducible first | exact HB.out | apply below_alloc | apply pw_below_drewN | apply below_drew1) | exact HB.out)) hb); clear HO_5; clear HB; have HO_5 := n0_; have HO504 := n1_; have HB := n2_; clear n0_ n1_ n2_; (try clear hb); (try clear hb2); (try clear hk); (try clear hi); (try clear ho0)))
                          go_roundg kj15
                          case measure => have := HK1.out; have := HJ9.out; have := HJ15.out; omega
                          case rel => exact ⟨((x0_1.extract (x7_9 : Int).toNat x0_1.size)), (t502), (by first | rfl | (simp; done) | (simp [*]; done)), H', ⟨by have := HK1.out; have := HJ9.out; have := HJ15.out; omega⟩, ⟨by (with_reducible repeat (first | apply Kd.R_alloc | apply Kd.R_drewN | apply Kd.R_drew)); exact Kd.R_mono HO504.out (fun _ hk => trivial)⟩, ⟨by repeat (first | (with_reducible first | exact HB.out | apply below_alloc | apply pw_below_drewN | apply below_drew1) | exact HB.out)⟩⟩
              · rw [if_neg c13] at H
                exact absurd H (by simp)
            · rw [if_neg c12] at H
              exact absurd H (by simp)
end Go.Proofs.YtoanbmggffkmgaaDoor.P
end
section
namespace Go.Proofs.YtoanbmggffkmgaaDoor.P
open Go.RowKit Go.Proofs.YtoanbmggffkmgaaDoorW.PrintWords Go.Proofs.YtoanbmggffkmgaaDoorW.PrintLast Go.Proofs.YtoanbmggffkmgaaDoorW.PrintMore
attribute [local go_sem] max2_int min2_int max_two min_two max_three min_three max_four min_four   -- for this text's walks alone
set_option linter.unusedVariables false
set_option linter.unusedSimpArgs false
/-! ### esc_Quote: function 19 -/
def esc_Quote.f (k : Nat) (a0 : ByteArray) : Option (ByteArray) := (esc_quote.f k a0 false).bind fun t505 => (some t505)
set_option maxHeartbeats 8000000 in
set_option maxRecDepth 100000 in
theorem esc_Quote.calls (k : Nat) (a0 : ByteArray) (r : ByteArray) (w : World) (h : esc_Quote.f k a0 = some r) :
    Calls Tryd.prog 19 #[.string a0] w fun e w' => e = .returned (.string r) ∧ Below w.heap.size w w' := by
  have HB := Aside0.mk (Below.refl w.heap.size w)
  have H : ((esc_quote.f k a0 false).bind fun t505 => (some t505)) = some r := h
  clear h
  replace H := Option.bind_eq_some_iff.mp H
  obtain ⟨t505, A20, H⟩ := H
  replace H : (some t505) = some r := H
  have A2 := Aside0.mk A20
  clear A20
  obtain rfl := Option.some.inj H
  go_enter Tryd.func19, Tryd.ntmps19
  go_wp2_with (first | ((with_reducible refine gate_callee (f := 45) rfl ?_); refine goesL_ (some 4) rfl rfl Tryd.func45 (by kernel_rfl) rfl #[.string a0, .bool false] rfl (by (try simp only [List.map_toArray, List.map_cons, List.map_nil]); first | done | rfl | (simp only [List.length_drop, List.length_take]; rfl)) ?_; (with_reducible refine (esc_quote.calls k a0 false t505 _ A2.out).mono ?_); rintro e w3 ⟨rfl, hb⟩; refine ⟨_, rfl, ?_⟩; have n0_ := Aside0.mk (below_step (by repeat (first | (with_reducible first | exact HB.out | apply below_alloc | apply pw_below_drewN | apply below_drew1) | exact HB.out)) hb); clear HB; have HB := n0_; clear n0_; (try clear hb); (try clear hb2); (try clear hk); (try clear hi)))
  go_ret
  exact ⟨by first | rfl | (simp [errW_none, errW_some] <;> rfl) | (simp [*, errW_none, errW_some, bne]; done) | (simp [*, errW_none, errW_some] <;> rfl), by repeat (first | (with_reducible first | exact HB.out | apply below_alloc | apply pw_below_drewN | apply below_drew1) | exact HB.out)⟩
end Go.Proofs.YtoanbmggffkmgaaDoor.P
end
section
namespace Go.Proofs.YtoanbmggffkmgaaDoor.P
open Go.RowKit Go.Proofs.YtoanbmggffkmgaaDoorW.PrintWords Go.Proofs.YtoanbmggffkmgaaDoorW.PrintLast Go.Proofs.YtoanbmggffkmgaaDoorW.PrintMore
attribute [local go_sem] max2_int min2_int max_two min_two max_three min_three max_four min_four   -- for this text's walks alone
set_option linter.unusedVariables false
set_option linter.unusedSimpArgs false
/-! ### esc_TQuote: function 20 -/
def esc_TQuote.f (k : Nat) (a0 : ByteArray) : Option (ByteArray) := (esc_quote.f k a0 true).bind fun t506 => (some t506)
set_option maxHeartbeats 8000000 in
set_option maxRecDepth 100000 in
theorem esc_TQuote.calls (k : Nat) (a0 : ByteArray) (r : ByteArray) (w : World) (h : esc_TQuote.f k a0 = some r) :
    Calls Tryd.prog 20 #[.string a0] w fun e w' => e = .returned (.string r) ∧ Below w.heap.size w w' := by
  have HB := Aside0.mk (Below.refl w.heap.size w)
  have H : ((esc_quote.f k a0 true).bind fun t506 => (some t506)) = some r := h
  clear h
  replace H := Option.bind_eq_some_iff.mp H
  obtain ⟨t506, A20, H⟩ := H
  replace H : (some t506) = some r := H
  have A2 := Aside0.mk A20
  clear A20
  obtain rfl := Option.some.inj H
  go_enter Tryd.func20, Tryd.ntmps20
  go_wp2_with (first | ((with_reducible refine gate_callee (f := 45) rfl ?_); refine goesL_ (some 4) rfl rfl Tryd.func45 (by kernel_rfl) rfl #[.string a0, .bool true] rfl (by (try simp only [List.map_toArray, List.map_cons, List.map_nil]); first | done | rfl | (simp only [List.length_drop, List.length_take]; rfl)) ?_; (with_reducible refine (esc_quote.calls k a0 true t506 _ A2.out).mono ?_); rintro e w3 ⟨rfl, hb⟩; refine ⟨_, rfl, ?_⟩; have n0_ := Aside0.mk (below_step (by repeat (first | (with_reducible first | exact HB.out | apply below_alloc | apply pw_below_drewN | apply below_drew1) | exact HB.out)) hb); clear HB; have HB := n0_; clear n0_; (try clear hb); (try clear hb2); (try clear hk); (try clear hi)))
  go_ret
  exact ⟨by first | rfl | (simp [errW_none, errW_some] <;> rfl) | (simp [*, errW_none, errW_some, bne]; done) | (simp [*, errW_none, errW_some] <;> rfl), by repeat (first | (with_reducible first | exact HB.out | apply below_alloc | apply pw_below_drewN | apply below_drew1) | exact HB.out)⟩
end Go.Proofs.YtoanbmggffkmgaaDoor.P
end
section
namespace Go.Proofs.YtoanbmggffkmgaaDoor.P
open Go.RowKit Go.Proofs.YtoanbmggffkmgaaDoorW.PrintWords Go.Proofs.YtoanbmggffkmgaaDoorW.PrintLast Go.Proofs.YtoanbmggffkmgaaDoorW.PrintMore
attribute [local go_sem] max2_int min2_int max_two min_two max_three min_three max_four min_four   -- for this text's walks alone
set_option linter.unusedVariables false
set_option linter.unusedSimpArgs false
/-! ### dragomanref1_Starts: function 46 -/
def dragomanref1_Starts.l0 : Nat → ByteArray → List Int → Int → Option (List Int)
  | 0, _, _, _ => none
  | k + 1, x0, x3, x4 => if x4 < (x0.size : Int) then (if x3.length < 17592186044416 then ((some (x3 ++ [x4] : List Int)).bind fun y395 => (if 0 ≤ x4 then (if x4 ≤ (x0.size : Int) then ((dragomanref1_Take.f k (x0.extract (x4 : Int).toNat x0.size)).bind fun bt398 => (if bt398.2 = 0 then (dragomanref1_Starts.l0 k x0 y395 (wrap64 (x4 + 1))) else (dragomanref1_Starts.l0 k x0 y395 (wrap64 (x4 + bt398.2))))) else (none)) else (none))) else (none)) else (if x3.length < 17592186044416 then (some (x3 ++ [(x0.size : Int)])) else (none))
def dragomanref1_Starts.f (k : Nat) (a0 : ByteArray) : Option (List Int) := dragomanref1_Starts.l0 k a0 ([] : List Int) 0
set_option maxHeartbeats 8000000 in
set_option maxRecDepth 100000 in
theorem dragomanref1_Starts.calls (k : Nat) (a0 : ByteArray) (r : List Int) (w : World) (h : dragomanref1_Starts.f k a0 = some r) :
    Calls Tryd.prog 46 #[.string a0] w fun e w' => ∃ v0_ : Value, e = .returned (v0_) ∧ Kd.R (Kd.int .i64) 3 w' w.heap.size (fun _ => True) v0_ r ∧ Below w.heap.size w w' := by
  have HB := Aside0.mk (Below.refl w.heap.size w)
  have H : (dragomanref1_Starts.l0 k a0 ([] : List Int) 0) = some r := h
  clear h
  have H' := Aside0.mk H
  clear H
  go_enter Tryd.func46, Tryd.ntmps46
  go_wp2
  go_loopg [3, 4] k (fun kq v3 v4 w' => ∃ (x3_1 : List Int) (x4_1 : Int), v4 = .int .i64 x4_1 ∧ Aside0 (dragomanref1_Starts.l0 kq a0 x3_1 x4_1 = some r) ∧ Aside0 (kq ≤ k) ∧ Aside0 (Kd.R (Kd.int .i64) 3 w' w.heap.size (fun _ => True) v3 x3_1) ∧ Aside0 (Below w.heap.size w w'))
  case atStart => exact ⟨(([] : List Int)), (0), (by first | rfl | (simp; done) | (simp [*]; done)), H', ⟨Nat.le_refl _⟩, ⟨by first | exact Kd.R_nil _ _ _ _ _ | exact Kd.N_nil _ _ _ _ _ | exact Kd.V_nil _ _ _ _ _ | exact Kd.Q_nil _ _ _ _ _ | exact Kd.S_nil _ _ _ _ _⟩, ⟨by repeat (first | (with_reducible first | exact HB.out | apply below_alloc | apply pw_below_drewN | apply below_drew1) | exact HB.out)⟩⟩
  case round =>
    clear H'
    obtain ⟨x3_1, x4_1, rfl, HA, HK1, HO_3, HB⟩ := hrel
    cases gk with
    | zero => exact absurd HA.out (by simp [dragomanref1_Starts.l0])
    | succ k1 =>
      have H := HA.out
      clear HA
      simp only [dragomanref1_Starts.l0] at H
      by_cases c2 : x4_1 < (a0.size : Int)
      · rw [if_pos c2] at H
        have c2b0 : decide (x4_1 < (a0.size : Int)) = true := decide_eq_true c2
        clear c2
        by_cases c3 : x3_1.length < 17592186044416
        · rw [if_pos c3] at H
          have LMc3 := Aside0.mk c3
          clear c3
          obtain ⟨y395, hy395⟩ : ∃ y_ : List Int, y_ = (x3_1 ++ [x4_1]) := ⟨_, rfl⟩
          replace H : (if 0 ≤ x4_1 then (if x4_1 ≤ (a0.size : Int) then ((dragomanref1_Take.f k1 (a0.extract (x4_1 : Int).toNat a0.size)).bind fun bt398 => (if bt398.2 = 0 then (dragomanref1_Starts.l0 k1 a0 y395 (wrap64 (x4_1 + 1))) else (dragomanref1_Starts.l0 k1 a0 y395 (wrap64 (x4_1 + bt398.2))))) else (none)) else (none)) = some r := by first | (rw [hy395]; with_reducible exact H) | (have H2_ := (Option.bind_some _ _).symm.trans H; rw [hy395]; with_reducible exact H2_) | (have H2_ := (Option.bind_some _ _).symm.trans H; with_reducible exact H2_) | with_reducible exact H | (rw [hy395]; exact H) | exact H
          have Ny395 := Aside0.mk hy395
          clear hy395
          by_cases c4 : 0 ≤ x4_1
          · rw [if_pos c4] at H
            have c4b0 := eq_true c4
            have c4b1 : decide (0 ≤ x4_1) = true := decide_eq_true c4
            clear c4
            by_cases c5 : x4_1 ≤ (a0.size : Int)
            · rw [if_pos c5] at H
              have c5b0 := eq_true c5
              have c5b1 : decide (x4_1 ≤ (a0.size : Int)) = true := decide_eq_true c5
              clear c5
              replace H := Option.bind_eq_some_iff.mp H
              obtain ⟨⟨t398, t399⟩, A60, H⟩ := H
              replace H : (if t399 = 0 then (dragomanref1_Starts.l0 k1 a0 y395 (wrap64 (x4_1 + 1))) else (dragomanref1_Starts.l0 k1 a0 y395 (wrap64 (x4_1 + t399)))) = some r := H
              have A6 := Aside0.mk A60
              clear A60
              by_cases c7 : t399 = 0
              · rw [if_pos c7] at H
                have c7b0 : (t399 == 0) = true := beq_iff_eq.mpr c7
                have c7b1 : (t399 != 0) = false := bne_eq_false_iff_eq.mpr c7
                clear c7
                have H' := Aside0.mk H
                clear H
                go_wp2_with (first | ((with_reducible refine gate_builtin (b := .append) (xs := #[.tmp 11, .tmp 13]) rfl ?_); at_builtin; refine Kd.R_append (Kd.int .i64) (w0 := w) w.heap.size rfl (.tmp 11) (.tmp 13) 68 3 (.int .i64 0) 8 rfl Tryd.underlying68 info3 rfl (by decide) (by omega) u3 x3_1 x4_1 [.int .i64 x4_1] (fun _ => True) (fun _ => False) rfl rfl ?aP (fun _ hk => hk.elim) ?aF ?aO ?aB ?aS ?aL ?_; (case aP => exact rfl); (case aB => exact (by repeat (first | (with_reducible first | exact HB.out | apply below_alloc | apply pw_below_drewN | apply below_drew1) | exact HB.out))); (case aF => exact (fun _ _ => trivial)); (case aO => exact (by (with_reducible repeat (first | apply Kd.R_alloc | apply Kd.R_drewN | apply Kd.R_drew)); exact HO_3.out)); (case aS => exact (below_size (by repeat (first | (with_reducible first | exact HB.out | apply below_alloc | apply pw_below_drewN | apply below_drew1) | exact HB.out)))); (case aL => have := LMc3.out; omega); intro v396 w8 ho hb hg hat; rw [← Ny395.out] at ho; have n0_ := Aside0.mk (hb); have n1_ := Aside0.mk (ho); clear HB; clear HO_3; have HB := n0_; have HO397 := n1_; clear n0_ n1_; clear ho hb hg hat) | ((with_reducible refine gate_callee (f := 47) rfl ?_); refine goesL_ (some 19) rfl rfl Tryd.func47 (by kernel_rfl) rfl #[.string (a0.extract (x4_1 : Int).toNat a0.size)] rfl (by (try simp only [List.map_toArray, List.map_cons, List.map_nil]); first | done | rfl | (simp only [List.length_drop, List.length_take]; rfl)) ?_; (with_reducible refine (dragomanref1_Take.calls k1 (a0.extract (x4_1 : Int).toNat a0.size) t398 t399 _ A6.out).mono ?_); rintro e w9 ⟨rfl, hb⟩; refine ⟨_, rfl, ?_⟩; have n0_ := Aside0.mk (Kd.R_below (by (with_reducible repeat (first | apply Kd.R_alloc | apply Kd.R_drewN | apply Kd.R_drew)); exact HO397.out) hb); have n1_ := Aside0.mk (below_step (by repeat (first | (with_reducible first | exact HB.out | apply below_alloc | apply pw_below_drewN | apply below_drew1) | exact HB.out)) hb); clear HO397; clear HB; have HO397 := n0_; have HB := n1_; clear n0_ n1_; (try clear hb); (try clear hb2); (try clear hk); (try clear hi)))
                go_roundg k1
                case measure => have := HK1.out; omega
                case rel => exact ⟨(y395), (wrap64 (x4_1 + 1)), (by first | rfl | (simp; done) | (simp [*]; done)), H', ⟨by have := HK1.out; omega⟩, ⟨by (with_reducible repeat (first | apply Kd.R_alloc | apply Kd.R_drewN | apply Kd.R_drew)); exact HO397.out⟩, ⟨by repeat (first | (with_reducible first | exact HB.out | apply below_alloc | apply pw_below_drewN | apply below_drew1) | exact HB.out)⟩⟩
              · rw [if_neg c7] at H
                have c7b0 : (t399 == 0) = false := beq_eq_false_iff_ne.mpr c7
                have c7b1 : (t399 != 0) = true := bne_iff_ne.mpr c7
                have H' := Aside0.mk H
                clear H
                go_wp2_with (first | ((with_reducible refine gate_builtin (b := .append) (xs := #[.tmp 11, .tmp 13]) rfl ?_); at_builtin; refine Kd.R_append (Kd.int .i64) (w0 := w) w.heap.size rfl (.tmp 11) (.tmp 13) 68 3 (.int .i64 0) 8 rfl Tryd.underlying68 info3 rfl (by decide) (by omega) u3 x3_1 x4_1 [.int .i64 x4_1] (fun _ => True) (fun _ => False) rfl rfl ?aP (fun _ hk => hk.elim) ?aF ?aO ?aB ?aS ?aL ?_; (case aP => exact rfl); (case aB => exact (by repeat (first | (with_reducible first | exact HB.out | apply below_alloc | apply pw_below_drewN | apply below_drew1) | exact HB.out))); (case aF => exact (fun _ _ => trivial)); (case aO => exact (by (with_reducible repeat (first | apply Kd.R_alloc | apply Kd.R_drewN | apply Kd.R_drew)); exact HO_3.out)); (case aS => exact (below_size (by repeat (first | (with_reducible first | exact HB.out | apply below_alloc | apply pw_below_drewN | apply below_drew1) | exact HB.out)))); (case aL => have := LMc3.out; omega); intro v396 w10 ho hb hg hat; rw [← Ny395.out] at ho; have n0_ := Aside0.mk (hb); have n1_ := Aside0.mk (ho); clear HB; clear HO_3; have HB := n0_; have HO397 := n1_; clear n0_ n1_; clear ho hb hg hat) | ((with_reducible refine gate_callee (f := 47) rfl ?_); refine goesL_ (some 19) rfl rfl Tryd.func47 (by kernel_rfl) rfl #[.string (a0.extract (x4_1 : Int).toNat a0.size)] rfl (by (try simp only [List.map_toArray, List.map_cons, List.map_nil]); first | done | rfl | (simp only [List.length_drop, List.length_take]; rfl)) ?_; (with_reducible refine (dragomanref1_Take.calls k1 (a0.extract (x4_1 : Int).toNat a0.size) t398 t399 _ A6.out).mono ?_); rintro e w11 ⟨rfl, hb⟩; refine ⟨_, rfl, ?_⟩; have n0_ := Aside0.mk (Kd.R_below (by (with_reducible repeat (first | apply Kd.R_alloc | apply Kd.R_drewN | apply Kd.R_drew)); exact HO397.out) hb); have n1_ := Aside0.mk (below_step (by repeat (first | (with_reducible first | exact HB.out | apply below_alloc | apply pw_below_drewN | apply below_drew1) | exact HB.out)) hb); clear HO397; clear HB; have HO397 := n0_; have HB := n1_; clear n0_ n1_; (try clear hb); (try clear hb2); (try clear hk); (try clear hi)))
                go_roundg k1
                case measure => have := HK1.out; omega
                case rel => exact ⟨(y395), (wrap64 (x4_1 + t399)), (by first | rfl | (simp; done) | (simp [*]; done)), H', ⟨by have := HK1.out; omega⟩, ⟨by (with_reducible repeat (first | apply Kd.R_alloc | apply Kd.R_drewN | apply Kd.R_drew)); exact HO397.out⟩, ⟨by repeat (first | (with_reducible first | exact HB.out | apply below_alloc | apply pw_below_drewN | apply below_drew1) | exact HB.out)⟩⟩
            · rw [if_neg c5] at H
              exact absurd H (by simp)
          · rw [if_neg c4] at H
            exact absurd H (by simp)
        · rw [if_neg c3] at H
          exact absurd H (by simp)
      · rw [if_neg c2] at H
        have c2b0 : decide (x4_1 < (a0.size : Int)) = false := decide_eq_false c2
        clear c2
        by_cases c12 : x3_1.length < 17592186044416
        · rw [if_pos c12] at H
          have LMc12 := Aside0.mk c12
          clear c12
          obtain ⟨y400, hy400⟩ : ∃ y_ : List Int, y_ = (x3_1 ++ [(a0.size : Int)]) := ⟨_, rfl⟩
          replace H : (some y400) = some r := by first | (rw [hy400]; with_reducible exact H) | (have H2_ := (Option.bind_some _ _).symm.trans H; rw [hy400]; with_reducible exact H2_) | (have H2_ := (Option.bind_some _ _).symm.trans H; with_reducible exact H2_) | with_reducible exact H | (rw [hy400]; exact H) | exact H
          have Ny400 := Aside0.mk hy400
          clear hy400
          obtain rfl := Option.some.inj H
          go_wp2_with (first | ((with_reducible refine gate_builtin (b := .append) (xs := #[.tmp 27, .tmp 30]) rfl ?_); at_builtin; refine Kd.R_append (Kd.int .i64) (w0 := w) w.heap.size rfl (.tmp 27) (.tmp 30) 68 3 (.int .i64 0) 8 rfl Tryd.underlying68 info3 rfl (by decide) (by omega) u3 x3_1 (a0.size : Int) [.int .i64 (a0.size : Int)] (fun _ => True) (fun _ => False) rfl rfl ?aP (fun _ hk => hk.elim) ?aF ?aO ?aB ?aS ?aL ?_; (case aP => exact rfl); (case aB => exact (by repeat (first | (with_reducible first | exact HB.out | apply below_alloc | apply pw_below_drewN | apply below_drew1) | exact HB.out))); (case aF => exact (fun _ _ => trivial)); (case aO => exact (by (with_reducible repeat (first | apply Kd.R_alloc | apply Kd.R_drewN | apply Kd.R_drew)); exact HO_3.out)); (case aS => exact (below_size (by repeat (first | (with_reducible first | exact HB.out | apply below_alloc | apply pw_below_drewN | apply below_drew1) | exact HB.out)))); (case aL => have := LMc12.out; omega); intro v401 w13 ho hb hg hat; rw [← Ny400.out] at ho; have n0_ := Aside0.mk (hb); have n1_ := Aside0.mk (ho); clear HB; clear HO_3; have HB := n0_; have HO402 := n1_; clear n0_ n1_; clear ho hb hg hat))
          go_ret
          exact ⟨_, by first | rfl | (simp [errW_none, errW_some] <;> rfl) | (simp [*, errW_none, errW_some, bne]; done) | (simp [*, errW_none, errW_some] <;> rfl), by (with_reducible repeat (first | apply Kd.R_alloc | apply Kd.R_drewN | apply Kd.R_drew)); exact HO402.out, by repeat (first | (with_reducible first | exact HB.out | apply below_alloc | apply pw_below_drewN | apply below_drew1) | exact HB.out)⟩
        · rw [if_neg c12] at H
          exact absurd H (by simp)
end Go.Proofs.YtoanbmggffkmgaaDoor.P
end
