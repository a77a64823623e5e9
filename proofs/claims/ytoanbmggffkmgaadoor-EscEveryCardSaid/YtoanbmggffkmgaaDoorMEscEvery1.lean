/- The parts of this claim's proof, in one text: what each Go function answers and that its call comes to it; plain facts of lists of numbers. Conditions as each theorem names them. -/
import Derived.ArgAppend
import Derived.Below
import Derived.BigQuiet
import Derived.Deep.AppendLies
import Derived.Deep.CutBlock
import Derived.Deep.DeepCutAuto
import Derived.Deep.Draws
import Derived.Deep.LoopGhost
import Derived.Deep.OwnRows
import Derived.Deep.QuietTactic
import Derived.Deep.RegionHeld3
import Derived.KernelRfl
import Derived.Laws.BitsLemmas
import Derived.Laws.BytesArg
import Derived.Laws.IdiomCopy
import Derived.Laws.MakeOwn
import Derived.Laws.OwnMore
import Derived.Laws.Rows
import Derived.Laws.Slices
import Derived.Lib.AppendStr
import Derived.Lib.Bytealg
import Derived.Lib.Bytes
import Derived.Lib.ConvBytes
import Derived.Lib.Hide
import Derived.Maps.AppendAt
import Derived.OrdersHeld
import Derived.Outline
import Derived.OwnWalk
import Derived.RowKit
import Derived.RowKit3
import Derived.Shelf.Bits.Mul64
import Derived.Shelf.LaysM
import Derived.Shelf.Small.Strs
import Derived.Shelf.Small.Utf8
import Derived.Shelf.Strings.AsciiSet
import Derived.Shelf.Strings.Builder1
import Derived.Shelf.Strings.Builder2
import Derived.Shelf.Strings.BuilderF
import Derived.Shelf.Strings.Count
import Derived.Shelf.Strings.IndexAny
import Derived.Shelf.Strings.IndexAnyAll
import Derived.Shelf.Strings.Prefix
import Derived.Shelf.Strings.Repeat
import Derived.Shelf.Strings.Runes
import Derived.Shelf.Strings.Search1
import Derived.Shelf.Strings.Search2
import Derived.Shelf.Strings.Search3
import Derived.Shelf.Strings.Shaped
import Derived.Shelf.Strings.SlTrimAscii
import Derived.Shelf.Strings.Trim
import Derived.Shelf.Unicode.DecodeSlow
import Derived.Tactics
import Derived.WalkKit
import Derived.WideLaws
import Derived.Test.YtoanbmggffkmgaaDoorProg
import Derived.Test.YtoanbmggffkmgaaDoorWApart
import Derived.Test.YtoanbmggffkmgaaDoorWArr
import Derived.Test.YtoanbmggffkmgaaDoorWAt
import Derived.Test.YtoanbmggffkmgaaDoorWEqStruct
import Derived.Test.YtoanbmggffkmgaaDoorWFoot
import Derived.Test.YtoanbmggffkmgaaDoorWFootNe
import Derived.Test.YtoanbmggffkmgaaDoorWFour
import Derived.Test.YtoanbmggffkmgaaDoorWGuard
import Derived.Test.YtoanbmggffkmgaaDoorWInv
import Derived.Test.YtoanbmggffkmgaaDoorWInvWords
import Derived.Test.YtoanbmggffkmgaaDoorWKept
import Derived.Test.YtoanbmggffkmgaaDoorWLast
import Derived.Test.YtoanbmggffkmgaaDoorWMake0
import Derived.Test.YtoanbmggffkmgaaDoorWMore
import Derived.Test.YtoanbmggffkmgaaDoorWN
import Derived.Test.YtoanbmggffkmgaaDoorWNEv
import Derived.Test.YtoanbmggffkmgaaDoorWQPut
import Derived.Test.YtoanbmggffkmgaaDoorWRepsOne
import Derived.Test.YtoanbmggffkmgaaDoorWShare
import Derived.Test.YtoanbmggffkmgaaDoorWTab
import Derived.Test.YtoanbmggffkmgaaDoorWWords
import Derived.Test.YtoanbmggffkmgaaDoorWZeros
section
namespace Go.Proofs.YtoanbmggffkmgaaDoor.P
open Go.RowKit Go.Proofs.YtoanbmggffkmgaaDoorW.PrintWords Go.Proofs.YtoanbmggffkmgaaDoorW.PrintLast Go.Proofs.YtoanbmggffkmgaaDoorW.PrintMore
attribute [local go_sem] max2_int min2_int max_two min_two max_three min_three max_four min_four   -- for this text's walks alone
set_option linter.unusedVariables false
set_option linter.unusedSimpArgs false
def errW : Option Int → Value
  | none => .nilIface
  | some c => .iface 0 (.int .i64 c)
theorem errW_none : errW none = .nilIface := rfl
theorem errW_some (c : Int) : errW (some c) = .iface 0 (.int .i64 c) := rfl
theorem info5 : (Tryd.prog.info? 5).map (fun i => (i.zero, i.size, i.bytes)) = some (some (.int .u8 0), 1, 1) := by kernel_rfl
/-! #### struct type 53 -/
structure S53 where
  f0 : Int
  f1 : ByteArray
  f2 : Int
def z53 : S53 := ⟨(0 : Int), (⟨#[]⟩ : ByteArray), (0 : Int)⟩
end Go.Proofs.YtoanbmggffkmgaaDoor.P
end
section
namespace Go.Proofs.YtoanbmggffkmgaaDoor.P
open Go.RowKit Go.Proofs.YtoanbmggffkmgaaDoorW.PrintWords Go.Proofs.YtoanbmggffkmgaaDoorW.PrintLast Go.Proofs.YtoanbmggffkmgaaDoorW.PrintMore
attribute [local go_sem] max2_int min2_int max_two min_two max_three min_three max_four min_four   -- for this text's walks alone
set_option linter.unusedVariables false
set_option linter.unusedSimpArgs false
/-! ### dragomanref1_Good: function 26 -/
def dragomanref1_Good.f (a0 : Int) : Option (Bool) := if a0 ≥ 0 then (if a0 ≤ 1114111 then (if a0 < 55296 then (some true) else (some (decide (a0 > 57343)))) else (some false)) else (some false)
set_option maxHeartbeats 8000000 in
set_option maxRecDepth 100000 in
theorem dragomanref1_Good.calls (a0 : Int) (r : Bool) (w : World) (h : dragomanref1_Good.f a0 = some r) :
    Calls Tryd.prog 26 #[.int .i64 a0] w fun e w' => e = .returned (.bool r) ∧ Drawn0 w w' := by
  have H : (if a0 ≥ 0 then (if a0 ≤ 1114111 then (if a0 < 55296 then (some true) else (some (decide (a0 > 57343)))) else (some false)) else (some false)) = some r := h
  clear h
  by_cases c2 : a0 ≥ 0
  · rw [if_pos c2] at H
    have c2b0 : decide (0 ≤ a0) = true := decide_eq_true c2
    clear c2
    by_cases c3 : a0 ≤ 1114111
    · rw [if_pos c3] at H
      have c3b0 : decide (a0 ≤ 1114111) = true := decide_eq_true c3
      clear c3
      by_cases c4 : a0 < 55296
      · rw [if_pos c4] at H
        have c4b0 : decide (a0 < 55296) = true := decide_eq_true c4
        clear c4
        obtain rfl := Option.some.inj H
        go_enter Tryd.func26, Tryd.ntmps26
        go_wp2
        go_ret
        exact ⟨by first | rfl | (simp; done) | (simp [*]; done), by repeat (first | exact Drawn0.refl _ | apply Drawn0.step)⟩
      · rw [if_neg c4] at H
        have c4b0 : decide (a0 < 55296) = false := decide_eq_false c4
        clear c4
        obtain rfl := Option.some.inj H
        go_enter Tryd.func26, Tryd.ntmps26
        go_wp2
        go_ret
        exact ⟨by first | rfl | (simp; done) | (simp [*]; done), by repeat (first | exact Drawn0.refl _ | apply Drawn0.step)⟩
    · rw [if_neg c3] at H
      have c3b0 : decide (a0 ≤ 1114111) = false := decide_eq_false c3
      clear c3
      obtain rfl := Option.some.inj H
      go_enter Tryd.func26, Tryd.ntmps26
      go_wp2
      go_ret
      exact ⟨by first | rfl | (simp; done) | (simp [*]; done), by repeat (first | exact Drawn0.refl _ | apply Drawn0.step)⟩
  · rw [if_neg c2] at H
    have c2b0 : decide (0 ≤ a0) = false := decide_eq_false c2
    clear c2
    obtain rfl := Option.some.inj H
    go_enter Tryd.func26, Tryd.ntmps26
    go_wp2
    go_ret
    exact ⟨by first | rfl | (simp; done) | (simp [*]; done), by repeat (first | exact Drawn0.refl _ | apply Drawn0.step)⟩
end Go.Proofs.YtoanbmggffkmgaaDoor.P
end
section
namespace Go.Proofs.YtoanbmggffkmgaaDoor.P
open Go.RowKit Go.Proofs.YtoanbmggffkmgaaDoorW.PrintWords Go.Proofs.YtoanbmggffkmgaaDoorW.PrintLast Go.Proofs.YtoanbmggffkmgaaDoorW.PrintMore
attribute [local go_sem] max2_int min2_int max_two min_two max_three min_three max_four min_four   -- for this text's walks alone
set_option linter.unusedVariables false
set_option linter.unusedSimpArgs false
/-! ### dragomanref1_Put: function 27 -/
def dragomanref1_Put.f (a0 : Int) : Option (ByteArray) := (dragomanref1_Good.f a0).bind fun t325 => (if t325 = true then (if a0 < 128 then (some (strOfNums (([(a0) % 256] : List Int)))) else (if a0 < 2048 then (some (strOfNums (([(wrap64 (192 + (wrap64 (Int.tdiv a0 64)))) % 256, (wrap64 (128 + (Int.tmod a0 64))) % 256] : List Int)))) else (if a0 < 65536 then (some (strOfNums (([(wrap64 (224 + (wrap64 (Int.tdiv a0 4096)))) % 256, (wrap64 (128 + (Int.tmod (wrap64 (Int.tdiv a0 64)) 64))) % 256, (wrap64 (128 + (Int.tmod a0 64))) % 256] : List Int)))) else (some (strOfNums (([(wrap64 (240 + (wrap64 (Int.tdiv a0 262144)))) % 256, (wrap64 (128 + (Int.tmod (wrap64 (Int.tdiv a0 4096)) 64))) % 256, (wrap64 (128 + (Int.tmod (wrap64 (Int.tdiv a0 64)) 64))) % 256, (wrap64 (128 + (Int.tmod a0 64))) % 256] : List Int))))))) else (some (⟨#[]⟩ : ByteArray)))
set_option maxHeartbeats 8000000 in
set_option maxRecDepth 100000 in
theorem dragomanref1_Put.calls (a0 : Int) (r : ByteArray) (w : World) (h : dragomanref1_Put.f a0 = some r) :
    Calls Tryd.prog 27 #[.int .i64 a0] w fun e w' => e = .returned (.string r) ∧ Below w.heap.size w w' := by
  have HB := Aside0.mk (Below.refl w.heap.size w)
  have H : ((dragomanref1_Good.f a0).bind fun t325 => (if t325 = true then (if a0 < 128 then (some (strOfNums (([(a0) % 256] : List Int)))) else (if a0 < 2048 then (some (strOfNums (([(wrap64 (192 + (wrap64 (Int.tdiv a0 64)))) % 256, (wrap64 (128 + (Int.tmod a0 64))) % 256] : List Int)))) else (if a0 < 65536 then (some (strOfNums (([(wrap64 (224 + (wrap64 (Int.tdiv a0 4096)))) % 256, (wrap64 (128 + (Int.tmod (wrap64 (Int.tdiv a0 64)) 64))) % 256, (wrap64 (128 + (Int.tmod a0 64))) % 256] : List Int)))) else (some (strOfNums (([(wrap64 (240 + (wrap64 (Int.tdiv a0 262144)))) % 256, (wrap64 (128 + (Int.tmod (wrap64 (Int.tdiv a0 4096)) 64))) % 256, (wrap64 (128 + (Int.tmod (wrap64 (Int.tdiv a0 64)) 64))) % 256, (wrap64 (128 + (Int.tmod a0 64))) % 256] : List Int))))))) else (some (⟨#[]⟩ : ByteArray)))) = some r := h
  clear h
  replace H := Option.bind_eq_some_iff.mp H
  obtain ⟨t325, A20, H⟩ := H
  replace H : (if t325 = true then (if a0 < 128 then (some (strOfNums (([(a0) % 256] : List Int)))) else (if a0 < 2048 then (some (strOfNums (([(wrap64 (192 + (wrap64 (Int.tdiv a0 64)))) % 256, (wrap64 (128 + (Int.tmod a0 64))) % 256] : List Int)))) else (if a0 < 65536 then (some (strOfNums (([(wrap64 (224 + (wrap64 (Int.tdiv a0 4096)))) % 256, (wrap64 (128 + (Int.tmod (wrap64 (Int.tdiv a0 64)) 64))) % 256, (wrap64 (128 + (Int.tmod a0 64))) % 256] : List Int)))) else (some (strOfNums (([(wrap64 (240 + (wrap64 (Int.tdiv a0 262144)))) % 256, (wrap64 (128 + (Int.tmod (wrap64 (Int.tdiv a0 4096)) 64))) % 256, (wrap64 (128 + (Int.tmod (wrap64 (Int.tdiv a0 64)) 64))) % 256, (wrap64 (128 + (Int.tmod a0 64))) % 256] : List Int))))))) else (some (⟨#[]⟩ : ByteArray))) = some r := H
  have A2 := Aside0.mk A20
  clear A20
  by_cases c3 : t325 = true
  · subst c3
    have H1 : (if a0 < 128 then (some (strOfNums (([(a0) % 256] : List Int)))) else (if a0 < 2048 then (some (strOfNums (([(wrap64 (192 + (wrap64 (Int.tdiv a0 64)))) % 256, (wrap64 (128 + (Int.tmod a0 64))) % 256] : List Int)))) else (if a0 < 65536 then (some (strOfNums (([(wrap64 (224 + (wrap64 (Int.tdiv a0 4096)))) % 256, (wrap64 (128 + (Int.tmod (wrap64 (Int.tdiv a0 64)) 64))) % 256, (wrap64 (128 + (Int.tmod a0 64))) % 256] : List Int)))) else (some (strOfNums (([(wrap64 (240 + (wrap64 (Int.tdiv a0 262144)))) % 256, (wrap64 (128 + (Int.tmod (wrap64 (Int.tdiv a0 4096)) 64))) % 256, (wrap64 (128 + (Int.tmod (wrap64 (Int.tdiv a0 64)) 64))) % 256, (wrap64 (128 + (Int.tmod a0 64))) % 256] : List Int))))))) = some r := by rw [if_pos rfl] at H; exact H
    clear H
    have H := H1
    clear H1
    by_cases c4 : a0 < 128
    · rw [if_pos c4] at H
      have c4b0 : decide (a0 < 128) = true := decide_eq_true c4
      clear c4
      obtain ⟨y326, hy326⟩ : ∃ y_ : List Int, y_ = (([(a0) % 256] : List Int)) := ⟨_, rfl⟩
      replace H : (some (strOfNums y326)) = some r := by first | (rw [hy326]; with_reducible exact H) | (have H2_ := (Option.bind_some _ _).symm.trans H; rw [hy326]; with_reducible exact H2_) | (have H2_ := (Option.bind_some _ _).symm.trans H; with_reducible exact H2_) | with_reducible exact H | (rw [hy326]; exact H) | exact H
      have Ny326 := Aside0.mk hy326
      clear hy326
      obtain rfl := Option.some.inj H
      go_enter Tryd.func27, Tryd.ntmps27
      go_wp2_with (first | ((with_reducible refine gate_callee (f := 26) rfl ?_); refine goesL_ (some 4) rfl rfl Tryd.func26 (by kernel_rfl) rfl #[.int .i64 a0] rfl (by (try simp only [List.map_toArray, List.map_cons, List.map_nil]); first | done | rfl | (simp only [List.length_drop, List.length_take]; rfl)) ?_; (with_reducible refine (dragomanref1_Good.calls a0 true _ A2.out).mono ?_); rintro e w' ⟨rfl, ⟨nd, rfl⟩⟩; refine ⟨_, rfl, ?_⟩) | ((with_reducible refine gate_dst (N := 11) rfl ?_); refine Kd.R_lit (Kd.int .u8) _ 5 ?hg (N := 11) ?hd (xs := ([(a0) % 256] : List Int)) (inner := [.int .u8 ((a0) % 256)]) (ok := fun _ => True) (okp := fun _ => True) ?hr ?hp (fun _ hk => hk) trivial (Below.refl _ _) (Nat.le_refl _) (by simp) ?_; (case hd => rfl); (case hg => rfl); (case hr => first | (go_simp; done) | (go_simp; rfl)); (case hp => exact (Reps.one (show Kd.M (Kd.int .u8) _ _ _ ((a0) % 256) [.int .u8 ((a0) % 256)] from rfl) (Reps.none _ _))); intro v327 w5 ho6 hb hg_ hnew_; clear hg_ hnew_; (first | rw [← Ny326.out] at ho6 | (simp only [Int.reduceToNat] at ho6; rw [← Ny326.out] at ho6)); have n0_ := Aside0.mk (Kd.R_lower ho6 (below_size (by repeat (first | (with_reducible first | exact HB.out | apply below_alloc | apply pw_below_drewN | apply below_drew1) | exact HB.out)))); have n1_ := Aside0.mk (below_step (by repeat (first | (with_reducible first | exact HB.out | apply below_alloc | apply pw_below_drewN | apply below_drew1) | exact HB.out)) hb); clear HB; have HO328 := n0_; have HB := n1_; clear n0_ n1_; clear hb ho6; have hcv7 := own_string (P := Tryd.prog) Tryd.underlying46 Tryd.underlying5 Tryd.underlying9 (Kd.own_of_R HO328.out)))
      go_ret
      exact ⟨by first | rfl | (simp [errW_none, errW_some] <;> rfl) | (simp [*, errW_none, errW_some, bne]; done) | (simp [*, errW_none, errW_some] <;> rfl), by repeat (first | (with_reducible first | exact HB.out | apply below_alloc | apply pw_below_drewN | apply below_drew1) | exact HB.out)⟩
    · rw [if_neg c4] at H
      have c4b0 : decide (a0 < 128) = false := decide_eq_false c4
      clear c4
      by_cases c8 : a0 < 2048
      · rw [if_pos c8] at H
        have c8b0 : decide (a0 < 2048) = true := decide_eq_true c8
        clear c8
        obtain ⟨y329, hy329⟩ : ∃ y_ : List Int, y_ = (([(wrap64 (192 + (wrap64 (Int.tdiv a0 64)))) % 256, (wrap64 (128 + (Int.tmod a0 64))) % 256] : List Int)) := ⟨_, rfl⟩
        replace H : (some (strOfNums y329)) = some r := by first | (rw [hy329]; with_reducible exact H) | (have H2_ := (Option.bind_some _ _).symm.trans H; rw [hy329]; with_reducible exact H2_) | (have H2_ := (Option.bind_some _ _).symm.trans H; with_reducible exact H2_) | with_reducible exact H | (rw [hy329]; exact H) | exact H
        have Ny329 := Aside0.mk hy329
        clear hy329
        obtain rfl := Option.some.inj H
        go_enter Tryd.func27, Tryd.ntmps27
        go_wp2_with (first | ((with_reducible refine gate_callee (f := 26) rfl ?_); refine goesL_ (some 4) rfl rfl Tryd.func26 (by kernel_rfl) rfl #[.int .i64 a0] rfl (by (try simp only [List.map_toArray, List.map_cons, List.map_nil]); first | done | rfl | (simp only [List.length_drop, List.length_take]; rfl)) ?_; (with_reducible refine (dragomanref1_Good.calls a0 true _ A2.out).mono ?_); rintro e w' ⟨rfl, ⟨nd, rfl⟩⟩; refine ⟨_, rfl, ?_⟩) | ((with_reducible refine gate_dst (N := 24) rfl ?_); refine Kd.R_lit (Kd.int .u8) _ 5 ?hg (N := 24) ?hd (xs := ([(wrap64 (192 + (wrap64 (Int.tdiv a0 64)))) % 256, (wrap64 (128 + (Int.tmod a0 64))) % 256] : List Int)) (inner := [.int .u8 ((wrap64 (192 + (wrap64 (Int.tdiv a0 64)))) % 256), .int .u8 ((wrap64 (128 + (Int.tmod a0 64))) % 256)]) (ok := fun _ => True) (okp := fun _ => True) ?hr ?hp (fun _ hk => hk) trivial (Below.refl _ _) (Nat.le_refl _) (by simp) ?_; (case hd => rfl); (case hg => rfl); (case hr => first | (go_simp; done) | (go_simp; rfl)); (case hp => exact (Reps.one (show Kd.M (Kd.int .u8) _ _ _ ((wrap64 (192 + (wrap64 (Int.tdiv a0 64)))) % 256) [.int .u8 ((wrap64 (192 + (wrap64 (Int.tdiv a0 64)))) % 256)] from rfl) (Reps.one (show Kd.M (Kd.int .u8) _ _ _ ((wrap64 (128 + (Int.tmod a0 64))) % 256) [.int .u8 ((wrap64 (128 + (Int.tmod a0 64))) % 256)] from rfl) (Reps.none _ _)))); intro v330 w9 ho10 hb hg_ hnew_; clear hg_ hnew_; (first | rw [← Ny329.out] at ho10 | (simp only [Int.reduceToNat] at ho10; rw [← Ny329.out] at ho10)); have n0_ := Aside0.mk (Kd.R_lower ho10 (below_size (by repeat (first | (with_reducible first | exact HB.out | apply below_alloc | apply pw_below_drewN | apply below_drew1) | exact HB.out)))); have n1_ := Aside0.mk (below_step (by repeat (first | (with_reducible first | exact HB.out | apply below_alloc | apply pw_below_drewN | apply below_drew1) | exact HB.out)) hb); clear HB; have HO331 := n0_; have HB := n1_; clear n0_ n1_; clear hb ho10; have hcv11 := own_string (P := Tryd.prog) Tryd.underlying46 Tryd.underlying5 Tryd.underlying9 (Kd.own_of_R HO331.out)))
        go_ret
        exact ⟨by first | rfl | (simp [errW_none, errW_some] <;> rfl) | (simp [*, errW_none, errW_some, bne]; done) | (simp [*, errW_none, errW_some] <;> rfl), by repeat (first | (with_reducible first | exact HB.out | apply below_alloc | apply pw_below_drewN | apply below_drew1) | exact HB.out)⟩
      · rw [if_neg c8] at H
        have c8b0 : decide (a0 < 2048) = false := decide_eq_false c8
        clear c8
        by_cases c12 : a0 < 65536
        · rw [if_pos c12] at H
          have c12b0 : decide (a0 < 65536) = true := decide_eq_true c12
          clear c12
          obtain ⟨y332, hy332⟩ : ∃ y_ : List Int, y_ = (([(wrap64 (224 + (wrap64 (Int.tdiv a0 4096)))) % 256, (wrap64 (128 + (Int.tmod (wrap64 (Int.tdiv a0 64)) 64))) % 256, (wrap64 (128 + (Int.tmod a0 64))) % 256] : List Int)) := ⟨_, rfl⟩
          replace H : (some (strOfNums y332)) = some r := by first | (rw [hy332]; with_reducible exact H) | (have H2_ := (Option.bind_some _ _).symm.trans H; rw [hy332]; with_reducible exact H2_) | (have H2_ := (Option.bind_some _ _).symm.trans H; with_reducible exact H2_) | with_reducible exact H | (rw [hy332]; exact H) | exact H
          have Ny332 := Aside0.mk hy332
          clear hy332
          obtain rfl := Option.some.inj H
          go_enter Tryd.func27, Tryd.ntmps27
          go_wp2_with (first | ((with_reducible refine gate_callee (f := 26) rfl ?_); refine goesL_ (some 4) rfl rfl Tryd.func26 (by kernel_rfl) rfl #[.int .i64 a0] rfl (by (try simp only [List.map_toArray, List.map_cons, List.map_nil]); first | done | rfl | (simp only [List.length_drop, List.length_take]; rfl)) ?_; (with_reducible refine (dragomanref1_Good.calls a0 true _ A2.out).mono ?_); rintro e w' ⟨rfl, ⟨nd, rfl⟩⟩; refine ⟨_, rfl, ?_⟩) | ((with_reducible refine gate_dst (N := 42) rfl ?_); refine Kd.R_lit (Kd.int .u8) _ 5 ?hg (N := 42) ?hd (xs := ([(wrap64 (224 + (wrap64 (Int.tdiv a0 4096)))) % 256, (wrap64 (128 + (Int.tmod (wrap64 (Int.tdiv a0 64)) 64))) % 256, (wrap64 (128 + (Int.tmod a0 64))) % 256] : List Int)) (inner := [.int .u8 ((wrap64 (224 + (wrap64 (Int.tdiv a0 4096)))) % 256), .int .u8 ((wrap64 (128 + (Int.tmod (wrap64 (Int.tdiv a0 64)) 64))) % 256), .int .u8 ((wrap64 (128 + (Int.tmod a0 64))) % 256)]) (ok := fun _ => True) (okp := fun _ => True) ?hr ?hp (fun _ hk => hk) trivial (Below.refl _ _) (Nat.le_refl _) (by simp) ?_; (case hd => rfl); (case hg => rfl); (case hr => first | (go_simp; done) | (go_simp; rfl)); (case hp => exact (Reps.one (show Kd.M (Kd.int .u8) _ _ _ ((wrap64 (224 + (wrap64 (Int.tdiv a0 4096)))) % 256) [.int .u8 ((wrap64 (224 + (wrap64 (Int.tdiv a0 4096)))) % 256)] from rfl) (Reps.one (show Kd.M (Kd.int .u8) _ _ _ ((wrap64 (128 + (Int.tmod (wrap64 (Int.tdiv a0 64)) 64))) % 256) [.int .u8 ((wrap64 (128 + (Int.tmod (wrap64 (Int.tdiv a0 64)) 64))) % 256)] from rfl) (Reps.one (show Kd.M (Kd.int .u8) _ _ _ ((wrap64 (128 + (Int.tmod a0 64))) % 256) [.int .u8 ((wrap64 (128 + (Int.tmod a0 64))) % 256)] from rfl) (Reps.none _ _))))); intro v333 w13 ho14 hb hg_ hnew_; clear hg_ hnew_; (first | rw [← Ny332.out] at ho14 | (simp only [Int.reduceToNat] at ho14; rw [← Ny332.out] at ho14)); have n0_ := Aside0.mk (Kd.R_lower ho14 (below_size (by repeat (first | (with_reducible first | exact HB.out | apply below_alloc | apply pw_below_drewN | apply below_drew1) | exact HB.out)))); have n1_ := Aside0.mk (below_step (by repeat (first | (with_reducible first | exact HB.out | apply below_alloc | apply pw_below_drewN | apply below_drew1) | exact HB.out)) hb); clear HB; have HO334 := n0_; have HB := n1_; clear n0_ n1_; clear hb ho14; have hcv15 := own_string (P := Tryd.prog) Tryd.underlying46 Tryd.underlying5 Tryd.underlying9 (Kd.own_of_R HO334.out)))
          go_ret
          exact ⟨by first | rfl | (simp [errW_none, errW_some] <;> rfl) | (simp [*, errW_none, errW_some, bne]; done) | (simp [*, errW_none, errW_some] <;> rfl), by repeat (first | (with_reducible first | exact HB.out | apply below_alloc | apply pw_below_drewN | apply below_drew1) | exact HB.out)⟩
        · rw [if_neg c12] at H
          have c12b0 : decide (a0 < 65536) = false := decide_eq_false c12
          clear c12
          obtain ⟨y335, hy335⟩ : ∃ y_ : List Int, y_ = (([(wrap64 (240 + (wrap64 (Int.tdiv a0 262144)))) % 256, (wrap64 (128 + (Int.tmod (wrap64 (Int.tdiv a0 4096)) 64))) % 256, (wrap64 (128 + (Int.tmod (wrap64 (Int.tdiv a0 64)) 64))) % 256, (wrap64 (128 + (Int.tmod a0 64))) % 256] : List Int)) := ⟨_, rfl⟩
          replace H : (some (strOfNums y335)) = some r := by first | (rw [hy335]; with_reducible exact H) | (have H2_ := (Option.bind_some _ _).symm.trans H; rw [hy335]; with_reducible exact H2_) | (have H2_ := (Option.bind_some _ _).symm.trans H; with_reducible exact H2_) | with_reducible exact H | (rw [hy335]; exact H) | exact H
          have Ny335 := Aside0.mk hy335
          clear hy335
          obtain rfl := Option.some.inj H
          go_enter Tryd.func27, Tryd.ntmps27
          go_wp2_with (first | ((with_reducible refine gate_callee (f := 26) rfl ?_); refine goesL_ (some 4) rfl rfl Tryd.func26 (by kernel_rfl) rfl #[.int .i64 a0] rfl (by (try simp only [List.map_toArray, List.map_cons, List.map_nil]); first | done | rfl | (simp only [List.length_drop, List.length_take]; rfl)) ?_; (with_reducible refine (dragomanref1_Good.calls a0 true _ A2.out).mono ?_); rintro e w' ⟨rfl, ⟨nd, rfl⟩⟩; refine ⟨_, rfl, ?_⟩) | ((with_reducible refine gate_dst (N := 62) rfl ?_); refine Kd.R_lit (Kd.int .u8) _ 5 ?hg (N := 62) ?hd (xs := ([(wrap64 (240 + (wrap64 (Int.tdiv a0 262144)))) % 256, (wrap64 (128 + (Int.tmod (wrap64 (Int.tdiv a0 4096)) 64))) % 256, (wrap64 (128 + (Int.tmod (wrap64 (Int.tdiv a0 64)) 64))) % 256, (wrap64 (128 + (Int.tmod a0 64))) % 256] : List Int)) (inner := [.int .u8 ((wrap64 (240 + (wrap64 (Int.tdiv a0 262144)))) % 256), .int .u8 ((wrap64 (128 + (Int.tmod (wrap64 (Int.tdiv a0 4096)) 64))) % 256), .int .u8 ((wrap64 (128 + (Int.tmod (wrap64 (Int.tdiv a0 64)) 64))) % 256), .int .u8 ((wrap64 (128 + (Int.tmod a0 64))) % 256)]) (ok := fun _ => True) (okp := fun _ => True) ?hr ?hp (fun _ hk => hk) trivial (Below.refl _ _) (Nat.le_refl _) (by simp) ?_; (case hd => rfl); (case hg => rfl); (case hr => first | (go_simp; done) | (go_simp; rfl)); (case hp => exact (Reps.one (show Kd.M (Kd.int .u8) _ _ _ ((wrap64 (240 + (wrap64 (Int.tdiv a0 262144)))) % 256) [.int .u8 ((wrap64 (240 + (wrap64 (Int.tdiv a0 262144)))) % 256)] from rfl) (Reps.one (show Kd.M (Kd.int .u8) _ _ _ ((wrap64 (128 + (Int.tmod (wrap64 (Int.tdiv a0 4096)) 64))) % 256) [.int .u8 ((wrap64 (128 + (Int.tmod (wrap64 (Int.tdiv a0 4096)) 64))) % 256)] from rfl) (Reps.one (show Kd.M (Kd.int .u8) _ _ _ ((wrap64 (128 + (Int.tmod (wrap64 (Int.tdiv a0 64)) 64))) % 256) [.int .u8 ((wrap64 (128 + (Int.tmod (wrap64 (Int.tdiv a0 64)) 64))) % 256)] from rfl) (Reps.one (show Kd.M (Kd.int .u8) _ _ _ ((wrap64 (128 + (Int.tmod a0 64))) % 256) [.int .u8 ((wrap64 (128 + (Int.tmod a0 64))) % 256)] from rfl) (Reps.none _ _)))))); intro v336 w16 ho17 hb hg_ hnew_; clear hg_ hnew_; (first | rw [← Ny335.out] at ho17 | (simp only [Int.reduceToNat] at ho17; rw [← Ny335.out] at ho17)); have n0_ := Aside0.mk (Kd.R_lower ho17 (below_size (by repeat (first | (with_reducible first | exact HB.out | apply below_alloc | apply pw_below_drewN | apply below_drew1) | exact HB.out)))); have n1_ := Aside0.mk (below_step (by repeat (first | (with_reducible first | exact HB.out | apply below_alloc | apply pw_below_drewN | apply below_drew1) | exact HB.out)) hb); clear HB; have HO337 := n0_; have HB := n1_; clear n0_ n1_; clear hb ho17; have hcv18 := own_string (P := Tryd.prog) Tryd.underlying46 Tryd.underlying5 Tryd.underlying9 (Kd.own_of_R HO337.out)))
          go_ret
          exact ⟨by first | rfl | (simp [errW_none, errW_some] <;> rfl) | (simp [*, errW_none, errW_some, bne]; done) | (simp [*, errW_none, errW_some] <;> rfl), by repeat (first | (with_reducible first | exact HB.out | apply below_alloc | apply pw_below_drewN | apply below_drew1) | exact HB.out)⟩
  · replace c3 := Bool.eq_false_iff.mpr c3
    subst c3
    have H1 : (some (⟨#[]⟩ : ByteArray)) = some r := by rw [if_neg (show ¬ (false = true) by decide)] at H; exact H
    clear H
    have H := H1
    clear H1
    obtain rfl := Option.some.inj H
    go_enter Tryd.func27, Tryd.ntmps27
    go_wp2_with (first | ((with_reducible refine gate_callee (f := 26) rfl ?_); refine goesL_ (some 4) rfl rfl Tryd.func26 (by kernel_rfl) rfl #[.int .i64 a0] rfl (by (try simp only [List.map_toArray, List.map_cons, List.map_nil]); first | done | rfl | (simp only [List.length_drop, List.length_take]; rfl)) ?_; (with_reducible refine (dragomanref1_Good.calls a0 false _ A2.out).mono ?_); rintro e w' ⟨rfl, ⟨nd, rfl⟩⟩; refine ⟨_, rfl, ?_⟩))
    go_ret
    exact ⟨by first | rfl | (simp [errW_none, errW_some] <;> rfl) | (simp [*, errW_none, errW_some, bne]; done) | (simp [*, errW_none, errW_some] <;> rfl), by repeat (first | (with_reducible first | exact HB.out | apply below_alloc | apply pw_below_drewN | apply below_drew1) | exact HB.out)⟩
end Go.Proofs.YtoanbmggffkmgaaDoor.P
end
section
namespace Go.Proofs.YtoanbmggffkmgaaDoor.P
open Go.RowKit Go.Proofs.YtoanbmggffkmgaaDoorW.PrintWords Go.Proofs.YtoanbmggffkmgaaDoorW.PrintLast Go.Proofs.YtoanbmggffkmgaaDoorW.PrintMore
attribute [local go_sem] max2_int min2_int max_two min_two max_three min_three max_four min_four   -- for this text's walks alone
set_option linter.unusedVariables false
set_option linter.unusedSimpArgs false
/-! ### dragomanlaw6_hex: function 28 -/
def dragomanlaw6_hex.l0 : Nat → Int → Int → ByteArray → Int → Option (ByteArray)
  | 0, _, _, _, _ => none
  | k + 1, x0, x1, x5, x6 => if x6 < x1 then (if 0 ≤ (Go.bits .and .i64 x0 15) then (if (Go.bits .and .i64 x0 15) ≤ (wrap64 ((Go.bits .and .i64 x0 15) + 1)) then (if (wrap64 ((Go.bits .and .i64 x0 15) + 1)) ≤ 16 then (if ((⟨#[48, 49, 50, 51, 52, 53, 54, 55, 56, 57, 97, 66, 99, 68, 101, 70]⟩ : ByteArray).extract ((Go.bits .and .i64 x0 15) : Int).toNat ((wrap64 ((Go.bits .and .i64 x0 15) + 1)) : Int).toNat).size + x5.size ≤ 9223372036854775807 then (dragomanlaw6_hex.l0 k (x0 / 16) x1 (((⟨#[48, 49, 50, 51, 52, 53, 54, 55, 56, 57, 97, 66, 99, 68, 101, 70]⟩ : ByteArray).extract ((Go.bits .and .i64 x0 15) : Int).toNat ((wrap64 ((Go.bits .and .i64 x0 15) + 1)) : Int).toNat) ++ x5) (wrap64 (x6 + 1))) else (none)) else (none)) else (none)) else (none)) else (some x5)
def dragomanlaw6_hex.f (k : Nat) (a0 : Int) (a1 : Int) : Option (ByteArray) := dragomanlaw6_hex.l0 k a0 a1 (⟨#[]⟩ : ByteArray) 0
set_option maxHeartbeats 8000000 in
set_option maxRecDepth 100000 in
theorem dragomanlaw6_hex.calls (k : Nat) (a0 : Int) (a1 : Int) (r : ByteArray) (w : World) (h : dragomanlaw6_hex.f k a0 a1 = some r) :
    Calls Tryd.prog 28 #[.int .i64 a0, .int .i64 a1] w fun e w' => e = .returned (.string r) ∧ Drawn0 w w' := by
  have H : (dragomanlaw6_hex.l0 k a0 a1 (⟨#[]⟩ : ByteArray) 0) = some r := h
  clear h
  have H' := Aside0.mk H
  clear H
  go_enter Tryd.func28, Tryd.ntmps28
  go_wp2
  go_loopg [0, 5, 6] k (fun kq v0 v5 v6 w' => ∃ (x0_1 : Int) (x5_1 : ByteArray) (x6_1 : Int), v0 = .int .i64 x0_1 ∧ v5 = .string x5_1 ∧ v6 = .int .i64 x6_1 ∧ Aside0 (dragomanlaw6_hex.l0 kq x0_1 a1 x5_1 x6_1 = some r) ∧ Aside0 (kq ≤ k) ∧ Drawn0 w w')
  case atStart => exact ⟨(a0), ((⟨#[]⟩ : ByteArray)), (0), (by first | rfl | (simp; done) | (simp [*]; done)), (by first | rfl | (simp; done) | (simp [*]; done)), (by first | rfl | (simp; done) | (simp [*]; done)), H', ⟨Nat.le_refl _⟩, by repeat (first | exact Drawn0.refl _ | apply Drawn0.step)⟩
  case round =>
    clear H'
    try clear c2
    try clear p2
    obtain ⟨x0_1, x5_1, x6_1, rfl, rfl, rfl, HA, HK1, ⟨m1, rfl⟩⟩ := hrel
    cases gk with
    | zero => exact absurd HA.out (by simp [dragomanlaw6_hex.l0])
    | succ k1 =>
      have H := HA.out
      clear HA
      simp only [dragomanlaw6_hex.l0] at H
      by_cases c3 : x6_1 < a1
      · rw [if_pos c3] at H
        have c3b0 : decide (x6_1 < a1) = true := decide_eq_true c3
        clear c3
        by_cases c4 : 0 ≤ (Go.bits .and .i64 x0_1 15)
        · rw [if_pos c4] at H
          have c4b0 := eq_true c4
          have c4b1 : decide (0 ≤ (Go.bits .and .i64 x0_1 15)) = true := decide_eq_true c4
          clear c4
          by_cases c5 : (Go.bits .and .i64 x0_1 15) ≤ (wrap64 ((Go.bits .and .i64 x0_1 15) + 1))
          · rw [if_pos c5] at H
            have c5b0 := eq_true c5
            have c5b1 : decide ((Go.bits .and .i64 x0_1 15) ≤ (wrap64 ((Go.bits .and .i64 x0_1 15) + 1))) = true := decide_eq_true c5
            by_cases c6 : (wrap64 ((Go.bits .and .i64 x0_1 15) + 1)) ≤ 16
            · rw [if_pos c6] at H
              have c6b0 := eq_true c6
              have c6b1 : decide ((wrap64 ((Go.bits .and .i64 x0_1 15) + 1)) ≤ 16) = true := decide_eq_true c6
              by_cases c7 : ((⟨#[48, 49, 50, 51, 52, 53, 54, 55, 56, 57, 97, 66, 99, 68, 101, 70]⟩ : ByteArray).extract ((Go.bits .and .i64 x0_1 15) : Int).toNat ((wrap64 ((Go.bits .and .i64 x0_1 15) + 1)) : Int).toNat).size + x5_1.size ≤ 9223372036854775807
              · rw [if_pos c7] at H
                have c7b0 := eq_true c7
                have c7b1 : decide (((⟨#[48, 49, 50, 51, 52, 53, 54, 55, 56, 57, 97, 66, 99, 68, 101, 70]⟩ : ByteArray).extract ((Go.bits .and .i64 x0_1 15) : Int).toNat ((wrap64 ((Go.bits .and .i64 x0_1 15) + 1)) : Int).toNat).size + x5_1.size ≤ 9223372036854775807) = true := decide_eq_true c7
                try have c7b2 : (9223372036854775807 < ((⟨#[48, 49, 50, 51, 52, 53, 54, 55, 56, 57, 97, 66, 99, 68, 101, 70]⟩ : ByteArray).extract ((Go.bits .and .i64 x0_1 15) : Int).toNat ((wrap64 ((Go.bits .and .i64 x0_1 15) + 1)) : Int).toNat).size + x5_1.size) = False := eq_false (Nat.not_lt.2 c7)
                have H' := Aside0.mk H
                clear H
                go_wp2
                go_roundg k1
                case measure => have := HK1.out; omega
                case rel => exact ⟨(x0_1 / 16), (((⟨#[48, 49, 50, 51, 52, 53, 54, 55, 56, 57, 97, 66, 99, 68, 101, 70]⟩ : ByteArray).extract ((Go.bits .and .i64 x0_1 15) : Int).toNat ((wrap64 ((Go.bits .and .i64 x0_1 15) + 1)) : Int).toNat) ++ x5_1), (wrap64 (x6_1 + 1)), (by first | rfl | (simp; done) | (simp [*]; done)), (by first | rfl | (simp; done) | (simp [*]; done)), (by first | rfl | (simp; done) | (simp [*]; done)), H', ⟨by have := HK1.out; omega⟩, by repeat (first | exact Drawn0.refl _ | apply Drawn0.step)⟩
              · rw [if_neg c7] at H
                exact absurd H (by simp)
            · rw [if_neg c6] at H
              exact absurd H (by simp)
          · rw [if_neg c5] at H
            exact absurd H (by simp)
        · rw [if_neg c4] at H
          exact absurd H (by simp)
      · rw [if_neg c3] at H
        have c3b0 : decide (x6_1 < a1) = false := decide_eq_false c3
        clear c3
        obtain rfl := Option.some.inj H
        go_wp2
        go_ret
        exact ⟨by first | rfl | (simp; done) | (simp [*]; done), by repeat (first | exact Drawn0.refl _ | apply Drawn0.step)⟩
end Go.Proofs.YtoanbmggffkmgaaDoor.P
end
section
namespace Go.Proofs.YtoanbmggffkmgaaDoor.La
open Go.RowKit Go.Proofs.YtoanbmggffkmgaaDoorW.PrintWords Go.Proofs.YtoanbmggffkmgaaDoorW.PrintLast Go.Proofs.YtoanbmggffkmgaaDoorW.PrintMore
theorem bytesOf_data (s : ByteArray) : bytesOf s = s.data.toList.map fun b => (b.toNat : Int) := rfl
theorem toList_data' (s : ByteArray) : s.toList = s.data.toList := ByteArray.toList_eq s
theorem map_toNat_inj {l m : List UInt8} (h : l.map (fun b => (b.toNat : Int)) = m.map fun b => (b.toNat : Int)) : l = m := by
  induction l generalizing m with
  | nil => cases m with
    | nil => rfl
    | cons a t => simp at h
  | cons a t ih => cases m with
    | nil => simp at h
    | cons b u =>
      simp only [List.map_cons, List.cons.injEq] at h
      obtain ⟨h1, h2⟩ := h
      have : a = b := UInt8.toNat_inj.1 (by omega)
      rw [this, ih h2]
theorem bytesOf_inj {s t : ByteArray} (h : bytesOf s = bytesOf t) : s = t := by
  have h1 := map_toNat_inj h
  cases s with | mk a => cases t with | mk b =>
  congr 1
  exact Array.toList_inj.1 h1
theorem toList_eq_iff (s t : ByteArray) : s.toList = t.toList ↔ bytesOf s = bytesOf t := by
  rw [toList_data', toList_data']
  exact ⟨fun h => by rw [bytesOf_data, bytesOf_data, h], fun h => map_toNat_inj h⟩
theorem toList_nil_iff (s : ByteArray) : s.toList = ([] : List UInt8) ↔ bytesOf s = [] := by
  rw [toList_data', bytesOf_data]
  simp
theorem bytesOf_append (s t : ByteArray) : bytesOf (s ++ t) = bytesOf s ++ bytesOf t := by
  simp [bytesOf_data, ByteArray.data_append]
theorem bytesOf_extract (s : ByteArray) (i j : Nat) : bytesOf (s.extract i j) = ((bytesOf s).take j).drop i := by
  simp [bytesOf_data, ByteArray.data_extract, Array.toList_extract, List.map_drop, List.map_take, List.extract, List.take_drop]
  by_cases h : i ≤ j
  · rw [show i + (j - i) = j by omega]
  · rw [show j - i = 0 by omega]
    simp
    omega
theorem bytesOf_drop (s : ByteArray) (i : Nat) : bytesOf (s.extract i s.size) = (bytesOf s).drop i := by
  rw [bytesOf_extract, List.take_of_length_le (by rw [bytesOf_length]; omega)]
theorem bytesOf_take (s : ByteArray) (j : Nat) : bytesOf (s.extract 0 j) = (bytesOf s).take j := by
  rw [bytesOf_extract, List.drop_zero]
def Bytes (l : List Int) : Prop := ∀ x ∈ l, 0 ≤ x ∧ x < 256
theorem bytes_of (s : ByteArray) : Bytes (bytesOf s) := by
  intro x hx
  rw [bytesOf_data] at hx
  obtain ⟨b, _, rfl⟩ := List.mem_map.1 hx
  have := b.toNat_lt
  omega
theorem Bytes.drop {l : List Int} (h : Bytes l) (n : Nat) : Bytes (l.drop n) := fun x hx => h x (List.mem_of_mem_drop hx)
theorem Bytes.take {l : List Int} (h : Bytes l) (n : Nat) : Bytes (l.take n) := fun x hx => h x (List.mem_of_mem_take hx)
theorem Bytes.append {l m : List Int} (h : Bytes l) (k : Bytes m) : Bytes (l ++ m) := fun x hx => (List.mem_append.1 hx).elim (h x) (k x)
theorem Bytes.left {l m : List Int} (h : Bytes (l ++ m)) : Bytes l := fun x hx => h x (List.mem_append.2 (.inl hx))
theorem Bytes.right {l m : List Int} (h : Bytes (l ++ m)) : Bytes m := fun x hx => h x (List.mem_append.2 (.inr hx))
theorem strOfNums_bytes {l : List Int} (h : Bytes l) : bytesOf (strOfNums l) = l := by
  have : (strOfNums l).data.toList = l.map fun n => UInt8.ofNat n.toNat := by
    have := Go.Lib.strOfNums_toList l
    rw [toList_data'] at this
    exact this
  rw [bytesOf_data, this, List.map_map]
  induction l with
  | nil => rfl
  | cons a t ih =>
    have ha := h a List.mem_cons_self
    rw [List.map_cons, ih (fun x hx => h x (List.mem_cons_of_mem _ hx)) (by
      have := Go.Lib.strOfNums_toList t
      rw [toList_data'] at this
      exact this)]
    simp only [Function.comp_apply, UInt8.toNat_ofNat', List.cons.injEq, and_true]
    omega
theorem strOfNums_of (s : ByteArray) : strOfNums (bytesOf s) = s := bytesOf_inj (strOfNums_bytes (bytes_of s))
theorem size_of (s : ByteArray) : (bytesOf s).length = s.size := bytesOf_length s
theorem size_strOfNums {l : List Int} (h : Bytes l) : (strOfNums l).size = l.length := by rw [← size_of, strOfNums_bytes h]
theorem bt_get (s : ByteArray) (i : Int) : bt s i = (bytesOf s).getD i.toNat 0 := (rd_bytesOf s i).symm
theorem wrap_id {n : Int} (h0 : -9223372036854775808 ≤ n) (h1 : n < 9223372036854775808) : wrap64 n = n := by
  unfold wrap64
  omega
end Go.Proofs.YtoanbmggffkmgaaDoor.La
end
section
namespace Go.Proofs.YtoanbmggffkmgaaDoor.La
def good (r : Int) : Prop := 0 ≤ r ∧ r ≤ 1114111 ∧ (r < 55296 ∨ 57343 < r)
theorem good_iff {r : Int} : good r ↔ 0 ≤ r ∧ r ≤ 1114111 ∧ (r < 55296 ∨ 57343 < r) := Iff.rfl
instance (r : Int) : Decidable (good r) := by unfold good; infer_instance
def enc (r : Int) : List Int :=
  if r < 128 then [r] else if r < 2048 then [192 + r / 64, 128 + r % 64]
  else if r < 65536 then [224 + r / 4096, 128 + r / 64 % 64, 128 + r % 64]
  else [240 + r / 262144, 128 + r / 4096 % 64, 128 + r / 64 % 64, 128 + r % 64]
def tk2 (a b : Int) : Int := (a - 192) * 64 + (b - 128)
def tk3 (a b c : Int) : Int := (a - 224) * 4096 + (b - 128) * 64 + (c - 128)
def tk4 (a b c d : Int) : Int := (a - 240) * 262144 + (b - 128) * 4096 + (c - 128) * 64 + (d - 128)
/-- The letter that a list begins with, and how many bytes it has; 0, 0: none. -/
def tk : List Int → Int × Int
  | [] => (0, 0)
  | a :: t =>
    if a < 128 then (a, 1)
    else if a < 192 then (0, 0)
    else if a < 224 then
      match t with
      | b :: _ => if 128 ≤ b ∧ b < 192 ∧ 128 ≤ tk2 a b then (tk2 a b, 2) else (0, 0)
      | [] => (0, 0)
    else if a < 240 then
      match t with
      | b :: c :: _ => if 128 ≤ b ∧ b < 192 ∧ 128 ≤ c ∧ c < 192 ∧ 2048 ≤ tk3 a b c ∧ (tk3 a b c < 55296 ∨ 57343 < tk3 a b c) then (tk3 a b c, 3) else (0, 0)
      | _ => (0, 0)
    else if a < 248 then
      match t with
      | b :: c :: d :: _ => if 128 ≤ b ∧ b < 192 ∧ 128 ≤ c ∧ c < 192 ∧ 128 ≤ d ∧ d < 192 ∧ 65536 ≤ tk4 a b c d ∧ tk4 a b c d ≤ 1114111 then (tk4 a b c d, 4) else (0, 0)
      | _ => (0, 0)
    else (0, 0)
theorem enc_len (r : Int) : 1 ≤ (enc r).length ∧ (enc r).length ≤ 4 := by
  unfold enc
  split
  · simp
  · split
    · simp
    · split <;> simp
/-- What is read was written. -/
theorem tk_inv (l : List Int) (hl : ∀ x ∈ l, 0 ≤ x ∧ x < 256) : tk l = (0, 0) ∨ (good (tk l).1 ∧ (tk l).2 = ((enc (tk l).1).length : Int) ∧ ∃ m, l = enc (tk l).1 ++ m) := by
  match l with
  | [] => exact .inl rfl
  | a :: t =>
    have ha := hl a List.mem_cons_self
    simp only [tk]
    split
    · rename_i h1
      refine .inr ⟨by unfold good; omega, ?_, t, ?_⟩ <;> simp [enc, h1]
    · rename_i h1
      split
      · exact .inl rfl
      · rename_i h2
        split
        · rename_i h3
          match t with
          | [] => exact .inl rfl
          | b :: t =>
            simp only
            split
            · rename_i h4
              have hr : ¬ (tk2 a b < 128) := by omega
              have hr' : tk2 a b < 2048 := by unfold tk2; omega
              refine .inr ⟨by unfold good; omega, ?_, t, ?_⟩
              · simp [enc, hr, hr']
              · simp only [enc, if_neg hr, if_pos hr']
                have e1 : 192 + tk2 a b / 64 = a := by unfold tk2; omega
                have e2 : 128 + tk2 a b % 64 = b := by unfold tk2; omega
                rw [e1, e2]
                rfl
            · exact .inl rfl
        · rename_i h3
          split
          · rename_i h4
            match t with
            | [] => exact .inl rfl
            | [_] => exact .inl rfl
            | b :: c :: t =>
              simp only
              split
              · rename_i h5
                have hr : ¬ (tk3 a b c < 128) := by omega
                have hr' : ¬ (tk3 a b c < 2048) := by omega
                have hr'' : tk3 a b c < 65536 := by unfold tk3; omega
                refine .inr ⟨by unfold good; omega, ?_, t, ?_⟩
                · simp [enc, hr, hr', hr'']
                · simp only [enc, if_neg hr, if_neg hr', if_pos hr'']
                  have e1 : 224 + tk3 a b c / 4096 = a := by unfold tk3; omega
                  have e2 : 128 + tk3 a b c / 64 % 64 = b := by unfold tk3; omega
                  have e3 : 128 + tk3 a b c % 64 = c := by unfold tk3; omega
                  rw [e1, e2, e3]
                  rfl
              · exact .inl rfl
          · rename_i h4
            split
            · rename_i h4'
              match t with
              | [] => exact .inl rfl
              | [_] => exact .inl rfl
              | [_, _] => exact .inl rfl
              | b :: c :: d :: t =>
                simp only
                split
                · rename_i h5
                  have hr : ¬ (tk4 a b c d < 128) := by omega
                  have hr' : ¬ (tk4 a b c d < 2048) := by omega
                  have hr'' : ¬ (tk4 a b c d < 65536) := by omega
                  refine .inr ⟨by unfold good; omega, ?_, t, ?_⟩
                  · simp [enc, hr, hr', hr'']
                  · simp only [enc, if_neg hr, if_neg hr', if_neg hr'']
                    have e1 : 240 + tk4 a b c d / 262144 = a := by unfold tk4; omega
                    have e2 : 128 + tk4 a b c d / 4096 % 64 = b := by unfold tk4; omega
                    have e3 : 128 + tk4 a b c d / 64 % 64 = c := by unfold tk4; omega
                    have e4 : 128 + tk4 a b c d % 64 = d := by unfold tk4; omega
                    rw [e1, e2, e3, e4]
                    rfl
                · exact .inl rfl
            · exact .inl rfl
theorem tk_bound (l : List Int) (hl : ∀ x ∈ l, 0 ≤ x ∧ x < 256) : 0 ≤ (tk l).2 ∧ (tk l).2 ≤ 4 ∧ (tk l).2 ≤ l.length ∧ 0 ≤ (tk l).1 ∧ (tk l).1 ≤ 1114111 := by
  rcases tk_inv l hl with h | ⟨hg, hn, m, hm⟩
  · rw [h]; simp
  · have := enc_len (tk l).1
    have h2 : l.length = (enc (tk l).1).length + m.length := by
      have := congrArg List.length hm
      rwa [List.length_append] at this
    unfold good at hg
    omega
end Go.Proofs.YtoanbmggffkmgaaDoor.La
end
section
namespace Go.Proofs.YtoanbmggffkmgaaDoor.P
open Go.RowKit Go.Proofs.YtoanbmggffkmgaaDoorW.PrintWords Go.Proofs.YtoanbmggffkmgaaDoorW.PrintLast Go.Proofs.YtoanbmggffkmgaaDoorW.PrintMore
attribute [local go_sem] max2_int min2_int max_two min_two max_three min_three max_four min_four   -- for this text's walks alone
set_option linter.unusedVariables false
set_option linter.unusedSimpArgs false
/-! ### utf_Good: function 87 -/
def utf_Good.f (a0 : Int) : Option (Bool) := if a0 ≥ 0 then (if a0 ≤ 1114111 then (if a0 < 55296 then (some true) else (some (decide (a0 > 57343)))) else (some false)) else (some false)
set_option maxHeartbeats 8000000 in
set_option maxRecDepth 100000 in
theorem utf_Good.calls (a0 : Int) (r : Bool) (w : World) (h : utf_Good.f a0 = some r) :
    Calls Tryd.prog 87 #[.int .i64 a0] w fun e w' => e = .returned (.bool r) ∧ Drawn0 w w' := by
  have H : (if a0 ≥ 0 then (if a0 ≤ 1114111 then (if a0 < 55296 then (some true) else (some (decide (a0 > 57343)))) else (some false)) else (some false)) = some r := h
  clear h
  by_cases c2 : a0 ≥ 0
  · rw [if_pos c2] at H
    have c2b0 : decide (0 ≤ a0) = true := decide_eq_true c2
    clear c2
    by_cases c3 : a0 ≤ 1114111
    · rw [if_pos c3] at H
      have c3b0 : decide (a0 ≤ 1114111) = true := decide_eq_true c3
      clear c3
      by_cases c4 : a0 < 55296
      · rw [if_pos c4] at H
        have c4b0 : decide (a0 < 55296) = true := decide_eq_true c4
        clear c4
        obtain rfl := Option.some.inj H
        go_enter Tryd.func87, Tryd.ntmps87
        go_wp2
        go_ret
        exact ⟨by first | rfl | (simp; done) | (simp [*]; done), by repeat (first | exact Drawn0.refl _ | apply Drawn0.step)⟩
      · rw [if_neg c4] at H
        have c4b0 : decide (a0 < 55296) = false := decide_eq_false c4
        clear c4
        obtain rfl := Option.some.inj H
        go_enter Tryd.func87, Tryd.ntmps87
        go_wp2
        go_ret
        exact ⟨by first | rfl | (simp; done) | (simp [*]; done), by repeat (first | exact Drawn0.refl _ | apply Drawn0.step)⟩
    · rw [if_neg c3] at H
      have c3b0 : decide (a0 ≤ 1114111) = false := decide_eq_false c3
      clear c3
      obtain rfl := Option.some.inj H
      go_enter Tryd.func87, Tryd.ntmps87
      go_wp2
      go_ret
      exact ⟨by first | rfl | (simp; done) | (simp [*]; done), by repeat (first | exact Drawn0.refl _ | apply Drawn0.step)⟩
  · rw [if_neg c2] at H
    have c2b0 : decide (0 ≤ a0) = false := decide_eq_false c2
    clear c2
    obtain rfl := Option.some.inj H
    go_enter Tryd.func87, Tryd.ntmps87
    go_wp2
    go_ret
    exact ⟨by first | rfl | (simp; done) | (simp [*]; done), by repeat (first | exact Drawn0.refl _ | apply Drawn0.step)⟩
end Go.Proofs.YtoanbmggffkmgaaDoor.P
end
section
namespace Go.Proofs.YtoanbmggffkmgaaDoor.P
open Go.RowKit Go.Proofs.YtoanbmggffkmgaaDoorW.PrintWords Go.Proofs.YtoanbmggffkmgaaDoorW.PrintLast Go.Proofs.YtoanbmggffkmgaaDoorW.PrintMore
attribute [local go_sem] max2_int min2_int max_two min_two max_three min_three max_four min_four   -- for this text's walks alone
set_option linter.unusedVariables false
set_option linter.unusedSimpArgs false
/-! ### utf_begins: function 88 -/
def utf_begins.f (a0 : Int) : Option (Int × Int) := if a0 < 128 then (some (1, wrap64 (a0))) else (if a0 < 192 then (some (0, 0)) else (if a0 < 224 then (some (2, wrap64 (Go.bits .andNot .u8 a0 192))) else (if a0 < 240 then (some (3, wrap64 (Go.bits .andNot .u8 a0 224))) else (if a0 < 248 then (some (4, wrap64 (Go.bits .andNot .u8 a0 240))) else (some (0, 0))))))
set_option maxHeartbeats 8000000 in
set_option maxRecDepth 100000 in
theorem utf_begins.calls (a0 : Int) (r1 : Int) (r2 : Int) (w : World) (h : utf_begins.f a0 = some (r1, r2)) :
    Calls Tryd.prog 88 #[.int .u8 a0] w fun e w' => e = .returned (.tuple #[.int .i64 r1, .int .i64 r2]) ∧ Drawn0 w w' := by
  have H : (if a0 < 128 then (some (1, wrap64 (a0))) else (if a0 < 192 then (some (0, 0)) else (if a0 < 224 then (some (2, wrap64 (Go.bits .andNot .u8 a0 192))) else (if a0 < 240 then (some (3, wrap64 (Go.bits .andNot .u8 a0 224))) else (if a0 < 248 then (some (4, wrap64 (Go.bits .andNot .u8 a0 240))) else (some (0, 0))))))) = some (r1, r2) := h
  clear h
  by_cases c2 : a0 < 128
  · rw [if_pos c2] at H
    have c2b0 : decide (a0 < 128) = true := decide_eq_true c2
    clear c2
    simp only [Option.some.injEq, Prod.mk.injEq] at H
    obtain ⟨rfl, rfl⟩ := H
    go_enter Tryd.func88, Tryd.ntmps88
    go_wp2
    go_ret2
    exact ⟨by first | rfl | (simp; done) | (simp [*]; done), by repeat (first | exact Drawn0.refl _ | apply Drawn0.step)⟩
  · rw [if_neg c2] at H
    have c2b0 : decide (a0 < 128) = false := decide_eq_false c2
    clear c2
    by_cases c3 : a0 < 192
    · rw [if_pos c3] at H
      have c3b0 : decide (a0 < 192) = true := decide_eq_true c3
      clear c3
      simp only [Option.some.injEq, Prod.mk.injEq] at H
      obtain ⟨rfl, rfl⟩ := H
      go_enter Tryd.func88, Tryd.ntmps88
      go_wp2
      go_ret2
      exact ⟨by first | rfl | (simp; done) | (simp [*]; done), by repeat (first | exact Drawn0.refl _ | apply Drawn0.step)⟩
    · rw [if_neg c3] at H
      have c3b0 : decide (a0 < 192) = false := decide_eq_false c3
      clear c3
      by_cases c4 : a0 < 224
      · rw [if_pos c4] at H
        have c4b0 : decide (a0 < 224) = true := decide_eq_true c4
        clear c4
        simp only [Option.some.injEq, Prod.mk.injEq] at H
        obtain ⟨rfl, rfl⟩ := H
        go_enter Tryd.func88, Tryd.ntmps88
        go_wp2
        go_ret2
        exact ⟨by first | rfl | (simp; done) | (simp [*]; done), by repeat (first | exact Drawn0.refl _ | apply Drawn0.step)⟩
      · rw [if_neg c4] at H
        have c4b0 : decide (a0 < 224) = false := decide_eq_false c4
        clear c4
        by_cases c5 : a0 < 240
        · rw [if_pos c5] at H
          have c5b0 : decide (a0 < 240) = true := decide_eq_true c5
          clear c5
          simp only [Option.some.injEq, Prod.mk.injEq] at H
          obtain ⟨rfl, rfl⟩ := H
          go_enter Tryd.func88, Tryd.ntmps88
          go_wp2
          go_ret2
          exact ⟨by first | rfl | (simp; done) | (simp [*]; done), by repeat (first | exact Drawn0.refl _ | apply Drawn0.step)⟩
        · rw [if_neg c5] at H
          have c5b0 : decide (a0 < 240) = false := decide_eq_false c5
          clear c5
          by_cases c6 : a0 < 248
          · rw [if_pos c6] at H
            have c6b0 : decide (a0 < 248) = true := decide_eq_true c6
            clear c6
            simp only [Option.some.injEq, Prod.mk.injEq] at H
            obtain ⟨rfl, rfl⟩ := H
            go_enter Tryd.func88, Tryd.ntmps88
            go_wp2
            go_ret2
            exact ⟨by first | rfl | (simp; done) | (simp [*]; done), by repeat (first | exact Drawn0.refl _ | apply Drawn0.step)⟩
          · rw [if_neg c6] at H
            have c6b0 : decide (a0 < 248) = false := decide_eq_false c6
            clear c6
            simp only [Option.some.injEq, Prod.mk.injEq] at H
            obtain ⟨rfl, rfl⟩ := H
            go_enter Tryd.func88, Tryd.ntmps88
            go_wp2
            go_ret2
            exact ⟨by first | rfl | (simp; done) | (simp [*]; done), by repeat (first | exact Drawn0.refl _ | apply Drawn0.step)⟩
end Go.Proofs.YtoanbmggffkmgaaDoor.P
end
section
namespace Go.Proofs.YtoanbmggffkmgaaDoor.P
open Go.RowKit Go.Proofs.YtoanbmggffkmgaaDoorW.PrintWords Go.Proofs.YtoanbmggffkmgaaDoorW.PrintLast Go.Proofs.YtoanbmggffkmgaaDoorW.PrintMore
attribute [local go_sem] max2_int min2_int max_two min_two max_three min_three max_four min_four   -- for this text's walks alone
set_option linter.unusedVariables false
set_option linter.unusedSimpArgs false
/-! ### utf_size: function 89 -/
def utf_size.f (a0 : Int) : Option (Int) := if a0 < 128 then (some 1) else (if a0 < 2048 then (some 2) else (if a0 < 65536 then (some 3) else (some 4)))
set_option maxHeartbeats 8000000 in
set_option maxRecDepth 100000 in
theorem utf_size.calls (a0 : Int) (r : Int) (w : World) (h : utf_size.f a0 = some r) :
    Calls Tryd.prog 89 #[.int .i64 a0] w fun e w' => e = .returned (.int .i64 r) ∧ Drawn0 w w' := by
  have H : (if a0 < 128 then (some 1) else (if a0 < 2048 then (some 2) else (if a0 < 65536 then (some 3) else (some 4)))) = some r := h
  clear h
  by_cases c2 : a0 < 128
  · rw [if_pos c2] at H
    have c2b0 : decide (a0 < 128) = true := decide_eq_true c2
    clear c2
    obtain rfl := Option.some.inj H
    go_enter Tryd.func89, Tryd.ntmps89
    go_wp2
    go_ret
    exact ⟨by first | rfl | (simp; done) | (simp [*]; done), by repeat (first | exact Drawn0.refl _ | apply Drawn0.step)⟩
  · rw [if_neg c2] at H
    have c2b0 : decide (a0 < 128) = false := decide_eq_false c2
    clear c2
    by_cases c3 : a0 < 2048
    · rw [if_pos c3] at H
      have c3b0 : decide (a0 < 2048) = true := decide_eq_true c3
      clear c3
      obtain rfl := Option.some.inj H
      go_enter Tryd.func89, Tryd.ntmps89
      go_wp2
      go_ret
      exact ⟨by first | rfl | (simp; done) | (simp [*]; done), by repeat (first | exact Drawn0.refl _ | apply Drawn0.step)⟩
    · rw [if_neg c3] at H
      have c3b0 : decide (a0 < 2048) = false := decide_eq_false c3
      clear c3
      by_cases c4 : a0 < 65536
      · rw [if_pos c4] at H
        have c4b0 : decide (a0 < 65536) = true := decide_eq_true c4
        clear c4
        obtain rfl := Option.some.inj H
        go_enter Tryd.func89, Tryd.ntmps89
        go_wp2
        go_ret
        exact ⟨by first | rfl | (simp; done) | (simp [*]; done), by repeat (first | exact Drawn0.refl _ | apply Drawn0.step)⟩
      · rw [if_neg c4] at H
        have c4b0 : decide (a0 < 65536) = false := decide_eq_false c4
        clear c4
        obtain rfl := Option.some.inj H
        go_enter Tryd.func89, Tryd.ntmps89
        go_wp2
        go_ret
        exact ⟨by first | rfl | (simp; done) | (simp [*]; done), by repeat (first | exact Drawn0.refl _ | apply Drawn0.step)⟩
end Go.Proofs.YtoanbmggffkmgaaDoor.P
end
section
namespace Go.Proofs.YtoanbmggffkmgaaDoor.P
open Go.RowKit Go.Proofs.YtoanbmggffkmgaaDoorW.PrintWords Go.Proofs.YtoanbmggffkmgaaDoorW.PrintLast Go.Proofs.YtoanbmggffkmgaaDoorW.PrintMore
attribute [local go_sem] max2_int min2_int max_two min_two max_three min_three max_four min_four   -- for this text's walks alone
set_option linter.unusedVariables false
set_option linter.unusedSimpArgs false
/-! ### utf_Take: function 66 -/
mutual
def utf_Take.j0 : Nat → ByteArray → Int → Int → Bool → Option (Int × Int)
  | 0, _, _, _, _ => none
  | k + 1, x0, x4, x5, x22 => if x22 = true then (some (0, 0)) else (utf_Take.l0 k x0 x4 x5 1)
def utf_Take.l0 : Nat → ByteArray → Int → Int → Int → Option (Int × Int)
  | 0, _, _, _, _ => none
  | k + 1, x0, x4, x5, x6 => if x6 < x4 then (if 0 ≤ x6 then (if x6 < (x0.size : Int) then (if (Go.bits .and .u8 (bt x0 x6) 192) = 128 then (utf_Take.l0 k x0 x4 (Go.bits .or .i64 (wrap64 (x5 * 64)) (wrap64 (Go.bits .and .u8 (bt x0 x6) 63))) (wrap64 (x6 + 1))) else (some (0, 0))) else (none)) else (none)) else ((utf_Good.f x5).bind fun t106 => (if t106 = true then ((utf_size.f x5).bind fun t107 => (if t107 = x4 then (some (x5, x4)) else (some (0, 0)))) else (some (0, 0))))
end
def utf_Take.f (k : Nat) (a0 : ByteArray) : Option (Int × Int) := if a0.toList = ([] : List UInt8) then (some (0, 0)) else (if 0 < (a0.size : Int) then ((utf_begins.f (bt a0 0)).bind fun bt104 => (if bt104.1 = 0 then (utf_Take.j0 k a0 bt104.1 bt104.2 true) else (utf_Take.j0 k a0 bt104.1 bt104.2 (decide (bt104.1 > (a0.size : Int)))))) else (none))
set_option maxHeartbeats 8000000 in
set_option maxRecDepth 100000 in
theorem utf_Take.calls (k : Nat) (a0 : ByteArray) (r1 : Int) (r2 : Int) (w : World) (h : utf_Take.f k a0 = some (r1, r2)) :
    Calls Tryd.prog 66 #[.string a0] w fun e w' => e = .returned (.tuple #[.int .i64 r1, .int .i64 r2]) ∧ Drawn0 w w' := by
  have H : (if a0.toList = ([] : List UInt8) then (some (0, 0)) else (if 0 < (a0.size : Int) then ((utf_begins.f (bt a0 0)).bind fun bt104 => (if bt104.1 = 0 then (utf_Take.j0 k a0 bt104.1 bt104.2 true) else (utf_Take.j0 k a0 bt104.1 bt104.2 (decide (bt104.1 > (a0.size : Int)))))) else (none))) = some (r1, r2) := h
  clear h
  by_cases c2 : a0.toList = ([] : List UInt8)
  · rw [if_pos c2] at H
    have c2b0 : (a0.toList == ([] : List UInt8)) = true := beq_iff_eq.mpr c2
    have c2b1 : (a0.toList != ([] : List UInt8)) = false := bne_eq_false_iff_eq.mpr c2
    clear c2
    simp only [Option.some.injEq, Prod.mk.injEq] at H
    obtain ⟨rfl, rfl⟩ := H
    go_enter Tryd.func66, Tryd.ntmps66
    go_wp2
    go_ret2
    exact ⟨by first | rfl | (simp; done) | (simp [*]; done), by repeat (first | exact Drawn0.refl _ | apply Drawn0.step)⟩
  · rw [if_neg c2] at H
    have c2b0 : (a0.toList == ([] : List UInt8)) = false := beq_eq_false_iff_ne.mpr c2
    have c2b1 : (a0.toList != ([] : List UInt8)) = true := bne_iff_ne.mpr c2
    by_cases c3 : 0 < (a0.size : Int)
    · rw [if_pos c3] at H
      have c3b0 : decide (0 < (a0.size : Int)) = true := decide_eq_true c3
      have c3b1 : decide (0 < a0.size) = true := decide_eq_true (by omega)
      clear c3
      replace H := Option.bind_eq_some_iff.mp H
      obtain ⟨⟨t104, t105⟩, A50, H⟩ := H
      replace H : (if t104 = 0 then (utf_Take.j0 k a0 t104 t105 true) else (utf_Take.j0 k a0 t104 t105 (decide (t104 > (a0.size : Int))))) = some (r1, r2) := H
      have A5 := Aside0.mk A50
      clear A50
      have HC6 := Aside0.mk H
      clear H
      have p4 : 0 ≤ (0 : Int) := (by omega)
      have q4 : 0 < a0.size := (by have : (0 : Int) < (a0.size : Int) := of_decide_eq_true (by first | (with_reducible assumption) | assumption); omega)
      have hx4 : ∀ h : 0 < a0.size, ((a0[0]'h).toNat : Int) = bt a0 0 := bt_at a0 0
      clear p4
      have qi4 : (0 < (a0.size : Int)) = True := eq_true (of_decide_eq_true (by first | (with_reducible assumption) | assumption))
      replace q4 := eq_true q4
      go_enter Tryd.func66, Tryd.ntmps66
      go_upto_region 4 with (first | ((with_reducible refine gate_callee (f := 88) rfl ?_); refine goesL_ (some 12) rfl rfl Tryd.func88 (by kernel_rfl) rfl #[.int .u8 (bt a0 0)] rfl (by (try simp only [List.map_toArray, List.map_cons, List.map_nil]); first | done | rfl | (simp only [List.length_drop, List.length_take]; rfl)) ?_; (with_reducible refine (utf_begins.calls (bt a0 0) t104 t105 _ A5.out).mono ?_); rintro e w' ⟨rfl, ⟨nd, rfl⟩⟩; refine ⟨_, rfl, ?_⟩))
      (try simp only [Act.put, List.setIfInBounds_toArray, List.set_cons_zero, List.set_cons_succ])
      go_cut [22] (fun v22 wc => ∃ (kq : Nat) (x22_5 : Bool), v22 = .bool x22_5 ∧ Aside0 (utf_Take.j0 kq a0 t104 t105 x22_5 = some (r1, r2)) ∧ Aside0 (kq ≤ k) ∧ Drawn0 w wc)
      case first =>
        have H := HC6.out
        clear HC6
        by_cases c7 : t104 = 0
        · rw [if_pos c7] at H
          have c7b0 : (t104 == 0) = true := beq_iff_eq.mpr c7
          have c7b1 : (t104 != 0) = false := bne_eq_false_iff_eq.mpr c7
          clear c7
          (first | rw [c7b0] | (simp only [i64_w, i32_w]; rw [c7b0]) | skip)
          have H' := Aside0.mk H
          clear H
          go_wp2
          go_meet
          case rel => exact ⟨_, (true), (by first | rfl | (simp; done) | (simp [*]; done)), H', ⟨by first | omega | exact Nat.le_refl _⟩, by repeat (first | exact Drawn0.refl _ | apply Drawn0.step)⟩
        · rw [if_neg c7] at H
          have c7b0 : (t104 == 0) = false := beq_eq_false_iff_ne.mpr c7
          have c7b1 : (t104 != 0) = true := bne_iff_ne.mpr c7
          (first | rw [c7b0] | (simp only [i64_w, i32_w]; rw [c7b0]) | skip)
          have H' := Aside0.mk H
          clear H
          go_wp2
          go_meet
          case rel => exact ⟨_, (decide (t104 > (a0.size : Int))), (by first | rfl | (simp; done) | (simp [*]; done)), H', ⟨by first | omega | exact Nat.le_refl _⟩, by repeat (first | exact Drawn0.refl _ | apply Drawn0.step)⟩
      case rest =>
        clear HC6
        try clear c2
        try clear c2b0
        try clear c2b1
        try clear p2
        try clear c3
        try clear c3b0
        try clear c3b1
        try clear p4
        try clear q4
        try clear hx4
        try clear qi4
        try clear c6
        try clear c7
        try clear c7b0
        try clear c7b1
        try clear p4
        try clear q4
        obtain ⟨kq, x22_5, rfl, HA, HJ5, ⟨mc5, rfl⟩⟩ := hcut
        cases kq with
        | zero => exact absurd HA.out (by simp [utf_Take.j0])
        | succ kj5 =>
          have H := HA.out
          clear HA
          simp only [utf_Take.j0] at H
          by_cases c8 : x22_5 = true
          · subst c8
            have H1 : (some (0, 0)) = some (r1, r2) := by rw [if_pos rfl] at H; exact H
            clear H
            have H := H1
            clear H1
            simp only [Option.some.injEq, Prod.mk.injEq] at H
            obtain ⟨rfl, rfl⟩ := H
            go_wp2
            go_ret2
            exact ⟨by first | rfl | (simp; done) | (simp [*]; done), by repeat (first | exact Drawn0.refl _ | apply Drawn0.step)⟩
          · replace c8 := Bool.eq_false_iff.mpr c8
            subst c8
            have H1 : (utf_Take.l0 kj5 a0 t104 t105 1) = some (r1, r2) := by rw [if_neg (show ¬ (false = true) by decide)] at H; exact H
            clear H
            have H := H1
            clear H1
            have H' := Aside0.mk H
            clear H
            go_wp2
            go_loopg [5, 6] kj5 (fun kq v5 v6 w' => ∃ (x5_2 : Int) (x6_2 : Int), v5 = .int .i64 x5_2 ∧ v6 = .int .i64 x6_2 ∧ Aside0 (utf_Take.l0 kq a0 t104 x5_2 x6_2 = some (r1, r2)) ∧ Aside0 (kq ≤ kj5) ∧ Drawn0 w w')
            case atStart => exact ⟨(t105), (1), (by first | rfl | (simp; done) | (simp [*]; done)), (by first | rfl | (simp; done) | (simp [*]; done)), H', ⟨Nat.le_refl _⟩, by repeat (first | exact Drawn0.refl _ | apply Drawn0.step)⟩
            case round =>
              clear H'
              try clear c2
              try clear c2b0
              try clear c2b1
              try clear p2
              try clear c3
              try clear c3b0
              try clear c3b1
              try clear p4
              try clear q4
              try clear hx4
              try clear qi4
              try clear c5
              try clear c6
              try clear c7
              try clear c7b0
              try clear c7b1
              try clear c8
              try clear p2
              try clear p4
              try clear q4
              obtain ⟨x5_2, x6_2, rfl, rfl, HA, HK2, ⟨m2, rfl⟩⟩ := hrel
              cases gk with
              | zero => exact absurd HA.out (by simp [utf_Take.l0])
              | succ k2 =>
                have H := HA.out
                clear HA
                simp only [utf_Take.l0] at H
                by_cases c9 : x6_2 < t104
                · rw [if_pos c9] at H
                  have c9b0 : decide (x6_2 < t104) = true := decide_eq_true c9
                  clear c9
                  by_cases c10 : 0 ≤ x6_2
                  · rw [if_pos c10] at H
                    have c10b0 : decide (0 ≤ x6_2) = true := decide_eq_true c10
                    clear c10
                    by_cases c11 : x6_2 < (a0.size : Int)
                    · rw [if_pos c11] at H
                      have c11b0 : decide (x6_2 < (a0.size : Int)) = true := decide_eq_true c11
                      clear c11
                      by_cases c13 : (Go.bits .and .u8 (bt a0 x6_2) 192) = 128
                      · rw [if_pos c13] at H
                        have c13b0 : ((Go.bits .and .u8 (bt a0 x6_2) 192) == 128) = true := beq_iff_eq.mpr c13
                        have c13b1 : ((Go.bits .and .u8 (bt a0 x6_2) 192) != 128) = false := bne_eq_false_iff_eq.mpr c13
                        clear c13
                        have H' := Aside0.mk H
                        clear H
                        have p12 : 0 ≤ (x6_2 : Int) := of_decide_eq_true (by first | (with_reducible assumption) | assumption)
                        have q12 : x6_2 < (a0.size : Int) := of_decide_eq_true (by first | (with_reducible assumption) | assumption)
                        have hx12 := bt_at a0 x6_2
                        replace p12 := eq_true p12
                        replace q12 := eq_true q12
                        have p14 : 0 ≤ (x6_2 : Int) := of_decide_eq_true (by first | (with_reducible assumption) | assumption)
                        have q14 : x6_2 < (a0.size : Int) := of_decide_eq_true (by first | (with_reducible assumption) | assumption)
                        have hx14 := bt_at a0 x6_2
                        replace p14 := eq_true p14
                        replace q14 := eq_true q14
                        go_wp2
                        go_roundg k2
                        case measure => have := HJ5.out; have := HK2.out; omega
                        case rel => exact ⟨(Go.bits .or .i64 (wrap64 (x5_2 * 64)) (wrap64 (Go.bits .and .u8 (bt a0 x6_2) 63))), (wrap64 (x6_2 + 1)), (by first | rfl | (simp; done) | (simp [*]; done)), (by first | rfl | (simp; done) | (simp [*]; done)), H', ⟨by have := HJ5.out; have := HK2.out; omega⟩, by repeat (first | exact Drawn0.refl _ | apply Drawn0.step)⟩
                      · rw [if_neg c13] at H
                        have c13b0 : ((Go.bits .and .u8 (bt a0 x6_2) 192) == 128) = false := beq_eq_false_iff_ne.mpr c13
                        have c13b1 : ((Go.bits .and .u8 (bt a0 x6_2) 192) != 128) = true := bne_iff_ne.mpr c13
                        simp only [Option.some.injEq, Prod.mk.injEq] at H
                        obtain ⟨rfl, rfl⟩ := H
                        have p12 : 0 ≤ (x6_2 : Int) := of_decide_eq_true (by first | (with_reducible assumption) | assumption)
                        have q12 : x6_2 < (a0.size : Int) := of_decide_eq_true (by first | (with_reducible assumption) | assumption)
                        have hx12 := bt_at a0 x6_2
                        replace p12 := eq_true p12
                        replace q12 := eq_true q12
                        go_wp2
                        go_ret2
                        exact ⟨by first | rfl | (simp; done) | (simp [*]; done), by repeat (first | exact Drawn0.refl _ | apply Drawn0.step)⟩
                    · rw [if_neg c11] at H
                      exact absurd H (by simp)
                  · rw [if_neg c10] at H
                    exact absurd H (by simp)
                · rw [if_neg c9] at H
                  have c9b0 : decide (x6_2 < t104) = false := decide_eq_false c9
                  clear c9
                  replace H := Option.bind_eq_some_iff.mp H
                  obtain ⟨t106, A150, H⟩ := H
                  replace H : (if t106 = true then ((utf_size.f x5_2).bind fun t107 => (if t107 = t104 then (some (x5_2, t104)) else (some (0, 0)))) else (some (0, 0))) = some (r1, r2) := H
                  have A15 := Aside0.mk A150
                  clear A150
                  by_cases c16 : t106 = true
                  · subst c16
                    have H1 : ((utf_size.f x5_2).bind fun t107 => (if t107 = t104 then (some (x5_2, t104)) else (some (0, 0)))) = some (r1, r2) := by rw [if_pos rfl] at H; exact H
                    clear H
                    have H := H1
                    clear H1
                    replace H := Option.bind_eq_some_iff.mp H
                    obtain ⟨t107, A170, H⟩ := H
                    replace H : (if t107 = t104 then (some (x5_2, t104)) else (some (0, 0))) = some (r1, r2) := H
                    have A17 := Aside0.mk A170
                    clear A170
                    by_cases c18 : t107 = t104
                    · rw [if_pos c18] at H
                      have c18b0 : (t107 == t104) = true := beq_iff_eq.mpr c18
                      have c18b1 : (t107 != t104) = false := bne_eq_false_iff_eq.mpr c18
                      clear c18
                      simp only [Option.some.injEq, Prod.mk.injEq] at H
                      obtain ⟨rfl, rfl⟩ := H
                      go_wp2_with (first | ((with_reducible refine gate_callee (f := 87) rfl ?_); refine goesL_ (some 42) rfl rfl Tryd.func87 (by kernel_rfl) rfl #[.int .i64 x5_2] rfl (by (try simp only [List.map_toArray, List.map_cons, List.map_nil]); first | done | rfl | (simp only [List.length_drop, List.length_take]; rfl)) ?_; (with_reducible refine (utf_Good.calls x5_2 true _ A15.out).mono ?_); rintro e w' ⟨rfl, ⟨nd, rfl⟩⟩; refine ⟨_, rfl, ?_⟩) | (go_at_call 89; (with_reducible refine (utf_size.calls x5_2 t107 _ A17.out).mono ?_); rintro e w' ⟨rfl, ⟨nd, rfl⟩⟩))
                      go_ret2
                      exact ⟨by first | rfl | (simp; done) | (simp [*]; done), by repeat (first | exact Drawn0.refl _ | apply Drawn0.step)⟩
                    · rw [if_neg c18] at H
                      have c18b0 : (t107 == t104) = false := beq_eq_false_iff_ne.mpr c18
                      have c18b1 : (t107 != t104) = true := bne_iff_ne.mpr c18
                      simp only [Option.some.injEq, Prod.mk.injEq] at H
                      obtain ⟨rfl, rfl⟩ := H
                      go_wp2_with (first | ((with_reducible refine gate_callee (f := 87) rfl ?_); refine goesL_ (some 42) rfl rfl Tryd.func87 (by kernel_rfl) rfl #[.int .i64 x5_2] rfl (by (try simp only [List.map_toArray, List.map_cons, List.map_nil]); first | done | rfl | (simp only [List.length_drop, List.length_take]; rfl)) ?_; (with_reducible refine (utf_Good.calls x5_2 true _ A15.out).mono ?_); rintro e w' ⟨rfl, ⟨nd, rfl⟩⟩; refine ⟨_, rfl, ?_⟩) | (go_at_call 89; (with_reducible refine (utf_size.calls x5_2 t107 _ A17.out).mono ?_); rintro e w' ⟨rfl, ⟨nd, rfl⟩⟩))
                      go_ret2
                      exact ⟨by first | rfl | (simp; done) | (simp [*]; done), by repeat (first | exact Drawn0.refl _ | apply Drawn0.step)⟩
                  · replace c16 := Bool.eq_false_iff.mpr c16
                    subst c16
                    have H1 : (some (0, 0)) = some (r1, r2) := by rw [if_neg (show ¬ (false = true) by decide)] at H; exact H
                    clear H
                    have H := H1
                    clear H1
                    simp only [Option.some.injEq, Prod.mk.injEq] at H
                    obtain ⟨rfl, rfl⟩ := H
                    go_wp2_with (first | ((with_reducible refine gate_callee (f := 87) rfl ?_); refine goesL_ (some 42) rfl rfl Tryd.func87 (by kernel_rfl) rfl #[.int .i64 x5_2] rfl (by (try simp only [List.map_toArray, List.map_cons, List.map_nil]); first | done | rfl | (simp only [List.length_drop, List.length_take]; rfl)) ?_; (with_reducible refine (utf_Good.calls x5_2 false _ A15.out).mono ?_); rintro e w' ⟨rfl, ⟨nd, rfl⟩⟩; refine ⟨_, rfl, ?_⟩))
                    go_ret2
                    exact ⟨by first | rfl | (simp; done) | (simp [*]; done), by repeat (first | exact Drawn0.refl _ | apply Drawn0.step)⟩
    · rw [if_neg c3] at H
      exact absurd H (by simp)
end Go.Proofs.YtoanbmggffkmgaaDoor.P
end
section
namespace Go.Proofs.YtoanbmggffkmgaaDoor.P
open Go.RowKit Go.Proofs.YtoanbmggffkmgaaDoorW.PrintWords Go.Proofs.YtoanbmggffkmgaaDoorW.PrintLast Go.Proofs.YtoanbmggffkmgaaDoorW.PrintMore
attribute [local go_sem] max2_int min2_int max_two min_two max_three min_three max_four min_four   -- for this text's walks alone
set_option linter.unusedVariables false
set_option linter.unusedSimpArgs false
/-! ### utf_Put: function 67 -/
def utf_Put.f (l0 : List Int) (a1 : Int) : Option (List Int) := if 0 ≤ (wrap64 ((l0.length : Int) + 4)) then (if wrap64 ((l0.length : Int) + 4) ≤ 281474976710656 then ((some (([] : List Int) : List Int)).bind fun y138 => (if y138.length + l0.length < 140737488355328 then ((some (y138 ++ l0 : List Int)).bind fun y141 => ((utf_Good.f a1).bind fun t144 => (if t144 = true then ((utf_size.f a1).bind fun t145 => (if t145 = 1 then (if y141.length < 140737488355328 then (some (y141 ++ [(a1) % 256])) else (none)) else (if t145 = 2 then ((some (([(Go.bits .or .i64 192 (a1 / 64)) % 256, (Go.bits .or .i64 128 (Go.bits .and .i64 a1 63)) % 256] : List Int) : List Int)).bind fun y149 => (if y141.length + y149.length < 140737488355328 then (some (y141 ++ y149)) else (none))) else (if t145 = 3 then ((some (([(Go.bits .or .i64 224 (a1 / 4096)) % 256, (Go.bits .or .i64 128 (Go.bits .and .i64 (a1 / 64) 63)) % 256, (Go.bits .or .i64 128 (Go.bits .and .i64 a1 63)) % 256] : List Int) : List Int)).bind fun y155 => (if y141.length + y155.length < 140737488355328 then (some (y141 ++ y155)) else (none))) else ((some (([(Go.bits .or .i64 240 (a1 / 262144)) % 256, (Go.bits .or .i64 128 (Go.bits .and .i64 (a1 / 4096) 63)) % 256, (Go.bits .or .i64 128 (Go.bits .and .i64 (a1 / 64) 63)) % 256, (Go.bits .or .i64 128 (Go.bits .and .i64 a1 63)) % 256] : List Int) : List Int)).bind fun y161 => (if y141.length + y161.length < 140737488355328 then (some (y141 ++ y161)) else (none))))))) else (some y141)))) else (none))) else (none)) else (none)
set_option maxHeartbeats 8000000 in
set_option maxRecDepth 100000 in
theorem utf_Put.calls (A0 : Option Addr) (c0 : Nat) (l0 : List Int) (a1 : Int) (r : List Int) (w : World) (hr0 : Kd.C (Kd.int .u8) w A0 l0.length l0) (hc0 : l0.length ≤ c0) (h : utf_Put.f l0 a1 = some r) :
    Calls Tryd.prog 67 #[.slice A0 l0.length c0, .int .i64 a1] w fun e w' => ∃ v0_ : Value, e = .returned (v0_) ∧ Kd.R (Kd.int .u8) 5 w' w.heap.size (fun _ => True) v0_ r ∧ Below w.heap.size w w' := by
  have HR0 := Aside0.mk hr0
  have HC0 := Aside0.mk hc0
  clear hr0 hc0
  have HB := Aside0.mk (Below.refl w.heap.size w)
  have H : (if 0 ≤ (wrap64 ((l0.length : Int) + 4)) then (if wrap64 ((l0.length : Int) + 4) ≤ 281474976710656 then ((some (([] : List Int) : List Int)).bind fun y138 => (if y138.length + l0.length < 140737488355328 then ((some (y138 ++ l0 : List Int)).bind fun y141 => ((utf_Good.f a1).bind fun t144 => (if t144 = true then ((utf_size.f a1).bind fun t145 => (if t145 = 1 then (if y141.length < 140737488355328 then (some (y141 ++ [(a1) % 256])) else (none)) else (if t145 = 2 then ((some (([(Go.bits .or .i64 192 (a1 / 64)) % 256, (Go.bits .or .i64 128 (Go.bits .and .i64 a1 63)) % 256] : List Int) : List Int)).bind fun y149 => (if y141.length + y149.length < 140737488355328 then (some (y141 ++ y149)) else (none))) else (if t145 = 3 then ((some (([(Go.bits .or .i64 224 (a1 / 4096)) % 256, (Go.bits .or .i64 128 (Go.bits .and .i64 (a1 / 64) 63)) % 256, (Go.bits .or .i64 128 (Go.bits .and .i64 a1 63)) % 256] : List Int) : List Int)).bind fun y155 => (if y141.length + y155.length < 140737488355328 then (some (y141 ++ y155)) else (none))) else ((some (([(Go.bits .or .i64 240 (a1 / 262144)) % 256, (Go.bits .or .i64 128 (Go.bits .and .i64 (a1 / 4096) 63)) % 256, (Go.bits .or .i64 128 (Go.bits .and .i64 (a1 / 64) 63)) % 256, (Go.bits .or .i64 128 (Go.bits .and .i64 a1 63)) % 256] : List Int) : List Int)).bind fun y161 => (if y141.length + y161.length < 140737488355328 then (some (y141 ++ y161)) else (none))))))) else (some y141)))) else (none))) else (none)) else (none)) = some r := h
  clear h
  obtain ⟨ji3, hji3⟩ : ∃ j_ : Int, (wrap64 ((l0.length : Int) + 4)) = j_ := ⟨_, rfl⟩
  replace H : (if 0 ≤ (ji3) then (if ji3 ≤ 281474976710656 then ((some (([] : List Int) : List Int)).bind fun y138 => (if y138.length + l0.length < 140737488355328 then ((some (y138 ++ l0 : List Int)).bind fun y141 => ((utf_Good.f a1).bind fun t144 => (if t144 = true then ((utf_size.f a1).bind fun t145 => (if t145 = 1 then (if y141.length < 140737488355328 then (some (y141 ++ [(a1) % 256])) else (none)) else (if t145 = 2 then ((some (([(Go.bits .or .i64 192 (a1 / 64)) % 256, (Go.bits .or .i64 128 (Go.bits .and .i64 a1 63)) % 256] : List Int) : List Int)).bind fun y149 => (if y141.length + y149.length < 140737488355328 then (some (y141 ++ y149)) else (none))) else (if t145 = 3 then ((some (([(Go.bits .or .i64 224 (a1 / 4096)) % 256, (Go.bits .or .i64 128 (Go.bits .and .i64 (a1 / 64) 63)) % 256, (Go.bits .or .i64 128 (Go.bits .and .i64 a1 63)) % 256] : List Int) : List Int)).bind fun y155 => (if y141.length + y155.length < 140737488355328 then (some (y141 ++ y155)) else (none))) else ((some (([(Go.bits .or .i64 240 (a1 / 262144)) % 256, (Go.bits .or .i64 128 (Go.bits .and .i64 (a1 / 4096) 63)) % 256, (Go.bits .or .i64 128 (Go.bits .and .i64 (a1 / 64) 63)) % 256, (Go.bits .or .i64 128 (Go.bits .and .i64 a1 63)) % 256] : List Int) : List Int)).bind fun y161 => (if y141.length + y161.length < 140737488355328 then (some (y141 ++ y161)) else (none))))))) else (some y141)))) else (none))) else (none)) else (none)) = some r := by first | (rw [hji3] at H; exact H) | (simp only [hji3] at H ⊢; exact H)
  have hji3w : (IntKind.i64.wrap ((l0.length : Int) + 4)) = ji3 := (i64_w _).trans hji3
  by_cases c4 : 0 ≤ (ji3)
  · rw [if_pos c4] at H
    have c4b0 := eq_true c4
    have c4b1 : decide (0 ≤ (ji3)) = true := decide_eq_true c4
    clear c4
    by_cases c5 : ji3 ≤ 281474976710656
    · rw [if_pos c5] at H
      have c5b0 := eq_true c5
      have c5b1 : decide (ji3 ≤ 281474976710656) = true := decide_eq_true c5
      clear c5
      obtain ⟨y138, hy138⟩ : ∃ y_ : List Int, y_ = (([] : List Int)) := ⟨_, rfl⟩
      replace H : (if y138.length + l0.length < 140737488355328 then ((some (y138 ++ l0 : List Int)).bind fun y141 => ((utf_Good.f a1).bind fun t144 => (if t144 = true then ((utf_size.f a1).bind fun t145 => (if t145 = 1 then (if y141.length < 140737488355328 then (some (y141 ++ [(a1) % 256])) else (none)) else (if t145 = 2 then ((some (([(Go.bits .or .i64 192 (a1 / 64)) % 256, (Go.bits .or .i64 128 (Go.bits .and .i64 a1 63)) % 256] : List Int) : List Int)).bind fun y149 => (if y141.length + y149.length < 140737488355328 then (some (y141 ++ y149)) else (none))) else (if t145 = 3 then ((some (([(Go.bits .or .i64 224 (a1 / 4096)) % 256, (Go.bits .or .i64 128 (Go.bits .and .i64 (a1 / 64) 63)) % 256, (Go.bits .or .i64 128 (Go.bits .and .i64 a1 63)) % 256] : List Int) : List Int)).bind fun y155 => (if y141.length + y155.length < 140737488355328 then (some (y141 ++ y155)) else (none))) else ((some (([(Go.bits .or .i64 240 (a1 / 262144)) % 256, (Go.bits .or .i64 128 (Go.bits .and .i64 (a1 / 4096) 63)) % 256, (Go.bits .or .i64 128 (Go.bits .and .i64 (a1 / 64) 63)) % 256, (Go.bits .or .i64 128 (Go.bits .and .i64 a1 63)) % 256] : List Int) : List Int)).bind fun y161 => (if y141.length + y161.length < 140737488355328 then (some (y141 ++ y161)) else (none))))))) else (some y141)))) else (none)) = some r := by first | (rw [hy138]; with_reducible exact H) | (have H2_ := (Option.bind_some _ _).symm.trans H; rw [hy138]; with_reducible exact H2_) | (have H2_ := (Option.bind_some _ _).symm.trans H; with_reducible exact H2_) | with_reducible exact H | (rw [hy138]; exact H) | exact H
      have Ny138 := Aside0.mk hy138
      clear hy138
      by_cases c6 : y138.length + l0.length < 140737488355328
      · rw [if_pos c6] at H
        have LMc6 := Aside0.mk c6
        clear c6
        obtain ⟨y141, hy141⟩ : ∃ y_ : List Int, y_ = (y138 ++ l0) := ⟨_, rfl⟩
        replace H : ((utf_Good.f a1).bind fun t144 => (if t144 = true then ((utf_size.f a1).bind fun t145 => (if t145 = 1 then (if y141.length < 140737488355328 then (some (y141 ++ [(a1) % 256])) else (none)) else (if t145 = 2 then ((some (([(Go.bits .or .i64 192 (a1 / 64)) % 256, (Go.bits .or .i64 128 (Go.bits .and .i64 a1 63)) % 256] : List Int) : List Int)).bind fun y149 => (if y141.length + y149.length < 140737488355328 then (some (y141 ++ y149)) else (none))) else (if t145 = 3 then ((some (([(Go.bits .or .i64 224 (a1 / 4096)) % 256, (Go.bits .or .i64 128 (Go.bits .and .i64 (a1 / 64) 63)) % 256, (Go.bits .or .i64 128 (Go.bits .and .i64 a1 63)) % 256] : List Int) : List Int)).bind fun y155 => (if y141.length + y155.length < 140737488355328 then (some (y141 ++ y155)) else (none))) else ((some (([(Go.bits .or .i64 240 (a1 / 262144)) % 256, (Go.bits .or .i64 128 (Go.bits .and .i64 (a1 / 4096) 63)) % 256, (Go.bits .or .i64 128 (Go.bits .and .i64 (a1 / 64) 63)) % 256, (Go.bits .or .i64 128 (Go.bits .and .i64 a1 63)) % 256] : List Int) : List Int)).bind fun y161 => (if y141.length + y161.length < 140737488355328 then (some (y141 ++ y161)) else (none))))))) else (some y141))) = some r := by first | (rw [hy141]; with_reducible exact H) | (have H2_ := (Option.bind_some _ _).symm.trans H; rw [hy141]; with_reducible exact H2_) | (have H2_ := (Option.bind_some _ _).symm.trans H; with_reducible exact H2_) | with_reducible exact H | (rw [hy141]; exact H) | exact H
        have Ny141 := Aside0.mk hy141
        clear hy141
        replace H := Option.bind_eq_some_iff.mp H
        obtain ⟨t144, A70, H⟩ := H
        replace H : (if t144 = true then ((utf_size.f a1).bind fun t145 => (if t145 = 1 then (if y141.length < 140737488355328 then (some (y141 ++ [(a1) % 256])) else (none)) else (if t145 = 2 then ((some (([(Go.bits .or .i64 192 (a1 / 64)) % 256, (Go.bits .or .i64 128 (Go.bits .and .i64 a1 63)) % 256] : List Int) : List Int)).bind fun y149 => (if y141.length + y149.length < 140737488355328 then (some (y141 ++ y149)) else (none))) else (if t145 = 3 then ((some (([(Go.bits .or .i64 224 (a1 / 4096)) % 256, (Go.bits .or .i64 128 (Go.bits .and .i64 (a1 / 64) 63)) % 256, (Go.bits .or .i64 128 (Go.bits .and .i64 a1 63)) % 256] : List Int) : List Int)).bind fun y155 => (if y141.length + y155.length < 140737488355328 then (some (y141 ++ y155)) else (none))) else ((some (([(Go.bits .or .i64 240 (a1 / 262144)) % 256, (Go.bits .or .i64 128 (Go.bits .and .i64 (a1 / 4096) 63)) % 256, (Go.bits .or .i64 128 (Go.bits .and .i64 (a1 / 64) 63)) % 256, (Go.bits .or .i64 128 (Go.bits .and .i64 a1 63)) % 256] : List Int) : List Int)).bind fun y161 => (if y141.length + y161.length < 140737488355328 then (some (y141 ++ y161)) else (none))))))) else (some y141)) = some r := H
        have A7 := Aside0.mk A70
        clear A70
        by_cases c8 : t144 = true
        · subst c8
          have H1 : ((utf_size.f a1).bind fun t145 => (if t145 = 1 then (if y141.length < 140737488355328 then (some (y141 ++ [(a1) % 256])) else (none)) else (if t145 = 2 then ((some (([(Go.bits .or .i64 192 (a1 / 64)) % 256, (Go.bits .or .i64 128 (Go.bits .and .i64 a1 63)) % 256] : List Int) : List Int)).bind fun y149 => (if y141.length + y149.length < 140737488355328 then (some (y141 ++ y149)) else (none))) else (if t145 = 3 then ((some (([(Go.bits .or .i64 224 (a1 / 4096)) % 256, (Go.bits .or .i64 128 (Go.bits .and .i64 (a1 / 64) 63)) % 256, (Go.bits .or .i64 128 (Go.bits .and .i64 a1 63)) % 256] : List Int) : List Int)).bind fun y155 => (if y141.length + y155.length < 140737488355328 then (some (y141 ++ y155)) else (none))) else ((some (([(Go.bits .or .i64 240 (a1 / 262144)) % 256, (Go.bits .or .i64 128 (Go.bits .and .i64 (a1 / 4096) 63)) % 256, (Go.bits .or .i64 128 (Go.bits .and .i64 (a1 / 64) 63)) % 256, (Go.bits .or .i64 128 (Go.bits .and .i64 a1 63)) % 256] : List Int) : List Int)).bind fun y161 => (if y141.length + y161.length < 140737488355328 then (some (y141 ++ y161)) else (none))))))) = some r := by rw [if_pos rfl] at H; exact H
          clear H
          have H := H1
          clear H1
          replace H := Option.bind_eq_some_iff.mp H
          obtain ⟨t145, A90, H⟩ := H
          replace H : (if t145 = 1 then (if y141.length < 140737488355328 then (some (y141 ++ [(a1) % 256])) else (none)) else (if t145 = 2 then ((some (([(Go.bits .or .i64 192 (a1 / 64)) % 256, (Go.bits .or .i64 128 (Go.bits .and .i64 a1 63)) % 256] : List Int) : List Int)).bind fun y149 => (if y141.length + y149.length < 140737488355328 then (some (y141 ++ y149)) else (none))) else (if t145 = 3 then ((some (([(Go.bits .or .i64 224 (a1 / 4096)) % 256, (Go.bits .or .i64 128 (Go.bits .and .i64 (a1 / 64) 63)) % 256, (Go.bits .or .i64 128 (Go.bits .and .i64 a1 63)) % 256] : List Int) : List Int)).bind fun y155 => (if y141.length + y155.length < 140737488355328 then (some (y141 ++ y155)) else (none))) else ((some (([(Go.bits .or .i64 240 (a1 / 262144)) % 256, (Go.bits .or .i64 128 (Go.bits .and .i64 (a1 / 4096) 63)) % 256, (Go.bits .or .i64 128 (Go.bits .and .i64 (a1 / 64) 63)) % 256, (Go.bits .or .i64 128 (Go.bits .and .i64 a1 63)) % 256] : List Int) : List Int)).bind fun y161 => (if y141.length + y161.length < 140737488355328 then (some (y141 ++ y161)) else (none)))))) = some r := H
          have A9 := Aside0.mk A90
          clear A90
          by_cases c10 : t145 = 1
          · rw [if_pos c10] at H
            have c10b0 : (t145 == 1) = true := beq_iff_eq.mpr c10
            have c10b1 : (t145 != 1) = false := bne_eq_false_iff_eq.mpr c10
            clear c10
            by_cases c11 : y141.length < 140737488355328
            · rw [if_pos c11] at H
              have LMc11 := Aside0.mk c11
              clear c11
              obtain ⟨y146, hy146⟩ : ∃ y_ : List Int, y_ = (y141 ++ [(a1) % 256]) := ⟨_, rfl⟩
              replace H : (some y146) = some r := by first | (rw [hy146]; with_reducible exact H) | (have H2_ := (Option.bind_some _ _).symm.trans H; rw [hy146]; with_reducible exact H2_) | (have H2_ := (Option.bind_some _ _).symm.trans H; with_reducible exact H2_) | with_reducible exact H | (rw [hy146]; exact H) | exact H
              have Ny146 := Aside0.mk hy146
              clear hy146
              obtain rfl := Option.some.inj H
              go_enter Tryd.func67, Tryd.ntmps67
              go_wp2_with (first | ((with_reducible refine gate_dst (N := 9) rfl ?_); refine Kd.R_make0 (Kd.int .u8) _ 5 rfl (N := 9) rfl 46 _ _ rfl ji3 rfl rfl Tryd.underlying46 (.int .u8 0) 1 info5 (by omega) (ok := fun _ => True) trivial (of_decide_eq_true (by first | (with_reducible assumption) | assumption)) (by have h_ : ji3 ≤ 281474976710656 := of_decide_eq_true (by first | (with_reducible assumption) | assumption); omega) (Below.refl _ _) (Nat.le_refl _) ?_; intro v139 w12 ho13 hb hg_ hnew_; clear hg_ hnew_; rw [← Ny138.out] at ho13; have n0_ := Aside0.mk (Kd.R_lower ho13 (below_size (by repeat (first | (with_reducible first | exact HB.out | apply below_alloc | apply pw_below_drewN | apply below_drew1) | exact HB.out)))); have n1_ := Aside0.mk (below_step (by repeat (first | (with_reducible first | exact HB.out | apply below_alloc | apply pw_below_drewN | apply below_drew1) | exact HB.out)) hb); clear HB; have HO140 := n0_; have HB := n1_; clear n0_ n1_; clear hb ho13) | ((with_reducible refine gate_builtin (b := .append) (xs := #[.tmp 9, .tmp 10]) rfl ?_); at_builtin; refine Kd.R_append_rows (Kd.int .u8) (w0 := w) w.heap.size rfl (.tmp 9) (.tmp 10) 46 5 (.int .u8 0) 1 rfl Tryd.underlying46 info5 rfl (by decide) (by omega) v139 y138 l0 _ _ _ (fun _ => True) (fun _ => False) rfl rfl ?aO ?aR (fun _ _ h => h) (fun _ h => h.elim) ?aF ?aB ?aS ?aL ?_; (case aR => repeat (first | exact (Kd.C_below HR0.out HB.out) | (with_reducible refine Kd.C_alloc ?_ _) | (with_reducible refine Kd.C_drewN ?_ _) | (with_reducible refine Kd.C_drew ?_))); (case aB => exact (by repeat (first | (with_reducible first | exact HB.out | apply below_alloc | apply pw_below_drewN | apply below_drew1) | exact HB.out))); (case aF => exact (fun _ _ => trivial)); (case aO => exact (by (with_reducible repeat (first | apply Kd.R_alloc | apply Kd.R_drewN | apply Kd.R_drew)); exact HO140.out)); (case aS => exact (below_size (by repeat (first | (with_reducible first | exact HB.out | apply below_alloc | apply pw_below_drewN | apply below_drew1) | exact HB.out)))); (case aL => have := LMc6.out; omega); intro v142 w14 ho hb hg hat; rw [← Ny141.out] at ho; have n0_ := Aside0.mk (hb); have n1_ := Aside0.mk (ho); clear HB; clear HO140; have HB := n0_; have HO143 := n1_; clear n0_ n1_; clear ho hb hg hat) | ((with_reducible refine gate_callee (f := 87) rfl ?_); refine goesL_ (some 13) rfl rfl Tryd.func87 (by kernel_rfl) rfl #[.int .i64 a1] rfl (by (try simp only [List.map_toArray, List.map_cons, List.map_nil]); first | done | rfl | (simp only [List.length_drop, List.length_take]; rfl)) ?_; (with_reducible refine (utf_Good.calls a1 true _ A7.out).mono ?_); rintro e w' ⟨rfl, ⟨nd, rfl⟩⟩; refine ⟨_, rfl, ?_⟩) | ((with_reducible refine gate_callee (f := 89) rfl ?_); refine goesL_ (some 17) rfl rfl Tryd.func89 (by kernel_rfl) rfl #[.int .i64 a1] rfl (by (try simp only [List.map_toArray, List.map_cons, List.map_nil]); first | done | rfl | (simp only [List.length_drop, List.length_take]; rfl)) ?_; (with_reducible refine (utf_size.calls a1 t145 _ A9.out).mono ?_); rintro e w' ⟨rfl, ⟨nd, rfl⟩⟩; refine ⟨_, rfl, ?_⟩) | ((with_reducible refine gate_builtin (b := .append) (xs := #[.tmp 20, .tmp 23]) rfl ?_); at_builtin; refine Kd.R_append (Kd.int .u8) (w0 := w) w.heap.size rfl (.tmp 20) (.tmp 23) 46 5 (.int .u8 0) 1 rfl Tryd.underlying46 info5 rfl (by decide) (by omega) v142 y141 ((a1) % 256) [.int .u8 ((a1) % 256)] (fun _ => True) (fun _ => False) rfl rfl ?aP (fun _ hk => hk.elim) ?aF ?aO ?aB ?aS ?aL ?_; (case aP => exact rfl); (case aB => exact (by repeat (first | (with_reducible first | exact HB.out | apply below_alloc | apply pw_below_drewN | apply below_drew1) | exact HB.out))); (case aF => exact (fun _ _ => trivial)); (case aO => exact (by (with_reducible repeat (first | apply Kd.R_alloc | apply Kd.R_drewN | apply Kd.R_drew)); exact HO143.out)); (case aS => exact (below_size (by repeat (first | (with_reducible first | exact HB.out | apply below_alloc | apply pw_below_drewN | apply below_drew1) | exact HB.out)))); (case aL => have := LMc11.out; omega); intro v147 w15 ho hb hg hat; rw [← Ny146.out] at ho; have n0_ := Aside0.mk (hb); have n1_ := Aside0.mk (ho); clear HB; clear HO143; have HB := n0_; have HO148 := n1_; clear n0_ n1_; clear ho hb hg hat))
              go_ret
              exact ⟨_, by first | rfl | (simp [errW_none, errW_some] <;> rfl) | (simp [*, errW_none, errW_some, bne]; done) | (simp only [← hji3]; first | rfl | (simp [errW_none, errW_some] <;> rfl)) | (simp [*, errW_none, errW_some] <;> rfl), by (with_reducible repeat (first | apply Kd.R_alloc | apply Kd.R_drewN | apply Kd.R_drew)); exact HO148.out, by repeat (first | (with_reducible first | exact HB.out | apply below_alloc | apply pw_below_drewN | apply below_drew1) | exact HB.out)⟩
            · rw [if_neg c11] at H
              exact absurd H (by simp)
          · rw [if_neg c10] at H
            have c10b0 : (t145 == 1) = false := beq_eq_false_iff_ne.mpr c10
            have c10b1 : (t145 != 1) = true := bne_iff_ne.mpr c10
            by_cases c16 : t145 = 2
            · rw [if_pos c16] at H
              have c16b0 : (t145 == 2) = true := beq_iff_eq.mpr c16
              have c16b1 : (t145 != 2) = false := bne_eq_false_iff_eq.mpr c16
              clear c16
              obtain ⟨y149, hy149⟩ : ∃ y_ : List Int, y_ = (([(Go.bits .or .i64 192 (a1 / 64)) % 256, (Go.bits .or .i64 128 (Go.bits .and .i64 a1 63)) % 256] : List Int)) := ⟨_, rfl⟩
              replace H : (if y141.length + y149.length < 140737488355328 then (some (y141 ++ y149)) else (none)) = some r := by first | (rw [hy149]; with_reducible exact H) | (have H2_ := (Option.bind_some _ _).symm.trans H; rw [hy149]; with_reducible exact H2_) | (have H2_ := (Option.bind_some _ _).symm.trans H; with_reducible exact H2_) | with_reducible exact H | (rw [hy149]; exact H) | exact H
              have Ny149 := Aside0.mk hy149
              clear hy149
              by_cases c17 : y141.length + y149.length < 140737488355328
              · rw [if_pos c17] at H
                have LMc17 := Aside0.mk c17
                clear c17
                obtain ⟨y152, hy152⟩ : ∃ y_ : List Int, y_ = (y141 ++ y149) := ⟨_, rfl⟩
                replace H : (some y152) = some r := by first | (rw [hy152]; with_reducible exact H) | (have H2_ := (Option.bind_some _ _).symm.trans H; rw [hy152]; with_reducible exact H2_) | (have H2_ := (Option.bind_some _ _).symm.trans H; with_reducible exact H2_) | with_reducible exact H | (rw [hy152]; exact H) | exact H
                have Ny152 := Aside0.mk hy152
                clear hy152
                obtain rfl := Option.some.inj H
                go_enter Tryd.func67, Tryd.ntmps67
                go_wp2_with (first | ((with_reducible refine gate_dst (N := 9) rfl ?_); refine Kd.R_make0 (Kd.int .u8) _ 5 rfl (N := 9) rfl 46 _ _ rfl ji3 rfl rfl Tryd.underlying46 (.int .u8 0) 1 info5 (by omega) (ok := fun _ => True) trivial (of_decide_eq_true (by first | (with_reducible assumption) | assumption)) (by have h_ : ji3 ≤ 281474976710656 := of_decide_eq_true (by first | (with_reducible assumption) | assumption); omega) (Below.refl _ _) (Nat.le_refl _) ?_; intro v139 w18 ho19 hb hg_ hnew_; clear hg_ hnew_; rw [← Ny138.out] at ho19; have n0_ := Aside0.mk (Kd.R_lower ho19 (below_size (by repeat (first | (with_reducible first | exact HB.out | apply below_alloc | apply pw_below_drewN | apply below_drew1) | exact HB.out)))); have n1_ := Aside0.mk (below_step (by repeat (first | (with_reducible first | exact HB.out | apply below_alloc | apply pw_below_drewN | apply below_drew1) | exact HB.out)) hb); clear HB; have HO140 := n0_; have HB := n1_; clear n0_ n1_; clear hb ho19) | ((with_reducible refine gate_builtin (b := .append) (xs := #[.tmp 9, .tmp 10]) rfl ?_); at_builtin; refine Kd.R_append_rows (Kd.int .u8) (w0 := w) w.heap.size rfl (.tmp 9) (.tmp 10) 46 5 (.int .u8 0) 1 rfl Tryd.underlying46 info5 rfl (by decide) (by omega) v139 y138 l0 _ _ _ (fun _ => True) (fun _ => False) rfl rfl ?aO ?aR (fun _ _ h => h) (fun _ h => h.elim) ?aF ?aB ?aS ?aL ?_; (case aR => repeat (first | exact (Kd.C_below HR0.out HB.out) | (with_reducible refine Kd.C_alloc ?_ _) | (with_reducible refine Kd.C_drewN ?_ _) | (with_reducible refine Kd.C_drew ?_))); (case aB => exact (by repeat (first | (with_reducible first | exact HB.out | apply below_alloc | apply pw_below_drewN | apply below_drew1) | exact HB.out))); (case aF => exact (fun _ _ => trivial)); (case aO => exact (by (with_reducible repeat (first | apply Kd.R_alloc | apply Kd.R_drewN | apply Kd.R_drew)); exact HO140.out)); (case aS => exact (below_size (by repeat (first | (with_reducible first | exact HB.out | apply below_alloc | apply pw_below_drewN | apply below_drew1) | exact HB.out)))); (case aL => have := LMc6.out; omega); intro v142 w20 ho hb hg hat; rw [← Ny141.out] at ho; have n0_ := Aside0.mk (hb); have n1_ := Aside0.mk (ho); clear HB; clear HO140; have HB := n0_; have HO143 := n1_; clear n0_ n1_; clear ho hb hg hat) | ((with_reducible refine gate_callee (f := 87) rfl ?_); refine goesL_ (some 13) rfl rfl Tryd.func87 (by kernel_rfl) rfl #[.int .i64 a1] rfl (by (try simp only [List.map_toArray, List.map_cons, List.map_nil]); first | done | rfl | (simp only [List.length_drop, List.length_take]; rfl)) ?_; (with_reducible refine (utf_Good.calls a1 true _ A7.out).mono ?_); rintro e w' ⟨rfl, ⟨nd, rfl⟩⟩; refine ⟨_, rfl, ?_⟩) | ((with_reducible refine gate_callee (f := 89) rfl ?_); refine goesL_ (some 17) rfl rfl Tryd.func89 (by kernel_rfl) rfl #[.int .i64 a1] rfl (by (try simp only [List.map_toArray, List.map_cons, List.map_nil]); first | done | rfl | (simp only [List.length_drop, List.length_take]; rfl)) ?_; (with_reducible refine (utf_size.calls a1 t145 _ A9.out).mono ?_); rintro e w' ⟨rfl, ⟨nd, rfl⟩⟩; refine ⟨_, rfl, ?_⟩) | ((with_reducible refine gate_dst (N := 36) rfl ?_); refine Kd.R_lit (Kd.int .u8) _ 5 ?hg (N := 36) ?hd (xs := ([(Go.bits .or .i64 192 (a1 / 64)) % 256, (Go.bits .or .i64 128 (Go.bits .and .i64 a1 63)) % 256] : List Int)) (inner := [.int .u8 ((Go.bits .or .i64 192 (a1 / 64)) % 256), .int .u8 ((Go.bits .or .i64 128 (Go.bits .and .i64 a1 63)) % 256)]) (ok := fun _ => True) (okp := fun _ => True) ?hr ?hp (fun _ hk => hk) trivial (Below.refl _ _) (Nat.le_refl _) (by simp) ?_; (case hd => rfl); (case hg => rfl); (case hr => first | (go_simp; done) | (go_simp; rfl)); (case hp => exact (Reps.one (show Kd.M (Kd.int .u8) _ _ _ ((Go.bits .or .i64 192 (a1 / 64)) % 256) [.int .u8 ((Go.bits .or .i64 192 (a1 / 64)) % 256)] from rfl) (Reps.one (show Kd.M (Kd.int .u8) _ _ _ ((Go.bits .or .i64 128 (Go.bits .and .i64 a1 63)) % 256) [.int .u8 ((Go.bits .or .i64 128 (Go.bits .and .i64 a1 63)) % 256)] from rfl) (Reps.none _ _)))); intro v150 w21 ho22 hb hg_ hnew_; clear hg_ hnew_; (first | rw [← Ny149.out] at ho22 | (simp only [Int.reduceToNat] at ho22; rw [← Ny149.out] at ho22)); have n0_ := Aside0.mk (Kd.R_elder' (by (with_reducible repeat (first | apply Kd.R_alloc | apply Kd.R_drewN | apply Kd.R_drew)); exact HO143.out) (Kd.R_base ho22) hb); have n1_ := Aside0.mk (Kd.R_lower (Kd.R_new' ho22 (Kd.R_lt (by (with_reducible repeat (first | apply Kd.R_alloc | apply Kd.R_drewN | apply Kd.R_drew)); exact HO143.out))) (below_size (by repeat (first | (with_reducible first | exact HB.out | apply below_alloc | apply pw_below_drewN | apply below_drew1) | exact HB.out)))); have n2_ := Aside0.mk (below_step (by repeat (first | (with_reducible first | exact HB.out | apply below_alloc | apply pw_below_drewN | apply below_drew1) | exact HB.out)) hb); clear HO143; clear HB; have HO143 := n0_; have HO151 := n1_; have HB := n2_; clear n0_ n1_ n2_; clear hb ho22; obtain ⟨Ao24, co24, eo24⟩ := Kd.R_slice HO151.out; subst eo24) | ((with_reducible refine gate_builtin (b := .append) (xs := #[.tmp 27, .tmp 36]) rfl ?_); at_builtin; refine Kd.R_append_rows (Kd.int .u8) (w0 := w) w.heap.size rfl (.tmp 27) (.tmp 36) 46 5 (.int .u8 0) 1 rfl Tryd.underlying46 info5 rfl (by decide) (by omega) v142 y141 y149 _ _ _ (fun k_ => some k_ ≠ (.slice Ao24 y149.length co24 : Value).ownBlock) (fun _ => False) rfl rfl ?aO ?aR (fun _ _ h => h) (fun _ h => h.elim) ?aF ?aB ?aS ?aL ?_; (case aR => repeat (first | exact (Kd.R_reads' HO151.out).2.2 | (with_reducible refine Kd.C_alloc ?_ _) | (with_reducible refine Kd.C_drewN ?_ _) | (with_reducible refine Kd.C_drew ?_))); (case aB => exact (by repeat (first | (with_reducible first | exact HB.out | apply below_alloc | apply pw_below_drewN | apply below_drew1) | exact HB.out))); (case aF => exact (fun k_ hk => Kd.fresh' (Kd.R_lt (by (with_reducible repeat (first | apply Kd.R_alloc | apply Kd.R_drewN | apply Kd.R_drew)); exact HO151.out)) k_ hk)); (case aO => exact (by (with_reducible repeat (first | apply Kd.R_alloc | apply Kd.R_drewN | apply Kd.R_drew)); exact Kd.R_mono HO143.out (fun _ hk => hk.2))); (case aS => exact (below_size (by repeat (first | (with_reducible first | exact HB.out | apply below_alloc | apply pw_below_drewN | apply below_drew1) | exact HB.out)))); (case aL => have := LMc17.out; omega); intro v153 w23 ho hb hg hat; rw [← Ny152.out] at ho; have n0_ := Aside0.mk (Kd.R_after (ok := (fun _ => True)) (by (with_reducible repeat (first | apply Kd.R_alloc | apply Kd.R_drewN | apply Kd.R_drew)); exact HO151.out) hg hat); have n1_ := Aside0.mk (hb); have n2_ := Aside0.mk (ho); clear HO151; clear HB; clear HO143; have HO151 := n0_; have HB := n1_; have HO154 := n2_; clear n0_ n1_ n2_; clear ho hb hg hat))
                go_ret
                exact ⟨_, by first | rfl | (simp [errW_none, errW_some] <;> rfl) | (simp [*, errW_none, errW_some, bne]; done) | (simp only [← hji3]; first | rfl | (simp [errW_none, errW_some] <;> rfl)) | (simp [*, errW_none, errW_some] <;> rfl), by (with_reducible repeat (first | apply Kd.R_alloc | apply Kd.R_drewN | apply Kd.R_drew)); exact Kd.R_mono HO154.out (fun _ hk => trivial), by repeat (first | (with_reducible first | exact HB.out | apply below_alloc | apply pw_below_drewN | apply below_drew1) | exact HB.out)⟩
              · rw [if_neg c17] at H
                exact absurd H (by simp)
            · rw [if_neg c16] at H
              have c16b0 : (t145 == 2) = false := beq_eq_false_iff_ne.mpr c16
              have c16b1 : (t145 != 2) = true := bne_iff_ne.mpr c16
              by_cases c25 : t145 = 3
              · rw [if_pos c25] at H
                have c25b0 : (t145 == 3) = true := beq_iff_eq.mpr c25
                have c25b1 : (t145 != 3) = false := bne_eq_false_iff_eq.mpr c25
                clear c25
                obtain ⟨y155, hy155⟩ : ∃ y_ : List Int, y_ = (([(Go.bits .or .i64 224 (a1 / 4096)) % 256, (Go.bits .or .i64 128 (Go.bits .and .i64 (a1 / 64) 63)) % 256, (Go.bits .or .i64 128 (Go.bits .and .i64 a1 63)) % 256] : List Int)) := ⟨_, rfl⟩
                replace H : (if y141.length + y155.length < 140737488355328 then (some (y141 ++ y155)) else (none)) = some r := by first | (rw [hy155]; with_reducible exact H) | (have H2_ := (Option.bind_some _ _).symm.trans H; rw [hy155]; with_reducible exact H2_) | (have H2_ := (Option.bind_some _ _).symm.trans H; with_reducible exact H2_) | with_reducible exact H | (rw [hy155]; exact H) | exact H
                have Ny155 := Aside0.mk hy155
                clear hy155
                by_cases c26 : y141.length + y155.length < 140737488355328
                · rw [if_pos c26] at H
                  have LMc26 := Aside0.mk c26
                  clear c26
                  obtain ⟨y158, hy158⟩ : ∃ y_ : List Int, y_ = (y141 ++ y155) := ⟨_, rfl⟩
                  replace H : (some y158) = some r := by first | (rw [hy158]; with_reducible exact H) | (have H2_ := (Option.bind_some _ _).symm.trans H; rw [hy158]; with_reducible exact H2_) | (have H2_ := (Option.bind_some _ _).symm.trans H; with_reducible exact H2_) | with_reducible exact H | (rw [hy158]; exact H) | exact H
                  have Ny158 := Aside0.mk hy158
                  clear hy158
                  obtain rfl := Option.some.inj H
                  go_enter Tryd.func67, Tryd.ntmps67
                  go_wp2_with (first | ((with_reducible refine gate_dst (N := 9) rfl ?_); refine Kd.R_make0 (Kd.int .u8) _ 5 rfl (N := 9) rfl 46 _ _ rfl ji3 rfl rfl Tryd.underlying46 (.int .u8 0) 1 info5 (by omega) (ok := fun _ => True) trivial (of_decide_eq_true (by first | (with_reducible assumption) | assumption)) (by have h_ : ji3 ≤ 281474976710656 := of_decide_eq_true (by first | (with_reducible assumption) | assumption); omega) (Below.refl _ _) (Nat.le_refl _) ?_; intro v139 w27 ho28 hb hg_ hnew_; clear hg_ hnew_; rw [← Ny138.out] at ho28; have n0_ := Aside0.mk (Kd.R_lower ho28 (below_size (by repeat (first | (with_reducible first | exact HB.out | apply below_alloc | apply pw_below_drewN | apply below_drew1) | exact HB.out)))); have n1_ := Aside0.mk (below_step (by repeat (first | (with_reducible first | exact HB.out | apply below_alloc | apply pw_below_drewN | apply below_drew1) | exact HB.out)) hb); clear HB; have HO140 := n0_; have HB := n1_; clear n0_ n1_; clear hb ho28) | ((with_reducible refine gate_builtin (b := .append) (xs := #[.tmp 9, .tmp 10]) rfl ?_); at_builtin; refine Kd.R_append_rows (Kd.int .u8) (w0 := w) w.heap.size rfl (.tmp 9) (.tmp 10) 46 5 (.int .u8 0) 1 rfl Tryd.underlying46 info5 rfl (by decide) (by omega) v139 y138 l0 _ _ _ (fun _ => True) (fun _ => False) rfl rfl ?aO ?aR (fun _ _ h => h) (fun _ h => h.elim) ?aF ?aB ?aS ?aL ?_; (case aR => repeat (first | exact (Kd.C_below HR0.out HB.out) | (with_reducible refine Kd.C_alloc ?_ _) | (with_reducible refine Kd.C_drewN ?_ _) | (with_reducible refine Kd.C_drew ?_))); (case aB => exact (by repeat (first | (with_reducible first | exact HB.out | apply below_alloc | apply pw_below_drewN | apply below_drew1) | exact HB.out))); (case aF => exact (fun _ _ => trivial)); (case aO => exact (by (with_reducible repeat (first | apply Kd.R_alloc | apply Kd.R_drewN | apply Kd.R_drew)); exact HO140.out)); (case aS => exact (below_size (by repeat (first | (with_reducible first | exact HB.out | apply below_alloc | apply pw_below_drewN | apply below_drew1) | exact HB.out)))); (case aL => have := LMc6.out; omega); intro v142 w29 ho hb hg hat; rw [← Ny141.out] at ho; have n0_ := Aside0.mk (hb); have n1_ := Aside0.mk (ho); clear HB; clear HO140; have HB := n0_; have HO143 := n1_; clear n0_ n1_; clear ho hb hg hat) | ((with_reducible refine gate_callee (f := 87) rfl ?_); refine goesL_ (some 13) rfl rfl Tryd.func87 (by kernel_rfl) rfl #[.int .i64 a1] rfl (by (try simp only [List.map_toArray, List.map_cons, List.map_nil]); first | done | rfl | (simp only [List.length_drop, List.length_take]; rfl)) ?_; (with_reducible refine (utf_Good.calls a1 true _ A7.out).mono ?_); rintro e w' ⟨rfl, ⟨nd, rfl⟩⟩; refine ⟨_, rfl, ?_⟩) | ((with_reducible refine gate_callee (f := 89) rfl ?_); refine goesL_ (some 17) rfl rfl Tryd.func89 (by kernel_rfl) rfl #[.int .i64 a1] rfl (by (try simp only [List.map_toArray, List.map_cons, List.map_nil]); first | done | rfl | (simp only [List.length_drop, List.length_take]; rfl)) ?_; (with_reducible refine (utf_size.calls a1 t145 _ A9.out).mono ?_); rintro e w' ⟨rfl, ⟨nd, rfl⟩⟩; refine ⟨_, rfl, ?_⟩) | ((with_reducible refine gate_dst (N := 54) rfl ?_); refine Kd.R_lit (Kd.int .u8) _ 5 ?hg (N := 54) ?hd (xs := ([(Go.bits .or .i64 224 (a1 / 4096)) % 256, (Go.bits .or .i64 128 (Go.bits .and .i64 (a1 / 64) 63)) % 256, (Go.bits .or .i64 128 (Go.bits .and .i64 a1 63)) % 256] : List Int)) (inner := [.int .u8 ((Go.bits .or .i64 224 (a1 / 4096)) % 256), .int .u8 ((Go.bits .or .i64 128 (Go.bits .and .i64 (a1 / 64) 63)) % 256), .int .u8 ((Go.bits .or .i64 128 (Go.bits .and .i64 a1 63)) % 256)]) (ok := fun _ => True) (okp := fun _ => True) ?hr ?hp (fun _ hk => hk) trivial (Below.refl _ _) (Nat.le_refl _) (by simp) ?_; (case hd => rfl); (case hg => rfl); (case hr => first | (go_simp; done) | (go_simp; rfl)); (case hp => exact (Reps.one (show Kd.M (Kd.int .u8) _ _ _ ((Go.bits .or .i64 224 (a1 / 4096)) % 256) [.int .u8 ((Go.bits .or .i64 224 (a1 / 4096)) % 256)] from rfl) (Reps.one (show Kd.M (Kd.int .u8) _ _ _ ((Go.bits .or .i64 128 (Go.bits .and .i64 (a1 / 64) 63)) % 256) [.int .u8 ((Go.bits .or .i64 128 (Go.bits .and .i64 (a1 / 64) 63)) % 256)] from rfl) (Reps.one (show Kd.M (Kd.int .u8) _ _ _ ((Go.bits .or .i64 128 (Go.bits .and .i64 a1 63)) % 256) [.int .u8 ((Go.bits .or .i64 128 (Go.bits .and .i64 a1 63)) % 256)] from rfl) (Reps.none _ _))))); intro v156 w30 ho31 hb hg_ hnew_; clear hg_ hnew_; (first | rw [← Ny155.out] at ho31 | (simp only [Int.reduceToNat] at ho31; rw [← Ny155.out] at ho31)); have n0_ := Aside0.mk (Kd.R_elder' (by (with_reducible repeat (first | apply Kd.R_alloc | apply Kd.R_drewN | apply Kd.R_drew)); exact HO143.out) (Kd.R_base ho31) hb); have n1_ := Aside0.mk (Kd.R_lower (Kd.R_new' ho31 (Kd.R_lt (by (with_reducible repeat (first | apply Kd.R_alloc | apply Kd.R_drewN | apply Kd.R_drew)); exact HO143.out))) (below_size (by repeat (first | (with_reducible first | exact HB.out | apply below_alloc | apply pw_below_drewN | apply below_drew1) | exact HB.out)))); have n2_ := Aside0.mk (below_step (by repeat (first | (with_reducible first | exact HB.out | apply below_alloc | apply pw_below_drewN | apply below_drew1) | exact HB.out)) hb); clear HO143; clear HB; have HO143 := n0_; have HO157 := n1_; have HB := n2_; clear n0_ n1_ n2_; clear hb ho31; obtain ⟨Ao33, co33, eo33⟩ := Kd.R_slice HO157.out; subst eo33) | ((with_reducible refine gate_builtin (b := .append) (xs := #[.tmp 40, .tmp 54]) rfl ?_); at_builtin; refine Kd.R_append_rows (Kd.int .u8) (w0 := w) w.heap.size rfl (.tmp 40) (.tmp 54) 46 5 (.int .u8 0) 1 rfl Tryd.underlying46 info5 rfl (by decide) (by omega) v142 y141 y155 _ _ _ (fun k_ => some k_ ≠ (.slice Ao33 y155.length co33 : Value).ownBlock) (fun _ => False) rfl rfl ?aO ?aR (fun _ _ h => h) (fun _ h => h.elim) ?aF ?aB ?aS ?aL ?_; (case aR => repeat (first | exact (Kd.R_reads' HO157.out).2.2 | (with_reducible refine Kd.C_alloc ?_ _) | (with_reducible refine Kd.C_drewN ?_ _) | (with_reducible refine Kd.C_drew ?_))); (case aB => exact (by repeat (first | (with_reducible first | exact HB.out | apply below_alloc | apply pw_below_drewN | apply below_drew1) | exact HB.out))); (case aF => exact (fun k_ hk => Kd.fresh' (Kd.R_lt (by (with_reducible repeat (first | apply Kd.R_alloc | apply Kd.R_drewN | apply Kd.R_drew)); exact HO157.out)) k_ hk)); (case aO => exact (by (with_reducible repeat (first | apply Kd.R_alloc | apply Kd.R_drewN | apply Kd.R_drew)); exact Kd.R_mono HO143.out (fun _ hk => hk.2))); (case aS => exact (below_size (by repeat (first | (with_reducible first | exact HB.out | apply below_alloc | apply pw_below_drewN | apply below_drew1) | exact HB.out)))); (case aL => have := LMc26.out; omega); intro v159 w32 ho hb hg hat; rw [← Ny158.out] at ho; have n0_ := Aside0.mk (Kd.R_after (ok := (fun _ => True)) (by (with_reducible repeat (first | apply Kd.R_alloc | apply Kd.R_drewN | apply Kd.R_drew)); exact HO157.out) hg hat); have n1_ := Aside0.mk (hb); have n2_ := Aside0.mk (ho); clear HO157; clear HB; clear HO143; have HO157 := n0_; have HB := n1_; have HO160 := n2_; clear n0_ n1_ n2_; clear ho hb hg hat))
                  go_ret
                  exact ⟨_, by first | rfl | (simp [errW_none, errW_some] <;> rfl) | (simp [*, errW_none, errW_some, bne]; done) | (simp only [← hji3]; first | rfl | (simp [errW_none, errW_some] <;> rfl)) | (simp [*, errW_none, errW_some] <;> rfl), by (with_reducible repeat (first | apply Kd.R_alloc | apply Kd.R_drewN | apply Kd.R_drew)); exact Kd.R_mono HO160.out (fun _ hk => trivial), by repeat (first | (with_reducible first | exact HB.out | apply below_alloc | apply pw_below_drewN | apply below_drew1) | exact HB.out)⟩
                · rw [if_neg c26] at H
                  exact absurd H (by simp)
              · rw [if_neg c25] at H
                have c25b0 : (t145 == 3) = false := beq_eq_false_iff_ne.mpr c25
                have c25b1 : (t145 != 3) = true := bne_iff_ne.mpr c25
                obtain ⟨y161, hy161⟩ : ∃ y_ : List Int, y_ = (([(Go.bits .or .i64 240 (a1 / 262144)) % 256, (Go.bits .or .i64 128 (Go.bits .and .i64 (a1 / 4096) 63)) % 256, (Go.bits .or .i64 128 (Go.bits .and .i64 (a1 / 64) 63)) % 256, (Go.bits .or .i64 128 (Go.bits .and .i64 a1 63)) % 256] : List Int)) := ⟨_, rfl⟩
                replace H : (if y141.length + y161.length < 140737488355328 then (some (y141 ++ y161)) else (none)) = some r := by first | (rw [hy161]; with_reducible exact H) | (have H2_ := (Option.bind_some _ _).symm.trans H; rw [hy161]; with_reducible exact H2_) | (have H2_ := (Option.bind_some _ _).symm.trans H; with_reducible exact H2_) | with_reducible exact H | (rw [hy161]; exact H) | exact H
                have Ny161 := Aside0.mk hy161
                clear hy161
                by_cases c34 : y141.length + y161.length < 140737488355328
                · rw [if_pos c34] at H
                  have LMc34 := Aside0.mk c34
                  clear c34
                  obtain ⟨y164, hy164⟩ : ∃ y_ : List Int, y_ = (y141 ++ y161) := ⟨_, rfl⟩
                  replace H : (some y164) = some r := by first | (rw [hy164]; with_reducible exact H) | (have H2_ := (Option.bind_some _ _).symm.trans H; rw [hy164]; with_reducible exact H2_) | (have H2_ := (Option.bind_some _ _).symm.trans H; with_reducible exact H2_) | with_reducible exact H | (rw [hy164]; exact H) | exact H
                  have Ny164 := Aside0.mk hy164
                  clear hy164
                  obtain rfl := Option.some.inj H
                  go_enter Tryd.func67, Tryd.ntmps67
                  go_wp2_with (first | ((with_reducible refine gate_dst (N := 9) rfl ?_); refine Kd.R_make0 (Kd.int .u8) _ 5 rfl (N := 9) rfl 46 _ _ rfl ji3 rfl rfl Tryd.underlying46 (.int .u8 0) 1 info5 (by omega) (ok := fun _ => True) trivial (of_decide_eq_true (by first | (with_reducible assumption) | assumption)) (by have h_ : ji3 ≤ 281474976710656 := of_decide_eq_true (by first | (with_reducible assumption) | assumption); omega) (Below.refl _ _) (Nat.le_refl _) ?_; intro v139 w35 ho36 hb hg_ hnew_; clear hg_ hnew_; rw [← Ny138.out] at ho36; have n0_ := Aside0.mk (Kd.R_lower ho36 (below_size (by repeat (first | (with_reducible first | exact HB.out | apply below_alloc | apply pw_below_drewN | apply below_drew1) | exact HB.out)))); have n1_ := Aside0.mk (below_step (by repeat (first | (with_reducible first | exact HB.out | apply below_alloc | apply pw_below_drewN | apply below_drew1) | exact HB.out)) hb); clear HB; have HO140 := n0_; have HB := n1_; clear n0_ n1_; clear hb ho36) | ((with_reducible refine gate_builtin (b := .append) (xs := #[.tmp 9, .tmp 10]) rfl ?_); at_builtin; refine Kd.R_append_rows (Kd.int .u8) (w0 := w) w.heap.size rfl (.tmp 9) (.tmp 10) 46 5 (.int .u8 0) 1 rfl Tryd.underlying46 info5 rfl (by decide) (by omega) v139 y138 l0 _ _ _ (fun _ => True) (fun _ => False) rfl rfl ?aO ?aR (fun _ _ h => h) (fun _ h => h.elim) ?aF ?aB ?aS ?aL ?_; (case aR => repeat (first | exact (Kd.C_below HR0.out HB.out) | (with_reducible refine Kd.C_alloc ?_ _) | (with_reducible refine Kd.C_drewN ?_ _) | (with_reducible refine Kd.C_drew ?_))); (case aB => exact (by repeat (first | (with_reducible first | exact HB.out | apply below_alloc | apply pw_below_drewN | apply below_drew1) | exact HB.out))); (case aF => exact (fun _ _ => trivial)); (case aO => exact (by (with_reducible repeat (first | apply Kd.R_alloc | apply Kd.R_drewN | apply Kd.R_drew)); exact HO140.out)); (case aS => exact (below_size (by repeat (first | (with_reducible first | exact HB.out | apply below_alloc | apply pw_below_drewN | apply below_drew1) | exact HB.out)))); (case aL => have := LMc6.out; omega); intro v142 w37 ho hb hg hat; rw [← Ny141.out] at ho; have n0_ := Aside0.mk (hb); have n1_ := Aside0.mk (ho); clear HB; clear HO140; have HB := n0_; have HO143 := n1_; clear n0_ n1_; clear ho hb hg hat) | ((with_reducible refine gate_callee (f := 87) rfl ?_); refine goesL_ (some 13) rfl rfl Tryd.func87 (by kernel_rfl) rfl #[.int .i64 a1] rfl (by (try simp only [List.map_toArray, List.map_cons, List.map_nil]); first | done | rfl | (simp only [List.length_drop, List.length_take]; rfl)) ?_; (with_reducible refine (utf_Good.calls a1 true _ A7.out).mono ?_); rintro e w' ⟨rfl, ⟨nd, rfl⟩⟩; refine ⟨_, rfl, ?_⟩) | ((with_reducible refine gate_callee (f := 89) rfl ?_); refine goesL_ (some 17) rfl rfl Tryd.func89 (by kernel_rfl) rfl #[.int .i64 a1] rfl (by (try simp only [List.map_toArray, List.map_cons, List.map_nil]); first | done | rfl | (simp only [List.length_drop, List.length_take]; rfl)) ?_; (with_reducible refine (utf_size.calls a1 t145 _ A9.out).mono ?_); rintro e w' ⟨rfl, ⟨nd, rfl⟩⟩; refine ⟨_, rfl, ?_⟩) | ((with_reducible refine gate_dst (N := 75) rfl ?_); refine Kd.R_lit (Kd.int .u8) _ 5 ?hg (N := 75) ?hd (xs := ([(Go.bits .or .i64 240 (a1 / 262144)) % 256, (Go.bits .or .i64 128 (Go.bits .and .i64 (a1 / 4096) 63)) % 256, (Go.bits .or .i64 128 (Go.bits .and .i64 (a1 / 64) 63)) % 256, (Go.bits .or .i64 128 (Go.bits .and .i64 a1 63)) % 256] : List Int)) (inner := [.int .u8 ((Go.bits .or .i64 240 (a1 / 262144)) % 256), .int .u8 ((Go.bits .or .i64 128 (Go.bits .and .i64 (a1 / 4096) 63)) % 256), .int .u8 ((Go.bits .or .i64 128 (Go.bits .and .i64 (a1 / 64) 63)) % 256), .int .u8 ((Go.bits .or .i64 128 (Go.bits .and .i64 a1 63)) % 256)]) (ok := fun _ => True) (okp := fun _ => True) ?hr ?hp (fun _ hk => hk) trivial (Below.refl _ _) (Nat.le_refl _) (by simp) ?_; (case hd => rfl); (case hg => rfl); (case hr => first | (go_simp; done) | (go_simp; rfl)); (case hp => exact (Reps.one (show Kd.M (Kd.int .u8) _ _ _ ((Go.bits .or .i64 240 (a1 / 262144)) % 256) [.int .u8 ((Go.bits .or .i64 240 (a1 / 262144)) % 256)] from rfl) (Reps.one (show Kd.M (Kd.int .u8) _ _ _ ((Go.bits .or .i64 128 (Go.bits .and .i64 (a1 / 4096) 63)) % 256) [.int .u8 ((Go.bits .or .i64 128 (Go.bits .and .i64 (a1 / 4096) 63)) % 256)] from rfl) (Reps.one (show Kd.M (Kd.int .u8) _ _ _ ((Go.bits .or .i64 128 (Go.bits .and .i64 (a1 / 64) 63)) % 256) [.int .u8 ((Go.bits .or .i64 128 (Go.bits .and .i64 (a1 / 64) 63)) % 256)] from rfl) (Reps.one (show Kd.M (Kd.int .u8) _ _ _ ((Go.bits .or .i64 128 (Go.bits .and .i64 a1 63)) % 256) [.int .u8 ((Go.bits .or .i64 128 (Go.bits .and .i64 a1 63)) % 256)] from rfl) (Reps.none _ _)))))); intro v162 w38 ho39 hb hg_ hnew_; clear hg_ hnew_; (first | rw [← Ny161.out] at ho39 | (simp only [Int.reduceToNat] at ho39; rw [← Ny161.out] at ho39)); have n0_ := Aside0.mk (Kd.R_elder' (by (with_reducible repeat (first | apply Kd.R_alloc | apply Kd.R_drewN | apply Kd.R_drew)); exact HO143.out) (Kd.R_base ho39) hb); have n1_ := Aside0.mk (Kd.R_lower (Kd.R_new' ho39 (Kd.R_lt (by (with_reducible repeat (first | apply Kd.R_alloc | apply Kd.R_drewN | apply Kd.R_drew)); exact HO143.out))) (below_size (by repeat (first | (with_reducible first | exact HB.out | apply below_alloc | apply pw_below_drewN | apply below_drew1) | exact HB.out)))); have n2_ := Aside0.mk (below_step (by repeat (first | (with_reducible first | exact HB.out | apply below_alloc | apply pw_below_drewN | apply below_drew1) | exact HB.out)) hb); clear HO143; clear HB; have HO143 := n0_; have HO163 := n1_; have HB := n2_; clear n0_ n1_ n2_; clear hb ho39; obtain ⟨Ao41, co41, eo41⟩ := Kd.R_slice HO163.out; subst eo41) | ((with_reducible refine gate_builtin (b := .append) (xs := #[.tmp 56, .tmp 75]) rfl ?_); at_builtin; refine Kd.R_append_rows (Kd.int .u8) (w0 := w) w.heap.size rfl (.tmp 56) (.tmp 75) 46 5 (.int .u8 0) 1 rfl Tryd.underlying46 info5 rfl (by decide) (by omega) v142 y141 y161 _ _ _ (fun k_ => some k_ ≠ (.slice Ao41 y161.length co41 : Value).ownBlock) (fun _ => False) rfl rfl ?aO ?aR (fun _ _ h => h) (fun _ h => h.elim) ?aF ?aB ?aS ?aL ?_; (case aR => repeat (first | exact (Kd.R_reads' HO163.out).2.2 | (with_reducible refine Kd.C_alloc ?_ _) | (with_reducible refine Kd.C_drewN ?_ _) | (with_reducible refine Kd.C_drew ?_))); (case aB => exact (by repeat (first | (with_reducible first | exact HB.out | apply below_alloc | apply pw_below_drewN | apply below_drew1) | exact HB.out))); (case aF => exact (fun k_ hk => Kd.fresh' (Kd.R_lt (by (with_reducible repeat (first | apply Kd.R_alloc | apply Kd.R_drewN | apply Kd.R_drew)); exact HO163.out)) k_ hk)); (case aO => exact (by (with_reducible repeat (first | apply Kd.R_alloc | apply Kd.R_drewN | apply Kd.R_drew)); exact Kd.R_mono HO143.out (fun _ hk => hk.2))); (case aS => exact (below_size (by repeat (first | (with_reducible first | exact HB.out | apply below_alloc | apply pw_below_drewN | apply below_drew1) | exact HB.out)))); (case aL => have := LMc34.out; omega); intro v165 w40 ho hb hg hat; rw [← Ny164.out] at ho; have n0_ := Aside0.mk (Kd.R_after (ok := (fun _ => True)) (by (with_reducible repeat (first | apply Kd.R_alloc | apply Kd.R_drewN | apply Kd.R_drew)); exact HO163.out) hg hat); have n1_ := Aside0.mk (hb); have n2_ := Aside0.mk (ho); clear HO163; clear HB; clear HO143; have HO163 := n0_; have HB := n1_; have HO166 := n2_; clear n0_ n1_ n2_; clear ho hb hg hat))
                  go_ret
                  exact ⟨_, by first | rfl | (simp [errW_none, errW_some] <;> rfl) | (simp [*, errW_none, errW_some, bne]; done) | (simp only [← hji3]; first | rfl | (simp [errW_none, errW_some] <;> rfl)) | (simp [*, errW_none, errW_some] <;> rfl), by (with_reducible repeat (first | apply Kd.R_alloc | apply Kd.R_drewN | apply Kd.R_drew)); exact Kd.R_mono HO166.out (fun _ hk => trivial), by repeat (first | (with_reducible first | exact HB.out | apply below_alloc | apply pw_below_drewN | apply below_drew1) | exact HB.out)⟩
                · rw [if_neg c34] at H
                  exact absurd H (by simp)
        · replace c8 := Bool.eq_false_iff.mpr c8
          subst c8
          have H1 : (some y141) = some r := by rw [if_neg (show ¬ (false = true) by decide)] at H; exact H
          clear H
          have H := H1
          clear H1
          obtain rfl := Option.some.inj H
          go_enter Tryd.func67, Tryd.ntmps67
          go_wp2_with (first | ((with_reducible refine gate_dst (N := 9) rfl ?_); refine Kd.R_make0 (Kd.int .u8) _ 5 rfl (N := 9) rfl 46 _ _ rfl ji3 rfl rfl Tryd.underlying46 (.int .u8 0) 1 info5 (by omega) (ok := fun _ => True) trivial (of_decide_eq_true (by first | (with_reducible assumption) | assumption)) (by have h_ : ji3 ≤ 281474976710656 := of_decide_eq_true (by first | (with_reducible assumption) | assumption); omega) (Below.refl _ _) (Nat.le_refl _) ?_; intro v139 w42 ho43 hb hg_ hnew_; clear hg_ hnew_; rw [← Ny138.out] at ho43; have n0_ := Aside0.mk (Kd.R_lower ho43 (below_size (by repeat (first | (with_reducible first | exact HB.out | apply below_alloc | apply pw_below_drewN | apply below_drew1) | exact HB.out)))); have n1_ := Aside0.mk (below_step (by repeat (first | (with_reducible first | exact HB.out | apply below_alloc | apply pw_below_drewN | apply below_drew1) | exact HB.out)) hb); clear HB; have HO140 := n0_; have HB := n1_; clear n0_ n1_; clear hb ho43) | ((with_reducible refine gate_builtin (b := .append) (xs := #[.tmp 9, .tmp 10]) rfl ?_); at_builtin; refine Kd.R_append_rows (Kd.int .u8) (w0 := w) w.heap.size rfl (.tmp 9) (.tmp 10) 46 5 (.int .u8 0) 1 rfl Tryd.underlying46 info5 rfl (by decide) (by omega) v139 y138 l0 _ _ _ (fun _ => True) (fun _ => False) rfl rfl ?aO ?aR (fun _ _ h => h) (fun _ h => h.elim) ?aF ?aB ?aS ?aL ?_; (case aR => repeat (first | exact (Kd.C_below HR0.out HB.out) | (with_reducible refine Kd.C_alloc ?_ _) | (with_reducible refine Kd.C_drewN ?_ _) | (with_reducible refine Kd.C_drew ?_))); (case aB => exact (by repeat (first | (with_reducible first | exact HB.out | apply below_alloc | apply pw_below_drewN | apply below_drew1) | exact HB.out))); (case aF => exact (fun _ _ => trivial)); (case aO => exact (by (with_reducible repeat (first | apply Kd.R_alloc | apply Kd.R_drewN | apply Kd.R_drew)); exact HO140.out)); (case aS => exact (below_size (by repeat (first | (with_reducible first | exact HB.out | apply below_alloc | apply pw_below_drewN | apply below_drew1) | exact HB.out)))); (case aL => have := LMc6.out; omega); intro v142 w44 ho hb hg hat; rw [← Ny141.out] at ho; have n0_ := Aside0.mk (hb); have n1_ := Aside0.mk (ho); clear HB; clear HO140; have HB := n0_; have HO143 := n1_; clear n0_ n1_; clear ho hb hg hat) | ((with_reducible refine gate_callee (f := 87) rfl ?_); refine goesL_ (some 13) rfl rfl Tryd.func87 (by kernel_rfl) rfl #[.int .i64 a1] rfl (by (try simp only [List.map_toArray, List.map_cons, List.map_nil]); first | done | rfl | (simp only [List.length_drop, List.length_take]; rfl)) ?_; (with_reducible refine (utf_Good.calls a1 false _ A7.out).mono ?_); rintro e w' ⟨rfl, ⟨nd, rfl⟩⟩; refine ⟨_, rfl, ?_⟩))
          go_ret
          exact ⟨_, by first | rfl | (simp [errW_none, errW_some] <;> rfl) | (simp [*, errW_none, errW_some, bne]; done) | (simp only [← hji3]; first | rfl | (simp [errW_none, errW_some] <;> rfl)) | (simp [*, errW_none, errW_some] <;> rfl), by (with_reducible repeat (first | apply Kd.R_alloc | apply Kd.R_drewN | apply Kd.R_drew)); exact HO143.out, by repeat (first | (with_reducible first | exact HB.out | apply below_alloc | apply pw_below_drewN | apply below_drew1) | exact HB.out)⟩
      · rw [if_neg c6] at H
        exact absurd H (by simp)
    · rw [if_neg c5] at H
      exact absurd H (by simp)
  · rw [if_neg c4] at H
    exact absurd H (by simp)
end Go.Proofs.YtoanbmggffkmgaaDoor.P
end
section
namespace Go.Proofs.YtoanbmggffkmgaaDoor.La
open Go.RowKit Go.Proofs.YtoanbmggffkmgaaDoor.P Go.Proofs.YtoanbmggffkmgaaDoorW.PrintWords Go.Proofs.YtoanbmggffkmgaaDoorW.PrintLast Go.Proofs.YtoanbmggffkmgaaDoorW.PrintMore
theorem wraps_i64 (n : Int) (h₀ : 0 ≤ n) (h₁ : n < 2 ^ 62) : IntKind.i64.wrap n = n := by rw [IntKind.wrap_i64]; omega
theorem i64_or6 {x y : Int} (hx₀ : 0 ≤ x) (hx : x % 64 = 0) (hx₁ : x < 2 ^ 62) (h₀ : 0 ≤ y) (h₁ : y < 64) : Go.bits .or .i64 x y = x + y :=
  bits_join .i64 62 (by decide) wraps_i64 6 x y hx₀ hx hx₁ h₀ h₁ (by omega)
theorem i64_and63 {x : Int} (h₀ : 0 ≤ x) (h₁ : x < 2 ^ 62) : Go.bits .and .i64 x 63 = x % 64 := bits_mask .i64 62 (by decide) wraps_i64 6 (by decide) x h₀ h₁
theorem i64_or128 {y : Int} (h₀ : 0 ≤ y) (h₁ : y < 64) : Go.bits .or .i64 128 y = 128 + y := bits_join .i64 62 (by decide) wraps_i64 6 128 y (by decide) (by decide) (by decide) h₀ h₁ (by omega)
theorem i64_or192 {y : Int} (h₀ : 0 ≤ y) (h₁ : y < 32) : Go.bits .or .i64 192 y = 192 + y := bits_join .i64 62 (by decide) wraps_i64 5 192 y (by decide) (by decide) (by decide) h₀ h₁ (by omega)
theorem i64_or224 {y : Int} (h₀ : 0 ≤ y) (h₁ : y < 16) : Go.bits .or .i64 224 y = 224 + y := bits_join .i64 62 (by decide) wraps_i64 4 224 y (by decide) (by decide) (by decide) h₀ h₁ (by omega)
theorem i64_or240 {y : Int} (h₀ : 0 ≤ y) (h₁ : y < 8) : Go.bits .or .i64 240 y = 240 + y := bits_join .i64 62 (by decide) wraps_i64 3 240 y (by decide) (by decide) (by decide) h₀ h₁ (by omega)
theorem byte_cont : ∀ b : Fin 256, decide (Go.bits .and .u8 (b.val : Int) 192 = 128) = decide (128 ≤ b.val ∧ b.val < 192) := by decide +kernel
theorem cont_iff {b : Int} (h0 : 0 ≤ b) (h1 : b < 256) : Go.bits .and .u8 b 192 = 128 ↔ 128 ≤ b ∧ b < 192 := by
  obtain ⟨n, rfl⟩ := Int.eq_ofNat_of_zero_le h0
  have := decide_eq_decide.1 (byte_cont ⟨n, by omega⟩)
  simp only at this
  rw [this]
  omega
theorem byte_not : ∀ b : Fin 256, (192 ≤ b.val → b.val < 224 → Go.bits .andNot .u8 (b.val : Int) 192 = (b.val : Int) - 192) ∧ (224 ≤ b.val → b.val < 240 → Go.bits .andNot .u8 (b.val : Int) 224 = (b.val : Int) - 224) ∧ (240 ≤ b.val → b.val < 248 → Go.bits .andNot .u8 (b.val : Int) 240 = (b.val : Int) - 240) := by
  decide +kernel
theorem not192 {b : Int} (h0 : 192 ≤ b) (h1 : b < 224) : Go.bits .andNot .u8 b 192 = b - 192 := by
  obtain ⟨n, rfl⟩ := Int.eq_ofNat_of_zero_le (show 0 ≤ b by omega)
  exact (byte_not ⟨n, by omega⟩).1 (by simp only; omega) (by simp only; omega)
theorem not224 {b : Int} (h0 : 224 ≤ b) (h1 : b < 240) : Go.bits .andNot .u8 b 224 = b - 224 := by
  obtain ⟨n, rfl⟩ := Int.eq_ofNat_of_zero_le (show 0 ≤ b by omega)
  exact (byte_not ⟨n, by omega⟩).2.1 (by simp only; omega) (by simp only; omega)
theorem not240 {b : Int} (h0 : 240 ≤ b) (h1 : b < 248) : Go.bits .andNot .u8 b 240 = b - 240 := by
  obtain ⟨n, rfl⟩ := Int.eq_ofNat_of_zero_le (show 0 ≤ b by omega)
  exact (byte_not ⟨n, by omega⟩).2.2 (by simp only; omega) (by simp only; omega)
theorem good_eq (r : Int) : utf_Good.f r = some (decide (good r)) := by
  unfold utf_Good.f
  split
  · split
    · split
      · rw [decide_eq_true (good_iff.2 (by omega))]
      · exact congrArg some (decide_eq_decide.2 (by rw [good_iff]; omega))
    · rw [decide_eq_false (fun h => by rw [good_iff] at h; omega)]
  · rw [decide_eq_false (fun h => by rw [good_iff] at h; omega)]
def siz (r : Int) : Int := if r < 128 then 1 else if r < 2048 then 2 else if r < 65536 then 3 else 4
theorem size_eq (r : Int) : utf_size.f r = some (siz r) := by
  unfold utf_size.f siz
  (repeat' split) <;> rfl
theorem begins_eq {b : Int} (h0 : 0 ≤ b) (h1 : b < 256) : utf_begins.f b = some (if b < 128 then (1, b) else if b < 192 then (0, 0) else if b < 224 then (2, b - 192) else if b < 240 then (3, b - 224) else if b < 248 then (4, b - 240) else (0, 0)) := by
  unfold utf_begins.f
  split
  · rw [wrap_id (by omega) (by omega)]
  · split
    · rfl
    · split
      · rw [not192 (by omega) (by omega), wrap_id (by omega) (by omega)]
      · split
        · rw [not224 (by omega) (by omega), wrap_id (by omega) (by omega)]
        · split
          · rw [not240 (by omega) (by omega), wrap_id (by omega) (by omega)]
          · rfl
theorem siz1 {r : Int} : siz r = 1 ↔ r < 128 := by unfold siz; (repeat' split) <;> omega
theorem siz2 {r : Int} : siz r = 2 ↔ 128 ≤ r ∧ r < 2048 := by unfold siz; (repeat' split) <;> omega
theorem siz3 {r : Int} : siz r = 3 ↔ 2048 ≤ r ∧ r < 65536 := by unfold siz; (repeat' split) <;> omega
theorem siz4 {r : Int} : siz r = 4 ↔ 65536 ≤ r := by unfold siz; (repeat' split) <;> omega
def ends (r n : Int) : Int × Int := if good r ∧ siz r = n then (r, n) else (0, 0)
theorem l0_end (k : Nat) (s : ByteArray) {n r i : Int} (h : ¬ i < n) : utf_Take.l0 (k + 1) s n r i = some (ends r n) := by
  simp only [utf_Take.l0]
  rw [if_neg h, good_eq, Option.bind_some, size_eq, Option.bind_some]
  unfold ends
  by_cases hg : good r
  · rw [if_pos (decide_eq_true hg)]
    by_cases hs : siz r = n
    · rw [if_pos hs, if_pos ⟨hg, hs⟩]
    · rw [if_neg hs, if_neg (fun h => hs h.2)]
  · rw [if_neg (by simpa using hg), if_neg (fun h => hg h.1)]
theorem l0_bad (k : Nat) (s : ByteArray) {n r i : Int} (h : i < n) (h0 : 0 ≤ i) (hs : i < s.size) (hb : ¬ (128 ≤ bt s i ∧ bt s i < 192)) : utf_Take.l0 (k + 1) s n r i = some (0, 0) := by
  have hr := bt_range s i
  simp only [utf_Take.l0]
  rw [if_pos h, if_pos h0, if_pos hs, if_neg (fun he => hb ((cont_iff (by omega) (by omega)).1 he))]
theorem l0_more (k : Nat) (s : ByteArray) {n r i : Int} (h : i < n) (h0 : 0 ≤ i) (hs : i < s.size) (hb : 128 ≤ bt s i ∧ bt s i < 192) (r0 : 0 ≤ r) (r1 : r < 2097152) (i1 : i < 10) : utf_Take.l0 (k + 1) s n r i = utf_Take.l0 k s n (r * 64 + (bt s i - 128)) (i + 1) := by
  simp only [utf_Take.l0]
  rw [if_pos h, if_pos h0, if_pos hs, if_pos ((cont_iff (by omega) (by omega)).2 hb), u8_and63 _ (by omega) (by omega), wrap_id (n := r * 64) (by omega) (by omega), wrap_id (n := bt s i % 64) (by omega) (by omega), wrap_id (n := i + 1) (by omega) (by omega),
    i64_or6 (by omega) (by omega) (by omega) (by omega) (by omega), show bt s i % 64 = bt s i - 128 by omega]
theorem take_eq (k : Nat) (s : ByteArray) : utf_Take.f (k + 6) s = some (tk (bytesOf s)) := by
  have hB := bytes_of s
  have hS := size_of s
  generalize hl : bytesOf s = l at hB hS
  have hbt : ∀ i, bt s i = l.getD i.toNat 0 := fun i => by rw [bt_get, hl]
  unfold utf_Take.f
  match l with
  | [] => rw [if_pos ((toList_nil_iff s).2 hl)]; rfl
  | a :: t =>
    have ha := hB a List.mem_cons_self
    have h0 : bt s 0 = a := by rw [hbt]; rfl
    rw [if_neg (fun h => by rw [toList_nil_iff, hl] at h; cases h), if_pos (by rw [← hS]; simp), h0, begins_eq ha.1 ha.2, Option.bind_some]
    have hsz : (s.size : Int) = (t.length : Int) + 1 := by rw [← hS]; simp
    simp only [tk]
    by_cases c1 : a < 128
    · simp only [if_pos c1]
      rw [if_neg (by decide), decide_eq_false (by omega)]
      simp only [utf_Take.j0]
      rw [if_neg (by decide), l0_end _ _ (by decide)]
      unfold ends
      rw [if_pos ⟨good_iff.2 (by omega), siz1.2 c1⟩]
    · simp only [if_neg c1]
      by_cases c2 : a < 192
      · simp only [if_pos c2]
        rw [if_pos trivial]
        simp only [utf_Take.j0]
        rw [if_pos trivial]
      · simp only [if_neg c2]
        by_cases c3 : a < 224
        · simp only [if_pos c3]
          rw [if_neg (by decide)]
          simp only [utf_Take.j0]
          match t with
          | [] =>
            simp at hsz
            dsimp only
            rw [if_pos (decide_eq_true (by omega))]
          | b :: t =>
            simp at hsz
            dsimp only
            have hb : bt s 1 = b := by rw [hbt]; rfl
            rw [if_neg (by simp; omega)]
            have hr := hB b (by simp)
            by_cases k1 : 128 ≤ b ∧ b < 192
            · rw [l0_more _ _ (by decide) (by decide) (by omega) (by rw [hb]; exact k1) (by omega) (by omega) (by decide), l0_end _ _ (by decide), hb]
              have e : (a - 192) * 64 + (b - 128) = tk2 a b := rfl
              rw [e]
              unfold ends
              simp only [siz2, good_iff]
              have e1 : 0 ≤ tk2 a b ∧ tk2 a b < 2048 := by unfold tk2; omega
              by_cases k2 : 128 ≤ tk2 a b
              · rw [if_pos (by omega), if_pos (by omega)]
              · rw [if_neg (by omega), if_neg (by omega)]
            · rw [l0_bad _ _ (by decide) (by decide) (by omega) (by rw [hb]; exact k1), if_neg (by omega)]
        · simp only [if_neg c3]
          by_cases c4 : a < 240
          · simp only [if_pos c4]
            rw [if_neg (by decide)]
            simp only [utf_Take.j0]
            match t with
            | [] =>
              simp at hsz
              dsimp only
              rw [if_pos (decide_eq_true (by omega))]
            | [b] =>
              simp at hsz
              dsimp only
              rw [if_pos (decide_eq_true (by omega))]
            | b :: c :: t =>
              simp at hsz
              dsimp only
              have hb : bt s 1 = b := by rw [hbt]; rfl
              have hc : bt s 2 = c := by rw [hbt]; rfl
              rw [if_neg (by simp; omega)]
              have hr := hB b (by simp)
              have hr2 := hB c (by simp)
              by_cases k1 : 128 ≤ b ∧ b < 192
              · rw [l0_more _ _ (by decide) (by decide) (by omega) (by rw [hb]; exact k1) (by omega) (by omega) (by decide), hb]
                by_cases k2 : 128 ≤ c ∧ c < 192
                · rw [l0_more _ _ (by decide) (by decide) (by omega) (by rw [show (1 : Int) + 1 = 2 by decide, hc]; exact k2) (by omega) (by omega) (by decide), l0_end _ _ (by decide), show (1 : Int) + 1 = 2 by decide, hc]
                  have e : ((a - 224) * 64 + (b - 128)) * 64 + (c - 128) = tk3 a b c := by unfold tk3; omega
                  rw [e]
                  unfold ends
                  simp only [siz3, good_iff]
                  have e1 : 0 ≤ tk3 a b c ∧ tk3 a b c < 65536 := by unfold tk3; omega
                  by_cases k3 : 2048 ≤ tk3 a b c ∧ (tk3 a b c < 55296 ∨ 57343 < tk3 a b c)
                  · rw [if_pos (by omega), if_pos (by omega)]
                  · rw [if_neg (by omega), if_neg (by omega)]
                · rw [l0_bad _ _ (by decide) (by decide) (by omega) (by rw [show (1 : Int) + 1 = 2 by decide, hc]; exact k2), if_neg (by omega)]
              · rw [l0_bad _ _ (by decide) (by decide) (by omega) (by rw [hb]; exact k1), if_neg (by omega)]
          · simp only [if_neg c4]
            by_cases c5 : a < 248
            · simp only [if_pos c5]
              rw [if_neg (by decide)]
              simp only [utf_Take.j0]
              match t with
              | [] =>
                simp at hsz
                dsimp only
                rw [if_pos (decide_eq_true (by omega))]
              | [b] =>
                simp at hsz
                dsimp only
                rw [if_pos (decide_eq_true (by omega))]
              | [b, c] =>
                simp at hsz
                dsimp only
                rw [if_pos (decide_eq_true (by omega))]
              | b :: c :: d :: t =>
                simp at hsz
                dsimp only
                have hb : bt s 1 = b := by rw [hbt]; rfl
                have hc : bt s 2 = c := by rw [hbt]; rfl
                have hd : bt s 3 = d := by rw [hbt]; rfl
                rw [if_neg (by simp; omega)]
                have hr := hB b (by simp)
                have hr2 := hB c (by simp)
                have hr3 := hB d (by simp)
                by_cases k1 : 128 ≤ b ∧ b < 192
                · rw [l0_more _ _ (by decide) (by decide) (by omega) (by rw [hb]; exact k1) (by omega) (by omega) (by decide), hb]
                  by_cases k2 : 128 ≤ c ∧ c < 192
                  · rw [l0_more _ _ (by decide) (by decide) (by omega) (by rw [show (1 : Int) + 1 = 2 by decide, hc]; exact k2) (by omega) (by omega) (by decide), show (1 : Int) + 1 = 2 by decide, hc]
                    by_cases k3 : 128 ≤ d ∧ d < 192
                    · rw [l0_more _ _ (by decide) (by decide) (by omega) (by rw [show (2 : Int) + 1 = 3 by decide, hd]; exact k3) (by omega) (by omega) (by decide), l0_end _ _ (by decide), show (2 : Int) + 1 = 3 by decide, hd]
                      have e : (((a - 240) * 64 + (b - 128)) * 64 + (c - 128)) * 64 + (d - 128) = tk4 a b c d := by unfold tk4; omega
                      rw [e]
                      unfold ends
                      simp only [siz4, good_iff]
                      have e1 : 0 ≤ tk4 a b c d := by unfold tk4; omega
                      by_cases k3 : 65536 ≤ tk4 a b c d ∧ tk4 a b c d ≤ 1114111
                      · rw [if_pos (by omega), if_pos (by omega)]
                      · rw [if_neg (by omega), if_neg (by omega)]
                    · rw [l0_bad _ _ (by decide) (by decide) (by omega) (by rw [show (2 : Int) + 1 = 3 by decide, hd]; exact k3), if_neg (by omega)]
                  · rw [l0_bad _ _ (by decide) (by decide) (by omega) (by rw [show (1 : Int) + 1 = 2 by decide, hc]; exact k2), if_neg (by omega)]
                · rw [l0_bad _ _ (by decide) (by decide) (by omega) (by rw [hb]; exact k1), if_neg (by omega)]
            · simp only [if_neg c5]
              rw [if_pos trivial]
              simp only [utf_Take.j0]
              rw [if_pos trivial]
end Go.Proofs.YtoanbmggffkmgaaDoor.La
end
section
namespace Go.Proofs.YtoanbmggffkmgaaDoor.La
open Go.RowKit Go.Proofs.YtoanbmggffkmgaaDoor.P Go.Proofs.YtoanbmggffkmgaaDoorW.PrintWords Go.Proofs.YtoanbmggffkmgaaDoorW.PrintLast Go.Proofs.YtoanbmggffkmgaaDoorW.PrintMore
theorem put_eq (l : List Int) (r : Int) (hl : l.length ≤ 140737488355000) : utf_Put.f l r = some (if good r then l ++ enc r else l) := by
  unfold utf_Put.f
  have hw : wrap64 ((l.length : Int) + 4) = (l.length : Int) + 4 := wrap_id (by omega) (by omega)
  rw [hw, if_pos (by omega), if_pos (by omega)]
  simp only [Option.bind_some, List.length_nil, List.nil_append]
  rw [if_pos (by omega)]
  by_cases hg : good r
  · have hg' := good_iff.1 hg
    rw [good_eq, Option.bind_some, if_pos (decide_eq_true hg), size_eq, Option.bind_some, if_pos hg]
    unfold enc
    by_cases c1 : r < 128
    · rw [if_pos (siz1.2 c1), if_pos (by omega), if_pos c1, show r % 256 = r by omega]
    · rw [if_neg (fun h => c1 (siz1.1 h)), if_neg c1]
      by_cases c2 : r < 2048
      · rw [if_pos (siz2.2 (by omega)), if_pos c2]
        rw [if_pos (by simp; omega), i64_and63 (by omega) (by omega), i64_or128 (by omega) (by omega), i64_or192 (by omega) (by omega), show (192 + r / 64) % 256 = 192 + r / 64 by omega, show (128 + r % 64) % 256 = 128 + r % 64 by omega]
      · rw [if_neg (fun h => by have := siz2.1 h; omega), if_neg c2]
        by_cases c3 : r < 65536
        · rw [if_pos (siz3.2 (by omega)), if_pos c3]
          rw [if_pos (by simp; omega), i64_and63 (by omega) (by omega), i64_and63 (by omega) (by omega), i64_or128 (by omega) (by omega), i64_or128 (by omega) (by omega), i64_or224 (by omega) (by omega), show (224 + r / 4096) % 256 = 224 + r / 4096 by omega, show (128 + r / 64 % 64) % 256 = 128 + r / 64 % 64 by omega, show (128 + r % 64) % 256 = 128 + r % 64 by omega]
        · rw [if_neg (fun h => by have := siz3.1 h; omega), if_neg c3]
          rw [if_pos (by simp; omega), i64_and63 (by omega) (by omega), i64_and63 (by omega) (by omega), i64_and63 (by omega) (by omega), i64_or128 (by omega) (by omega), i64_or128 (by omega) (by omega), i64_or128 (by omega) (by omega), i64_or240 (by omega) (by omega), show (240 + r / 262144) % 256 = 240 + r / 262144 by omega, show (128 + r / 4096 % 64) % 256 = 128 + r / 4096 % 64 by omega, show (128 + r / 64 % 64) % 256 = 128 + r / 64 % 64 by omega, show (128 + r % 64) % 256 = 128 + r % 64 by omega]
  · rw [good_eq, Option.bind_some, if_neg (by simpa using hg), if_neg hg]
end Go.Proofs.YtoanbmggffkmgaaDoor.La
end
section
namespace Go.Proofs.YtoanbmggffkmgaaDoor.P
open Go.RowKit Go.Proofs.YtoanbmggffkmgaaDoor.La Go.Proofs.YtoanbmggffkmgaaDoorW.PrintWords Go.Proofs.YtoanbmggffkmgaaDoorW.PrintLast Go.Proofs.YtoanbmggffkmgaaDoorW.PrintMore
/-- Block g holds a reader: its text, its place, and a row of its own that reads as bs. -/
def Rdr (B : Nat) (w : World) (g : Nat) (text : ByteArray) (at_ : Int) (bs : List Int) : Prop :=
  B ≤ g ∧ ∃ bv, w.heap[g]? = some (.cells #[.string text, .int .i64 at_, bv] 63 (0, 0)) ∧ Kd.R (Kd.int .u8) 5 w B (fun k => k ≠ g) bv bs
theorem rblk_set {w : World} {g t : Nat} {cs : Array Value} (h : w.heap[g]? = some (.cells cs t (0, 0))) (i : Nat) (u : Value) : (w.setCell ⟨g, i, none⟩ u).heap[g]? = some (.cells (cs.setIfInBounds i u) t (0, 0)) := by
  simp [World.setCell, Array.getElem?_modify, h]
theorem rblk_far {w : World} {g k i : Nat} (hne : k ≠ g) (u : Value) : (w.setCell ⟨g, i, none⟩ u).heap[k]? = w.heap[k]? := by
  simp [World.setCell, Array.getElem?_modify, Ne.symm hne]
theorem rblk_lt {w : World} {g : Nat} {o : Obj} (h : w.heap[g]? = some o) : g < w.heap.size := by
  rcases Nat.lt_or_ge g w.heap.size with hlt | hge
  · exact hlt
  · rw [Array.getElem?_eq_none hge] at h; cases h
theorem rblk_cell {w : World} {g t : Nat} {cs : Array Value} (h : w.heap[g]? = some (.cells cs t (0, 0))) (i : Nat) : w.cell? ⟨g, i, none⟩ = cs[i]? := cell_of_row w g i cs t (0, 0) h
theorem rblk_free {w : World} {g t : Nat} {cs : Array Value} (h : w.heap[g]? = some (.cells cs t (0, 0))) (i : Nat) : w.frozen? ⟨g, i, none⟩ = false := by simp [World.frozen?, h]
theorem Rdr.open_ {B : Nat} {w : World} {g : Nat} {text : ByteArray} {at_ : Int} {bs : List Int} (h : Rdr B w g text at_ bs) :
    ∃ A c, w.cell? ⟨g, 0, none⟩ = some (.string text) ∧ w.cell? ⟨g, 1, none⟩ = some (.int .i64 at_) ∧ w.cell? ⟨g, 2, none⟩ = some (.slice A bs.length c) ∧
      w.frozen? ⟨g, 1, none⟩ = false ∧ w.frozen? ⟨g, 2, none⟩ = false ∧ g < w.heap.size ∧ bs.length ≤ c ∧ Kd.C (Kd.int .u8) w A bs.length bs := by
  obtain ⟨_, bv, hh, hr⟩ := h
  obtain ⟨A, c, rfl, hl, hC⟩ := Kd.R_reads hr
  exact ⟨A, c, by rw [rblk_cell hh]; rfl, by rw [rblk_cell hh]; rfl, by rw [rblk_cell hh]; rfl, rblk_free hh 1, rblk_free hh 2, rblk_lt hh, hl, hC⟩
/-- A new row and a new place are stored. -/
theorem Rdr.stored {B : Nat} {w w1 : World} {g : Nat} {text : ByteArray} {at_ : Int} {bs : List Int} (h : Rdr B w g text at_ bs) {v1 : Value} {bs1 : List Int} (hb : Below w.heap.size w w1) (ho : Kd.R (Kd.int .u8) 5 w1 w.heap.size (fun _ => True) v1 bs1) (at1 : Int) :
    Rdr B ((w1.setCell ⟨g, 2, none⟩ v1).setCell ⟨g, 1, none⟩ (.int .i64 at1)) g text at1 bs1 ∧ Below B w ((w1.setCell ⟨g, 2, none⟩ v1).setCell ⟨g, 1, none⟩ (.int .i64 at1)) := by
  obtain ⟨hB, bv, hh, hr⟩ := h
  have hlt := rblk_lt hh
  have hh1 : w1.heap[g]? = some (.cells #[.string text, .int .i64 at_, bv] 63 (0, 0)) := (hb.block g hlt).trans hh
  have hh2 := rblk_set hh1 2 v1
  have hh3 := rblk_set hh2 1 (.int .i64 at1)
  refine ⟨⟨hB, v1, hh3, ?_⟩, ?_⟩
  · have h1 := Kd.R_lower ho (Nat.le_trans hB (Nat.le_of_lt hlt))
    have hne : ∀ k, v1.ownBlock = some k → k ≠ g := fun k hk e => by
      have := Kd.R_base ho k hk
      omega
    have h2 : Kd.R (Kd.int .u8) 5 w1 B (fun k => k ≠ g) v1 bs1 := by
      refine ⟨fun k hk => hne k hk, ?_⟩
      exact h1.2.imp_ (fun p c hp => hp)
    exact Kd.R_move h2 (fun k hk => by rw [rblk_far hk, rblk_far hk])
  · exact ((hb.mono (Nat.le_trans hB (Nat.le_of_lt hlt))).setCell hB _).setCell hB _
end Go.Proofs.YtoanbmggffkmgaaDoor.P
end
section
namespace Go.Proofs.YtoanbmggffkmgaaDoor.La
open Go.RowKit Go.Proofs.YtoanbmggffkmgaaDoorW.PrintWords Go.Proofs.YtoanbmggffkmgaaDoorW.PrintLast Go.Proofs.YtoanbmggffkmgaaDoorW.PrintMore
/-- Where a number stands first; -1: nowhere. -/
def idx : List Int → Int → Int
  | [], _ => -1
  | b :: l, c => if b = c then 0 else if idx l c = -1 then -1 else idx l c + 1
theorem u8_of {c : Int} (h0 : 0 ≤ c) (h1 : c < 256) : ((c.toNat.toUInt8).toNat : Int) = c := by
  simp only [Nat.toUInt8_eq, UInt8.toNat_ofNat']
  omega
theorem u8_eq_iff {b : UInt8} {c : Int} (h0 : 0 ≤ c) (h1 : c < 256) : b = c.toNat.toUInt8 ↔ (b.toNat : Int) = c := by
  rw [← UInt8.toNat_inj]
  have := u8_of h0 h1
  omega
theorem idx_of (l : List UInt8) {c : Int} (h0 : 0 ≤ c) (h1 : c < 256) : Lib.indexByte l c.toNat.toUInt8 = idx (l.map fun b => (b.toNat : Int)) c := by
  induction l with
  | nil => rfl
  | cons b l ih =>
    simp only [Lib.indexByte, List.map_cons, idx, ih, beq_iff_eq, u8_eq_iff h0 h1]
end Go.Proofs.YtoanbmggffkmgaaDoor.La
end
section
namespace Go.Proofs.YtoanbmggffkmgaaDoor.La
def hexVal (b : Int) : Option Int := if 48 ≤ b ∧ b ≤ 57 then some (b - 48) else if 97 ≤ b ∧ b ≤ 102 then some (b - 87) else if 65 ≤ b ∧ b ≤ 70 then some (b - 55) else none
def hexI : Int → List Int → Option Int
  | x, [] => some x
  | x, b :: l => (hexVal b).bind fun d => hexI (x * 16 + d) l
theorem hexVal_lt {b d : Int} (h : hexVal b = some d) : 0 ≤ d ∧ d < 16 := by
  unfold hexVal at h
  (repeat' split at h) <;> first | (cases h; done) | (have := Option.some.inj h; omega)
end Go.Proofs.YtoanbmggffkmgaaDoor.La
namespace Go.Proofs.YtoanbmggffkmgaaDoor.P
open Go.RowKit Go.Proofs.YtoanbmggffkmgaaDoor.La Go.Proofs.YtoanbmggffkmgaaDoorW.PrintWords Go.Proofs.YtoanbmggffkmgaaDoorW.PrintLast Go.Proofs.YtoanbmggffkmgaaDoorW.PrintMore
theorem i64_or4 {x y : Int} (hx₀ : 0 ≤ x) (hx₁ : x < 4294967296) (h₀ : 0 ≤ y) (h₁ : y < 16) : Go.bits .or .i64 (x * 16) y = x * 16 + y :=
  bits_join .i64 62 (by decide) wraps_i64 4 (x * 16) y (by omega) (by omega) (by omega) h₀ h₁ (by omega)
theorem hex_next {s : ByteArray} {k : Nat} {x b : Int} {o : Option Int} (hlt : k < s.size) (hb : b = (bytesOf s).getD k 0) (hx : hexI 0 (bytesOf s) = hexI x ((bytesOf s).drop k)) (hd : hexVal b = o) :
    hexI 0 (bytesOf s) = o.bind fun d => hexI (x * 16 + d) ((bytesOf s).drop (k + 1)) := by
  have hl : k < (bytesOf s).length := by rw [size_of]; exact hlt
  have hg : (bytesOf s)[k] = b := by rw [hb]; simp [List.getD_eq_getElem?_getD, hl]
  rw [hx, List.drop_eq_getElem_cons hl, hexI, hg, hd]
theorem hex_grow {k : Nat} {x d : Int} (x0 : 0 ≤ x) (x1 : x < 16 ^ k) (d0 : 0 ≤ d ∧ d < 16) : 0 ≤ x * 16 + d ∧ x * 16 + d < 16 ^ (k + 1) := by
  rw [Int.pow_succ]
  omega
def HexRel (s : ByteArray) (v i : Value) : Prop := ∃ (k : Nat) (x : Int), k ≤ s.size ∧ i = .int .i64 k ∧ v = .int .i64 x ∧ hexI 0 (bytesOf s) = hexI x ((bytesOf s).drop k) ∧ 0 ≤ x ∧ x < 16 ^ k
theorem hex_rel {s : ByteArray} {k : Nat} {x b d : Int} {v : Int} (hlt : k < s.size) (hb : b = (bytesOf s).getD k 0) (hx : hexI 0 (bytesOf s) = hexI x ((bytesOf s).drop k)) (hd : hexVal b = some d) (x0 : 0 ≤ x) (x1 : x < 16 ^ k) (hv : v = x * 16 + d) :
    HexRel s (.int .i64 v) (.int .i64 ((k : Int) + 1)) := by
  have h := hex_next hlt hb hx hd
  have h2 := hex_grow x0 x1 (hexVal_lt hd)
  exact ⟨k + 1, x * 16 + d, hlt, by go_num, by rw [hv], h, h2.1, h2.2⟩
set_option maxRecDepth 100000 in
set_option maxHeartbeats 4000000 in
theorem hex_walk (s : ByteArray) (h1 : 1 ≤ s.size) (h8 : s.size ≤ 8) (w : World) :
    Calls Tryd.prog 18 #[.string s] w fun e w' => e = .returned (.tuple #[.int .i64 ((hexI 0 (bytesOf s)).getD 0), .bool (hexI 0 (bytesOf s)).isSome]) ∧ Below w.heap.size w w' := by
  have kb := print_bytes (P := Tryd.prog) 9 46 5 Tryd.underlying9 Tryd.underlying46 Tryd.underlying5 s w
  have hr := bytes_reads w 5 s (by omega)
  have hb := bytes_below (Below.refl w.heap.size w) (Nat.le_refl _) 5 s
  generalize Lib.bytesWorld w 5 s = W1 at kb hr hb
  generalize grownCap w s.size 0 5 = cp at kb
  have g1 : decide ((s.size : Int) < 1) = false := decide_eq_false (by omega)
  have g2 : decide ((s.size : Int) > 8) = false := decide_eq_false (by omega)
  go_enter Tryd.func18, Tryd.ntmps18
  go_wp2_with fail
  go_loop [4, 18] (HexRel s) (fun _ i => s.size - (intOf i).toNat)
  case atStart => exact ⟨0, 0, Nat.zero_le _, rfl, rfl, rfl, Int.le_refl _, by decide⟩
  case round =>
    obtain ⟨k, x, hk, rfl, rfl, hx, x0, x1⟩ := hrel
    have HX := Lib.hid hx
    clear hx
    by_cases hlt : k < s.size
    · have hx7 : x < 268435456 := Int.lt_of_lt_of_le x1 (by
        have : 16 ^ k ≤ 16 ^ 7 := Nat.pow_le_pow_right (by decide) (by omega)
        have h2 : ((16 ^ k : Nat) : Int) ≤ ((16 ^ 7 : Nat) : Int) := by omega
        simpa using h2)
      have hc : W1.cell? ⟨w.heap.size, k, none⟩ = some (.int .u8 (bt s k)) := by
        obtain ⟨ad, e, h⟩ := hr.2.2 (by omega)
        obtain rfl := Option.some.inj e
        have := h k hlt
        rw [add_plain] at this
        rw [this, bt_get]
        rfl
      have hbr := bt_range s k
      have hbt : bt s (k : Int) = (bytesOf s).getD k 0 := by rw [bt_get]; rfl
      have HB := Lib.hid hbt
      clear hbt
      generalize bt s (k : Int) = b at hc hbr HB
      by_cases c1 : 48 ≤ b ∧ b ≤ 57
      · have hv := Lib.hid (show hexVal b = some (b - 48) from if_pos c1)
        obtain ⟨c1, c2⟩ := c1
        go_wp2
        go_round
        case rel => exact hex_rel hlt HB.out HX.out hv.out x0 x1 (i64_or4 x0 (by omega) (by omega) (by omega))
        case measure => simp [intOf]; omega
      · by_cases c2 : 97 ≤ b ∧ b ≤ 102
        · have hv := Lib.hid (show hexVal b = some (b - 87) by unfold hexVal; rw [if_neg c1, if_pos c2])
          clear c1
          obtain ⟨c1, c2⟩ := c2
          go_wp2
          go_round
          case rel => exact hex_rel hlt HB.out HX.out hv.out x0 x1 (by rw [show b - 97 + 10 = b - 87 by omega]; exact i64_or4 x0 (by omega) (by omega) (by omega))
          case measure => simp [intOf]; omega
        · by_cases c3 : 65 ≤ b ∧ b ≤ 70
          · have hv := Lib.hid (show hexVal b = some (b - 55) by unfold hexVal; rw [if_neg c1, if_neg c2, if_pos c3])
            clear c1 c2
            obtain ⟨c1, c2⟩ := c3
            go_wp2
            go_round
            case rel => exact hex_rel hlt HB.out HX.out hv.out x0 x1 (by rw [show b - 65 + 10 = b - 55 by omega]; exact i64_or4 x0 (by omega) (by omega) (by omega))
            case measure => simp [intOf]; omega
          · have hv := Lib.hid (show hexVal b = none by unfold hexVal; rw [if_neg c1, if_neg c2, if_neg c3])
            have hn := Lib.hid (hex_next hlt HB.out HX.out hv.out)
            have cases4 : b < 48 ∨ (58 ≤ b ∧ b < 65) ∨ (71 ≤ b ∧ b < 97) ∨ 103 ≤ b := by omega
            clear c1 c2 c3
            rcases cases4 with c1 | ⟨c1, c2⟩ | ⟨c1, c2⟩ | c1
            all_goals
              go_wp2
              go_ret2
              exact ⟨by rw [hn.out]; rfl, hb⟩
    · obtain rfl : k = s.size := by omega
      have hx : hexI 0 (bytesOf s) = some x := by
        rw [HX.out, List.drop_eq_nil_of_le (by rw [size_of]; omega)]
        rfl
      have HX2 := Lib.hid hx
      clear hx HX
      go_wp2
      go_ret2
      exact ⟨by rw [HX2.out]; rfl, hb⟩
def esc_Hex.f (a0 : ByteArray) : Option (Int × Bool) := some (if a0.size < 1 ∨ a0.size > 8 then (0, false) else ((hexI 0 (bytesOf a0)).getD 0, (hexI 0 (bytesOf a0)).isSome))
theorem esc_Hex.calls (a0 : ByteArray) (r1 : Int) (r2 : Bool) (w : World) (h : esc_Hex.f a0 = some (r1, r2)) :
    Calls Tryd.prog 18 #[.string a0] w fun e w' => e = .returned (.tuple #[.int .i64 r1, .bool r2]) ∧ Below w.heap.size w w' := by
  have h := Option.some.inj h
  split at h
  · rename_i hc
    obtain ⟨rfl, rfl⟩ := Prod.mk.inj h
    clear h
    by_cases h1 : a0.size < 1
    · have g1 : decide ((a0.size : Int) < 1) = true := decide_eq_true (by omega)
      clear hc h1
      go_enter Tryd.func18, Tryd.ntmps18
      go_wp2
      go_ret2
      exact ⟨rfl, Below.refl _ _⟩
    · have g1 : decide ((a0.size : Int) < 1) = false := decide_eq_false (by omega)
      have g2 : decide ((a0.size : Int) > 8) = true := decide_eq_true (by omega)
      clear hc h1
      go_enter Tryd.func18, Tryd.ntmps18
      go_wp2
      go_ret2
      exact ⟨rfl, Below.refl _ _⟩
  · rename_i hc
    obtain ⟨rfl, rfl⟩ := Prod.mk.inj h
    exact hex_walk a0 (by omega) (by omega) w
end Go.Proofs.YtoanbmggffkmgaaDoor.P
end
section
namespace Go.Proofs.YtoanbmggffkmgaaDoor.P
open Go.RowKit Go.Proofs.YtoanbmggffkmgaaDoorW.PrintWords Go.Proofs.YtoanbmggffkmgaaDoorW.PrintLast Go.Proofs.YtoanbmggffkmgaaDoorW.PrintMore
attribute [local go_sem] max2_int min2_int max_two min_two max_three min_three max_four min_four   -- for this text's walks alone
set_option linter.unusedVariables false
set_option linter.unusedSimpArgs false
/-! ### stringslite_HasPrefix: function 86 -/
def stringslite_HasPrefix.f (a0 : ByteArray) (a1 : ByteArray) : Option (Bool) := if (a0.size : Int) ≥ (a1.size : Int) then (if 0 ≤ (a1.size : Int) then (if (a1.size : Int) ≤ (a0.size : Int) then (some ((a0.extract 0 ((a1.size : Int) : Int).toNat).toList == a1.toList)) else (none)) else (none)) else (some false)
set_option maxHeartbeats 8000000 in
set_option maxRecDepth 100000 in
theorem stringslite_HasPrefix.calls (a0 : ByteArray) (a1 : ByteArray) (r : Bool) (w : World) (h : stringslite_HasPrefix.f a0 a1 = some r) :
    Calls Tryd.prog 86 #[.string a0, .string a1] w fun e w' => e = .returned (.bool r) ∧ Drawn0 w w' := by
  have H : (if (a0.size : Int) ≥ (a1.size : Int) then (if 0 ≤ (a1.size : Int) then (if (a1.size : Int) ≤ (a0.size : Int) then (some ((a0.extract 0 ((a1.size : Int) : Int).toNat).toList == a1.toList)) else (none)) else (none)) else (some false)) = some r := h
  clear h
  by_cases c3 : (a0.size : Int) ≥ (a1.size : Int)
  · rw [if_pos c3] at H
    have c3b0 : decide ((a1.size : Int) ≤ (a0.size : Int)) = true := decide_eq_true c3
    have c3b1 : decide (a1.size ≤ a0.size) = true := decide_eq_true (Int.ofNat_le.mp c3)
    clear c3
    by_cases c4 : 0 ≤ (a1.size : Int)
    · rw [if_pos c4] at H
      have c4b0 := eq_true c4
      have c4b1 : decide (0 ≤ (a1.size : Int)) = true := decide_eq_true c4
      clear c4
      by_cases c5 : (a1.size : Int) ≤ (a0.size : Int)
      · rw [if_pos c5] at H
        have c5b0 := eq_true c5
        have c5b1 : decide ((a1.size : Int) ≤ (a0.size : Int)) = true := decide_eq_true c5
        clear c5
        obtain rfl := Option.some.inj H
        go_enter Tryd.func86, Tryd.ntmps86
        go_wp2
        go_ret
        exact ⟨by first | rfl | (simp; done) | (simp [*]; done), by repeat (first | exact Drawn0.refl _ | apply Drawn0.step)⟩
      · rw [if_neg c5] at H
        exact absurd H (by simp)
    · rw [if_neg c4] at H
      exact absurd H (by simp)
  · rw [if_neg c3] at H
    have c3b0 : decide ((a1.size : Int) ≤ (a0.size : Int)) = false := decide_eq_false c3
    have c3b1 : decide (a1.size ≤ a0.size) = false := decide_eq_false (fun h => c3 (Int.ofNat_le.mpr h))
    clear c3
    obtain rfl := Option.some.inj H
    go_enter Tryd.func86, Tryd.ntmps86
    go_wp2
    go_ret
    exact ⟨by first | rfl | (simp; done) | (simp [*]; done), by repeat (first | exact Drawn0.refl _ | apply Drawn0.step)⟩
end Go.Proofs.YtoanbmggffkmgaaDoor.P
end
section
namespace Go.Proofs.YtoanbmggffkmgaaDoor.P
open Go.RowKit Go.Proofs.YtoanbmggffkmgaaDoorW.PrintWords Go.Proofs.YtoanbmggffkmgaaDoorW.PrintLast Go.Proofs.YtoanbmggffkmgaaDoorW.PrintMore
attribute [local go_sem] max2_int min2_int max_two min_two max_three min_three max_four min_four   -- for this text's walks alone
set_option linter.unusedVariables false
set_option linter.unusedSimpArgs false
/-! ### strings_HasPrefix: function 62 -/
def strings_HasPrefix.f (a0 : ByteArray) (a1 : ByteArray) : Option (Bool) := (stringslite_HasPrefix.f a0 a1).bind fun t135 => (some t135)
set_option maxHeartbeats 8000000 in
set_option maxRecDepth 100000 in
theorem strings_HasPrefix.calls (a0 : ByteArray) (a1 : ByteArray) (r : Bool) (w : World) (h : strings_HasPrefix.f a0 a1 = some r) :
    Calls Tryd.prog 62 #[.string a0, .string a1] w fun e w' => e = .returned (.bool r) ∧ Drawn0 w w' := by
  have H : ((stringslite_HasPrefix.f a0 a1).bind fun t135 => (some t135)) = some r := h
  clear h
  replace H := Option.bind_eq_some_iff.mp H
  obtain ⟨t135, A30, H⟩ := H
  replace H : (some t135) = some r := H
  have A3 := Aside0.mk A30
  clear A30
  obtain rfl := Option.some.inj H
  go_enter Tryd.func62, Tryd.ntmps62
  go_wp2_with (first | ((with_reducible refine gate_callee (f := 86) rfl ?_); refine goesL_ (some 7) rfl rfl Tryd.func86 (by kernel_rfl) rfl #[.string a0, .string a1] rfl (by (try simp only [List.map_toArray, List.map_cons, List.map_nil]); first | done | rfl | (simp only [List.length_drop, List.length_take]; rfl)) ?_; (with_reducible refine (stringslite_HasPrefix.calls a0 a1 t135 _ A3.out).mono ?_); rintro e w' ⟨rfl, ⟨nd, rfl⟩⟩; refine ⟨_, rfl, ?_⟩))
  go_ret
  exact ⟨by first | rfl | (simp; done) | (simp [*]; done), by repeat (first | exact Drawn0.refl _ | apply Drawn0.step)⟩
end Go.Proofs.YtoanbmggffkmgaaDoor.P
end
section
namespace Go.Proofs.YtoanbmggffkmgaaDoor.La
open Go.RowKit Go.Proofs.YtoanbmggffkmgaaDoor.P Go.Proofs.YtoanbmggffkmgaaDoorW.PrintWords Go.Proofs.YtoanbmggffkmgaaDoorW.PrintLast Go.Proofs.YtoanbmggffkmgaaDoorW.PrintMore
theorem hasPrefix_eq (s p : ByteArray) : strings_HasPrefix.f s p = some (decide ((bytesOf s).take p.size = bytesOf p)) := by
  unfold strings_HasPrefix.f stringslite_HasPrefix.f
  by_cases h : (s.size : Int) ≥ (p.size : Int)
  · rw [if_pos h, if_pos (by omega), if_pos h, Option.bind_some]
    congr 1
    rw [Bool.eq_iff_iff, beq_iff_eq, decide_eq_true_eq, toList_eq_iff, bytesOf_take, Int.toNat_natCast]
  · rw [if_neg h, Option.bind_some]
    congr 1
    rw [eq_comm, decide_eq_false_iff_not]
    intro e
    have := congrArg List.length e
    rw [List.length_take, size_of, size_of] at this
    omega
end Go.Proofs.YtoanbmggffkmgaaDoor.La
end
section
namespace Go.Proofs.YtoanbmggffkmgaaDoor.La
open Go.RowKit Go.Proofs.YtoanbmggffkmgaaDoor.P Go.Proofs.YtoanbmggffkmgaaDoorW.PrintWords Go.Proofs.YtoanbmggffkmgaaDoorW.PrintLast Go.Proofs.YtoanbmggffkmgaaDoorW.PrintMore
theorem ref_good_eq (r : Int) : dragomanref1_Good.f r = some (decide (good r)) := good_eq r
def enc0 (r : Int) : List Int := if good r then enc r else []
theorem ref_put_eq (r : Int) : dragomanref1_Put.f r = some (strOfNums (enc0 r)) := by
  unfold dragomanref1_Put.f enc0
  rw [ref_good_eq, Option.bind_some]
  by_cases hg : good r
  · have hg' := good_iff.1 hg
    have d1 : Int.tdiv r 64 = r / 64 := Int.tdiv_eq_ediv_of_nonneg (by omega)
    have d2 : Int.tdiv r 4096 = r / 4096 := Int.tdiv_eq_ediv_of_nonneg (by omega)
    have d3 : Int.tdiv r 262144 = r / 262144 := Int.tdiv_eq_ediv_of_nonneg (by omega)
    have m1 : Int.tmod r 64 = r % 64 := Int.tmod_eq_emod_of_nonneg (by omega)
    have m2 : Int.tmod (r / 64) 64 = r / 64 % 64 := Int.tmod_eq_emod_of_nonneg (by omega)
    have m3 : Int.tmod (r / 4096) 64 = r / 4096 % 64 := Int.tmod_eq_emod_of_nonneg (by omega)
    have w1 : wrap64 (r / 64) = r / 64 := wrap_id (by omega) (by omega)
    have w2 : wrap64 (r / 4096) = r / 4096 := wrap_id (by omega) (by omega)
    have w3 : wrap64 (r / 262144) = r / 262144 := wrap_id (by omega) (by omega)
    rw [if_pos (decide_eq_true hg), if_pos hg, d1, d2, d3, w1, w2, w3, m1, m2, m3]
    unfold enc
    split
    · rw [show r % 256 = r by omega]
    · split
      · rw [wrap_id (n := 192 + r / 64) (by omega) (by omega), wrap_id (n := 128 + r % 64) (by omega) (by omega), show (192 + r / 64) % 256 = 192 + r / 64 by omega, show (128 + r % 64) % 256 = 128 + r % 64 by omega]
      · split
        · rw [wrap_id (n := 224 + r / 4096) (by omega) (by omega), wrap_id (n := 128 + r / 64 % 64) (by omega) (by omega), wrap_id (n := 128 + r % 64) (by omega) (by omega), show (224 + r / 4096) % 256 = 224 + r / 4096 by omega, show (128 + r / 64 % 64) % 256 = 128 + r / 64 % 64 by omega, show (128 + r % 64) % 256 = 128 + r % 64 by omega]
        · rw [wrap_id (n := 240 + r / 262144) (by omega) (by omega), wrap_id (n := 128 + r / 4096 % 64) (by omega) (by omega), wrap_id (n := 128 + r / 64 % 64) (by omega) (by omega), wrap_id (n := 128 + r % 64) (by omega) (by omega), show (240 + r / 262144) % 256 = 240 + r / 262144 by omega, show (128 + r / 4096 % 64) % 256 = 128 + r / 4096 % 64 by omega, show (128 + r / 64 % 64) % 256 = 128 + r / 64 % 64 by omega, show (128 + r % 64) % 256 = 128 + r % 64 by omega]
  · rw [if_neg (by simpa using hg), if_neg hg]
    rfl
end Go.Proofs.YtoanbmggffkmgaaDoor.La
end
section
namespace Go.Proofs.YtoanbmggffkmgaaDoor.P
open Go.RowKit Go.Proofs.YtoanbmggffkmgaaDoor.La Go.Proofs.YtoanbmggffkmgaaDoorW.PrintWords Go.Proofs.YtoanbmggffkmgaaDoorW.PrintLast Go.Proofs.YtoanbmggffkmgaaDoorW.PrintMore
theorem Rdr.drewN {B : Nat} {w : World} {g : Nat} {text : ByteArray} {at_ : Int} {bs : List Int} (h : Rdr B w g text at_ bs) (n : Nat) : Rdr B (w.drewN n) g text at_ bs := by
  obtain ⟨hB, bv, hh, hr⟩ := h
  exact ⟨hB, bv, hh, Kd.R_drewN hr n⟩
theorem Rdr.below {B : Nat} {w w1 : World} {g : Nat} {text : ByteArray} {at_ : Int} {bs : List Int} (h : Rdr B w g text at_ bs) (hb : Below w.heap.size w w1) : Rdr B w1 g text at_ bs := by
  obtain ⟨hB, bv, hh, hr⟩ := h
  exact ⟨hB, bv, (hb.block g (rblk_lt hh)).trans hh, Kd.R_below hr hb⟩
theorem Rdr.low {B : Nat} {w : World} {g : Nat} {text : ByteArray} {at_ : Int} {bs : List Int} (h : Rdr B w g text at_ bs) : B ≤ w.heap.size := by
  obtain ⟨hB, bv, hh, hr⟩ := h
  have := rblk_lt hh
  omega
set_option maxRecDepth 100000 in
set_option maxHeartbeats 4000000 in
theorem rput {B g : Nat} {text : ByteArray} {at_ : Int} {bs : List Int} {w : World} (x n : Int) (hR : Rdr B w g text at_ bs) (hl : bs.length ≤ 140737488000000) (h0 : 0 ≤ at_) (h1 : at_ ≤ 140737488355328) (n0 : 0 ≤ n) (n1 : n ≤ 100) :
    Calls Tryd.prog 64 #[.pointer (some ⟨g, 0, none⟩), .int .i64 x, .int .i64 n] w fun e w' => e = .returned (.bool (decide (good x))) ∧ Rdr B w' g text (if good x then at_ + n else at_) (if good x then bs ++ enc x else bs) ∧ Below B w w' := by
  obtain ⟨A, c, c0, c1, c2, f1, f2, hlt, hc, hC⟩ := hR.open_
  by_cases hg : good x
  · rw [decide_eq_true hg, if_pos hg, if_pos hg]
    have H1 := Lib.hid (show utf_Good.f x = some true by rw [good_eq, decide_eq_true hg])
    have H2 := Lib.hid (show utf_Put.f bs x = some (bs ++ enc x) by rw [put_eq _ _ (by omega), if_pos hg])
    go_enter Tryd.func64, Tryd.ntmps64
    go_wp2_with (go_at_call 87; (with_reducible refine (utf_Good.calls _ _ _ H1.out).mono ?_); rintro e w' ⟨rfl, ⟨nd, rfl⟩⟩)
    refine (utf_Put.calls _ _ bs x _ _ (Kd.C_drewN hC nd) hc H2.out).mono ?_
    rintro e w1 ⟨v1, rfl, ho, hb⟩
    obtain ⟨A2, cc2, rfl, _, _⟩ := Kd.R_reads ho
    have hS := (hR.drewN nd).stored hb ho (at_ + n)
    obtain ⟨A1, cc1, d0, d1, d2, e1, e2, hlt1, _, _⟩ := ((hR.drewN nd).below hb).open_
    clear c0 c1 c2 f1 f2 ho
    simp only [List.length_append] at hS
    go_wp2
    go_ret
    exact ⟨rfl, hS.1, (pw_below_drewN (Below.refl _ _) nd).trans hS.2⟩
  · rw [decide_eq_false hg, if_neg hg, if_neg hg]
    have H1 := Lib.hid (show utf_Good.f x = some false by rw [good_eq, decide_eq_false hg])
    go_enter Tryd.func64, Tryd.ntmps64
    go_wp2_with (go_at_call 87; (with_reducible refine (utf_Good.calls _ _ _ H1.out).mono ?_); rintro e w' ⟨rfl, ⟨nd, rfl⟩⟩)
    go_ret
    exact ⟨rfl, hR.drewN nd, pw_below_drewN (Below.refl _ _) nd⟩
theorem rput_good {B g : Nat} {text : ByteArray} {at_ : Int} {bs : List Int} {w : World} {x : Int} (n : Int) (hg : good x) (hR : Rdr B w g text at_ bs) (hl : bs.length ≤ 140737488000000) (h0 : 0 ≤ at_) (h1 : at_ ≤ 140737488355328) (n0 : 0 ≤ n) (n1 : n ≤ 100) :
    Calls Tryd.prog 64 #[.pointer (some ⟨g, 0, none⟩), .int .i64 x, .int .i64 n] w fun e w' => e = .returned (.bool true) ∧ Rdr B w' g text (at_ + n) (bs ++ enc x) ∧ Below B w w' := by
  refine (rput x n hR hl h0 h1 n0 n1).mono fun e w' h => ?_
  rw [decide_eq_true hg, if_pos hg, if_pos hg] at h
  exact h
theorem rput_bad {B g : Nat} {text : ByteArray} {at_ : Int} {bs : List Int} {w : World} {x : Int} (n : Int) (hg : ¬ good x) (hR : Rdr B w g text at_ bs) (hl : bs.length ≤ 140737488000000) (h0 : 0 ≤ at_) (h1 : at_ ≤ 140737488355328) (n0 : 0 ≤ n) (n1 : n ≤ 100) :
    Calls Tryd.prog 64 #[.pointer (some ⟨g, 0, none⟩), .int .i64 x, .int .i64 n] w fun e w' => e = .returned (.bool false) ∧ Rdr B w' g text at_ bs ∧ Below B w w' := by
  refine (rput x n hR hl h0 h1 n0 n1).mono fun e w' h => ?_
  rw [decide_eq_false hg, if_neg hg, if_neg hg] at h
  exact h
theorem take_now (s : ByteArray) : utf_Take.f 6 s = some (tk (bytesOf s)) := take_eq 0 s
set_option maxRecDepth 100000 in
set_option maxHeartbeats 4000000 in
theorem rletter {B g : Nat} {text : ByteArray} {at_ : Int} {bs : List Int} {w : World} (hR : Rdr B w g text at_ bs) (hl : bs.length ≤ 140737488000000) (h0 : 0 ≤ at_) (h1 : at_ ≤ text.size) (h2 : text.size ≤ 140737488000000) :
    Calls Tryd.prog 40 #[.pointer (some ⟨g, 0, none⟩)] w fun e w' => e = .returned (.bool (decide ((tk ((bytesOf text).drop at_.toNat)).2 > 0))) ∧ Rdr B w' g text (at_ + (tk ((bytesOf text).drop at_.toNat)).2) (bs ++ enc0 (tk ((bytesOf text).drop at_.toNat)).1) ∧ Below B w w' := by
  obtain ⟨A, c, c0, c1, c2, f1, f2, hlt, hc, hC⟩ := hR.open_
  have HT := Lib.hid (show utf_Take.f 6 (text.extract at_.toNat text.size) = some ((tk ((bytesOf text).drop at_.toNat)).1, (tk ((bytesOf text).drop at_.toNat)).2) by rw [take_now, bytesOf_drop])
  have hbd := tk_bound ((bytesOf text).drop at_.toNat) ((bytes_of text).drop at_.toNat)
  have H2 := Lib.hid (show utf_Put.f bs (tk ((bytesOf text).drop at_.toNat)).1 = some (bs ++ enc0 (tk ((bytesOf text).drop at_.toNat)).1) by
    rw [put_eq _ _ (by omega)]; unfold enc0; split <;> simp)
  generalize (tk ((bytesOf text).drop at_.toNat)).1 = x at HT H2 hbd ⊢
  generalize (tk ((bytesOf text).drop at_.toNat)).2 = n at HT hbd ⊢
  obtain ⟨n0, n1, _, _, _⟩ := hbd
  have hwr : IntKind.i64.wrap (at_ + n) = at_ + n := wraps_i64 _ (by omega) (by omega)
  have HW := Lib.hid hwr
  clear hwr
  have c3b0 := eq_true h0
  have c3b1 : decide (0 ≤ at_) = true := decide_eq_true h0
  have c4b0 := eq_true h1
  have c4b1 : decide (at_ ≤ (text.size : Int)) = true := decide_eq_true h1
  go_enter Tryd.func40, Tryd.ntmps40
  go_wp2_with fail
  go_quiet (first | (go_at_call 66; (with_reducible refine (utf_Take.calls 6 (text.extract at_.toNat text.size) x n _ HT.out).mono ?_); rintro e w' ⟨rfl, ⟨nd, rfl⟩⟩; (try first | exact ⟨rfl, _, World.drewN_drewN _ _ _⟩ | exact ⟨rfl, _, Eq.trans (World.drewN_drewN _ _ _) (congrArg (World.drewN _) (Nat.add_assoc _ _ _))⟩)))
  go_wp2_with fail
  refine (utf_Put.calls _ _ bs x _ _ (Kd.C_drewN hC nq) hc H2.out).mono ?_
  rintro e w1 ⟨v1, rfl, ho, hb⟩
  obtain ⟨A2, cc2, rfl, _, _⟩ := Kd.R_reads ho
  have hS := (hR.drewN nq).stored hb ho (at_ + n)
  obtain ⟨A1, cc1, d0, d1, d2, e1, e2, hlt1, _, _⟩ := ((hR.drewN nq).below hb).open_
  clear c0 c1 c2 f1 f2 ho
  have hz : at_ ≤ 140737488000000 := by omega
  simp only [List.length_append] at hS
  go_wp2
  go_ret
  exact ⟨rfl, hS.1, (pw_below_drewN (Below.refl _ _) nq).trans hS.2⟩
set_option maxRecDepth 100000 in
set_option maxHeartbeats 4000000 in
theorem rbegins {B g : Nat} {text : ByteArray} {at_ : Int} {bs : List Int} {w : World} (p : ByteArray) (hR : Rdr B w g text at_ bs) (h0 : 0 ≤ at_) (h1 : at_ ≤ text.size) :
    Calls Tryd.prog 38 #[.pointer (some ⟨g, 0, none⟩), .string p] w fun e w' => e = .returned (.bool (decide (((bytesOf text).drop at_.toNat).take p.size = bytesOf p))) ∧ Drawn0 w w' := by
  obtain ⟨A, c, c0, c1, c2, f1, f2, hlt, hc, hC⟩ := hR.open_
  have HT := Lib.hid (show strings_HasPrefix.f (text.extract at_.toNat text.size) p = some (decide (((bytesOf text).drop at_.toNat).take p.size = bytesOf p)) by rw [hasPrefix_eq, bytesOf_drop])
  generalize decide (((bytesOf text).drop at_.toNat).take p.size = bytesOf p) = r at HT ⊢
  have c3b0 := eq_true h0
  have c3b1 : decide (0 ≤ at_) = true := decide_eq_true h0
  have c4b0 := eq_true h1
  have c4b1 : decide (at_ ≤ (text.size : Int)) = true := decide_eq_true h1
  go_enter Tryd.func38, Tryd.ntmps38
  go_wp2_with fail
  go_quiet (first | (go_at_call 62; (with_reducible refine (strings_HasPrefix.calls (text.extract at_.toNat text.size) p r _ HT.out).mono ?_); rintro e w' ⟨rfl, ⟨nd, rfl⟩⟩; (try first | exact ⟨rfl, _, World.drewN_drewN _ _ _⟩ | exact ⟨rfl, _, Eq.trans (World.drewN_drewN _ _ _) (congrArg (World.drewN _) (Nat.add_assoc _ _ _))⟩)))
  go_wp2
  go_ret
  exact ⟨rfl, _, rfl⟩
/-- What digits answers: of n bytes behind place i. -/
def digsAt (l : List Int) (i n : Nat) : Option Int := if i + n ≤ l.length then hexI 0 ((l.drop i).take n) else none
set_option maxRecDepth 100000 in
set_option maxHeartbeats 4000000 in
theorem rdigits {B g : Nat} {text : ByteArray} {at_ : Int} {bs : List Int} {w : World} (i n : Nat) (hn0 : 1 ≤ n) (hn8 : n ≤ 8) (hR : Rdr B w g text at_ bs) (h2 : text.size ≤ 140737488000000) (hi : i ≤ text.size + 100) :
    Calls Tryd.prog 65 #[.pointer (some ⟨g, 0, none⟩), .int .i64 i, .int .i64 n] w fun e w' => e = .returned (.tuple #[.int .i64 ((digsAt (bytesOf text) i n).getD 0), .bool (digsAt (bytesOf text) i n).isSome]) ∧ Rdr B w' g text at_ bs ∧ Below B w w' := by
  obtain ⟨A, c, c0, c1, c2, f1, f2, hlt, hc, hC⟩ := hR.open_
  have hlow := hR.low
  by_cases hlen : i + n ≤ text.size
  · have hsz : (text.extract i (i + n)).size = n := by rw [← size_of, bytesOf_extract, List.length_drop, List.length_take, size_of]; omega
    have hbx : bytesOf (text.extract i (i + n)) = ((bytesOf text).drop i).take n := by rw [bytesOf_extract, List.drop_take, show i + n - i = n by omega]
    have HT := Lib.hid (show esc_Hex.f (text.extract i (i + n)) = some ((digsAt (bytesOf text) i n).getD 0, (digsAt (bytesOf text) i n).isSome) by
      unfold esc_Hex.f digsAt
      rw [hsz, if_neg (by omega), hbx, if_pos (by rw [size_of]; exact hlen)])
    clear hsz hbx
    generalize (digsAt (bytesOf text) i n).getD 0 = x at HT ⊢
    generalize (digsAt (bytesOf text) i n).isSome = ok at HT ⊢
    have g1 : ¬ ((text.size : Int) < (i : Int)) := by omega
    have g2 : ¬ ((text.size : Int) - (i : Int) < (n : Int)) := by omega
    have g3 : (i : Int) ≤ (i : Int) + (n : Int) := by omega
    have g4 : (i : Int) + (n : Int) ≤ (text.size : Int) := by omega
    go_enter Tryd.func65, Tryd.ntmps65
    go_wp2_with fail
    refine (esc_Hex.calls (text.extract i (i + n)) _ _ _ HT.out).mono ?_
    rintro e w1 ⟨rfl, hb⟩
    have hR1 := hR.below hb
    have hB1 := hb.mono hlow
    clear c0 c1 c2 f1 f2 hb
    go_wp2
    go_ret2
    exact ⟨rfl, hR1, hB1⟩
  · have HT := Lib.hid (show digsAt (bytesOf text) i n = none from if_neg (by rw [size_of]; exact hlen))
    by_cases hi2 : text.size < i
    · have g1 : (text.size : Int) < (i : Int) := by omega
      clear hlen
      go_enter Tryd.func65, Tryd.ntmps65
      go_wp2
      go_ret2
      exact ⟨by rw [HT.out]; rfl, hR, Below.refl _ _⟩
    · have g1 : ¬ ((text.size : Int) < (i : Int)) := by omega
      have g2 : ((text.size : Int) - (i : Int) < (n : Int)) := by omega
      clear hlen hi2
      go_enter Tryd.func65, Tryd.ntmps65
      go_wp2
      go_ret2
      exact ⟨by rw [HT.out]; rfl, hR, Below.refl _ _⟩
theorem rdigits_at {B g : Nat} {text : ByteArray} {at_ : Int} {bs : List Int} {w : World} (j m : Int) (i n : Nat) (hj : j = (i : Int)) (hm : m = (n : Int)) (hn0 : 1 ≤ n) (hn8 : n ≤ 8) (hR : Rdr B w g text at_ bs) (h2 : text.size ≤ 140737488000000) (hi : i ≤ text.size + 100) :
    Calls Tryd.prog 65 #[.pointer (some ⟨g, 0, none⟩), .int .i64 j, .int .i64 m] w fun e w' => e = .returned (.tuple #[.int .i64 ((digsAt (bytesOf text) i n).getD 0), .bool (digsAt (bytesOf text) i n).isSome]) ∧ Rdr B w' g text at_ bs ∧ Below B w w' := by
  subst hj
  subst hm
  exact rdigits i n hn0 hn8 hR h2 hi
end Go.Proofs.YtoanbmggffkmgaaDoor.P
end
section
namespace Go.Proofs
open Go.Shelf
def Tryd.lays161_ren : Go.Shelf.Ren := ⟨fun | 161 => 55 | 231 => 76 | 227 => 77 | 233 => 78 | 235 => 79 | 228 => 96 | 197 => 97 | 151 => 98 | 260 => 109 | 152 => 110 | 137 => 56 | 119 => 117 | 224 => 118 | 225 => 119 | 217 => 80 | 266 => 99 | n => n, fun | 9 => 9 | 4 => 4 | 3 => 3 | 5 => 5 | 117 => 101 | 116 => 100 | 0 => 0 | 124 => 104 | 105 => 117 | 21 => 21 | 119 => 129 | 46 => 67 | 139 => 132 | 138 => 131 | n => n, fun | 3 => 1 | 4 => 2 | n => n⟩
theorem Tryd.lays161 : Go.Proofs.Lays.n161 Tryd.prog Tryd.lays161_ren := {
  mixed := by kernel_rfl
  f119 := Tryd.func117.trans (congrArg some (by kernel_rfl))
  f137 := Tryd.func56.trans (congrArg some (by kernel_rfl))
  f151 := Tryd.func98.trans (congrArg some (by kernel_rfl))
  f152 := Tryd.func110.trans (congrArg some (by kernel_rfl))
  f161 := Tryd.func55.trans (congrArg some (by kernel_rfl))
  f197 := Tryd.func97.trans (congrArg some (by kernel_rfl))
  f217 := Tryd.func80.trans (congrArg some (by kernel_rfl))
  f224 := Tryd.func118.trans (congrArg some (by kernel_rfl))
  f225 := Tryd.func119.trans (congrArg some (by kernel_rfl))
  f227 := Tryd.func77.trans (congrArg some (by kernel_rfl))
  f228 := Tryd.func96.trans (congrArg some (by kernel_rfl))
  f231 := Tryd.func76.trans (congrArg some (by kernel_rfl))
  f233 := Tryd.func78.trans (congrArg some (by kernel_rfl))
  f235 := Tryd.func79.trans (congrArg some (by kernel_rfl))
  f260 := Tryd.func109.trans (congrArg some (by kernel_rfl))
  f266 := Tryd.func99.trans (congrArg some (by kernel_rfl))
  t0 := Tryd.underlying0
  a0 := Tryd.isAgg0
  z0 := Tryd.sizeOf0
  v0 := Tryd.zeroValue0
  t3 := Tryd.underlying3
  a3 := Tryd.isAgg3
  z3 := Tryd.sizeOf3
  v3 := Tryd.zeroValue3
  t4 := Tryd.underlying4
  a4 := Tryd.isAgg4
  z4 := Tryd.sizeOf4
  v4 := Tryd.zeroValue4
  t5 := Tryd.underlying5
  a5 := Tryd.isAgg5
  z5 := Tryd.sizeOf5
  v5 := Tryd.zeroValue5
  t9 := Tryd.underlying9
  a9 := Tryd.isAgg9
  z9 := Tryd.sizeOf9
  v9 := Tryd.zeroValue9
  t21 := Tryd.underlying21
  a21 := Tryd.isAgg21
  z21 := Tryd.sizeOf21
  v21 := Tryd.zeroValue21
  t46 := Tryd.underlying67
  a46 := Tryd.isAgg67
  z46 := Tryd.sizeOf67
  v46 := Tryd.zeroValue67
  t105 := Tryd.underlying117
  a105 := Tryd.isAgg117
  z105 := Tryd.sizeOf117
  v105 := Tryd.zeroValue117
  t116 := Tryd.underlying100
  a116 := Tryd.isAgg100
  z116 := Tryd.sizeOf100
  t117 := Tryd.underlying101
  a117 := Tryd.isAgg101
  z117 := Tryd.sizeOf101
  v117 := Tryd.zeroValue101
  t119 := Tryd.underlying129
  a119 := Tryd.isAgg129
  z119 := Tryd.sizeOf129
  t124 := Tryd.underlying104
  a124 := Tryd.isAgg104
  z124 := Tryd.sizeOf104
  v124 := Tryd.zeroValue104
  t138 := Tryd.underlying131
  a138 := Tryd.isAgg131
  z138 := Tryd.sizeOf131
  v138 := Tryd.zeroValue131
  t139 := Tryd.underlying132
  a139 := Tryd.isAgg132
  z139 := Tryd.sizeOf132
  v139 := Tryd.zeroValue132
  g3 := by kernel_rfl
  g4 := by kernel_rfl }
def Tryd.lays137_ren : Go.Shelf.Ren := ⟨fun | 137 => 56 | 217 => 80 | 266 => 99 | n => n, fun | 9 => 9 | 5 => 5 | 3 => 3 | n => n, fun | n => n⟩
theorem Tryd.lays137 : Go.Proofs.Lays.n137 Tryd.prog Tryd.lays137_ren := {
  mixed := by kernel_rfl
  f137 := Tryd.func56.trans (congrArg some (by kernel_rfl))
  f217 := Tryd.func80.trans (congrArg some (by kernel_rfl))
  f266 := Tryd.func99.trans (congrArg some (by kernel_rfl))
  t3 := Tryd.underlying3
  a3 := Tryd.isAgg3
  z3 := Tryd.sizeOf3
  v3 := Tryd.zeroValue3
  t5 := Tryd.underlying5
  a5 := Tryd.isAgg5
  z5 := Tryd.sizeOf5
  v5 := Tryd.zeroValue5
  t9 := Tryd.underlying9
  a9 := Tryd.isAgg9
  z9 := Tryd.sizeOf9
  v9 := Tryd.zeroValue9 }
open Go.RowKit in
theorem Tryd.strings_IndexByte (s : ByteArray) (c : Int) (w : World) :
    Calls Tryd.prog 56 #[.string s, .int .u8 c] w fun e w' => e = .returned (.int .i64 (Lib.indexByte s.data.toList c.toNat.toUInt8)) ∧ w' = w := Any.strings_IndexByte Tryd.lays137 s c w
end Go.Proofs
end
section
namespace Go.Proofs.YtoanbmggffkmgaaDoor.P
open Go.RowKit Go.Proofs.YtoanbmggffkmgaaDoor.La Go.Proofs.YtoanbmggffkmgaaDoorW.PrintWords Go.Proofs.YtoanbmggffkmgaaDoorW.PrintLast Go.Proofs.YtoanbmggffkmgaaDoorW.PrintMore
def strings_IndexByte.f (a0 : ByteArray) (a1 : Int) : Option Int := if 0 ≤ a1 ∧ a1 < 256 then some (idx (bytesOf a0) a1) else none
theorem strings_IndexByte.calls (a0 : ByteArray) (a1 : Int) (r : Int) (w : World) (h : strings_IndexByte.f a0 a1 = some r) :
    Calls Tryd.prog 56 #[.string a0, .int .u8 a1] w fun e w' => e = .returned (.int .i64 r) ∧ Drawn0 w w' := by
  unfold strings_IndexByte.f at h
  split at h
  · rename_i hc
    obtain rfl := Option.some.inj h
    refine (Tryd.strings_IndexByte a0 a1 w).mono fun e w' he => ?_
    obtain ⟨rfl, rfl⟩ := he
    exact ⟨by rw [idx_of _ hc.1 hc.2]; rfl, Drawn0.refl _⟩
  · cases h
end Go.Proofs.YtoanbmggffkmgaaDoor.P
end
section
namespace Go.Proofs.YtoanbmggffkmgaaDoor.P
open Go.RowKit Go.Proofs.YtoanbmggffkmgaaDoorW.PrintWords Go.Proofs.YtoanbmggffkmgaaDoorW.PrintLast Go.Proofs.YtoanbmggffkmgaaDoorW.PrintMore
attribute [local go_sem] max2_int min2_int max_two min_two max_three min_three max_four min_four   -- for this text's walks alone
set_option linter.unusedVariables false
set_option linter.unusedSimpArgs false
/-! ### esc_short: function 63 -/
def esc_short.j0 : Nat → Int → Bool → Bool → Option (Int × Bool)
  | 0, _, _, _ => none
  | k + 1, x0, x1, x15 => if x15 = true then (some (47, true)) else (if x0 = 101 then (if x1 = true then (some (27, true)) else (some (0, false))) else (some (0, false)))
def esc_short.f (k : Nat) (a0 : Int) (a1 : Bool) : Option (Int × Bool) := (strings_IndexByte.f (⟨#[34, 92, 98, 102, 110, 114, 116]⟩ : ByteArray) a0).bind fun t137 => (if t137 ≥ 0 then (if 0 ≤ t137 then (if t137 < 7 then (some (wrap64 (bt (⟨#[34, 92, 8, 12, 10, 13, 9]⟩ : ByteArray) t137), true)) else (none)) else (none)) else (if a0 = 47 then (esc_short.j0 k a0 a1 (!a1)) else (esc_short.j0 k a0 a1 false)))
set_option maxHeartbeats 8000000 in
set_option maxRecDepth 100000 in
theorem esc_short.calls (k : Nat) (a0 : Int) (a1 : Bool) (r1 : Int) (r2 : Bool) (w : World) (h : esc_short.f k a0 a1 = some (r1, r2)) :
    Calls Tryd.prog 63 #[.int .u8 a0, .bool a1] w fun e w' => e = .returned (.tuple #[.int .i64 r1, .bool r2]) ∧ Drawn0 w w' := by
  have H : ((strings_IndexByte.f (⟨#[34, 92, 98, 102, 110, 114, 116]⟩ : ByteArray) a0).bind fun t137 => (if t137 ≥ 0 then (if 0 ≤ t137 then (if t137 < 7 then (some (wrap64 (bt (⟨#[34, 92, 8, 12, 10, 13, 9]⟩ : ByteArray) t137), true)) else (none)) else (none)) else (if a0 = 47 then (esc_short.j0 k a0 a1 (!a1)) else (esc_short.j0 k a0 a1 false)))) = some (r1, r2) := h
  clear h
  replace H := Option.bind_eq_some_iff.mp H
  obtain ⟨t137, A30, H⟩ := H
  replace H : (if t137 ≥ 0 then (if 0 ≤ t137 then (if t137 < 7 then (some (wrap64 (bt (⟨#[34, 92, 8, 12, 10, 13, 9]⟩ : ByteArray) t137), true)) else (none)) else (none)) else (if a0 = 47 then (esc_short.j0 k a0 a1 (!a1)) else (esc_short.j0 k a0 a1 false))) = some (r1, r2) := H
  have A3 := Aside0.mk A30
  clear A30
  by_cases c4 : t137 ≥ 0
  · rw [if_pos c4] at H
    have c4b0 : decide (0 ≤ t137) = true := decide_eq_true c4
    clear c4
    by_cases c5 : 0 ≤ t137
    · rw [if_pos c5] at H
      have c5b0 : decide (0 ≤ t137) = true := decide_eq_true c5
      clear c5
      by_cases c6 : t137 < 7
      · rw [if_pos c6] at H
        have c6b0 : decide (t137 < 7) = true := decide_eq_true c6
        clear c6
        simp only [Option.some.injEq, Prod.mk.injEq] at H
        obtain ⟨rfl, rfl⟩ := H
        go_enter Tryd.func63, Tryd.ntmps63
        go_wp2_with (first | ((with_reducible refine gate_callee (f := 56) rfl ?_); refine goesL_ (some 8) rfl rfl Tryd.func56 (by kernel_rfl) rfl #[.string (⟨#[34, 92, 98, 102, 110, 114, 116]⟩ : ByteArray), .int .u8 a0] rfl (by (try simp only [List.map_toArray, List.map_cons, List.map_nil]); first | done | rfl | (simp only [List.length_drop, List.length_take]; rfl)) ?_; (with_reducible refine (strings_IndexByte.calls (⟨#[34, 92, 98, 102, 110, 114, 116]⟩ : ByteArray) a0 t137 _ A3.out).mono ?_); rintro e w' ⟨rfl, ⟨nd, rfl⟩⟩; refine ⟨_, rfl, ?_⟩; have p7 : 0 ≤ (t137 : Int) := of_decide_eq_true (by first | (with_reducible assumption) | assumption); have q7 : t137 < (7 : Int) := of_decide_eq_true (by first | (with_reducible assumption) | assumption); have hx7 := bt_at (⟨#[34, 92, 8, 12, 10, 13, 9]⟩ : ByteArray) t137; replace p7 := eq_true p7; replace q7 := eq_true q7))
        go_ret2
        exact ⟨by first | rfl | (simp; done) | (simp [*]; done), by repeat (first | exact Drawn0.refl _ | apply Drawn0.step)⟩
      · rw [if_neg c6] at H
        exact absurd H (by simp)
    · rw [if_neg c5] at H
      exact absurd H (by simp)
  · rw [if_neg c4] at H
    have c4b0 : decide (0 ≤ t137) = false := decide_eq_false c4
    clear c4
    have HC8 := Aside0.mk H
    clear H
    go_enter Tryd.func63, Tryd.ntmps63
    go_upto_region 4 with (first | ((with_reducible refine gate_callee (f := 56) rfl ?_); refine goesL_ (some 8) rfl rfl Tryd.func56 (by kernel_rfl) rfl #[.string (⟨#[34, 92, 98, 102, 110, 114, 116]⟩ : ByteArray), .int .u8 a0] rfl (by (try simp only [List.map_toArray, List.map_cons, List.map_nil]); first | done | rfl | (simp only [List.length_drop, List.length_take]; rfl)) ?_; (with_reducible refine (strings_IndexByte.calls (⟨#[34, 92, 98, 102, 110, 114, 116]⟩ : ByteArray) a0 t137 _ A3.out).mono ?_); rintro e w' ⟨rfl, ⟨nd, rfl⟩⟩; refine ⟨_, rfl, ?_⟩))
    (try simp only [Act.put, List.setIfInBounds_toArray, List.set_cons_zero, List.set_cons_succ])
    go_cut [15] (fun v15 wc => ∃ (kq : Nat) (x15_7 : Bool), v15 = .bool x15_7 ∧ Aside0 (esc_short.j0 kq a0 a1 x15_7 = some (r1, r2)) ∧ Aside0 (kq ≤ k) ∧ Drawn0 w wc)
    case first =>
      have H := HC8.out
      clear HC8
      by_cases c9 : a0 = 47
      · rw [if_pos c9] at H
        have c9b0 : (a0 == 47) = true := beq_iff_eq.mpr c9
        have c9b1 : (a0 != 47) = false := bne_eq_false_iff_eq.mpr c9
        clear c9
        (first | rw [c9b0] | (simp only [i64_w, i32_w]; rw [c9b0]) | skip)
        have H' := Aside0.mk H
        clear H
        go_wp2
        go_meet
        case rel => exact ⟨_, (!a1), (by first | rfl | (simp; done) | (simp [*]; done)), H', ⟨by first | omega | exact Nat.le_refl _⟩, by repeat (first | exact Drawn0.refl _ | apply Drawn0.step)⟩
      · rw [if_neg c9] at H
        have c9b0 : (a0 == 47) = false := beq_eq_false_iff_ne.mpr c9
        have c9b1 : (a0 != 47) = true := bne_iff_ne.mpr c9
        (first | rw [c9b0] | (simp only [i64_w, i32_w]; rw [c9b0]) | skip)
        have H' := Aside0.mk H
        clear H
        go_wp2
        go_meet
        case rel => exact ⟨_, (false), (by first | rfl | (simp; done) | (simp [*]; done)), H', ⟨by first | omega | exact Nat.le_refl _⟩, by repeat (first | exact Drawn0.refl _ | apply Drawn0.step)⟩
    case rest =>
      clear HC8
      try clear p2
      try clear c4
      try clear c4b0
      try clear c5
      try clear c5b0
      try clear c6
      try clear c6b0
      try clear p6
      try clear p7
      try clear q7
      try clear hx7
      try clear c9
      try clear c9b0
      try clear c9b1
      try clear p7
      try clear q7
      obtain ⟨kq, x15_7, rfl, HA, HJ7, ⟨mc7, rfl⟩⟩ := hcut
      cases kq with
      | zero => exact absurd HA.out (by simp [esc_short.j0])
      | succ kj7 =>
        have H := HA.out
        clear HA
        simp only [esc_short.j0] at H
        by_cases c10 : x15_7 = true
        · subst c10
          have H1 : (some (47, true)) = some (r1, r2) := by rw [if_pos rfl] at H; exact H
          clear H
          have H := H1
          clear H1
          simp only [Option.some.injEq, Prod.mk.injEq] at H
          obtain ⟨rfl, rfl⟩ := H
          go_wp2
          go_ret2
          exact ⟨by first | rfl | (simp; done) | (simp [*]; done), by repeat (first | exact Drawn0.refl _ | apply Drawn0.step)⟩
        · replace c10 := Bool.eq_false_iff.mpr c10
          subst c10
          have H1 : (if a0 = 101 then (if a1 = true then (some (27, true)) else (some (0, false))) else (some (0, false))) = some (r1, r2) := by rw [if_neg (show ¬ (false = true) by decide)] at H; exact H
          clear H
          have H := H1
          clear H1
          by_cases c11 : a0 = 101
          · rw [if_pos c11] at H
            have c11b0 : (a0 == 101) = true := beq_iff_eq.mpr c11
            have c11b1 : (a0 != 101) = false := bne_eq_false_iff_eq.mpr c11
            clear c11
            by_cases c12 : a1 = true
            · subst c12
              have H1 : (some (27, true)) = some (r1, r2) := by rw [if_pos rfl] at H; exact H
              clear H
              have H := H1
              clear H1
              simp only [Option.some.injEq, Prod.mk.injEq] at H
              obtain ⟨rfl, rfl⟩ := H
              go_wp2
              go_ret2
              exact ⟨by first | rfl | (simp; done) | (simp [*]; done), by repeat (first | exact Drawn0.refl _ | apply Drawn0.step)⟩
            · replace c12 := Bool.eq_false_iff.mpr c12
              subst c12
              have H1 : (some (0, false)) = some (r1, r2) := by rw [if_neg (show ¬ (false = true) by decide)] at H; exact H
              clear H
              have H := H1
              clear H1
              simp only [Option.some.injEq, Prod.mk.injEq] at H
              obtain ⟨rfl, rfl⟩ := H
              go_wp2
              go_ret2
              exact ⟨by first | rfl | (simp; done) | (simp [*]; done), by repeat (first | exact Drawn0.refl _ | apply Drawn0.step)⟩
          · rw [if_neg c11] at H
            have c11b0 : (a0 == 101) = false := beq_eq_false_iff_ne.mpr c11
            have c11b1 : (a0 != 101) = true := bne_iff_ne.mpr c11
            simp only [Option.some.injEq, Prod.mk.injEq] at H
            obtain ⟨rfl, rfl⟩ := H
            go_wp2
            go_ret2
            exact ⟨by first | rfl | (simp; done) | (simp [*]; done), by repeat (first | exact Drawn0.refl _ | apply Drawn0.step)⟩
end Go.Proofs.YtoanbmggffkmgaaDoor.P
end
section
namespace Go.Proofs.YtoanbmggffkmgaaDoor.La
open Go.RowKit Go.Proofs.YtoanbmggffkmgaaDoor.P Go.Proofs.YtoanbmggffkmgaaDoorW.PrintWords Go.Proofs.YtoanbmggffkmgaaDoorW.PrintLast Go.Proofs.YtoanbmggffkmgaaDoorW.PrintMore
/-- The letter of a short escape of JSON. -/
def shortJ (c : Int) : Option Int := if c = 34 then some 34 else if c = 92 then some 92 else if c = 98 then some 8 else if c = 102 then some 12 else if c = 110 then some 10 else if c = 114 then some 13 else if c = 116 then some 9 else if c = 47 then some 47 else none
theorem shortJ_fin : ∀ b : Fin 256, esc_short.f 3 (b.val : Int) false = some ((shortJ b.val).getD 0, (shortJ b.val).isSome) := by decide +kernel
theorem short_eq {c : Int} (h0 : 0 ≤ c) (h1 : c < 256) : esc_short.f 3 c false = some ((shortJ c).getD 0, (shortJ c).isSome) := by
  obtain ⟨n, rfl⟩ := Int.eq_ofNat_of_zero_le h0
  exact shortJ_fin ⟨n, by omega⟩
theorem shortJ_good {c x : Int} (h : shortJ c = some x) : good x := by
  unfold shortJ at h
  (repeat' split at h) <;> first | (cases h; done) | (obtain rfl := Option.some.inj h; exact good_iff.2 (by omega))
/-- What an escape of JSON says, and how many bytes it has. -/
def jesc (l : List Int) : Option (Int × Nat) :=
  if l.length ≤ 1 then none
  else if (shortJ (l.getD 1 0)).isSome = true then some ((shortJ (l.getD 1 0)).getD 0, 2)
  else if l.getD 1 0 ≠ 117 ∨ (digsAt l 2 4).isSome = false then none
  else if (digsAt l 2 4).getD 0 < 55296 ∨ (digsAt l 2 4).getD 0 ≥ 56320 then (if good ((digsAt l 2 4).getD 0) then some ((digsAt l 2 4).getD 0, 6) else none)
  else if (digsAt l 8 4).isSome = false ∨ (l.drop 6).take 2 ≠ [92, 117] ∨ (digsAt l 8 4).getD 0 < 56320 ∨ (digsAt l 8 4).getD 0 > 57343 then none
  else some (65536 + ((digsAt l 2 4).getD 0 - 55296) * 1024 + ((digsAt l 8 4).getD 0 - 56320), 12)
theorem digsAt_drop (l : List Int) {i : Nat} (hi : i ≤ l.length) (j n : Nat) : digsAt (l.drop i) j n = digsAt l (i + j) n := by
  unfold digsAt
  rw [List.length_drop, List.drop_drop]
  by_cases h : j + n ≤ l.length - i
  · rw [if_pos h, if_pos (by omega)]
  · by_cases h2 : i + j + n ≤ l.length
    · omega
    · rw [if_neg h, if_neg h2]
theorem hexI_bound {l : List Int} {x : Int} (x0 : 0 ≤ x) {v : Int} (h : hexI x l = some v) : 0 ≤ v ∧ v < (x + 1) * 16 ^ l.length := by
  induction l generalizing x with
  | nil =>
    simp only [hexI] at h
    obtain rfl := Option.some.inj h
    simp
    omega
  | cons b l ih =>
    simp only [hexI] at h
    obtain ⟨d, hd, h⟩ := Option.bind_eq_some_iff.1 h
    have hl := hexVal_lt hd
    have h2 := ih (x := x * 16 + d) (by omega) h
    refine ⟨h2.1, Int.lt_of_lt_of_le h2.2 ?_⟩
    rw [List.length_cons, Int.pow_succ, Int.mul_comm (16 ^ l.length) 16, ← Int.mul_assoc]
    exact Int.mul_le_mul_of_nonneg_right (by omega) (Int.pow_nonneg (by decide))
theorem digs4_bound (l : List Int) (i : Nat) : 0 ≤ (digsAt l i 4).getD 0 ∧ (digsAt l i 4).getD 0 < 65536 := by
  cases h : digsAt l i 4 with
  | none => simp
  | some v =>
    unfold digsAt at h
    split at h
    · rename_i hl
      have := hexI_bound (Int.le_refl 0) h
      rw [List.length_take, List.length_drop, Nat.min_eq_left (by omega)] at this
      simpa using this
    · cases h
end Go.Proofs.YtoanbmggffkmgaaDoor.La
namespace Go.Proofs.YtoanbmggffkmgaaDoor.P
open Go.RowKit Go.Proofs.YtoanbmggffkmgaaDoor.La Go.Proofs.YtoanbmggffkmgaaDoorW.PrintWords Go.Proofs.YtoanbmggffkmgaaDoorW.PrintLast Go.Proofs.YtoanbmggffkmgaaDoorW.PrintMore
theorem getD_drop (l : List Int) (i j : Nat) : (l.drop i).getD j 0 = l.getD (i + j) 0 := by
  simp [List.getD_eq_getElem?_getD, List.getElem?_drop]
/-- What escape leaves. -/
def EscPost (B g : Nat) (text : ByteArray) (i : Nat) (bs : List Int) (w : World) (e : Ending) (w' : World) : Prop :=
  e = .returned (.bool (jesc ((bytesOf text).drop i)).isSome) ∧
  Rdr B w' g text (match jesc ((bytesOf text).drop i) with | none => (i : Int) | some p => (i : Int) + p.2) (match jesc ((bytesOf text).drop i) with | none => bs | some p => bs ++ enc p.1) ∧ Below B w w'
set_option maxRecDepth 100000 in
set_option maxHeartbeats 8000000 in
theorem resc_short {B g : Nat} {text : ByteArray} {i : Nat} {bs : List Int} {w : World} (hR : Rdr B w g text (i : Int) bs) (hl : bs.length ≤ 140737488000000) (h1 : i < text.size) (h2 : text.size ≤ 140737488000000) (hj : i + 1 = text.size ∨ (i + 1 < text.size ∧ (shortJ (bt text (i + 1))).isSome = true)) :
    Calls Tryd.prog 39 #[.pointer (some ⟨g, 0, none⟩)] w (EscPost B g text i bs w) := by
  obtain ⟨A, c, c0, c1, c2, f1, f2, hlt, hc, hC⟩ := hR.open_
  have hlow := hR.low
  have hlen : ((bytesOf text).drop i).length = text.size - i := by rw [List.length_drop, size_of]
  rcases hj with hj | ⟨hj, hs⟩
  · have HJ := Lib.hid (show jesc ((bytesOf text).drop i) = none from if_pos (by omega))
    have e1 : ((i : Int) + 1 == (text.size : Int)) = true := beq_iff_eq.2 (by omega)
    clear hlen hj
    go_enter Tryd.func39, Tryd.ntmps39
    go_wp2_with fail
    go_quiet (fail)
    go_wp2
    go_ret
    exact ⟨by rw [HJ.out]; rfl, by rw [HJ.out]; exact hR.drewN _, pw_below_drewN (Below.refl _ _) _⟩
  · have e1 : ((i : Int) + 1 == (text.size : Int)) = false := beq_eq_false_iff_ne.2 (by omega)
    have hbt : bt text ((i : Int) + 1) = ((bytesOf text).drop i).getD 1 0 := by rw [bt_get, getD_drop]; congr 1
    have hbr := bt_range text ((i : Int) + 1)
    have HS := Lib.hid (show esc_short.f 3 (bt text ((i : Int) + 1)) false = some ((shortJ (bt text ((i : Int) + 1))).getD 0, true) by rw [short_eq (by omega) (by omega), hs])
    obtain ⟨x, hx⟩ := Option.isSome_iff_exists.1 hs
    have hg := shortJ_good hx
    have HJ := Lib.hid (show jesc ((bytesOf text).drop i) = some (x, 2) by unfold jesc; rw [if_neg (by omega), ← hbt, hx]; rfl)
    rw [hx] at HS
    clear hlen hs hx hbt
    have p1 := eq_true (show (0 : Int) ≤ (i : Int) + 1 by omega)
    have qi1 := eq_true (show (i : Int) + 1 < (text.size : Int) by omega)
    have q1 := eq_true (show ((i : Int) + 1).toNat < text.size by omega)
    have q2 := eq_true hj
    have hx1 : ∀ h : i + 1 < text.size, ((text[i + 1]'h).toNat : Int) = bt text ((i : Int) + 1) := fun h => bt_at text ((i : Int) + 1) (by omega)
    go_enter Tryd.func39, Tryd.ntmps39
    go_wp2_with fail
    go_quiet (fail)
    go_wp2_with fail
    go_quiet (fail)
    go_wp2_with fail
    refine (esc_short.calls 3 _ _ _ _ _ HS.out).mono ?_
    rintro e w1 ⟨rfl, n1, rfl⟩
    go_wp2_with fail
    refine (rput_good 2 hg (hR.drewN _) hl (by omega) (by omega) (by decide) (by decide)).mono ?_
    rintro e w2 ⟨rfl, hR2, hB2⟩
    clear c0 c1 c2 f1 f2
    go_wp2
    go_ret
    exact ⟨by rw [HJ.out]; rfl, by rw [HJ.out]; exact hR2, (pw_below_drewN (Below.refl _ _) _).trans hB2⟩
set_option maxRecDepth 100000 in
set_option maxHeartbeats 16000000 in
theorem resc_hex {B g : Nat} {text : ByteArray} {i : Nat} {bs : List Int} {w : World} (hR : Rdr B w g text (i : Int) bs) (hl : bs.length ≤ 140737488000000) (h2 : text.size ≤ 140737488000000) (hj : i + 1 < text.size) (hs : shortJ (bt text (i + 1)) = none) :
    Calls Tryd.prog 39 #[.pointer (some ⟨g, 0, none⟩)] w (EscPost B g text i bs w) := by
  obtain ⟨A, c, c0, c1, c2, f1, f2, hlt, hc, hC⟩ := hR.open_
  have hlow := hR.low
  have hlen : ((bytesOf text).drop i).length = text.size - i := by rw [List.length_drop, size_of]
  have e1 : ((i : Int) + 1 == (text.size : Int)) = false := beq_eq_false_iff_ne.2 (by omega)
  have hbt : bt text ((i : Int) + 1) = ((bytesOf text).drop i).getD 1 0 := by rw [bt_get, getD_drop]; congr 1
  have hbr := bt_range text ((i : Int) + 1)
  have HS := Lib.hid (show esc_short.f 3 (bt text ((i : Int) + 1)) false = some (0, false) by rw [short_eq (by omega) (by omega), hs]; rfl)
  have hd2 : digsAt ((bytesOf text).drop i) 2 4 = digsAt (bytesOf text) (i + 2) 4 := digsAt_drop _ (by rw [size_of]; omega) _ _
  have hd8 : digsAt ((bytesOf text).drop i) 8 4 = digsAt (bytesOf text) (i + 8) 4 := digsAt_drop _ (by rw [size_of]; omega) _ _
  have hJ : jesc ((bytesOf text).drop i) =
      if bt text ((i : Int) + 1) ≠ 117 ∨ (digsAt (bytesOf text) (i + 2) 4).isSome = false then none
      else if (digsAt (bytesOf text) (i + 2) 4).getD 0 < 55296 ∨ (digsAt (bytesOf text) (i + 2) 4).getD 0 ≥ 56320 then (if good ((digsAt (bytesOf text) (i + 2) 4).getD 0) then some ((digsAt (bytesOf text) (i + 2) 4).getD 0, 6) else none)
      else if (digsAt (bytesOf text) (i + 8) 4).isSome = false ∨ (((bytesOf text).drop i).drop 6).take 2 ≠ [92, 117] ∨ (digsAt (bytesOf text) (i + 8) 4).getD 0 < 56320 ∨ (digsAt (bytesOf text) (i + 8) 4).getD 0 > 57343 then none
      else some (65536 + ((digsAt (bytesOf text) (i + 2) 4).getD 0 - 55296) * 1024 + ((digsAt (bytesOf text) (i + 8) 4).getD 0 - 56320), 12) := by
    unfold jesc
    rw [if_neg (by omega), ← hbt, hs, hd2, hd8, if_neg (by decide)]
  have hx4 := digs4_bound (bytesOf text) (i + 2)
  have hy4 := digs4_bound (bytesOf text) (i + 8)
  have p1 := eq_true (show (0 : Int) ≤ (i : Int) + 1 by omega)
  have qi1 := eq_true (show (i : Int) + 1 < (text.size : Int) by omega)
  have q1 := eq_true (show ((i : Int) + 1).toNat < text.size by omega)
  have q2 := eq_true hj
  have hx1 : ∀ h : i + 1 < text.size, ((text[i + 1]'h).toNat : Int) = bt text ((i : Int) + 1) := fun h => bt_at text ((i : Int) + 1) (by omega)
  clear hlen hs hbt hd2 hd8
  have HJ := Lib.hid hJ
  clear hJ
  have HD := fun (w : World) (h : Rdr B w g text (i : Int) bs) => rdigits_at ((i : Int) + 2) 4 (i + 2) 4 (by omega) (by omega) (by decide) (by decide) h h2 (by omega)
  have HD8 := fun (w : World) (h : Rdr B w g text (i : Int) bs) => rdigits_at ((i : Int) + 2 + 4 + 2) 4 (i + 8) 4 (by omega) (by omega) (by decide) (by decide) h h2 (by omega)
  have hok2 : (digsAt (bytesOf text) (i + 8) 4).isSome = true → i + 12 ≤ text.size := by
    intro h
    unfold digsAt at h
    split at h
    · rename_i h3; rw [size_of] at h3; omega
    · cases h
  generalize (digsAt (bytesOf text) (i + 8) 4).isSome = ok2 at HD8 HJ hok2
  generalize (digsAt (bytesOf text) (i + 8) 4).getD 0 = y at HD8 HJ hy4
  generalize (digsAt (bytesOf text) (i + 2) 4).isSome = ok at HD HJ
  generalize (digsAt (bytesOf text) (i + 2) 4).getD 0 = x at HD HJ hx4
  by_cases hok : bt text ((i : Int) + 1) = 117 ∧ ok = true
  · obtain ⟨k1, rfl⟩ := hok
    have HDh := Lib.hid HD
    have HD8h := Lib.hid HD8
    have e2 : (bt text ((i : Int) + 1) != 117) = false := by rw [k1]; rfl
    have HJ1 := Lib.hid (HJ.out.trans (if_neg (by rw [k1]; simp)))
    clear HJ HD k1
    by_cases hx : x < 55296 ∨ x ≥ 56320
    · have HJ2 := Lib.hid (HJ1.out.trans (if_pos hx))
      clear HJ1 HD8 HD8h hy4
      have hx' : x < 55296 ∨ (¬ x < 55296 ∧ 56320 ≤ x) := by omega
      clear hx
      generalize bt text ((i : Int) + 1) = b at HS hbr hx1 e2
      by_cases hg : good x
      · have HN := Lib.hid (HJ2.out.trans (if_pos hg))
        clear HJ2
        rcases hx' with g1 | ⟨g1, g2⟩
        all_goals
          go_enter Tryd.func39, Tryd.ntmps39
          go_wp2_with fail
          go_quiet (fail)
          go_wp2_with fail
          go_quiet (fail)
          go_wp2_with fail
          refine (esc_short.calls 3 _ _ _ _ _ HS.out).mono ?_
          rintro e w1 ⟨rfl, n1, rfl⟩
          go_wp2_with fail
          refine (HDh.out _ (hR.drewN _)).mono ?_
          rintro e w2 ⟨rfl, hR2, hB2⟩
          clear c0 c1 c2 f1 f2
          go_wp2_with fail
          refine (rput_good 6 hg hR2 hl (by omega) (by omega) (by decide) (by decide)).mono ?_
          rintro e w3 ⟨rfl, hR3, hB3⟩
          go_wp2
          go_ret
          exact ⟨by rw [HN.out]; rfl, by rw [HN.out]; exact hR3, ((pw_below_drewN (Below.refl _ _) _).trans hB2).trans hB3⟩
      · have HN := Lib.hid (HJ2.out.trans (if_neg hg))
        clear HJ2
        rcases hx' with g1 | ⟨g1, g2⟩
        all_goals
          go_enter Tryd.func39, Tryd.ntmps39
          go_wp2_with fail
          go_quiet (fail)
          go_wp2_with fail
          go_quiet (fail)
          go_wp2_with fail
          refine (esc_short.calls 3 _ _ _ _ _ HS.out).mono ?_
          rintro e w1 ⟨rfl, n1, rfl⟩
          go_wp2_with fail
          refine (HDh.out _ (hR.drewN _)).mono ?_
          rintro e w2 ⟨rfl, hR2, hB2⟩
          clear c0 c1 c2 f1 f2
          go_wp2_with fail
          refine (rput_bad 6 hg hR2 hl (by omega) (by omega) (by decide) (by decide)).mono ?_
          rintro e w3 ⟨rfl, hR3, hB3⟩
          go_wp2
          go_ret
          exact ⟨by rw [HN.out]; rfl, by rw [HN.out]; exact hR3, ((pw_below_drewN (Below.refl _ _) _).trans hB2).trans hB3⟩
    · have HJ2 := Lib.hid (HJ1.out.trans (if_neg hx))
      have g1 : ¬ x < 55296 := by omega
      have g2 : ¬ 56320 ≤ x := by omega
      clear HJ1 hx HD8
      generalize bt text ((i : Int) + 1) = b at HS hbr hx1 e2
      go_enter Tryd.func39, Tryd.ntmps39
      go_wp2_with fail
      go_quiet (fail)
      go_wp2_with fail
      go_quiet (fail)
      go_wp2_with fail
      refine (esc_short.calls 3 _ _ _ _ _ HS.out).mono ?_
      rintro e w1 ⟨rfl, n1, rfl⟩
      go_wp2_with fail
      refine (HDh.out _ (hR.drewN _)).mono ?_
      rintro e w2 ⟨rfl, hR2, hB2⟩
      obtain ⟨A9, c9, d0, d1, d2, _, _, _, _, _⟩ := hR2.open_
      clear c0 c1 c2 f1 f2
      go_wp2_with fail
      refine (HD8h.out _ hR2).mono ?_
      rintro e w3 ⟨rfl, hR3, hB3⟩
      obtain ⟨A8, c8, b0, b1, b2, _, _, _, _, _⟩ := hR3.open_
      clear d0 d1 d2
      cases ok2
      · have HN := Lib.hid (HJ2.out.trans (if_pos (.inl rfl)))
        clear hok2
        go_wp2
        go_ret
        exact ⟨by rw [HN.out]; rfl, by rw [HN.out]; exact hR3, ((pw_below_drewN (Below.refl _ _) _).trans hB2).trans hB3⟩
      · have h12 := hok2 rfl
        clear hok2
        have hsl : ∀ W : World, (Instr.slice 9 (.string text) (some (.int .i64 ((i : Int) + 2 + 4))) (some (.int .i64 ((i : Int) + 2 + 4 + 2))) none).run Tryd.prog W = .ok (.string (text.extract (i + 6) (i + 8))) W := by
          intro W
          have := run_slice_string (P := Tryd.prog) W 9 text .i64 .i64 ((i : Int) + 2 + 4) ((i : Int) + 2 + 4 + 2) Tryd.underlying9 (by omega) (by omega) (by omega)
          rw [this]
          rfl
        have hs2 : ((text.extract (i + 6) (i + 8)).toList = ([92, 117] : List UInt8)) ↔ (((bytesOf text).drop i).drop 6).take 2 = [92, 117] := by
          have e : bytesOf (text.extract (i + 6) (i + 8)) = (((bytesOf text).drop i).drop 6).take 2 := by
            rw [bytesOf_extract, List.drop_take, List.drop_drop, show i + 8 - (i + 6) = 2 by omega]
          rw [← e]
          have h9 := toList_eq_iff (text.extract (i + 6) (i + 8)) ⟨#[92, 117]⟩
          rw [toList_data' ⟨#[92, 117]⟩] at h9
          exact h9
        by_cases hq : (text.extract (i + 6) (i + 8)).toList = ([92, 117] : List UInt8)
        · have hq2 := hs2.1 hq
          by_cases y1 : y < 56320
          · have HN := Lib.hid (HJ2.out.trans (if_pos (.inr (.inr (.inl y1)))))
            clear hs2 hq2
            go_wp2
            go_ret
            exact ⟨by rw [HN.out]; rfl, by rw [HN.out]; exact hR3, ((pw_below_drewN (Below.refl _ _) _).trans hB2).trans hB3⟩
          · by_cases y2 : 57343 < y
            · have HN := Lib.hid (HJ2.out.trans (if_pos (.inr (.inr (.inr y2)))))
              clear hs2 hq2
              go_wp2
              go_ret
              exact ⟨by rw [HN.out]; rfl, by rw [HN.out]; exact hR3, ((pw_below_drewN (Below.refl _ _) _).trans hB2).trans hB3⟩
            · have HN := Lib.hid (HJ2.out.trans (if_neg (by
                intro h
                rcases h with h | h | h | h
                · cases h
                · exact h hq2
                · exact y1 h
                · exact y2 h)))
              have hg : good (65536 + (x - 55296) * 1024 + (y - 56320)) := good_iff.2 (by omega)
              clear hs2 hq2
              go_wp2_with fail
              refine (rput_good 12 hg hR3 hl (by omega) (by omega) (by decide) (by decide)).mono ?_
              rintro e w4 ⟨rfl, hR4, hB4⟩
              go_wp2
              go_ret
              exact ⟨by rw [HN.out]; rfl, by rw [HN.out]; exact hR4, (((pw_below_drewN (Below.refl _ _) _).trans hB2).trans hB3).trans hB4⟩
        · have HN := Lib.hid (HJ2.out.trans (if_pos (.inr (.inl (fun h => hq (hs2.2 h))))))
          clear hs2
          go_wp2
          go_ret
          exact ⟨by rw [HN.out]; rfl, by rw [HN.out]; exact hR3, ((pw_below_drewN (Below.refl _ _) _).trans hB2).trans hB3⟩
  · have HN := Lib.hid (show jesc ((bytesOf text).drop i) = none by
      rw [HJ.out, if_pos]
      by_cases h : bt text ((i : Int) + 1) = 117
      · right; cases ok
        · rfl
        · exact absurd ⟨h, rfl⟩ hok
      · exact .inl h)
    have k1 : (bt text ((i : Int) + 1) != 117) = true ∨ ((bt text ((i : Int) + 1) != 117) = false ∧ ok = false) := by
      by_cases h : bt text ((i : Int) + 1) = 117
      · right
        refine ⟨by rw [h]; rfl, ?_⟩
        cases ok
        · rfl
        · exact absurd ⟨h, rfl⟩ hok
      · left; exact bne_iff_ne.2 h
    have HDh := Lib.hid HD
    clear HJ hok HD HD8 hx4 hy4
    generalize bt text ((i : Int) + 1) = b at HS hbr hx1 k1
    rcases k1 with k1 | ⟨k1, rfl⟩
    all_goals
      go_enter Tryd.func39, Tryd.ntmps39
      go_wp2_with fail
      go_quiet (fail)
      go_wp2_with fail
      go_quiet (fail)
      go_wp2_with fail
      refine (esc_short.calls 3 _ _ _ _ _ HS.out).mono ?_
      rintro e w1 ⟨rfl, n1, rfl⟩
      go_wp2_with fail
      refine (HDh.out _ (hR.drewN _)).mono ?_
      rintro e w2 ⟨rfl, hR2, hB2⟩
      clear c0 c1 c2 f1 f2
      go_wp2
      go_ret
      exact ⟨by rw [HN.out]; rfl, by rw [HN.out]; exact hR2, (pw_below_drewN (Below.refl _ _) _).trans hB2⟩
theorem resc {B g : Nat} {text : ByteArray} {i : Nat} {bs : List Int} {w : World} (hR : Rdr B w g text (i : Int) bs) (hl : bs.length ≤ 140737488000000) (h1 : i < text.size) (h2 : text.size ≤ 140737488000000) :
    Calls Tryd.prog 39 #[.pointer (some ⟨g, 0, none⟩)] w (EscPost B g text i bs w) := by
  by_cases hj : i + 1 = text.size
  · exact resc_short hR hl h1 h2 (.inl hj)
  · cases hs : shortJ (bt text (i + 1)) with
    | none => exact resc_hex hR hl h2 (by omega) hs
    | some x => exact resc_short hR hl h1 h2 (.inr ⟨by omega, by rw [hs]; rfl⟩)
end Go.Proofs.YtoanbmggffkmgaaDoor.P
end
section
namespace Go.Proofs.YtoanbmggffkmgaaDoor.P
open Go.RowKit Go.Proofs.YtoanbmggffkmgaaDoorW.PrintWords Go.Proofs.YtoanbmggffkmgaaDoorW.PrintLast Go.Proofs.YtoanbmggffkmgaaDoorW.PrintMore
attribute [local go_sem] max2_int min2_int max_two min_two max_three min_three max_four min_four   -- for this text's walks alone
set_option linter.unusedVariables false
set_option linter.unusedSimpArgs false
/-- A state of type 63 at block g of W; what its slices lead to came in by w0. -/
def IsS63 (w0 W : World) (g : Nat) (f0 : ByteArray) (f1 : Int) (f2 : List Int) : Prop := ∃ A2 c2, W.heap[g]? = some (.cells #[.string f0, .int .i64 f1, .slice A2 f2.length c2] 63 (0, 0)) ∧ w0.heap.size ≤ g ∧ Kd.C (Kd.int .u8) w0 A2 f2.length f2
theorem IsS63.grown {w0 W : World} {g : Nat} {f0 : ByteArray} {f1 : Int} {f2 : List Int} {W1 : World} {row : Option Nat} (h : IsS63 w0 W g f0 f1 f2) (hw : W.grownBy W1 row) (hne : some g ≠ row) : IsS63 w0 W1 g f0 f1 f2 := by
  obtain ⟨A2, c2, hb, hg, hr2⟩ := h
  exact ⟨A2, c2, blk_grown hb hw hne, hg, hr2⟩
theorem IsS63.below {w0 W : World} {g : Nat} {f0 : ByteArray} {f1 : Int} {f2 : List Int} {W1 : World} (h : IsS63 w0 W g f0 f1 f2) (hw : Below W.heap.size W W1) : IsS63 w0 W1 g f0 f1 f2 := h.grown (grown_of_below hw none) (by simp)
theorem IsS63.drewN {w0 W : World} {g : Nat} {f0 : ByteArray} {f1 : Int} {f2 : List Int} (h : IsS63 w0 W g f0 f1 f2) (m : Nat) : IsS63 w0 (W.drewN m) g f0 f1 f2 := h
theorem IsS63.drew {w0 W : World} {g : Nat} {f0 : ByteArray} {f1 : Int} {f2 : List Int} (h : IsS63 w0 W g f0 f1 f2) : IsS63 w0 W.drew g f0 f1 f2 := h
theorem IsS63.at_ {w0 W : World} {g : Nat} {f0 : ByteArray} {f1 : Int} {f2 : List Int} {w' : World} {m : Nat} (hq : W.drewN m = w') (h : IsS63 w0 W g f0 f1 f2) : IsS63 w0 w' g f0 f1 f2 := by subst hq; exact IsS63.drewN h m
end Go.Proofs.YtoanbmggffkmgaaDoor.P
end
section
namespace Go.Proofs.YtoanbmggffkmgaaDoor.La
open Go.RowKit Go.Proofs.YtoanbmggffkmgaaDoor.P Go.Proofs.YtoanbmggffkmgaaDoorW.PrintWords Go.Proofs.YtoanbmggffkmgaaDoorW.PrintLast Go.Proofs.YtoanbmggffkmgaaDoorW.PrintMore
/-- What a JSON string says from byte i on, acc being read: is it whole, its bytes, and where it ends or is wrong. -/
def jbody (L : List Int) : Nat → Nat → List Int → Bool × List Int × Nat
  | 0, i, _ => (false, [], i)
  | k + 1, i, acc =>
    if L.length ≤ i then (false, [], L.length)
    else if L.getD i 0 = 34 then (true, acc, i + 1)
    else if L.getD i 0 < 32 then (false, [], i)
    else if L.getD i 0 = 92 then (match jesc (L.drop i) with | none => (false, [], i) | some p => jbody L k (i + p.2) (acc ++ enc p.1))
    else if (tk (L.drop i)).2 > 0 then jbody L k (i + (tk (L.drop i)).2.toNat) (acc ++ enc0 (tk (L.drop i)).1)
    else (false, [], i)
theorem digsAt_len {l : List Int} {i n : Nat} (h : (digsAt l i n).isSome = true) : i + n ≤ l.length := by
  unfold digsAt at h
  split at h
  · assumption
  · cases h
theorem jesc_len {l : List Int} {p : Int × Nat} (h : jesc l = some p) : 2 ≤ p.2 ∧ p.2 ≤ l.length ∧ p.2 ≤ 12 := by
  unfold jesc at h
  split at h
  · cases h
  · rename_i h1
    split at h
    · obtain rfl := Option.some.inj h
      exact ⟨Nat.le_refl _, by show 2 ≤ _; omega, by show 2 ≤ 12; decide⟩
    · split at h
      · cases h
      · rename_i h2
        have h3 : (digsAt l 2 4).isSome = true := by
          cases hd : (digsAt l 2 4).isSome
          · exact absurd (.inr hd) h2
          · rfl
        have h4 := digsAt_len h3
        split at h
        · split at h
          · obtain rfl := Option.some.inj h
            exact ⟨by show 2 ≤ 6; decide, by show 6 ≤ _; omega, by show 6 ≤ 12; decide⟩
          · cases h
        · split at h
          · cases h
          · rename_i h5
            have h6 : (digsAt l 8 4).isSome = true := by
              cases hd : (digsAt l 8 4).isSome
              · exact absurd (.inl hd) h5
              · rfl
            have h7 := digsAt_len h6
            obtain rfl := Option.some.inj h
            exact ⟨by show 2 ≤ 12; decide, by show 12 ≤ _; omega, by show 12 ≤ 12; decide⟩
end Go.Proofs.YtoanbmggffkmgaaDoor.La
namespace Go.Proofs.YtoanbmggffkmgaaDoor.P
open Go.RowKit Go.Proofs.YtoanbmggffkmgaaDoor.La Go.Proofs.YtoanbmggffkmgaaDoorW.PrintWords Go.Proofs.YtoanbmggffkmgaaDoorW.PrintLast Go.Proofs.YtoanbmggffkmgaaDoorW.PrintMore
attribute [local go_sem] max2_int min2_int max_two min_two max_three min_three max_four min_four   -- for this text's walks alone
/-- esc.start. -/
theorem rstart (a0 : ByteArray) (a1 : Int) (w : World) :
    Calls Tryd.prog 37 #[.string a0, .int .i64 a1] w fun e w' => ∃ g : Nat, e = .returned (.pointer (some ⟨g, 0, none⟩)) ∧ Rdr w.heap.size w' g a0 (mn (mx a1 0) (a0.size : Int)) [] ∧ Below w.heap.size w w' := by
  have hu63 := Tryd.underlying63
  have HB := Aside0.mk (Below.refl w.heap.size w)
  obtain ⟨ji3, hji3⟩ : ∃ j_ : Int, (mx a1 0) = j_ := ⟨_, rfl⟩
  rw [hji3]
  have hji3_ : (if a1 < 0 then 0 else a1) = ji3 := hji3
  obtain ⟨ji4, hji4⟩ : ∃ j_ : Int, (mn (ji3) (a0.size : Int)) = j_ := ⟨_, rfl⟩
  rw [hji4]
  have hji4_ : (if (a0.size : Int) < (ji3) then (a0.size : Int) else (ji3)) = ji4 := hji4
  go_enter Tryd.func37, Tryd.ntmps37
  go_wp2_with (first | ((with_reducible refine gate_dst (N := 12) rfl ?_); refine box_event ?hg (N := 12) ?hd (cs := #[.string a0, .int .i64 ji4, .slice none 0 0]) (t := 63) ?hr ?_; (case hd => rfl); (case hg => rfl); (case hr => first | (go_simp; done) | (go_simp; rfl)); intro gb134 hg w5 hbox hb; have n1_ := Aside0.mk (below_step (by repeat (first | (with_reducible first | exact HB.out | apply below_alloc | apply pw_below_drewN | apply below_drew1) | exact HB.out)) hb); have n2_ := Aside0.mk (hbox); have n3_ := Aside0.mk ((by rw [hg]; exact (below_size (by repeat (first | (with_reducible first | exact HB.out | apply below_alloc | apply pw_below_drewN | apply below_drew1) | exact HB.out))) : w.heap.size ≤ gb134)); clear HB; have HB := n1_; have BK134 := n2_; have GW134 := n3_; clear n1_ n2_ n3_; clear hb hbox hg))
  go_ret
  exact ⟨_, rfl, ⟨GW134.out, _, (by (with_reducible repeat (first | refine blk_drewN ?_ _ | refine blk_drew ?_ | refine blk_alloc ?_ _)); exact BK134.out), Kd.R_nil _ _ _ _ _⟩, by repeat (first | (with_reducible first | exact HB.out | apply below_alloc | apply pw_below_drewN | apply below_drew1) | exact HB.out)⟩
theorem Rdr.moved {B : Nat} {w : World} {g : Nat} {text : ByteArray} {at_ : Int} {bs : List Int} (h : Rdr B w g text at_ bs) (at1 : Int) :
    Rdr B (w.setCell ⟨g, 1, none⟩ (.int .i64 at1)) g text at1 bs ∧ Below B w (w.setCell ⟨g, 1, none⟩ (.int .i64 at1)) := by
  obtain ⟨hB, bv, hh, hr⟩ := h
  exact ⟨⟨hB, bv, rblk_set hh 1 (.int .i64 at1), Kd.R_move hr (fun k hk => by rw [rblk_far hk])⟩, (Below.refl _ _).setCell hB _⟩
theorem take_one_drop {L : List Int} {i : Nat} (h : i < L.length) : (L.drop i).take 1 = [L.getD i 0] := by
  rw [List.drop_eq_getElem_cons h, List.getD_eq_getElem?_getD, List.getElem?_eq_getElem h]
  rfl
/-- The loop's state. -/
def UnqInv (w : World) (text : ByteArray) (g : Nat) (res : Bool × List Int × Nat) (k : Nat) (wr : World) : Prop :=
  ∃ (i : Nat) (bs : List Int), Rdr w.heap.size wr g text (i : Int) bs ∧ Below w.heap.size w wr ∧ jbody (bytesOf text) k i bs = res ∧ i ≤ text.size ∧ text.size - i < k ∧ bs.length ≤ 4 * i
def unqRes (res : Bool × List Int × Nat) : Value := .tuple #[.string (if res.1 then strOfNums res.2.1 else ⟨#[]⟩), .int .i64 (if res.1 then res.2.2 else 0), .int .i64 (if res.1 then -1 else res.2.2)]
set_option maxRecDepth 100000 in
set_option maxHeartbeats 8000000 in
theorem unq_walk (text : ByteArray) (at_ : Nat) (hs : text.size ≤ 17592186044416) (hq : (bytesOf text).getD at_ 0 = 34) (hlt : at_ < text.size) (w : World) :
    Calls Tryd.prog 16 #[.string text, .int .i64 at_] w fun e w' => e = .returned (unqRes (jbody (bytesOf text) (text.size + 1) (at_ + 1) [])) ∧ Below w.heap.size w w' := by
  generalize hres : jbody (bytesOf text) (text.size + 1) (at_ + 1) [] = res
  have HRES := Lib.hid hres
  clear hres
  have g1 : decide ((at_ : Int) < 0) = false := decide_eq_false (by omega)
  go_enter Tryd.func16, Tryd.ntmps16
  go_wp2_with fail
  refine (rstart text at_ w).mono ?_
  rintro e w1 ⟨g, rfl, hR, hB⟩
  rw [show mn (mx (at_ : Int) 0) (text.size : Int) = (at_ : Int) by unfold mn mx; (repeat' split) <;> omega] at hR
  go_wp2_with fail
  refine (rbegins ⟨#[34]⟩ hR (by omega) (by omega)).mono ?_
  rintro e w2 ⟨rfl, n2, rfl⟩
  have d1 : decide (((bytesOf text).drop (at_ : Int).toNat).take (⟨#[34]⟩ : ByteArray).size = bytesOf ⟨#[34]⟩) = true := by
    refine decide_eq_true ?_
    rw [show (at_ : Int).toNat = at_ by omega]
    exact (take_one_drop (by rw [size_of]; exact hlt)).trans (by rw [hq]; rfl)
  rw [d1]
  have hR2 := hR.drewN n2
  have hB2 := pw_below_drewN hB n2
  clear hR hB
  generalize w1.drewN n2 = w3 at hR2 hB2
  obtain ⟨A, c, c0, c1, c2, f1, f2, hlt2, hc, hC⟩ := hR2.open_
  have hlow := hR2.low
  have hM := hR2.moved ((at_ : Int) + 1)
  go_wp2_with fail
  generalize w3.setCell ⟨g, 1, none⟩ (.int .i64 ((at_ : Int) + 1)) = w4 at hM
  obtain ⟨hR4, hB4⟩ := hM
  have hB5 := hB2.trans hB4
  clear c0 c1 c2 f1 f2 hC hR2 hB2 hB4
  go_loopg [] (text.size + 1) (fun k wr => UnqInv w text g res k wr)
  case atStart => exact ⟨at_ + 1, [], hR4, hB5, HRES.out, by omega, by omega, by simp⟩
  case round =>
    clear hR4 hB5 hlow hlt2 hc d1 hq hlt HRES g1
    obtain ⟨i, bs, hR, hB, hj, hi, hk, hl⟩ := hrel
    cases gk with
    | zero => omega
    | succ k =>
      obtain ⟨A, c, c0, c1, c2, f1, f2, hlt2, hc, hC⟩ := hR.open_
      have hlow := hR.low
      unfold jbody at hj
      by_cases hlt : i < text.size
      · rw [if_neg (by rw [size_of]; omega)] at hj
        have p1 := eq_true (show (0 : Int) ≤ (i : Int) by omega)
        have q1 := eq_true (show (i : Int) < (text.size : Int) by omega)
        have q2 := eq_true (show (i : Int).toNat < text.size by omega)
        have hx1 : ∀ h : i < text.size, ((text[i]'h).toNat : Int) = bt text (i : Int) := fun h => bt_at text (i : Int) (by omega)
        have hbt : (bytesOf text).getD i 0 = bt text (i : Int) := by rw [bt_get]; rfl
        rw [hbt] at hj
        have hbr := bt_range text (i : Int)
        generalize bt text (i : Int) = b at hj hbr hx1
        clear hbt
        have HJ := Lib.hid hj
        clear hj
        by_cases b34 : b = 34
        · have hr := Lib.hid (HJ.out.symm.trans (if_pos b34))
          subst b34
          have kc := fun n => Kd.C_string (P := Tryd.prog) (w := wr.drewN n) (c := c) Tryd.underlying46 Tryd.underlying5 Tryd.underlying9 hC
          go_wp2
          repeat (go_quiet (fail); try go_wp2)
          go_ret3
          exact ⟨by rw [hr.out]; rfl, by first | exact hB | exact pw_below_drewN hB _⟩
        have hj := HJ.out.symm.trans (if_neg b34)
        have t1 : (b == 34) = false := beq_eq_false_iff_ne.2 b34
        by_cases b32 : b < 32
        · have hr := Lib.hid (hj.trans (if_pos b32))
          have t2 : decide (b < 32) = true := decide_eq_true b32
          clear HJ hj
          go_wp2
          repeat (go_quiet (fail); try go_wp2)
          go_ret3
          exact ⟨by rw [hr.out]; rfl, by first | exact hB | exact pw_below_drewN hB _⟩
        replace hj := hj.trans (if_neg b32)
        have t2 : decide (b < 32) = false := decide_eq_false b32
        by_cases b92 : b = 92
        · have hr := Lib.hid (hj.trans (if_pos b92))
          have t3 : (b == 92) = true := beq_iff_eq.2 b92
          clear HJ hj b92 c0 c1 c2 f1 f2 hC
          obtain ⟨A0, c0_, c0, c1, c2, f1, f2, -, -, -⟩ := hR.open_
          go_wp2_with fail
          refine (resc hR (by omega) hlt (by omega)).mono ?_
          rintro e w5 ⟨rfl, hR5, hB5⟩
          have hB6 := hB.trans hB5
          clear c0 c1 c2 f1 f2
          cases hje : jesc ((bytesOf text).drop i) with
          | none =>
            rw [hje] at hr hR5
            have hr2 := Lib.hid hr.out
            clear hr
            replace hR5 : Rdr w.heap.size w5 g text (i : Int) bs := hR5
            obtain ⟨A5, c5, d0, d1, d2, e1, e2, -, -, -⟩ := hR5.open_
            go_wp2
            repeat (go_quiet (fail); try go_wp2)
            go_ret3
            exact ⟨by rw [hr2.out]; rfl, by first | exact hB6 | exact pw_below_drewN hB6 _⟩
          | some p =>
            rw [hje] at hr hR5
            have hr2 := Lib.hid hr.out
            clear hr
            replace hR5 : Rdr w.heap.size w5 g text ((i : Int) + p.2) (bs ++ enc p.1) := hR5
            have hp := jesc_len hje
            rw [List.length_drop, size_of] at hp
            have he := (enc_len p.1).2
            go_wp2
            go_roundg k
            case rel => exact ⟨i + p.2, bs ++ enc p.1, by rw [Int.natCast_add]; exact hR5, hB6, hr2.out.symm, by omega, by omega, by rw [List.length_append]; omega⟩
            case measure => omega
        · have hr := Lib.hid (hj.trans (if_neg b92))
          have t3 : (b == 92) = false := beq_eq_false_iff_ne.2 b92
          clear HJ hj c0 c1 c2 f1 f2 hC
          obtain ⟨A0, c0_, c0, c1, c2, f1, f2, -, -, -⟩ := hR.open_
          go_wp2_with fail
          refine (rletter hR (by omega) (by omega) (by omega) (by omega)).mono ?_
          rintro e w5 ⟨rfl, hR5, hB5⟩
          have hB6 := hB.trans hB5
          clear c0 c1 c2 f1 f2
          rw [show (i : Int).toNat = i by omega] at hR5
          rw [show (i : Int).toNat = i by omega]
          have hb := tk_bound ((bytesOf text).drop i) (fun x hx => bytes_of text x (List.mem_of_mem_drop hx))
          have he : (enc0 (tk ((bytesOf text).drop i)).1).length ≤ 4 := by
            unfold enc0
            split
            · exact (enc_len _).2
            · simp
          rw [List.length_drop, size_of] at hb
          generalize tk ((bytesOf text).drop i) = q at hR5 hr hb he
          by_cases hq : q.2 > 0
          · have hr2 := Lib.hid (hr.out.trans (if_pos hq))
            have t4 : decide (q.2 > 0) = true := decide_eq_true hq
            clear hr
            rw [t4]
            go_wp2
            go_roundg k
            case rel => exact ⟨i + q.2.toNat, bs ++ enc0 q.1, by rw [show ((i + q.2.toNat : Nat) : Int) = (i : Int) + q.2 by omega]; exact hR5, hB6, hr2.out.symm, by omega, by omega, by rw [List.length_append]; omega⟩
            case measure => omega
          · have hr2 := Lib.hid (hr.out.trans (if_neg hq))
            have t4 : decide (q.2 > 0) = false := decide_eq_false hq
            clear hr
            rw [t4]
            rw [show q.2 = 0 by omega] at hR5
            rw [show (i : Int) + 0 = i by omega] at hR5
            obtain ⟨A5, c5, d0, d1, d2, e1, e2, -, -, -⟩ := hR5.open_
            go_wp2
            repeat (go_quiet (fail); try go_wp2)
            go_ret3
            exact ⟨by rw [hr2.out]; rfl, by first | exact hB6 | exact pw_below_drewN hB6 _⟩
      · obtain rfl : i = text.size := by omega
        rw [if_pos (by rw [size_of]; omega), size_of] at hj
        obtain rfl := hj
        have e1 : decide ((text.size : Int) < (text.size : Int)) = false := decide_eq_false (by omega)
        go_wp2
        repeat (go_quiet (fail); try go_wp2)
        go_ret3
        exact ⟨rfl, hB⟩
/-- It is no string at all. -/
theorem unq_not (text : ByteArray) (at_ : Int) (hs : text.size ≤ 17592186044416) (hq : at_ < 0 ∨ (text.size : Int) ≤ at_ ∨ (bytesOf text).getD at_.toNat 0 ≠ 34) (w : World) :
    Calls Tryd.prog 16 #[.string text, .int .i64 at_] w fun e w' => e = .returned (.tuple #[.string ⟨#[]⟩, .int .i64 0, .int .i64 (mn (mx at_ 0) text.size)]) ∧ Below w.heap.size w w' := by
  have m0 : 0 ≤ mn (mx at_ 0) (text.size : Int) := by unfold mn mx; (repeat' split) <;> omega
  have m1 : mn (mx at_ 0) (text.size : Int) ≤ text.size := by unfold mn mx; (repeat' split) <;> omega
  by_cases h0 : at_ < 0
  · have g1 : decide (at_ < 0) = true := decide_eq_true h0
    go_enter Tryd.func16, Tryd.ntmps16
    go_wp2_with fail
    refine (rstart text at_ w).mono ?_
    rintro e w1 ⟨g, rfl, hR, hB⟩
    obtain ⟨A, c, c0, c1, c2, f1, f2, hlt2, hc, hC⟩ := hR.open_
    go_wp2
    repeat (go_quiet (fail); try go_wp2)
    go_ret3
    exact ⟨rfl, by first | exact hB | exact pw_below_drewN hB _⟩
  · have hm : mn (mx at_ 0) (text.size : Int) = at_ ∨ mn (mx at_ 0) (text.size : Int) = text.size := by unfold mn mx; (repeat' split) <;> omega
    have d1 : decide (((bytesOf text).drop (mn (mx at_ 0) (text.size : Int)).toNat).take (⟨#[34]⟩ : ByteArray).size = bytesOf ⟨#[34]⟩) = false := by
      refine decide_eq_false ?_
      intro hh
      have hl := congrArg List.length hh
      rw [List.length_take, List.length_drop, size_of, size_of] at hl
      have hl' : (mn (mx at_ 0) (text.size : Int)).toNat < text.size := by
        have : (⟨#[34]⟩ : ByteArray).size = 1 := rfl
        omega
      have hh2 : [(bytesOf text).getD (mn (mx at_ 0) (text.size : Int)).toNat 0] = [34] := (take_one_drop (by rw [size_of]; exact hl')).symm.trans hh
      have h34 := (List.cons.inj hh2).1
      rcases hm with hm | hm
      · rw [hm] at h34 m1 hl'
        rcases hq with hq | hq | hq
        · omega
        · omega
        · exact hq h34
      · omega
    have g1 : decide (at_ < 0) = false := decide_eq_false h0
    clear hm hq
    generalize hmm : mn (mx at_ 0) (text.size : Int) = m at d1 m0 m1
    go_enter Tryd.func16, Tryd.ntmps16
    go_wp2_with fail
    refine (rstart text at_ w).mono ?_
    rintro e w1 ⟨g, rfl, hR, hB⟩
    rw [hmm] at hR
    go_wp2_with fail
    refine (rbegins ⟨#[34]⟩ hR m0 m1).mono ?_
    rintro e w2 ⟨rfl, n2, rfl⟩
    rw [d1]
    have hR2 := hR.drewN n2
    have hB2 := pw_below_drewN hB n2
    clear hR hB
    generalize w1.drewN n2 = w3 at hR2 hB2
    obtain ⟨A, c, c0, c1, c2, f1, f2, hlt2, hc, hC⟩ := hR2.open_
    go_wp2
    repeat (go_quiet (fail); try go_wp2)
    go_ret3
    exact ⟨rfl, by first | exact hB2 | exact pw_below_drewN hB2 _⟩
/-- What Unquote answers. -/
def unqT (L : List Int) (i : Int) : ByteArray × Int × Int :=
  if i < 0 ∨ (L.length : Int) ≤ i ∨ L.getD i.toNat 0 ≠ 34 then (⟨#[]⟩, 0, mn (mx i 0) L.length)
  else match jbody L (L.length + 1) (i.toNat + 1) [] with
    | (true, bs, j) => (strOfNums bs, (j : Int), -1)
    | (false, _, j) => (⟨#[]⟩, 0, (j : Int))
def esc_Unquote.f (a0 : ByteArray) (a1 : Int) : Option (ByteArray × Int × Int) := if a0.size ≤ 17592186044416 then some (unqT (bytesOf a0) a1) else none
theorem esc_Unquote.calls (a0 : ByteArray) (a1 : Int) (r1 : ByteArray) (r2 : Int) (r3 : Int) (w : World) (h : esc_Unquote.f a0 a1 = some (r1, r2, r3)) :
    Calls Tryd.prog 16 #[.string a0, .int .i64 a1] w fun e w' => e = .returned (.tuple #[.string r1, .int .i64 r2, .int .i64 r3]) ∧ Below w.heap.size w w' := by
  unfold esc_Unquote.f at h
  split at h
  · rename_i hs
    have h := Option.some.inj h
    unfold unqT at h
    rw [size_of] at h
    split at h
    · rename_i hq
      obtain ⟨rfl, rfl, rfl⟩ := (by simpa using h : _ ∧ _ ∧ _)
      exact unq_not a0 a1 hs hq w
    · rename_i hq
      have h0 : 0 ≤ a1 := by
        rcases Int.lt_or_le a1 0 with h | h
        · exact absurd (.inl h) hq
        · exact h
      have h1 : a1 < a0.size := by
        rcases Int.lt_or_le a1 a0.size with h | h
        · exact h
        · exact absurd (.inr (.inl h)) hq
      obtain ⟨i, rfl⟩ := Int.eq_ofNat_of_zero_le h0
      have h2 : (bytesOf a0).getD i 0 = 34 := by
        rcases Classical.em ((bytesOf a0).getD i 0 = 34) with h | h
        · exact h
        · exact absurd (.inr (.inr h)) hq
      refine (unq_walk a0 i hs h2 (by omega) w).mono ?_
      rintro e w' ⟨rfl, hB⟩
      refine ⟨?_, hB⟩
      rw [show (i : Int).toNat = i by omega] at h
      generalize jbody (bytesOf a0) (a0.size + 1) (i + 1) [] = q at h
      obtain ⟨b, bs, j⟩ := q
      cases b
      · obtain ⟨rfl, rfl, rfl⟩ := (by simpa using h : _ ∧ _ ∧ _)
        rfl
      · obtain ⟨rfl, rfl, rfl⟩ := (by simpa using h : _ ∧ _ ∧ _)
        rfl
  · cases h
end Go.Proofs.YtoanbmggffkmgaaDoor.P
end
section
namespace Go.Proofs.YtoanbmggffkmgaaDoor.La
open Go.RowKit Go.Proofs.YtoanbmggffkmgaaDoor.P Go.Proofs.YtoanbmggffkmgaaDoorW.PrintWords Go.Proofs.YtoanbmggffkmgaaDoorW.PrintLast Go.Proofs.YtoanbmggffkmgaaDoorW.PrintMore
/-- What plain takes: its bytes, and how many stand in the text. -/
def tplain (lines : Bool) (l : List Int) : Option (List Int × Nat) :=
  if (lines = true ∧ (l.getD 0 0 = 10 ∨ l.take 2 = [13, 10])) ∨ l.getD 0 0 = 9 then (if l.getD 0 0 = 13 then some ([13, 10], 2) else some ([l.getD 0 0], 1))
  else if l.getD 0 0 < 32 ∨ l.getD 0 0 = 127 then none
  else if (tk l).2 > 0 then some (enc0 (tk l).1, (tk l).2.toNat) else none
end Go.Proofs.YtoanbmggffkmgaaDoor.La
namespace Go.Proofs.YtoanbmggffkmgaaDoor.P
open Go.RowKit Go.Proofs.YtoanbmggffkmgaaDoor.La Go.Proofs.YtoanbmggffkmgaaDoorW.PrintWords Go.Proofs.YtoanbmggffkmgaaDoorW.PrintLast Go.Proofs.YtoanbmggffkmgaaDoorW.PrintMore
theorem Rdr.row {B : Nat} {w : World} {g : Nat} {text : ByteArray} {at_ : Int} {bs : List Int} (h : Rdr B w g text at_ bs) :
    ∃ A c, w.heap[g]? = some (.cells #[.string text, .int .i64 at_, .slice A bs.length c] 63 (0, 0)) ∧ Kd.R (Kd.int .u8) 5 w B (fun k => k ≠ g) (.slice A bs.length c) bs := by
  obtain ⟨_, bv, hh, hr⟩ := h
  obtain ⟨A, c, rfl, hl, hC⟩ := Kd.R_reads hr
  exact ⟨A, c, hh, hr⟩
/-- A row that has grown is stored, and the place, too. -/
theorem Rdr.grown {B : Nat} {w w1 : World} {g : Nat} {text : ByteArray} {at_ : Int} {bs : List Int} {A : Option Addr} {c : Nat} (hB : B ≤ g) (hh : w.heap[g]? = some (.cells #[.string text, .int .i64 at_, .slice A bs.length c] 63 (0, 0))) (hr : Kd.R (Kd.int .u8) 5 w B (fun k => k ≠ g) (.slice A bs.length c) bs)
    {v1 : Value} {bs1 : List Int} (ho : Kd.R (Kd.int .u8) 5 w1 B (fun k => k ≠ g) v1 bs1) (hg : w.grownBy w1 (.slice A bs.length c : Value).ownBlock) :
    w1.cell? ⟨g, 0, none⟩ = some (.string text) ∧ w1.cell? ⟨g, 1, none⟩ = some (.int .i64 at_) ∧ w1.cell? ⟨g, 2, none⟩ = some (.slice A bs.length c) ∧ w1.frozen? ⟨g, 1, none⟩ = false ∧ w1.frozen? ⟨g, 2, none⟩ = false ∧ g < w1.heap.size ∧
      ∀ at1 : Int, Rdr B ((w1.setCell ⟨g, 2, none⟩ v1).setCell ⟨g, 1, none⟩ (.int .i64 at1)) g text at1 bs1 ∧ ((w1.setCell ⟨g, 2, none⟩ v1).setCell ⟨g, 1, none⟩ (.int .i64 at1)).heap[g]? = some (.cells #[.string text, .int .i64 at1, v1] 63 (0, 0)) ∧ Kd.R (Kd.int .u8) 5 ((w1.setCell ⟨g, 2, none⟩ v1).setCell ⟨g, 1, none⟩ (.int .i64 at1)) B (fun k => k ≠ g) v1 bs1 := by
  have hne : some g ≠ (Value.slice A bs.length c).ownBlock := fun e => hr.1 g e.symm rfl
  have h1 := blk_grown hh hg hne
  exact ⟨by rw [rblk_cell h1]; rfl, by rw [rblk_cell h1]; rfl, by rw [rblk_cell h1]; rfl, rblk_free h1 1, rblk_free h1 2, rblk_lt h1, fun at1 => by
    have a1 := rblk_set (rblk_set h1 2 v1) 1 (.int .i64 at1)
    have a2 : Kd.R (Kd.int .u8) 5 ((w1.setCell ⟨g, 2, none⟩ v1).setCell ⟨g, 1, none⟩ (.int .i64 at1)) B (fun k => k ≠ g) v1 bs1 := Kd.R_move ho (fun k hk => by rw [rblk_far hk, rblk_far hk])
    exact ⟨⟨hB, v1, a1, a2⟩, a1, a2⟩⟩
theorem Rdr.base {B : Nat} {w : World} {g : Nat} {text : ByteArray} {at_ : Int} {bs : List Int} (h : Rdr B w g text at_ bs) : B ≤ g := h.1
theorem Rdr.cells {B : Nat} {w : World} {g : Nat} {text : ByteArray} {at_ : Int} {bs : List Int} (h : Rdr B w g text at_ bs) :
    ∃ A c, w.cell? ⟨g, 0, none⟩ = some (.string text) ∧ w.cell? ⟨g, 1, none⟩ = some (.int .i64 at_) ∧ w.cell? ⟨g, 2, none⟩ = some (.slice A bs.length c) ∧ w.frozen? ⟨g, 1, none⟩ = false ∧ w.frozen? ⟨g, 2, none⟩ = false ∧ g < w.heap.size ∧
      w.heap[g]? = some (.cells #[.string text, .int .i64 at_, .slice A bs.length c] 63 (0, 0)) ∧ Kd.R (Kd.int .u8) 5 w B (fun k => k ≠ g) (.slice A bs.length c) bs := by
  obtain ⟨A, c, hh, hr⟩ := h.row
  exact ⟨A, c, by rw [rblk_cell hh]; rfl, by rw [rblk_cell hh]; rfl, by rw [rblk_cell hh]; rfl, rblk_free hh 1, rblk_free hh 2, rblk_lt hh, hh, hr⟩
set_option maxRecDepth 100000 in
set_option maxHeartbeats 4000000 in
theorem rplain_one {B g : Nat} {text : ByteArray} {i : Nat} {bs : List Int} {w : World} (lines : Bool) (hR : Rdr B w g text (i : Int) bs) (hl : bs.length ≤ 140737488000000) (h1 : i < text.size) (h2 : text.size ≤ 140737488000000) (hc : (lines = true ∧ bt text i = 10) ∨ (lines = false ∧ bt text i = 9)) :
    Calls Tryd.prog 44 #[.pointer (some ⟨g, 0, none⟩), .bool lines] w fun e w' => e = .returned (.bool true) ∧ Rdr B w' g text ((i : Int) + 1) (bs ++ [bt text i]) ∧ Below B w w' := by
  obtain ⟨A, cp, c0, c1, c2, f1, f2, hlt, hh, hr⟩ := hR.cells
  have hlow := hR.low
  have hB := hR.base
  have p1 := eq_true (show (0 : Int) ≤ (i : Int) by omega)
  have qi1 := eq_true (show (i : Int) < (text.size : Int) by omega)
  have q1 := eq_true (show (i : Int).toNat < text.size by omega)
  have q2 := eq_true h1
  have hx1 : ∀ h : i < text.size, ((text[i]'h).toNat : Int) = bt text (i : Int) := fun h => bt_at text (i : Int) (by omega)
  rcases hc with ⟨rfl, hb⟩ | ⟨rfl, hb⟩
  · rw [hb] at hx1 ⊢
    go_enter Tryd.func44, Tryd.ntmps44
    go_wp2_with fail
    go_quiet (fail)
    go_wp2_with ((with_reducible refine gate_builtin (b := .append) (xs := #[.tmp 32, .tmp 34]) rfl ?_); at_builtin; refine Kd.R_append (Kd.int .u8) (w0 := w) B rfl (.tmp 32) (.tmp 34) 46 5 (.int .u8 0) 1 rfl Tryd.underlying46 info5 rfl (by decide) (by omega) (.slice A bs.length cp) bs 10 [.int .u8 10] (fun k => k ≠ g) (fun _ => False) rfl rfl ?aP (fun _ hk => hk.elim) ?aF ?aO ?aB ?aS ?aL ?_; (case aP => exact rfl); (case aB => exact pw_below_drewN (Below.refl _ _) _); (case aF => intro k hk; have hk' : w.heap.size ≤ k := hk; omega); (case aO => exact Kd.R_drewN hr _); (case aS => exact hlow); (case aL => omega); intro v1 w1 ho hbw hg hat; obtain ⟨A1, cp1, rfl, -, -⟩ := Kd.R_reads ho; obtain ⟨k0, k1, k5, k2, k3, k4, hS⟩ := Rdr.grown (w := w.drewN nq) hB hh (Kd.R_drewN hr nq) ho hg; rw [List.length_append, List.length_singleton] at hS)
    go_ret
    exact ⟨rfl, (hS _).1, (hbw.setCell hB _).setCell hB _⟩
  · rw [hb] at hx1 ⊢
    go_enter Tryd.func44, Tryd.ntmps44
    go_wp2_with fail
    go_quiet (fail)
    go_wp2_with ((with_reducible refine gate_builtin (b := .append) (xs := #[.tmp 32, .tmp 34]) rfl ?_); at_builtin; refine Kd.R_append (Kd.int .u8) (w0 := w) B rfl (.tmp 32) (.tmp 34) 46 5 (.int .u8 0) 1 rfl Tryd.underlying46 info5 rfl (by decide) (by omega) (.slice A bs.length cp) bs 9 [.int .u8 9] (fun k => k ≠ g) (fun _ => False) rfl rfl ?aP (fun _ hk => hk.elim) ?aF ?aO ?aB ?aS ?aL ?_; (case aP => exact rfl); (case aB => exact pw_below_drewN (Below.refl _ _) _); (case aF => intro k hk; have hk' : w.heap.size ≤ k := hk; omega); (case aO => exact Kd.R_drewN hr _); (case aS => exact hlow); (case aL => omega); intro v1 w1 ho hbw hg hat; obtain ⟨A1, cp1, rfl, -, -⟩ := Kd.R_reads ho; obtain ⟨k0, k1, k5, k2, k3, k4, hS⟩ := Rdr.grown (w := w.drewN nq) hB hh (Kd.R_drewN hr nq) ho hg; rw [List.length_append, List.length_singleton] at hS)
    go_ret
    exact ⟨rfl, (hS _).1, (hbw.setCell hB _).setCell hB _⟩
set_option maxRecDepth 100000 in
set_option maxHeartbeats 8000000 in
theorem rplain_tab {B g : Nat} {text : ByteArray} {i : Nat} {bs : List Int} {w : World} (hR : Rdr B w g text (i : Int) bs) (hl : bs.length ≤ 140737488000000) (h1 : i < text.size) (h2 : text.size ≤ 140737488000000) (hb : bt text i = 9) (d1 : decide (((bytesOf text).drop i).take (⟨#[13, 10]⟩ : ByteArray).size = bytesOf ⟨#[13, 10]⟩) = false) :
    Calls Tryd.prog 44 #[.pointer (some ⟨g, 0, none⟩), .bool true] w fun e w' => e = .returned (.bool true) ∧ Rdr B w' g text ((i : Int) + 1) (bs ++ [9]) ∧ Below B w w' := by
  obtain ⟨A, cp, c0, c1, c2, f1, f2, hlt, hh, hr⟩ := hR.cells
  have hlow := hR.low
  have hB := hR.base
  have p1 := eq_true (show (0 : Int) ≤ (i : Int) by omega)
  have qi1 := eq_true (show (i : Int) < (text.size : Int) by omega)
  have q1 := eq_true (show (i : Int).toNat < text.size by omega)
  have q2 := eq_true h1
  have hx1 : ∀ h : i < text.size, ((text[i]'h).toNat : Int) = bt text (i : Int) := fun h => bt_at text (i : Int) (by omega)
  rw [hb] at hx1
  go_enter Tryd.func44, Tryd.ntmps44
  go_wp2_with fail
  go_quiet (fail)
  go_wp2_with fail
  refine (rbegins ⟨#[13, 10]⟩ (hR.drewN nq) (by omega) (by omega)).mono ?_
  rintro e w2 ⟨rfl, n2, rfl⟩
  rw [show (i : Int).toNat = i by omega, d1]
  go_wp2_with ((with_reducible refine gate_builtin (b := .append) (xs := #[.tmp 32, .tmp 34]) rfl ?_); at_builtin; refine Kd.R_append (Kd.int .u8) (w0 := w) B rfl (.tmp 32) (.tmp 34) 46 5 (.int .u8 0) 1 rfl Tryd.underlying46 info5 rfl (by decide) (by omega) (.slice A bs.length cp) bs 9 [.int .u8 9] (fun k => k ≠ g) (fun _ => False) rfl rfl ?aP (fun _ hk => hk.elim) ?aF ?aO ?aB ?aS ?aL ?_; (case aP => exact rfl); (case aB => exact pw_below_drewN (Below.refl _ _) _); (case aF => intro k hk; have hk' : w.heap.size ≤ k := hk; omega); (case aO => exact (Kd.R_drewN hr (nq + n2))); (case aS => exact hlow); (case aL => omega); intro v1 w1 ho hbw hg hat; obtain ⟨Av1, cpv1, rfl, -, -⟩ := Kd.R_reads ho; obtain ⟨k0, k1, k5, k2, k3, k4, hS⟩ := Rdr.grown (w := w.drewN (nq + n2)) hB hh (Kd.R_drewN hr (nq + n2)) ho hg; rw [List.length_append, List.length_singleton] at hS)
  go_ret
  exact ⟨rfl, (hS _).1, (hbw.setCell hB _).setCell hB _⟩
set_option maxRecDepth 100000 in
set_option maxHeartbeats 8000000 in
theorem rplain_two {B g : Nat} {text : ByteArray} {i : Nat} {bs : List Int} {w : World} (hR : Rdr B w g text (i : Int) bs) (hl : bs.length ≤ 140737488000000) (h1 : i < text.size) (h2 : text.size ≤ 140737488000000) (hb : bt text i = 13) (d1 : decide (((bytesOf text).drop i).take (⟨#[13, 10]⟩ : ByteArray).size = bytesOf ⟨#[13, 10]⟩) = true) :
    Calls Tryd.prog 44 #[.pointer (some ⟨g, 0, none⟩), .bool true] w fun e w' => e = .returned (.bool true) ∧ Rdr B w' g text ((i : Int) + 2) (bs ++ [13, 10]) ∧ Below B w w' := by
  obtain ⟨A, cp, c0, c1, c2, f1, f2, hlt, hh, hr⟩ := hR.cells
  have hlow := hR.low
  have hB := hR.base
  have p1 := eq_true (show (0 : Int) ≤ (i : Int) by omega)
  have qi1 := eq_true (show (i : Int) < (text.size : Int) by omega)
  have q1 := eq_true (show (i : Int).toNat < text.size by omega)
  have q2 := eq_true h1
  have hx1 : ∀ h : i < text.size, ((text[i]'h).toNat : Int) = bt text (i : Int) := fun h => bt_at text (i : Int) (by omega)
  rw [hb] at hx1
  go_enter Tryd.func44, Tryd.ntmps44
  go_wp2_with fail
  go_quiet (fail)
  go_wp2_with fail
  refine (rbegins ⟨#[13, 10]⟩ (hR.drewN nq) (by omega) (by omega)).mono ?_
  rintro e w2 ⟨rfl, n2, rfl⟩
  rw [show (i : Int).toNat = i by omega, d1]
  go_wp2_with (first | ((with_reducible refine gate_builtin (b := .append) (xs := #[.tmp 32, .tmp 34]) rfl ?_); at_builtin; refine Kd.R_append (Kd.int .u8) (w0 := w) B rfl (.tmp 32) (.tmp 34) 46 5 (.int .u8 0) 1 rfl Tryd.underlying46 info5 rfl (by decide) (by omega) (.slice A bs.length cp) bs 13 [.int .u8 13] (fun k => k ≠ g) (fun _ => False) rfl rfl ?aP (fun _ hk => hk.elim) ?aF ?aO ?aB ?aS ?aL ?_; (case aP => exact rfl); (case aB => exact pw_below_drewN (Below.refl _ _) _); (case aF => intro k hk; have hk' : w.heap.size ≤ k := hk; omega); (case aO => exact (Kd.R_drewN hr (nq + n2))); (case aS => exact hlow); (case aL => omega); intro v1 w1 ho hbw hg hat; obtain ⟨Av1, cpv1, rfl, -, -⟩ := Kd.R_reads ho; obtain ⟨k0, k1, k5, k2, k3, k4, hS⟩ := Rdr.grown (w := w.drewN (nq + n2)) hB hh (Kd.R_drewN hr (nq + n2)) ho hg; obtain ⟨hS1, hh1, hr1⟩ := hS ((i : Int) + 1); have hb1 : Below B w ((w1.setCell ⟨g, 2, none⟩ (.slice Av1 (bs ++ [13]).length cpv1)).setCell ⟨g, 1, none⟩ (.int .i64 ((i : Int) + 1))) := (hbw.setCell hB _).setCell hB _; have hlt1 := rblk_lt hh1; have hlow1 := hS1.low; rw [List.length_append, List.length_singleton] at hh1 hr1 hb1 hlt1 hlow1) | ((with_reducible refine gate_builtin (b := .append) (xs := #[.tmp 51, .tmp 52]) rfl ?_); at_builtin; refine Kd.R_append (Kd.int .u8) (w0 := w) B rfl (.tmp 51) (.tmp 52) 46 5 (.int .u8 0) 1 rfl Tryd.underlying46 info5 rfl (by decide) (by omega) (.slice Av1 (bs.length + 1) cpv1) (bs ++ [13]) 10 [.int .u8 10] (fun k => k ≠ g) (fun _ => False) rfl (by have e_ : ((w1.setCell ⟨g, 2, none⟩ (.slice Av1 (bs.length + 1) cpv1)).setCell ⟨g, 1, none⟩ (.int .i64 ((i : Int) + 1))).heap.size = w1.heap.size := (by simp); rw [e_]; rfl) ?aP (fun _ hk => hk.elim) ?aF ?aO ?aB ?aS ?aL ?_; (case aP => exact rfl); (case aB => exact hb1); (case aF => intro k hk; have hk' : ((w1.setCell ⟨g, 2, none⟩ (.slice Av1 (bs.length + 1) cpv1)).setCell ⟨g, 1, none⟩ (.int .i64 ((i : Int) + 1))).heap.size ≤ k := hk; omega); (case aO => exact hr1); (case aS => exact hlow1); (case aL => simp only [List.length_append, List.length_singleton]; omega); intro v2 w2_ ho2 hbw2 hg2 hat2; obtain ⟨Av2, cpv2, rfl, -, -⟩ := Kd.R_reads ho2; have hh2 : ((w1.setCell ⟨g, 2, none⟩ (.slice Av1 (bs.length + 1) cpv1)).setCell ⟨g, 1, none⟩ (.int .i64 ((i : Int) + 1))).heap[g]? = some (.cells #[.string text, .int .i64 ((i : Int) + 1), .slice Av1 (bs ++ [13]).length cpv1] 63 (0, 0)) := (by rw [List.length_append, List.length_singleton]; exact hh1); have hr2 : Kd.R (Kd.int .u8) 5 ((w1.setCell ⟨g, 2, none⟩ (.slice Av1 (bs.length + 1) cpv1)).setCell ⟨g, 1, none⟩ (.int .i64 ((i : Int) + 1))) B (fun k => k ≠ g) (.slice Av1 (bs ++ [13]).length cpv1) (bs ++ [13]) := (by rw [List.length_append, List.length_singleton]; exact hr1); have hg3 : ((w1.setCell ⟨g, 2, none⟩ (.slice Av1 (bs.length + 1) cpv1)).setCell ⟨g, 1, none⟩ (.int .i64 ((i : Int) + 1))).grownBy w2_ (.slice Av1 (bs ++ [13]).length cpv1 : Value).ownBlock := (by rw [List.length_append, List.length_singleton]; exact hg2); obtain ⟨m0, m1, m5, m2, m3, m4, hS2⟩ := Rdr.grown (w := ((w1.setCell ⟨g, 2, none⟩ (.slice Av1 (bs.length + 1) cpv1)).setCell ⟨g, 1, none⟩ (.int .i64 ((i : Int) + 1)))) hB hh2 hr2 ho2 hg3; simp only [List.length_append, List.length_singleton] at hS2))
  go_ret
  have h9 := (hS2 ((i : Int) + 1 + 1)).1
  exact ⟨rfl, by rw [show (i : Int) + 2 = (i : Int) + 1 + 1 by omega, show bs ++ [13, 10] = bs ++ [13] ++ [10] by simp]; exact h9, (hbw2.setCell hB _).setCell hB _⟩
set_option maxRecDepth 100000 in
set_option maxHeartbeats 8000000 in
theorem rplain_no {B g : Nat} {text : ByteArray} {i : Nat} {bs : List Int} {w : World} (lines : Bool) (hR : Rdr B w g text (i : Int) bs) (h1 : i < text.size) (hc : lines = false ∨ (lines = true ∧ bt text i ≠ 10 ∧ decide (((bytesOf text).drop i).take (⟨#[13, 10]⟩ : ByteArray).size = bytesOf ⟨#[13, 10]⟩) = false)) (h9 : bt text i ≠ 9) (hn : bt text i < 32 ∨ bt text i = 127) :
    Calls Tryd.prog 44 #[.pointer (some ⟨g, 0, none⟩), .bool lines] w fun e w' => e = .returned (.bool false) ∧ Rdr B w' g text (i : Int) bs ∧ Below B w w' := by
  obtain ⟨A, cp, c0, c1, c2, f1, f2, hlt, hh, hr⟩ := hR.cells
  have hlow := hR.low
  have hB := hR.base
  have p1 := eq_true (show (0 : Int) ≤ (i : Int) by omega)
  have qi1 := eq_true (show (i : Int) < (text.size : Int) by omega)
  have q1 := eq_true (show (i : Int).toNat < text.size by omega)
  have q2 := eq_true h1
  have hx1 : ∀ h : i < text.size, ((text[i]'h).toNat : Int) = bt text (i : Int) := fun h => bt_at text (i : Int) (by omega)
  have t9 : (bt text (i : Int) == 9) = false := beq_eq_false_iff_ne.2 h9
  have hbr := bt_range text (i : Int)
  rcases hc with rfl | ⟨rfl, h10, d1⟩
  · clear hr hh
    generalize bt text (i : Int) = b at hx1 t9 hn hbr
    clear h9
    rcases hn with hn | rfl
    all_goals
      go_enter Tryd.func44, Tryd.ntmps44
      go_wp2_with fail
      go_quiet (fail)
      go_wp2
      go_ret
      exact ⟨rfl, hR.drewN _, pw_below_drewN (Below.refl _ _) _⟩
  · clear hr hh
    have t10 : (bt text (i : Int) == 10) = false := beq_eq_false_iff_ne.2 h10
    generalize bt text (i : Int) = b at hx1 t9 t10 hn hbr
    clear h9 h10
    rcases hn with hn | rfl
    all_goals
      go_enter Tryd.func44, Tryd.ntmps44
      go_wp2_with fail
      go_quiet (fail)
      go_wp2_with fail
      refine (rbegins ⟨#[13, 10]⟩ (hR.drewN nq) (by omega) (by omega)).mono ?_
      rintro e w2 ⟨rfl, n2, rfl⟩
      rw [show (i : Int).toNat = i by omega, d1]
      go_wp2
      go_ret
      exact ⟨rfl, hR.drewN _, pw_below_drewN (Below.refl _ _) _⟩
set_option maxRecDepth 100000 in
set_option maxHeartbeats 8000000 in
theorem rplain_letter {B g : Nat} {text : ByteArray} {i : Nat} {bs : List Int} {w : World} (lines : Bool) (hR : Rdr B w g text (i : Int) bs) (hl : bs.length ≤ 140737488000000) (h1 : i < text.size) (h2 : text.size ≤ 140737488000000) (hc : lines = false ∨ (lines = true ∧ bt text i ≠ 10 ∧ decide (((bytesOf text).drop i).take (⟨#[13, 10]⟩ : ByteArray).size = bytesOf ⟨#[13, 10]⟩) = false)) (h9 : bt text i ≠ 9) (hn : 32 ≤ bt text i ∧ bt text i ≠ 127) :
    Calls Tryd.prog 44 #[.pointer (some ⟨g, 0, none⟩), .bool lines] w fun e w' => e = .returned (.bool (decide ((tk ((bytesOf text).drop i)).2 > 0))) ∧ Rdr B w' g text ((i : Int) + (tk ((bytesOf text).drop i)).2) (bs ++ enc0 (tk ((bytesOf text).drop i)).1) ∧ Below B w w' := by
  obtain ⟨A, cp, c0, c1, c2, f1, f2, hlt, hh, hr⟩ := hR.cells
  have hlow := hR.low
  have hB := hR.base
  have p1 := eq_true (show (0 : Int) ≤ (i : Int) by omega)
  have qi1 := eq_true (show (i : Int) < (text.size : Int) by omega)
  have q1 := eq_true (show (i : Int).toNat < text.size by omega)
  have q2 := eq_true h1
  have hx1 : ∀ h : i < text.size, ((text[i]'h).toNat : Int) = bt text (i : Int) := fun h => bt_at text (i : Int) (by omega)
  have t9 : (bt text (i : Int) == 9) = false := beq_eq_false_iff_ne.2 h9
  have hbr := bt_range text (i : Int)
  have t127 : (bt text (i : Int) == 127) = false := beq_eq_false_iff_ne.2 hn.2
  have t32 : decide (bt text (i : Int) < 32) = false := decide_eq_false (by omega)
  rcases hc with rfl | ⟨rfl, h10, d1⟩
  · clear hr hh
    generalize bt text (i : Int) = b at hx1 t9 hbr t127 t32
    clear h9 hn
    go_enter Tryd.func44, Tryd.ntmps44
    go_wp2_with fail
    go_quiet (fail)
    go_wp2_with fail
    refine (rletter (hR.drewN nq) hl (by omega) (by omega) h2).mono ?_
    rintro e w5 ⟨rfl, hR5, hB5⟩
    rw [show (i : Int).toNat = i by omega] at hR5
    rw [show (i : Int).toNat = i by omega]
    go_wp2
    go_ret
    exact ⟨rfl, hR5, (pw_below_drewN (Below.refl _ _) nq).trans hB5⟩
  · clear hr hh
    have t10 : (bt text (i : Int) == 10) = false := beq_eq_false_iff_ne.2 h10
    generalize bt text (i : Int) = b at hx1 t9 t10 hbr t127 t32
    clear h9 h10 hn
    go_enter Tryd.func44, Tryd.ntmps44
    go_wp2_with fail
    go_quiet (fail)
    go_wp2_with fail
    refine (rbegins ⟨#[13, 10]⟩ (hR.drewN nq) (by omega) (by omega)).mono ?_
    rintro e w2 ⟨rfl, n2, rfl⟩
    rw [show (i : Int).toNat = i by omega, d1]
    go_wp2_with fail
    refine (rletter (hR.drewN (nq + n2)) hl (by omega) (by omega) h2).mono ?_
    rintro e w5 ⟨rfl, hR5, hB5⟩
    rw [show (i : Int).toNat = i by omega] at hR5
    rw [show (i : Int).toNat = i by omega]
    go_wp2
    go_ret
    exact ⟨rfl, hR5, (pw_below_drewN (Below.refl _ _) (nq + n2)).trans hB5⟩
theorem two_take {text : ByteArray} {i : Nat} (h1 : i < text.size) : (decide (((bytesOf text).drop i).take (⟨#[13, 10]⟩ : ByteArray).size = bytesOf ⟨#[13, 10]⟩) = true ↔ ((bytesOf text).drop i).take 2 = [13, 10]) ∧ (((bytesOf text).drop i).take 2 = [13, 10] → bt text i = 13) ∧ ((bytesOf text).drop i).getD 0 0 = bt text i := by
  have hg : ((bytesOf text).drop i).getD 0 0 = bt text i := by
    rw [bt_get]
    simp [List.getD_eq_getElem?_getD, List.getElem?_drop]
  refine ⟨decide_eq_true_iff, fun h => ?_, hg⟩
  rw [← hg]
  have hlt : i < (bytesOf text).length := by rw [size_of]; exact h1
  rw [List.drop_eq_getElem_cons hlt, List.take_succ_cons] at h
  injection h with h _
  rw [List.drop_eq_getElem_cons hlt, h]
  rfl
/-- What plain does. -/
theorem rplain {B g : Nat} {text : ByteArray} {i : Nat} {bs : List Int} {w : World} (lines : Bool) (hR : Rdr B w g text (i : Int) bs) (hl : bs.length ≤ 140737488000000) (h1 : i < text.size) (h2 : text.size ≤ 140737488000000) :
    Calls Tryd.prog 44 #[.pointer (some ⟨g, 0, none⟩), .bool lines] w fun e w' => e = .returned (.bool (tplain lines ((bytesOf text).drop i)).isSome) ∧
      (match tplain lines ((bytesOf text).drop i) with | none => ∃ bs', Rdr B w' g text (i : Int) bs' | some p => Rdr B w' g text ((i : Int) + p.2) (bs ++ p.1)) ∧ Below B w w' := by
  obtain ⟨k1, k2, k3⟩ := two_take (text := text) (i := i) h1
  unfold tplain
  rw [k3]
  have letter : (lines = false ∨ (lines = true ∧ bt text i ≠ 10 ∧ decide (((bytesOf text).drop i).take (⟨#[13, 10]⟩ : ByteArray).size = bytesOf ⟨#[13, 10]⟩) = false)) → bt text i ≠ 9 →
      Calls Tryd.prog 44 #[.pointer (some ⟨g, 0, none⟩), .bool lines] w fun e w' => e = .returned (.bool (if bt text i < 32 ∨ bt text i = 127 then none else if (tk ((bytesOf text).drop i)).2 > 0 then some (enc0 (tk ((bytesOf text).drop i)).1, (tk ((bytesOf text).drop i)).2.toNat) else none).isSome) ∧
      (match (if bt text i < 32 ∨ bt text i = 127 then none else if (tk ((bytesOf text).drop i)).2 > 0 then some (enc0 (tk ((bytesOf text).drop i)).1, (tk ((bytesOf text).drop i)).2.toNat) else none) with | none => ∃ bs', Rdr B w' g text (i : Int) bs' | some p => Rdr B w' g text ((i : Int) + p.2) (bs ++ p.1)) ∧ Below B w w' := by
    intro hc h9
    by_cases hn : bt text i < 32 ∨ bt text i = 127
    · rw [if_pos hn]
      refine (rplain_no lines hR h1 hc h9 hn).mono ?_
      rintro e w' ⟨rfl, hR', hB'⟩
      exact ⟨rfl, ⟨_, hR'⟩, hB'⟩
    · rw [if_neg hn]
      refine (rplain_letter lines hR hl h1 h2 hc h9 (by omega)).mono ?_
      rintro e w' ⟨rfl, hR', hB'⟩
      have hb := tk_bound ((bytesOf text).drop i) (fun x hx => bytes_of text x (List.mem_of_mem_drop hx))
      by_cases hq : (tk ((bytesOf text).drop i)).2 > 0
      · rw [if_pos hq, decide_eq_true hq]
        refine ⟨rfl, ?_, hB'⟩
        show Rdr B w' g text ((i : Int) + ((tk ((bytesOf text).drop i)).2.toNat : Int)) _
        rw [show ((tk ((bytesOf text).drop i)).2.toNat : Int) = (tk ((bytesOf text).drop i)).2 by omega]
        exact hR'
      · rw [if_neg hq, decide_eq_false hq]
        rw [show (tk ((bytesOf text).drop i)).2 = 0 by omega, Int.add_zero] at hR'
        exact ⟨rfl, ⟨_, hR'⟩, hB'⟩
  cases lines with
  | false =>
    by_cases h9 : bt text i = 9
    · rw [if_pos (.inr h9), if_neg (by omega)]
      refine (rplain_one false hR hl h1 h2 (.inr ⟨rfl, h9⟩)).mono ?_
      rintro e w' ⟨rfl, hR', hB'⟩
      exact ⟨rfl, hR', hB'⟩
    · rw [if_neg (by rintro (⟨h, _⟩ | h); cases h; exact h9 h)]
      exact letter (.inl rfl) h9
  | true =>
    by_cases h10 : bt text i = 10
    · rw [if_pos (.inl ⟨rfl, .inl h10⟩), if_neg (by omega)]
      refine (rplain_one true hR hl h1 h2 (.inl ⟨rfl, h10⟩)).mono ?_
      rintro e w' ⟨rfl, hR', hB'⟩
      exact ⟨rfl, hR', hB'⟩
    · by_cases hd : ((bytesOf text).drop i).take 2 = [13, 10]
      · have h13 := k2 hd
        rw [if_pos (.inl ⟨rfl, .inr hd⟩), if_pos h13]
        refine (rplain_two hR hl h1 h2 h13 (k1.2 hd)).mono ?_
        rintro e w' ⟨rfl, hR', hB'⟩
        exact ⟨rfl, hR', hB'⟩
      · have d1 : decide (((bytesOf text).drop i).take (⟨#[13, 10]⟩ : ByteArray).size = bytesOf ⟨#[13, 10]⟩) = false := Bool.eq_false_iff.2 (fun e => hd (k1.1 e))
        by_cases h9 : bt text i = 9
        · rw [if_pos (.inr h9), if_neg (by omega), h9]
          refine (rplain_tab hR hl h1 h2 h9 d1).mono ?_
          rintro e w' ⟨rfl, hR', hB'⟩
          exact ⟨rfl, hR', hB'⟩
        · rw [if_neg (by rintro (⟨_, h | h⟩ | h); exact h10 h; exact hd h; exact h9 h)]
          exact letter (.inr ⟨rfl, h10, d1⟩) h9
end Go.Proofs.YtoanbmggffkmgaaDoor.P
end
section
namespace Go.Proofs.YtoanbmggffkmgaaDoor.La
open Go.RowKit Go.Proofs.YtoanbmggffkmgaaDoorW.PrintWords Go.Proofs.YtoanbmggffkmgaaDoorW.PrintLast Go.Proofs.YtoanbmggffkmgaaDoorW.PrintMore
def inSet (cs : List Int) (b : Int) : Bool := cs.any (fun c => c == b)
def trimL (cs l : List Int) : List Int := l.dropWhile (inSet cs)
def ascii (l : List Int) : Bool := l.all (fun b => decide (b < 128))
def toI (l : List UInt8) : List Int := l.map fun b => (b.toNat : Int)
theorem inSet_of (cs : List UInt8) (b : UInt8) : cs.contains b = inSet (toI cs) (b.toNat : Int) := by
  unfold toI inSet
  induction cs with
  | nil => rfl
  | cons c cs ih =>
    rw [List.contains_cons, List.map_cons, List.any_cons, ih]
    congr 1
    rw [Bool.eq_iff_iff]
    simp [← UInt8.toNat_inj]
    omega
theorem dropWhile_of (cs l : List UInt8) : toI (l.dropWhile (cs.contains ·)) = (toI l).dropWhile (inSet (toI cs)) := by
  induction l with
  | nil => rfl
  | cons b l ih =>
    have h := inSet_of cs b
    simp only [List.dropWhile_cons, toI, List.map_cons] at ih ⊢
    simp only [toI] at h
    rw [h]
    split
    · exact ih
    · rfl
theorem trimL_of (l cs : List UInt8) : toI (Lib.trimLeftS l cs) = trimL (toI cs) (toI l) := dropWhile_of cs l
theorem ascii_of {s : ByteArray} (h : ascii (bytesOf s) = true) : ∀ (j : Nat) b, s.data.toList[j]? = some b → b.toNat < 128 := by
  intro j b hb
  unfold ascii at h
  rw [List.all_eq_true] at h
  have := h (b.toNat : Int) (by rw [bytesOf_data]; exact List.mem_map.2 ⟨b, List.mem_of_getElem? hb, rfl⟩)
  have := of_decide_eq_true this
  omega
theorem mk_of (l : List UInt8) : (⟨l.toArray⟩ : ByteArray) = strOfNums (toI l) := by
  have hB : Bytes (toI l) := by
    intro x hx
    obtain ⟨b, _, rfl⟩ := List.mem_map.1 hx
    have := b.toNat_lt
    omega
  apply bytesOf_inj
  rw [strOfNums_bytes hB]
  rfl
theorem mem_dropWhile {α : Type} {p : α → Bool} {l : List α} {x : α} (h : x ∈ l.dropWhile p) : x ∈ l := (List.dropWhile_suffix p).mem h
theorem trimL_bytes {cs l : List Int} (h : Bytes l) : Bytes (trimL cs l) := fun x hx => h x (mem_dropWhile hx)
end Go.Proofs.YtoanbmggffkmgaaDoor.La
namespace Go.Proofs.YtoanbmggffkmgaaDoor.P
open Go.RowKit Go.Proofs.YtoanbmggffkmgaaDoor.La Go.Proofs.YtoanbmggffkmgaaDoorW.PrintWords Go.Proofs.YtoanbmggffkmgaaDoorW.PrintLast Go.Proofs.YtoanbmggffkmgaaDoorW.PrintMore
def strings_TrimLeft.f (a0 a1 : ByteArray) : Option ByteArray := if a1.size < 4294967281 ∧ ascii (bytesOf a1) = true then some (strOfNums (trimL (bytesOf a1) (bytesOf a0))) else none
theorem strings_TrimLeft.calls (a0 a1 : ByteArray) (r : ByteArray) (w : World) (h : strings_TrimLeft.f a0 a1 = some r) :
    Calls Tryd.prog 55 #[.string a0, .string a1] w fun e w' => e = .returned (.string r) ∧ Below w.heap.size w w' := by
  unfold strings_TrimLeft.f at h
  split at h
  · rename_i hc
    obtain rfl := Option.some.inj h
    refine (Any.strings_TrimLeft_laid Tryd.lays161 (by kernel_rfl) a0 a1 w hc.1 (ascii_of hc.2)).mono fun e w' he => ?_
    obtain ⟨rfl, hb⟩ := he
    refine ⟨?_, hb⟩
    rw [mk_of, trimL_of]
    rfl
  · cases h
end Go.Proofs.YtoanbmggffkmgaaDoor.P
end
section
namespace Go.Proofs.YtoanbmggffkmgaaDoor.La
open Go.RowKit Go.Proofs.YtoanbmggffkmgaaDoor.P Go.Proofs.YtoanbmggffkmgaaDoorW.PrintWords Go.Proofs.YtoanbmggffkmgaaDoorW.PrintLast Go.Proofs.YtoanbmggffkmgaaDoorW.PrintMore
/-- How long a line's end with a stroke ahead is, blanks and all. -/
def tfold (l : List Int) : Option Nat :=
  if (trimL [32, 9] (l.drop 1)).take 1 = [10] ∨ (trimL [32, 9] (l.drop 1)).take 2 = [13, 10] then some (l.length - (trimL [32, 9, 10, 13] (l.drop 1)).length) else none
end Go.Proofs.YtoanbmggffkmgaaDoor.La
namespace Go.Proofs.YtoanbmggffkmgaaDoor.P
open Go.RowKit Go.Proofs.YtoanbmggffkmgaaDoor.La Go.Proofs.YtoanbmggffkmgaaDoorW.PrintWords Go.Proofs.YtoanbmggffkmgaaDoorW.PrintLast Go.Proofs.YtoanbmggffkmgaaDoorW.PrintMore
theorem trim2 (s : ByteArray) : strings_TrimLeft.f s (⟨#[32, 9]⟩ : ByteArray) = some (strOfNums (trimL [32, 9] (bytesOf s))) := by
  unfold strings_TrimLeft.f
  have h1 : (⟨#[32, 9]⟩ : ByteArray).size < 4294967281 := by
    have h : (⟨#[32, 9]⟩ : ByteArray).size = 2 := rfl
    rw [h]; omega
  have h2 : ascii (bytesOf (⟨#[32, 9]⟩ : ByteArray)) = true := by decide
  rw [if_pos (And.intro h1 h2)]
  rfl
theorem trim4 (s : ByteArray) : strings_TrimLeft.f s (⟨#[32, 9, 10, 13]⟩ : ByteArray) = some (strOfNums (trimL [32, 9, 10, 13] (bytesOf s))) := by
  unfold strings_TrimLeft.f
  have h1 : (⟨#[32, 9, 10, 13]⟩ : ByteArray).size < 4294967281 := by
    have h : (⟨#[32, 9, 10, 13]⟩ : ByteArray).size = 4 := rfl
    rw [h]; omega
  have h2 : ascii (bytesOf (⟨#[32, 9, 10, 13]⟩ : ByteArray)) = true := by decide
  rw [if_pos (And.intro h1 h2)]
  rfl
set_option maxRecDepth 100000 in
set_option maxHeartbeats 8000000 in
theorem rfold {B g : Nat} {text : ByteArray} {i : Nat} {bs : List Int} {w : World} (hR : Rdr B w g text (i : Int) bs) (h1 : i < text.size) (h2 : text.size ≤ 140737488000000) :
    Calls Tryd.prog 73 #[.pointer (some ⟨g, 0, none⟩)] w fun e w' => e = .returned (.bool (tfold ((bytesOf text).drop i)).isSome) ∧
      Rdr B w' g text ((i : Int) + ((tfold ((bytesOf text).drop i)).getD 0 : Nat)) bs ∧ Below B w w' := by
  obtain ⟨A, c, c0, c1, c2, f1, f2, hlt, hc, hC⟩ := hR.open_
  have hlow := hR.low
  have p1 := eq_true (show (0 : Int) ≤ (i : Int) + 1 by omega)
  have p2 := eq_true (show (i : Int) + 1 ≤ (text.size : Int) by omega)
  have hy : bytesOf (text.extract (i + 1) text.size) = (bytesOf text).drop (i + 1) := bytesOf_drop _ _
  have ht2 := trim2 (text.extract (i + 1) text.size)
  have ht4 := trim4 (text.extract (i + 1) text.size)
  rw [hy] at ht2 ht4
  generalize hln : strOfNums (trimL [32, 9] ((bytesOf text).drop (i + 1))) = ln at ht2
  have hlnb : bytesOf ln = trimL [32, 9] ((bytesOf text).drop (i + 1)) := by rw [← hln]; exact strOfNums_bytes (trimL_bytes ((bytes_of text).drop _))
  have hp1 := hasPrefix_eq ln ⟨#[10]⟩
  have hp2 := hasPrefix_eq ln ⟨#[13, 10]⟩
  have d1 : decide ((bytesOf ln).take (⟨#[10]⟩ : ByteArray).size = bytesOf ⟨#[10]⟩) = decide ((trimL [32, 9] ((bytesOf text).drop (i + 1))).take 1 = [10]) := by rw [hlnb]; rfl
  have d2 : decide ((bytesOf ln).take (⟨#[13, 10]⟩ : ByteArray).size = bytesOf ⟨#[13, 10]⟩) = decide ((trimL [32, 9] ((bytesOf text).drop (i + 1))).take 2 = [13, 10]) := by rw [hlnb]; rfl
  rw [d1] at hp1
  rw [d2] at hp2
  have hd1 : ((bytesOf text).drop i).drop 1 = (bytesOf text).drop (i + 1) := by rw [List.drop_drop]
  have hF : tfold ((bytesOf text).drop i) = if (trimL [32, 9] ((bytesOf text).drop (i + 1))).take 1 = [10] ∨ (trimL [32, 9] ((bytesOf text).drop (i + 1))).take 2 = [13, 10] then some (text.size - i - (trimL [32, 9, 10, 13] ((bytesOf text).drop (i + 1))).length) else none := by
    unfold tfold
    rw [hd1, List.length_drop, size_of]
  have hz4 : (strOfNums (trimL [32, 9, 10, 13] ((bytesOf text).drop (i + 1)))).size = (trimL [32, 9, 10, 13] ((bytesOf text).drop (i + 1))).length := size_strOfNums (trimL_bytes ((bytes_of text).drop _))
  have hl4 : (trimL [32, 9, 10, 13] ((bytesOf text).drop (i + 1))).length ≤ text.size - (i + 1) := by
    have := (List.dropWhile_suffix (inSet [32, 9, 10, 13]) (l := (bytesOf text).drop (i + 1))).length_le
    rw [List.length_drop, size_of] at this
    exact this
  generalize strOfNums (trimL [32, 9, 10, 13] ((bytesOf text).drop (i + 1))) = r4 at ht4 hz4
  generalize (trimL [32, 9, 10, 13] ((bytesOf text).drop (i + 1))).length = n4 at hF hz4 hl4
  have hd1' : ∀ P : Prop, [Decidable P] → decide P = true ∨ decide P = false := fun P _ => by cases decide P <;> simp
  clear hy hln hlnb d1 d2
  have HF := Lib.hid hF
  clear hF hd1
  have HT2 := Lib.hid ht2
  have HT4 := Lib.hid ht4
  clear ht2 ht4
  by_cases b1 : (trimL [32, 9] ((bytesOf text).drop (i + 1))).take 1 = [10]
  · rw [decide_eq_true b1] at hp1
    have HN := Lib.hid (HF.out.trans (if_pos (.inl b1)))
    have HP1 := Lib.hid hp1
    clear hp1 hp2 HF b1
    go_enter Tryd.func73, Tryd.ntmps73
    go_wp2_with fail
    go_quiet (fail)
    go_wp2_with fail
    refine (strings_TrimLeft.calls _ _ _ _ HT2.out).mono ?_
    rintro e w1 ⟨rfl, hb1⟩
    have hR1 := (hR.drewN nq).below hb1
    have hB1 := (pw_below_drewN (Below.refl B w) nq).trans (hb1.mono hlow)
    go_wp2_with fail
    refine (strings_HasPrefix.calls _ _ _ _ HP1.out).mono ?_
    rintro e w2 ⟨rfl, n2, rfl⟩
    have hR2 := hR1.drewN n2
    have hB2 := pw_below_drewN hB1 n2
    generalize w1.drewN n2 = w3 at hR2 hB2
    clear c0 c1 c2 f1 f2 hC hR
    obtain ⟨A2, cc2, c0, c1, c2, f1, f2, hlt2, hc2, hC2⟩ := hR2.open_
    have hlow3 := hR2.low
    go_wp2_with fail
    go_region_held3 (fun w' => w'.cell? ⟨g, 0, none⟩ = some (.string text)) (first | go_keep | (simp [*]; done) | (go_simp; done)) (first | (go_at_call 55; refine (strings_TrimLeft.calls _ _ _ _ HT4.out).mono ?_; rintro e w5 ⟨rfl, hb5⟩; have hR5 := (hR2.drewN _).below hb5; have hB5 := (pw_below_drewN hB2 _).trans (hb5.mono hlow3); obtain ⟨_, _, e0, e1, e2, g1, g2, _, _, _⟩ := hR5.open_))
    all_goals
      have hM := hR5.moved (IntKind.i64.wrap ((text.size : Int) - (n4 : Int)))
      have hB6 := hB5.trans hM.2
      go_wp2
      go_ret
      exact ⟨by rw [HN.out]; rfl, by rw [HN.out]; show Rdr B _ g text ((i : Int) + ((text.size - i - n4 : Nat) : Int)) bs; rw [show (i : Int) + ((text.size - i - n4 : Nat) : Int) = IntKind.i64.wrap ((text.size : Int) - (n4 : Int)) by rw [wraps_i64 _ (by omega) (by omega)]; omega]; first | exact hM.1 | exact hM.1.drewN _, by first | exact hB6 | exact pw_below_drewN hB6 _⟩
  · by_cases b2 : (trimL [32, 9] ((bytesOf text).drop (i + 1))).take 2 = [13, 10]
    · rw [decide_eq_false b1] at hp1
      rw [decide_eq_true b2] at hp2
      have HN := Lib.hid (HF.out.trans (if_pos (.inr b2)))
      have HP1 := Lib.hid hp1
      have HP2 := Lib.hid hp2
      clear hp1 hp2 HF b1 b2
      go_enter Tryd.func73, Tryd.ntmps73
      go_wp2_with fail
      go_quiet (fail)
      go_wp2_with fail
      refine (strings_TrimLeft.calls _ _ _ _ HT2.out).mono ?_
      rintro e w1 ⟨rfl, hb1⟩
      have hR1 := (hR.drewN nq).below hb1
      have hB1 := (pw_below_drewN (Below.refl B w) nq).trans (hb1.mono hlow)
      go_wp2_with fail
      refine (strings_HasPrefix.calls _ _ _ _ HP1.out).mono ?_
      rintro e w2 ⟨rfl, n2, rfl⟩
      have hR2 := hR1.drewN n2
      have hB2 := pw_below_drewN hB1 n2
      generalize w1.drewN n2 = w3 at hR2 hB2
      clear hR1 hB1
      go_wp2_with fail
      refine (strings_HasPrefix.calls _ _ _ _ HP2.out).mono ?_
      rintro e w4 ⟨rfl, n4', rfl⟩
      replace hR2 := hR2.drewN n4'
      replace hB2 := pw_below_drewN hB2 n4'
      generalize w3.drewN n4' = w3 at hR2 hB2
      clear c0 c1 c2 f1 f2 hC hR
      obtain ⟨A2, cc2, c0, c1, c2, f1, f2, hlt2, hc2, hC2⟩ := hR2.open_
      have hlow3 := hR2.low
      go_wp2_with fail
      go_region_held3 (fun w' => w'.cell? ⟨g, 0, none⟩ = some (.string text)) (first | go_keep | (simp [*]; done) | (go_simp; done)) (first | (go_at_call 55; refine (strings_TrimLeft.calls _ _ _ _ HT4.out).mono ?_; rintro e w5 ⟨rfl, hb5⟩; have hR5 := (hR2.drewN _).below hb5; have hB5 := (pw_below_drewN hB2 _).trans (hb5.mono hlow3); obtain ⟨_, _, e0, e1, e2, g1, g2, _, _, _⟩ := hR5.open_))
      all_goals
        have hM := hR5.moved (IntKind.i64.wrap ((text.size : Int) - (n4 : Int)))
        have hB6 := hB5.trans hM.2
        go_wp2
        go_ret
        exact ⟨by rw [HN.out]; rfl, by rw [HN.out]; show Rdr B _ g text ((i : Int) + ((text.size - i - n4 : Nat) : Int)) bs; rw [show (i : Int) + ((text.size - i - n4 : Nat) : Int) = IntKind.i64.wrap ((text.size : Int) - (n4 : Int)) by rw [wraps_i64 _ (by omega) (by omega)]; omega]; first | exact hM.1 | exact hM.1.drewN _, by first | exact hB6 | exact pw_below_drewN hB6 _⟩
    · rw [decide_eq_false b1] at hp1
      rw [decide_eq_false b2] at hp2
      have HN := Lib.hid (HF.out.trans (if_neg (by rintro (h | h); exact b1 h; exact b2 h)))
      have HP1 := Lib.hid hp1
      have HP2 := Lib.hid hp2
      clear hp1 hp2 HF b1 b2
      go_enter Tryd.func73, Tryd.ntmps73
      go_wp2_with fail
      go_quiet (fail)
      go_wp2_with fail
      refine (strings_TrimLeft.calls _ _ _ _ HT2.out).mono ?_
      rintro e w1 ⟨rfl, hb1⟩
      have hR1 := (hR.drewN nq).below hb1
      have hB1 := (pw_below_drewN (Below.refl B w) nq).trans (hb1.mono hlow)
      go_wp2_with fail
      refine (strings_HasPrefix.calls _ _ _ _ HP1.out).mono ?_
      rintro e w2 ⟨rfl, n2, rfl⟩
      have hR2 := hR1.drewN n2
      have hB2 := pw_below_drewN hB1 n2
      generalize w1.drewN n2 = w3 at hR2 hB2
      clear hR1 hB1
      go_wp2_with fail
      refine (strings_HasPrefix.calls _ _ _ _ HP2.out).mono ?_
      rintro e w4 ⟨rfl, n4', rfl⟩
      replace hR2 := hR2.drewN n4'
      replace hB2 := pw_below_drewN hB2 n4'
      generalize w3.drewN n4' = w3 at hR2 hB2
      go_wp2
      go_ret
      exact ⟨by rw [HN.out]; rfl, by rw [HN.out]; show Rdr B _ g text ((i : Int) + ((0 : Nat) : Int)) bs; rw [show (i : Int) + ((0 : Nat) : Int) = (i : Int) by omega]; first | exact hR2 | exact hR2.drewN _, by first | exact hB2 | exact pw_below_drewN hB2 _⟩
end Go.Proofs.YtoanbmggffkmgaaDoor.P
end
section
namespace Go.Proofs.YtoanbmggffkmgaaDoor.La
open Go.RowKit Go.Proofs.YtoanbmggffkmgaaDoor.P Go.Proofs.YtoanbmggffkmgaaDoorW.PrintWords Go.Proofs.YtoanbmggffkmgaaDoorW.PrintLast Go.Proofs.YtoanbmggffkmgaaDoorW.PrintMore
/-- The letter of a short escape of TOML. -/
def shortT (c : Int) : Option Int := if c = 34 then some 34 else if c = 92 then some 92 else if c = 98 then some 8 else if c = 102 then some 12 else if c = 110 then some 10 else if c = 114 then some 13 else if c = 116 then some 9 else if c = 101 then some 27 else none
theorem shortT_fin : ∀ b : Fin 256, esc_short.f 3 (b.val : Int) true = some ((shortT b.val).getD 0, (shortT b.val).isSome) := by decide +kernel
theorem shortT_eq {c : Int} (h0 : 0 ≤ c) (h1 : c < 256) : esc_short.f 3 c true = some ((shortT c).getD 0, (shortT c).isSome) := by
  obtain ⟨n, rfl⟩ := Int.eq_ofNat_of_zero_le h0
  exact shortT_fin ⟨n, by omega⟩
theorem shortT_good {c x : Int} (h : shortT c = some x) : good x := by
  unfold shortT at h
  (repeat' split at h) <;> first | (cases h; done) | (obtain rfl := Option.some.inj h; exact good_iff.2 (by omega))
/-- What so many digits behind an escape say. -/
def tdig (l : List Int) (n : Nat) : Option (List Int × Nat) := (digsAt l 2 n).bind fun x => if good x then some (enc x, 2 + n) else none
/-- What an escape of TOML says, a line's end aside. -/
def tesc0 (l : List Int) : Option (List Int × Nat) :=
  if l.length ≤ 1 then none
  else if (shortT (l.getD 1 0)).isSome = true then some (enc ((shortT (l.getD 1 0)).getD 0), 2)
  else if l.getD 1 0 = 117 then tdig l 4
  else if l.getD 1 0 = 85 then tdig l 8
  else none
def tesc (lines : Bool) (l : List Int) : Option (List Int × Nat) := if lines = true ∧ (tfold l).isSome = true then some ([], (tfold l).getD 0) else tesc0 l
end Go.Proofs.YtoanbmggffkmgaaDoor.La
namespace Go.Proofs.YtoanbmggffkmgaaDoor.P
open Go.RowKit Go.Proofs.YtoanbmggffkmgaaDoor.La Go.Proofs.YtoanbmggffkmgaaDoorW.PrintWords Go.Proofs.YtoanbmggffkmgaaDoorW.PrintLast Go.Proofs.YtoanbmggffkmgaaDoorW.PrintMore
/-- What tomlEscape leaves. -/
def TPost (B g : Nat) (text : ByteArray) (i : Nat) (bs : List Int) (w : World) (o : Option (List Int × Nat)) (e : Ending) (w' : World) : Prop :=
  e = .returned (.bool o.isSome) ∧ Rdr B w' g text (match o with | none => (i : Int) | some p => (i : Int) + p.2) (match o with | none => bs | some p => bs ++ p.1) ∧ Below B w w'
set_option maxRecDepth 100000 in
set_option maxHeartbeats 16000000 in
theorem rtesc_fold {B g : Nat} {text : ByteArray} {i : Nat} {bs : List Int} {w : World} (hR : Rdr B w g text (i : Int) bs) (h1 : i < text.size) (h2 : text.size ≤ 140737488000000) {n : Nat} (hf : tfold ((bytesOf text).drop i) = some n) :
    Calls Tryd.prog 43 #[.pointer (some ⟨g, 0, none⟩), .bool true] w (TPost B g text i bs w (some ([], n))) := by
  obtain ⟨A, c, c0, c1, c2, f1, f2, hlt, hc, hC⟩ := hR.open_
  have HFo := Lib.hid hf
  clear hf
  go_enter Tryd.func43, Tryd.ntmps43
  go_wp2_with fail
  refine (rfold hR h1 h2).mono ?_
  rintro e w0 ⟨rfl, hR0, hB0⟩
  rw [HFo.out] at hR0
  rw [HFo.out]
  go_wp2
  go_ret
  exact ⟨rfl, by show Rdr B _ g text ((i : Int) + (n : Int)) (bs ++ []); rw [List.append_nil]; first | exact hR0 | exact hR0.drewN _, by first | exact hB0 | exact pw_below_drewN hB0 _⟩
set_option maxRecDepth 100000 in
set_option maxHeartbeats 16000000 in
theorem rtesc_end {B g : Nat} {text : ByteArray} {i : Nat} {bs : List Int} {w : World} (lines : Bool) (hR : Rdr B w g text (i : Int) bs) (h1 : i < text.size) (h2 : text.size ≤ 140737488000000) (hin : lines = false ∨ (lines = true ∧ tfold ((bytesOf text).drop i) = none)) (hj : i + 1 = text.size) :
    Calls Tryd.prog 43 #[.pointer (some ⟨g, 0, none⟩), .bool lines] w (TPost B g text i bs w (tesc0 ((bytesOf text).drop i))) := by
  have hlen : ((bytesOf text).drop i).length = text.size - i := by rw [List.length_drop, size_of]
  have HJ := Lib.hid (show tesc0 ((bytesOf text).drop i) = none from if_pos (by omega))
  have e1 : ((i : Int) + 1 == (text.size : Int)) = true := beq_iff_eq.2 (by omega)
  clear hlen hj
  rcases hin with rfl | ⟨rfl, hf⟩
  · have hR0 := hR
    have hB0 := Below.refl B w
    obtain ⟨A, c, c0, c1, c2, f1, f2, hlt, hc, hC⟩ := hR0.open_
    go_enter Tryd.func43, Tryd.ntmps43
    go_wp2_with fail
    go_quiet (fail)
    go_wp2
    go_ret
    exact ⟨by rw [HJ.out]; rfl, by rw [HJ.out]; first | exact hR0.drewN _ | exact hR0, by first | exact pw_below_drewN hB0 _ | exact hB0⟩
  · have HFo := Lib.hid hf
    clear hf
    obtain ⟨A0, c_, a0, a1, a2, b1, b2, hlt0, hc0, hC0⟩ := hR.open_
    go_enter Tryd.func43, Tryd.ntmps43
    go_wp2_with fail
    refine (rfold hR h1 h2).mono ?_
    rintro e w0 ⟨rfl, hR0, hB0⟩
    rw [HFo.out] at hR0
    rw [HFo.out]
    rw [show (i : Int) + (((none : Option Nat).getD 0 : Nat) : Int) = (i : Int) by simp] at hR0
    clear a0 a1 a2 b1 b2 hC0
    obtain ⟨A, c, c0, c1, c2, f1, f2, hlt, hc, hC⟩ := hR0.open_
    go_wp2_with fail
    go_quiet (fail)
    go_wp2
    go_ret
    exact ⟨by rw [HJ.out]; rfl, by rw [HJ.out]; first | exact hR0.drewN _ | exact hR0, by first | exact pw_below_drewN hB0 _ | exact hB0⟩
set_option maxRecDepth 100000 in
set_option maxHeartbeats 16000000 in
theorem rtesc_short {B g : Nat} {text : ByteArray} {i : Nat} {bs : List Int} {w : World} (lines : Bool) (hR : Rdr B w g text (i : Int) bs) (hl : bs.length ≤ 140737488000000) (h1 : i < text.size) (h2 : text.size ≤ 140737488000000) (hin : lines = false ∨ (lines = true ∧ tfold ((bytesOf text).drop i) = none)) (hj : i + 1 < text.size) {x : Int} (hx : shortT (bt text (i + 1)) = some x) :
    Calls Tryd.prog 43 #[.pointer (some ⟨g, 0, none⟩), .bool lines] w (TPost B g text i bs w (tesc0 ((bytesOf text).drop i))) := by
  have e1 : ((i : Int) + 1 == (text.size : Int)) = false := beq_eq_false_iff_ne.2 (by omega)
  have hbt : bt text ((i : Int) + 1) = ((bytesOf text).drop i).getD 1 0 := by rw [bt_get, getD_drop]; congr 1
  have hbr := bt_range text ((i : Int) + 1)
  have hlen : ((bytesOf text).drop i).length = text.size - i := by rw [List.length_drop, size_of]
  have HS := Lib.hid (show esc_short.f 3 (bt text ((i : Int) + 1)) true = some (x, true) by rw [shortT_eq (by omega) (by omega), hx]; rfl)
  have hg := shortT_good hx
  have HJ := Lib.hid (show tesc0 ((bytesOf text).drop i) = some (enc x, 2) by unfold tesc0; rw [if_neg (by omega), ← hbt, hx]; rfl)
  clear hlen hx hbt
  have p1 := eq_true (show (0 : Int) ≤ (i : Int) + 1 by omega)
  have qi1 := eq_true (show (i : Int) + 1 < (text.size : Int) by omega)
  have q1 := eq_true (show ((i : Int) + 1).toNat < text.size by omega)
  have q2 := eq_true hj
  have hx1 : ∀ h : i + 1 < text.size, ((text[i + 1]'h).toNat : Int) = bt text ((i : Int) + 1) := fun h => bt_at text ((i : Int) + 1) (by omega)
  rcases hin with rfl | ⟨rfl, hf⟩
  · have hR0 := hR
    have hB0 := Below.refl B w
    obtain ⟨A, c, c0, c1, c2, f1, f2, hlt, hc, hC⟩ := hR0.open_
    go_enter Tryd.func43, Tryd.ntmps43
    go_wp2_with fail
    go_quiet (fail)
    go_wp2_with fail
    go_quiet (fail)
    go_wp2_with fail
    refine (esc_short.calls 3 _ _ _ _ _ HS.out).mono ?_
    rintro e w1 ⟨rfl, n1, rfl⟩
    go_wp2_with fail
    refine (rput_good 2 hg (hR0.drewN _) hl (by omega) (by omega) (by decide) (by decide)).mono ?_
    rintro e w2 ⟨rfl, hR2, hB2⟩
    clear c0 c1 c2 f1 f2
    go_wp2
    go_ret
    exact ⟨by rw [HJ.out]; rfl, by rw [HJ.out]; exact hR2, (pw_below_drewN hB0 _).trans hB2⟩
  · have HFo := Lib.hid hf
    clear hf
    obtain ⟨A0, c_, a0, a1, a2, b1, b2, hlt0, hc0, hC0⟩ := hR.open_
    go_enter Tryd.func43, Tryd.ntmps43
    go_wp2_with fail
    refine (rfold hR h1 h2).mono ?_
    rintro e w0 ⟨rfl, hR0, hB0⟩
    rw [HFo.out] at hR0
    rw [HFo.out]
    rw [show (i : Int) + (((none : Option Nat).getD 0 : Nat) : Int) = (i : Int) by simp] at hR0
    clear a0 a1 a2 b1 b2 hC0
    obtain ⟨A, c, c0, c1, c2, f1, f2, hlt, hc, hC⟩ := hR0.open_
    go_wp2_with fail
    go_quiet (fail)
    go_wp2_with fail
    go_quiet (fail)
    go_wp2_with fail
    refine (esc_short.calls 3 _ _ _ _ _ HS.out).mono ?_
    rintro e w1 ⟨rfl, n1, rfl⟩
    go_wp2_with fail
    refine (rput_good 2 hg (hR0.drewN _) hl (by omega) (by omega) (by decide) (by decide)).mono ?_
    rintro e w2 ⟨rfl, hR2, hB2⟩
    clear c0 c1 c2 f1 f2
    go_wp2
    go_ret
    exact ⟨by rw [HJ.out]; rfl, by rw [HJ.out]; exact hR2, (pw_below_drewN hB0 _).trans hB2⟩
set_option maxRecDepth 100000 in
set_option maxHeartbeats 16000000 in
theorem rtesc_no {B g : Nat} {text : ByteArray} {i : Nat} {bs : List Int} {w : World} (lines : Bool) (hR : Rdr B w g text (i : Int) bs) (h1 : i < text.size) (h2 : text.size ≤ 140737488000000) (hin : lines = false ∨ (lines = true ∧ tfold ((bytesOf text).drop i) = none)) (hj : i + 1 < text.size) (hx : shortT (bt text (i + 1)) = none) (h117 : bt text (i + 1) ≠ 117) (h85 : bt text (i + 1) ≠ 85) :
    Calls Tryd.prog 43 #[.pointer (some ⟨g, 0, none⟩), .bool lines] w (TPost B g text i bs w (tesc0 ((bytesOf text).drop i))) := by
  have e1 : ((i : Int) + 1 == (text.size : Int)) = false := beq_eq_false_iff_ne.2 (by omega)
  have hbt : bt text ((i : Int) + 1) = ((bytesOf text).drop i).getD 1 0 := by rw [bt_get, getD_drop]; congr 1
  have hbr := bt_range text ((i : Int) + 1)
  have hlen : ((bytesOf text).drop i).length = text.size - i := by rw [List.length_drop, size_of]
  have HS := Lib.hid (show esc_short.f 3 (bt text ((i : Int) + 1)) true = some (0, false) by rw [shortT_eq (by omega) (by omega), hx]; rfl)
  have HJ := Lib.hid (show tesc0 ((bytesOf text).drop i) = none by unfold tesc0; rw [if_neg (by omega), ← hbt, hx, if_neg (by decide), if_neg h117, if_neg h85])
  have e117 : (bt text ((i : Int) + 1) == 117) = false := beq_eq_false_iff_ne.2 h117
  have e85 : (bt text ((i : Int) + 1) == 85) = false := beq_eq_false_iff_ne.2 h85
  clear hlen hx hbt
  have p1 := eq_true (show (0 : Int) ≤ (i : Int) + 1 by omega)
  have qi1 := eq_true (show (i : Int) + 1 < (text.size : Int) by omega)
  have q1 := eq_true (show ((i : Int) + 1).toNat < text.size by omega)
  have q2 := eq_true hj
  have hx1 : ∀ h : i + 1 < text.size, ((text[i + 1]'h).toNat : Int) = bt text ((i : Int) + 1) := fun h => bt_at text ((i : Int) + 1) (by omega)
  generalize bt text ((i : Int) + 1) = b at HS hbr hx1 e117 e85
  clear h117 h85
  rcases hin with rfl | ⟨rfl, hf⟩
  · have hR0 := hR
    have hB0 := Below.refl B w
    obtain ⟨A, c, c0, c1, c2, f1, f2, hlt, hc, hC⟩ := hR0.open_
    go_enter Tryd.func43, Tryd.ntmps43
    go_wp2_with fail
    go_quiet (fail)
    go_wp2_with fail
    go_quiet (fail)
    go_wp2_with fail
    refine (esc_short.calls 3 _ _ _ _ _ HS.out).mono ?_
    rintro e w1 ⟨rfl, n1, rfl⟩
    go_wp2
    go_ret
    exact ⟨by rw [HJ.out]; rfl, by rw [HJ.out]; exact hR0.drewN _, pw_below_drewN hB0 _⟩
  · have HFo := Lib.hid hf
    clear hf
    obtain ⟨A0, c_, a0, a1, a2, b1, b2, hlt0, hc0, hC0⟩ := hR.open_
    go_enter Tryd.func43, Tryd.ntmps43
    go_wp2_with fail
    refine (rfold hR h1 h2).mono ?_
    rintro e w0 ⟨rfl, hR0, hB0⟩
    rw [HFo.out] at hR0
    rw [HFo.out]
    rw [show (i : Int) + (((none : Option Nat).getD 0 : Nat) : Int) = (i : Int) by simp] at hR0
    clear a0 a1 a2 b1 b2 hC0
    obtain ⟨A, c, c0, c1, c2, f1, f2, hlt, hc, hC⟩ := hR0.open_
    go_wp2_with fail
    go_quiet (fail)
    go_wp2_with fail
    go_quiet (fail)
    go_wp2_with fail
    refine (esc_short.calls 3 _ _ _ _ _ HS.out).mono ?_
    rintro e w1 ⟨rfl, n1, rfl⟩
    go_wp2
    go_ret
    exact ⟨by rw [HJ.out]; rfl, by rw [HJ.out]; exact hR0.drewN _, pw_below_drewN hB0 _⟩
set_option maxRecDepth 100000 in
set_option maxHeartbeats 16000000 in
theorem rtesc_dig4 {B g : Nat} {text : ByteArray} {i : Nat} {bs : List Int} {w : World} (lines : Bool) (hR : Rdr B w g text (i : Int) bs) (hl : bs.length ≤ 140737488000000) (h1 : i < text.size) (h2 : text.size ≤ 140737488000000) (hin : lines = false ∨ (lines = true ∧ tfold ((bytesOf text).drop i) = none)) (hj : i + 1 < text.size) (hx : shortT (bt text (i + 1)) = none) (hb : bt text (i + 1) = 117) :
    Calls Tryd.prog 43 #[.pointer (some ⟨g, 0, none⟩), .bool lines] w (TPost B g text i bs w (tesc0 ((bytesOf text).drop i))) := by
  have e1 : ((i : Int) + 1 == (text.size : Int)) = false := beq_eq_false_iff_ne.2 (by omega)
  have hbt : bt text ((i : Int) + 1) = ((bytesOf text).drop i).getD 1 0 := by rw [bt_get, getD_drop]; congr 1
  have hbr := bt_range text ((i : Int) + 1)
  have hlen : ((bytesOf text).drop i).length = text.size - i := by rw [List.length_drop, size_of]
  have HS := Lib.hid (show esc_short.f 3 (bt text ((i : Int) + 1)) true = some (0, false) by rw [shortT_eq (by omega) (by omega), hx]; rfl)
  have hd2 : digsAt ((bytesOf text).drop i) 2 4 = digsAt (bytesOf text) (i + 2) 4 := digsAt_drop _ (by rw [size_of]; omega) _ _
  have hJ : tesc0 ((bytesOf text).drop i) = (digsAt (bytesOf text) (i + 2) 4).bind fun x => if good x then some (enc x, 2 + 4) else none := by
    unfold tesc0
    rw [if_neg (by omega), ← hbt, hx, if_neg (by decide), if_pos hb, ← hd2]
    rfl
  clear hlen hx hbt hd2
  have p1 := eq_true (show (0 : Int) ≤ (i : Int) + 1 by omega)
  have qi1 := eq_true (show (i : Int) + 1 < (text.size : Int) by omega)
  have q1 := eq_true (show ((i : Int) + 1).toNat < text.size by omega)
  have q2 := eq_true hj
  have hx1 : ∀ h : i + 1 < text.size, ((text[i + 1]'h).toNat : Int) = bt text ((i : Int) + 1) := fun h => bt_at text ((i : Int) + 1) (by omega)
  have HD := Lib.hid (fun (w : World) (h : Rdr B w g text (i : Int) bs) => rdigits_at ((i : Int) + 2) 4 (i + 2) 4 (by omega) (by omega) (by decide) (by decide) h h2 (by omega))
  have hx4 : ∀ v, digsAt (bytesOf text) (i + 2) 4 = some v → (digsAt (bytesOf text) (i + 2) 4).getD 0 = v := fun v h => by rw [h]; rfl
  have HJ0 : (digsAt (bytesOf text) (i + 2) 4).isSome = false → tesc0 ((bytesOf text).drop i) = none := by
    intro h
    rw [hJ]
    cases hd : digsAt (bytesOf text) (i + 2) 4 with
    | none => rfl
    | some v => rw [hd] at h; cases h
  have HJ1 : (digsAt (bytesOf text) (i + 2) 4).isSome = true → good ((digsAt (bytesOf text) (i + 2) 4).getD 0) → tesc0 ((bytesOf text).drop i) = some (enc ((digsAt (bytesOf text) (i + 2) 4).getD 0), 2 + 4) := by
    intro h hg
    rw [hJ]
    obtain ⟨v, hv⟩ := Option.isSome_iff_exists.1 h
    rw [hv] at hg ⊢
    exact if_pos hg
  have HJ2 : (digsAt (bytesOf text) (i + 2) 4).isSome = true → ¬ good ((digsAt (bytesOf text) (i + 2) 4).getD 0) → tesc0 ((bytesOf text).drop i) = none := by
    intro h hg
    rw [hJ]
    obtain ⟨v, hv⟩ := Option.isSome_iff_exists.1 h
    rw [hv] at hg ⊢
    exact if_neg hg
  clear hJ hx4
  rw [hb] at HS hx1
  clear hb hbr
  generalize (digsAt (bytesOf text) (i + 2) 4).isSome = ok at HD HJ0 HJ1 HJ2
  generalize (digsAt (bytesOf text) (i + 2) 4).getD 0 = x at HD HJ1 HJ2
  have HJ0 := Lib.hid HJ0
  have HJ1 := Lib.hid HJ1
  have HJ2 := Lib.hid HJ2
  rcases hin with rfl | ⟨rfl, hf⟩
  · have hR0 := hR
    have hB0 := Below.refl B w
    obtain ⟨A, c, c0, c1, c2, f1, f2, hlt, hc, hC⟩ := hR0.open_
    go_enter Tryd.func43, Tryd.ntmps43
    go_wp2_with fail
    go_quiet (fail)
    go_wp2_with fail
    go_quiet (fail)
    go_wp2_with fail
    refine (esc_short.calls 3 _ _ _ _ _ HS.out).mono ?_
    rintro e w1 ⟨rfl, n1, rfl⟩
    go_wp2_with fail
    refine (HD.out _ (hR0.drewN _)).mono ?_
    rintro e w2 ⟨rfl, hR2, hB2⟩
    have hB3 := (pw_below_drewN hB0 _).trans hB2
    clear c0 c1 c2 f1 f2
    cases ok
    · have HN := Lib.hid (HJ0.out rfl)
      go_wp2
      go_ret
      exact ⟨by rw [HN.out]; rfl, by rw [HN.out]; exact hR2, hB3⟩
    · by_cases hg : good x
      · have HN := Lib.hid (HJ1.out rfl hg)
        go_wp2_with fail
        refine (rput_good 6 hg hR2 hl (by omega) (by omega) (by decide) (by decide)).mono ?_
        rintro e w3 ⟨rfl, hR3, hB4⟩
        go_wp2
        go_ret
        exact ⟨by rw [HN.out]; rfl, by rw [HN.out]; exact hR3, hB3.trans hB4⟩
      · have HN := Lib.hid (HJ2.out rfl hg)
        go_wp2_with fail
        refine (rput_bad 6 hg hR2 hl (by omega) (by omega) (by decide) (by decide)).mono ?_
        rintro e w3 ⟨rfl, hR3, hB4⟩
        go_wp2
        go_ret
        exact ⟨by rw [HN.out]; rfl, by rw [HN.out]; exact hR3, hB3.trans hB4⟩
  · have HFo := Lib.hid hf
    clear hf
    obtain ⟨A0, c_, a0, a1, a2, b1, b2, hlt0, hc0, hC0⟩ := hR.open_
    go_enter Tryd.func43, Tryd.ntmps43
    go_wp2_with fail
    refine (rfold hR h1 h2).mono ?_
    rintro e w0 ⟨rfl, hR0, hB0⟩
    rw [HFo.out] at hR0
    rw [HFo.out]
    rw [show (i : Int) + (((none : Option Nat).getD 0 : Nat) : Int) = (i : Int) by simp] at hR0
    clear a0 a1 a2 b1 b2 hC0
    obtain ⟨A, c, c0, c1, c2, f1, f2, hlt, hc, hC⟩ := hR0.open_
    go_wp2_with fail
    go_quiet (fail)
    go_wp2_with fail
    go_quiet (fail)
    go_wp2_with fail
    refine (esc_short.calls 3 _ _ _ _ _ HS.out).mono ?_
    rintro e w1 ⟨rfl, n1, rfl⟩
    go_wp2_with fail
    refine (HD.out _ (hR0.drewN _)).mono ?_
    rintro e w2 ⟨rfl, hR2, hB2⟩
    have hB3 := (pw_below_drewN hB0 _).trans hB2
    clear c0 c1 c2 f1 f2
    cases ok
    · have HN := Lib.hid (HJ0.out rfl)
      go_wp2
      go_ret
      exact ⟨by rw [HN.out]; rfl, by rw [HN.out]; exact hR2, hB3⟩
    · by_cases hg : good x
      · have HN := Lib.hid (HJ1.out rfl hg)
        go_wp2_with fail
        refine (rput_good 6 hg hR2 hl (by omega) (by omega) (by decide) (by decide)).mono ?_
        rintro e w3 ⟨rfl, hR3, hB4⟩
        go_wp2
        go_ret
        exact ⟨by rw [HN.out]; rfl, by rw [HN.out]; exact hR3, hB3.trans hB4⟩
      · have HN := Lib.hid (HJ2.out rfl hg)
        go_wp2_with fail
        refine (rput_bad 6 hg hR2 hl (by omega) (by omega) (by decide) (by decide)).mono ?_
        rintro e w3 ⟨rfl, hR3, hB4⟩
        go_wp2
        go_ret
        exact ⟨by rw [HN.out]; rfl, by rw [HN.out]; exact hR3, hB3.trans hB4⟩
set_option maxRecDepth 100000 in
set_option maxHeartbeats 16000000 in
theorem rtesc_dig8 {B g : Nat} {text : ByteArray} {i : Nat} {bs : List Int} {w : World} (lines : Bool) (hR : Rdr B w g text (i : Int) bs) (hl : bs.length ≤ 140737488000000) (h1 : i < text.size) (h2 : text.size ≤ 140737488000000) (hin : lines = false ∨ (lines = true ∧ tfold ((bytesOf text).drop i) = none)) (hj : i + 1 < text.size) (hx : shortT (bt text (i + 1)) = none) (hb : bt text (i + 1) = 85) :
    Calls Tryd.prog 43 #[.pointer (some ⟨g, 0, none⟩), .bool lines] w (TPost B g text i bs w (tesc0 ((bytesOf text).drop i))) := by
  have e1 : ((i : Int) + 1 == (text.size : Int)) = false := beq_eq_false_iff_ne.2 (by omega)
  have hbt : bt text ((i : Int) + 1) = ((bytesOf text).drop i).getD 1 0 := by rw [bt_get, getD_drop]; congr 1
  have hbr := bt_range text ((i : Int) + 1)
  have hlen : ((bytesOf text).drop i).length = text.size - i := by rw [List.length_drop, size_of]
  have HS := Lib.hid (show esc_short.f 3 (bt text ((i : Int) + 1)) true = some (0, false) by rw [shortT_eq (by omega) (by omega), hx]; rfl)
  have hd2 : digsAt ((bytesOf text).drop i) 2 8 = digsAt (bytesOf text) (i + 2) 8 := digsAt_drop _ (by rw [size_of]; omega) _ _
  have hJ : tesc0 ((bytesOf text).drop i) = (digsAt (bytesOf text) (i + 2) 8).bind fun x => if good x then some (enc x, 2 + 8) else none := by
    unfold tesc0
    rw [if_neg (by omega), ← hbt, hx, if_neg (by decide), if_neg (by omega), if_pos hb, ← hd2]
    rfl
  clear hlen hx hbt hd2
  have p1 := eq_true (show (0 : Int) ≤ (i : Int) + 1 by omega)
  have qi1 := eq_true (show (i : Int) + 1 < (text.size : Int) by omega)
  have q1 := eq_true (show ((i : Int) + 1).toNat < text.size by omega)
  have q2 := eq_true hj
  have hx1 : ∀ h : i + 1 < text.size, ((text[i + 1]'h).toNat : Int) = bt text ((i : Int) + 1) := fun h => bt_at text ((i : Int) + 1) (by omega)
  have HD := Lib.hid (fun (w : World) (h : Rdr B w g text (i : Int) bs) => rdigits_at ((i : Int) + 2) 8 (i + 2) 8 (by omega) (by omega) (by decide) (by decide) h h2 (by omega))
  have hx4 : ∀ v, digsAt (bytesOf text) (i + 2) 8 = some v → (digsAt (bytesOf text) (i + 2) 8).getD 0 = v := fun v h => by rw [h]; rfl
  have HJ0 : (digsAt (bytesOf text) (i + 2) 8).isSome = false → tesc0 ((bytesOf text).drop i) = none := by
    intro h
    rw [hJ]
    cases hd : digsAt (bytesOf text) (i + 2) 8 with
    | none => rfl
    | some v => rw [hd] at h; cases h
  have HJ1 : (digsAt (bytesOf text) (i + 2) 8).isSome = true → good ((digsAt (bytesOf text) (i + 2) 8).getD 0) → tesc0 ((bytesOf text).drop i) = some (enc ((digsAt (bytesOf text) (i + 2) 8).getD 0), 2 + 8) := by
    intro h hg
    rw [hJ]
    obtain ⟨v, hv⟩ := Option.isSome_iff_exists.1 h
    rw [hv] at hg ⊢
    exact if_pos hg
  have HJ2 : (digsAt (bytesOf text) (i + 2) 8).isSome = true → ¬ good ((digsAt (bytesOf text) (i + 2) 8).getD 0) → tesc0 ((bytesOf text).drop i) = none := by
    intro h hg
    rw [hJ]
    obtain ⟨v, hv⟩ := Option.isSome_iff_exists.1 h
    rw [hv] at hg ⊢
    exact if_neg hg
  clear hJ hx4
  rw [hb] at HS hx1
  clear hb hbr
  generalize (digsAt (bytesOf text) (i + 2) 8).isSome = ok at HD HJ0 HJ1 HJ2
  generalize (digsAt (bytesOf text) (i + 2) 8).getD 0 = x at HD HJ1 HJ2
  have HJ0 := Lib.hid HJ0
  have HJ1 := Lib.hid HJ1
  have HJ2 := Lib.hid HJ2
  rcases hin with rfl | ⟨rfl, hf⟩
  · have hR0 := hR
    have hB0 := Below.refl B w
    obtain ⟨A, c, c0, c1, c2, f1, f2, hlt, hc, hC⟩ := hR0.open_
    go_enter Tryd.func43, Tryd.ntmps43
    go_wp2_with fail
    go_quiet (fail)
    go_wp2_with fail
    go_quiet (fail)
    go_wp2_with fail
    refine (esc_short.calls 3 _ _ _ _ _ HS.out).mono ?_
    rintro e w1 ⟨rfl, n1, rfl⟩
    go_wp2_with fail
    refine (HD.out _ (hR0.drewN _)).mono ?_
    rintro e w2 ⟨rfl, hR2, hB2⟩
    have hB3 := (pw_below_drewN hB0 _).trans hB2
    clear c0 c1 c2 f1 f2
    cases ok
    · have HN := Lib.hid (HJ0.out rfl)
      go_wp2
      go_ret
      exact ⟨by rw [HN.out]; rfl, by rw [HN.out]; exact hR2, hB3⟩
    · by_cases hg : good x
      · have HN := Lib.hid (HJ1.out rfl hg)
        go_wp2_with fail
        refine (rput_good 10 hg hR2 hl (by omega) (by omega) (by decide) (by decide)).mono ?_
        rintro e w3 ⟨rfl, hR3, hB4⟩
        go_wp2
        go_ret
        exact ⟨by rw [HN.out]; rfl, by rw [HN.out]; exact hR3, hB3.trans hB4⟩
      · have HN := Lib.hid (HJ2.out rfl hg)
        go_wp2_with fail
        refine (rput_bad 10 hg hR2 hl (by omega) (by omega) (by decide) (by decide)).mono ?_
        rintro e w3 ⟨rfl, hR3, hB4⟩
        go_wp2
        go_ret
        exact ⟨by rw [HN.out]; rfl, by rw [HN.out]; exact hR3, hB3.trans hB4⟩
  · have HFo := Lib.hid hf
    clear hf
    obtain ⟨A0, c_, a0, a1, a2, b1, b2, hlt0, hc0, hC0⟩ := hR.open_
    go_enter Tryd.func43, Tryd.ntmps43
    go_wp2_with fail
    refine (rfold hR h1 h2).mono ?_
    rintro e w0 ⟨rfl, hR0, hB0⟩
    rw [HFo.out] at hR0
    rw [HFo.out]
    rw [show (i : Int) + (((none : Option Nat).getD 0 : Nat) : Int) = (i : Int) by simp] at hR0
    clear a0 a1 a2 b1 b2 hC0
    obtain ⟨A, c, c0, c1, c2, f1, f2, hlt, hc, hC⟩ := hR0.open_
    go_wp2_with fail
    go_quiet (fail)
    go_wp2_with fail
    go_quiet (fail)
    go_wp2_with fail
    refine (esc_short.calls 3 _ _ _ _ _ HS.out).mono ?_
    rintro e w1 ⟨rfl, n1, rfl⟩
    go_wp2_with fail
    refine (HD.out _ (hR0.drewN _)).mono ?_
    rintro e w2 ⟨rfl, hR2, hB2⟩
    have hB3 := (pw_below_drewN hB0 _).trans hB2
    clear c0 c1 c2 f1 f2
    cases ok
    · have HN := Lib.hid (HJ0.out rfl)
      go_wp2
      go_ret
      exact ⟨by rw [HN.out]; rfl, by rw [HN.out]; exact hR2, hB3⟩
    · by_cases hg : good x
      · have HN := Lib.hid (HJ1.out rfl hg)
        go_wp2_with fail
        refine (rput_good 10 hg hR2 hl (by omega) (by omega) (by decide) (by decide)).mono ?_
        rintro e w3 ⟨rfl, hR3, hB4⟩
        go_wp2
        go_ret
        exact ⟨by rw [HN.out]; rfl, by rw [HN.out]; exact hR3, hB3.trans hB4⟩
      · have HN := Lib.hid (HJ2.out rfl hg)
        go_wp2_with fail
        refine (rput_bad 10 hg hR2 hl (by omega) (by omega) (by decide) (by decide)).mono ?_
        rintro e w3 ⟨rfl, hR3, hB4⟩
        go_wp2
        go_ret
        exact ⟨by rw [HN.out]; rfl, by rw [HN.out]; exact hR3, hB3.trans hB4⟩
/-- What tomlEscape does. -/
theorem rtesc {B g : Nat} {text : ByteArray} {i : Nat} {bs : List Int} {w : World} (lines : Bool) (hR : Rdr B w g text (i : Int) bs) (hl : bs.length ≤ 140737488000000) (h1 : i < text.size) (h2 : text.size ≤ 140737488000000) :
    Calls Tryd.prog 43 #[.pointer (some ⟨g, 0, none⟩), .bool lines] w (TPost B g text i bs w (tesc lines ((bytesOf text).drop i))) := by
  have rest : (lines = false ∨ (lines = true ∧ tfold ((bytesOf text).drop i) = none)) → Calls Tryd.prog 43 #[.pointer (some ⟨g, 0, none⟩), .bool lines] w (TPost B g text i bs w (tesc0 ((bytesOf text).drop i))) := by
    intro hin
    by_cases hj : i + 1 = text.size
    · exact rtesc_end lines hR h1 h2 hin hj
    · have hj' : i + 1 < text.size := by omega
      cases hs : shortT (bt text (i + 1)) with
      | some x => exact rtesc_short lines hR hl h1 h2 hin hj' hs
      | none =>
        by_cases h117 : bt text (i + 1) = 117
        · exact rtesc_dig4 lines hR hl h1 h2 hin hj' hs h117
        · by_cases h85 : bt text (i + 1) = 85
          · exact rtesc_dig8 lines hR hl h1 h2 hin hj' hs h85
          · exact rtesc_no lines hR h1 h2 hin hj' hs h117 h85
  unfold tesc
  cases lines with
  | false => rw [if_neg (by simp)]; exact rest (.inl rfl)
  | true =>
    cases hf : tfold ((bytesOf text).drop i) with
    | none => rw [if_neg (by simp)]; exact rest (.inr ⟨rfl, hf⟩)
    | some n => rw [if_pos (by simp)]; exact rtesc_fold hR h1 h2 hf
end Go.Proofs.YtoanbmggffkmgaaDoor.P
end
