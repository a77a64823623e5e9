/- The parts of this claim's proof, in one text: what each Go function answers and that its call comes to it; plain facts of lists of numbers. Conditions as each theorem names them. -/
import Derived.ArgAppend
import Derived.Below
import Derived.BigCall
import Derived.BigQuiet
import Derived.Deep.AppendLies
import Derived.Deep.CutBlock
import Derived.Deep.DeepCutAuto
import Derived.Deep.Draws
import Derived.Deep.LoopGhost
import Derived.Deep.OwnRows
import Derived.Deep.QuietTactic
import Derived.Deep.RegionHeld3
import Derived.Deep.RegionWith
import Derived.Defers
import Derived.KernelRfl
import Derived.Laws.BitsLemmas
import Derived.Laws.BytesArg
import Derived.Laws.IdiomCopy
import Derived.Laws.MakeOwn
import Derived.Laws.OwnMore
import Derived.Laws.RangeAny
import Derived.Laws.Rows
import Derived.Laws.Runes
import Derived.Laws.Slices
import Derived.Lib.AppendStr
import Derived.Lib.Bytealg
import Derived.Lib.Bytes
import Derived.Lib.ConvBytes
import Derived.Lib.Hide
import Derived.Lib.ReplaceLaws
import Derived.Maps.AppendAt
import Derived.OrdersHeld
import Derived.Outline
import Derived.OwnWalk
import Derived.Recover
import Derived.RowKit
import Derived.RowKit3
import Derived.Shelf.LaysM
import Derived.Shelf.Small.Strs
import Derived.Shelf.Small.Utf8
import Derived.Shelf.Strings.AsciiSet
import Derived.Shelf.Strings.Builder1
import Derived.Shelf.Strings.Builder2
import Derived.Shelf.Strings.Builder2Cap
import Derived.Shelf.Strings.BuilderF
import Derived.Shelf.Strings.BuilderK
import Derived.Shelf.Strings.Count
import Derived.Shelf.Strings.IndexAny
import Derived.Shelf.Strings.IndexAnyAll
import Derived.Shelf.Strings.LastIndex
import Derived.Shelf.Strings.OnBuilder
import Derived.Shelf.Strings.Prefix
import Derived.Shelf.Strings.Replace
import Derived.Shelf.Strings.RuneCount
import Derived.Shelf.Strings.Runes
import Derived.Shelf.Strings.Search1
import Derived.Shelf.Strings.Search2
import Derived.Shelf.Strings.Search3
import Derived.Shelf.Strings.Shaped
import Derived.Shelf.Strings.Split
import Derived.Shelf.Strings.SplitShaped
import Derived.Shelf.Unicode.Decode
import Derived.Shelf.Unicode.DecodeAny
import Derived.Shelf.Unicode.DecodeSlow
import Derived.Shelf.Utf8.RuneCount
import Derived.SliceStrings
import Derived.Tactics
import Derived.Tactics2
import Derived.WalkKit
import Derived.WalkSmall
import Derived.WideLaws
import Derived.Test.YtjmmdphkgioooaaDoorProg
import Derived.Test.YtjmmdphkgioooaaDoorWApart
import Derived.Test.YtjmmdphkgioooaaDoorWArr
import Derived.Test.YtjmmdphkgioooaaDoorWAt
import Derived.Test.YtjmmdphkgioooaaDoorWEqStruct
import Derived.Test.YtjmmdphkgioooaaDoorWFoot
import Derived.Test.YtjmmdphkgioooaaDoorWFootNe
import Derived.Test.YtjmmdphkgioooaaDoorWFour
import Derived.Test.YtjmmdphkgioooaaDoorWGuard
import Derived.Test.YtjmmdphkgioooaaDoorWInv
import Derived.Test.YtjmmdphkgioooaaDoorWInvWords
import Derived.Test.YtjmmdphkgioooaaDoorWKept
import Derived.Test.YtjmmdphkgioooaaDoorWLast
import Derived.Test.YtjmmdphkgioooaaDoorWMake0
import Derived.Test.YtjmmdphkgioooaaDoorWMore
import Derived.Test.YtjmmdphkgioooaaDoorWN
import Derived.Test.YtjmmdphkgioooaaDoorWNEv
import Derived.Test.YtjmmdphkgioooaaDoorWQPut
import Derived.Test.YtjmmdphkgioooaaDoorWRepsOne
import Derived.Test.YtjmmdphkgioooaaDoorWShare
import Derived.Test.YtjmmdphkgioooaaDoorWTab
import Derived.Test.YtjmmdphkgioooaaDoorWWords
import Derived.Test.YtjmmdphkgioooaaDoorWZeros
import Derived.Test.YtjmmdphkgioooaaDoorMCprintBack1
section
namespace Go.Proofs.YtjmmdphkgioooaaDoor.P
open Go.RowKit Go.Proofs.YtjmmdphkgioooaaDoor.La Go.Proofs.YtjmmdphkgioooaaDoorW.PrintWords Go.Proofs.YtjmmdphkgioooaaDoorW.PrintLast Go.Proofs.YtjmmdphkgioooaaDoorW.PrintMore
theorem cwrap (n : Int) (h₀ : 0 ≤ n) (h₁ : n < 2 ^ 62) : IntKind.i64.wrap n = n := by rw [IntKind.wrap_i64]; omega
/-- What a call that writes block g may have done: the blocks that were there are as they were, but for g. -/
def Mv (g : Nat) (w w' : World) : Prop := Below g w w' ∧ ∀ k, k < w.heap.size → k ≠ g → w'.heap[k]? = w.heap[k]?
theorem Mv.refl (g : Nat) (w : World) : Mv g w w := ⟨Below.refl _ _, fun _ _ _ => rfl⟩
theorem Mv.trans {g : Nat} {a b c : World} (h : Mv g a b) (k : Mv g b c) : Mv g a c :=
 ⟨h.1.trans k.1, fun i hi hg => (k.2 i (Nat.lt_of_lt_of_le hi h.1.size) hg).trans (h.2 i hi hg)⟩
theorem Mv.of_below {g : Nat} {w w' : World} (h : Below w.heap.size w w') (hg : g ≤ w.heap.size) : Mv g w w' := ⟨h.mono hg, fun i hi _ => h.block i hi⟩
theorem Mv.then {g : Nat} {w W w1 : World} (h : Mv g w W) (hb : Below w.heap.size W w1) (hg : g ≤ w.heap.size) : Mv g w w1 :=
 ⟨h.1.trans (hb.mono hg), fun k hk hne => (hb.block k hk).trans (h.2 k hk hne)⟩
theorem Mv.set (g : Nat) (w : World) (j : Nat) (u : Value) : Mv g w (w.setCell ⟨g, j, none⟩ u) :=
 ⟨(Below.refl g w).setCell (p := ⟨g, j, none⟩) (Nat.le_refl _) _, fun _ _ hk => Below.heap_setCell _ _ _ _ hk⟩
theorem Mv.drewN {g : Nat} {w W : World} (h : Mv g w W) (n : Nat) : Mv g w (W.drewN n) := ⟨pw_below_drewN h.1 n, h.2⟩
theorem Mv.low {g B : Nat} {w W : World} (h : Mv g w W) (hB : B ≤ g) : Below B w W := h.1.mono hB
theorem cblk_set {w : World} {g t : Nat} {cs : Array Value} (h : w.heap[g]? = some (.cells cs t (0, 0))) (i : Nat) (u : Value) : (w.setCell ⟨g, i, none⟩ u).heap[g]? = some (.cells (cs.setIfInBounds i u) t (0, 0)) := by
 simp [World.setCell, Array.getElem?_modify, h]
theorem cblk_lt {w : World} {g : Nat} {o : Obj} (h : w.heap[g]? = some o) : g < w.heap.size := by
 rcases Nat.lt_or_ge g w.heap.size with hlt | hge
 ·exact hlt
 ·rw [Array.getElem?_eq_none hge] at h; cases h
theorem cblk_cell {w : World} {g t : Nat} {cs : Array Value} (h : w.heap[g]? = some (.cells cs t (0, 0))) (i : Nat) : w.cell? ⟨g, i, none⟩ = cs[i]? := cell_of_row w g i cs t (0, 0) h
theorem cblk_free {w : World} {g t : Nat} {cs : Array Value} (h : w.heap[g]? = some (.cells cs t (0, 0))) (i : Nat) : w.frozen? ⟨g, i, none⟩ = false := by simp [World.frozen?, h]
/-- Block g holds a reader: its text, its place, its rows. -/
def Cur (w : World) (g : Nat) (text : ByteArray) (at_ : Int) (rv : Value) : Prop := w.heap[g]? = some (.cells #[.string text, .int .i64 at_, rv] 89 (0, 0))
theorem Cur.open_ {w : World} {g : Nat} {text : ByteArray} {at_ : Int} {rv : Value} (h : Cur w g text at_ rv) :
  w.cell? ⟨g, 0, none⟩ = some (.string text) ∧ w.cell? ⟨g, 1, none⟩ = some (.int .i64 at_) ∧ w.cell? ⟨g, 2, none⟩ = some rv ∧ w.frozen? ⟨g, 1, none⟩ = false ∧ w.frozen? ⟨g, 2, none⟩ = false ∧ g < w.heap.size :=
 ⟨by rw [cblk_cell h]; rfl, by rw [cblk_cell h]; rfl, by rw [cblk_cell h]; rfl, cblk_free h 1, cblk_free h 2, cblk_lt h⟩
theorem Cur.drewN {w : World} {g : Nat} {text : ByteArray} {at_ : Int} {rv : Value} (h : Cur w g text at_ rv) (n : Nat) : Cur (w.drewN n) g text at_ rv := h
theorem Cur.below {w w1 : World} {g : Nat} {text : ByteArray} {at_ : Int} {rv : Value} (h : Cur w g text at_ rv) (hb : Below w.heap.size w w1) : Cur w1 g text at_ rv := (hb.block g (cblk_lt h)).trans h
theorem Cur.moved {w : World} {g : Nat} {text : ByteArray} {at_ : Int} {rv : Value} (h : Cur w g text at_ rv) (at1 : Int) : Cur (w.setCell ⟨g, 1, none⟩ (.int .i64 at1)) g text at1 rv := cblk_set h 1 (.int .i64 at1)
theorem Cur.put {w : World} {g : Nat} {text : ByteArray} {at_ : Int} {rv : Value} (h : Cur w g text at_ rv) (rv1 : Value) : Cur (w.setCell ⟨g, 2, none⟩ rv1) g text at_ rv1 := cblk_set h 2 rv1
/-- What is thrown. -/
def thrown (e at_ : Int) : Ending := .panicked [{ v := .iface 85 (.agg #[.int .i64 e, .int .i64 at_]), recovered := false }]
theorem cfail (e at_ : Int) (w : World) : Calls Tryd.prog 66 #[.int .i64 e, .int .i64 at_] w fun x w' => x = thrown e at_ ∧ w' = w := by
 go_enter Tryd.func66, Tryd.ntmps66
 go_wp2
 exact ⟨rfl, rfl, rfl⟩
set_option maxRecDepth 100000 in
set_option maxHeartbeats 4000000 in
theorem cend {w : World} {g : Nat} {text : ByteArray} {i : Nat} {rv : Value} (hC : Cur w g text i rv) (hi : i ≤ text.size) :
  Calls Tryd.prog 69 #[.pointer (some ⟨g, 0, none⟩)] w fun x w' => x = .returned (.int .i64 (lend ((bytesOf text).drop i) : Nat)) ∧ Drawn0 w w' := by
 obtain ⟨c0, c1, c2, f1, f2, hlt⟩ := hC.open_
 have c3b0 := eq_true (show (0 : Int) ≤ (i : Int) by omega)
 have c3b1 : decide ((0 : Int) ≤ (i : Int)) = true := decide_eq_true (by omega)
 have c4b0 := eq_true (show (i : Int) ≤ (text.size : Int) by omega)
 have c4b1 : decide ((i : Int) ≤ (text.size : Int)) = true := decide_eq_true (by omega)
 have H1 := Lib.hid (pre_at text (i : Int).toNat ⟨#[10]⟩)
 have H2 := Lib.hid (pre_at text (i : Int).toNat ⟨#[13, 10]⟩)
 rw [Int.toNat_natCast] at H1 H2
 have HL := Lib.hid (show lend ((bytesOf text).drop i) = if decide (((bytesOf text).drop i).take (⟨#[10]⟩ : ByteArray).size = bytesOf ⟨#[10]⟩) = true then 1 else if decide (((bytesOf text).drop i).take (⟨#[13, 10]⟩ : ByteArray).size = bytesOf ⟨#[13, 10]⟩) = true then 2 else 0 by
  simp only [decide_eq_true_eq]; rfl)
 generalize decide (((bytesOf text).drop i).take (⟨#[10]⟩ : ByteArray).size = bytesOf ⟨#[10]⟩) = r1 at H1 HL
 generalize decide (((bytesOf text).drop i).take (⟨#[13, 10]⟩ : ByteArray).size = bytesOf ⟨#[13, 10]⟩) = r2 at H2 HL
 generalize lend ((bytesOf text).drop i) = L at HL ⊢
 go_enter Tryd.func69, Tryd.ntmps69
 go_wp2_with fail
 go_quiet (fail)
 go_wp2_with fail
 refine (strings_HasPrefix.calls _ _ r1 _ H1.out).mono ?_
 rintro e w' ⟨rfl, n1, rfl⟩
 cases r1 with
 | true =>
  go_wp2
  go_ret
  exact ⟨by rw [HL.out]; rfl, _, rfl⟩
 | false =>
  go_wp2_with fail
  refine (strings_HasPrefix.calls _ _ r2 _ H2.out).mono ?_
  rintro e w' ⟨rfl, n2, rfl⟩
  cases r2 with
  | true =>
   go_wp2
   go_ret
   exact ⟨by rw [HL.out]; rfl, _, rfl⟩
  | false =>
   go_wp2
   go_ret
   exact ⟨by rw [HL.out]; rfl, _, rfl⟩
/-- The state of the loop that reads what stands between quotes. -/
def QInv (w : World) (g : Nat) (text : ByteArray) (i : Nat) (rv : Value) (res : Option (List Int × Nat)) (k : Nat) (wr : World) : Prop :=
 ∃ (j : Nat) (l : List UInt8), Cur wr g text j rv ∧ Mv g w wr ∧ IsB w.heap.size w.heap.size (Lib.byteCells l) wr ∧ i + 1 ≤ j ∧ j ≤ text.size ∧ text.size - j < k ∧ l.length ≤ j ∧
  res = (qd ((bytesOf text).drop j)).map (fun p => (toI l ++ p.1, p.2 + (j - (i + 1))))
set_option maxRecDepth 100000 in
set_option maxHeartbeats 8000000 in
theorem cquoted {w : World} {g : Nat} {text : ByteArray} {i : Nat} {rv : Value} (hC : Cur w g text i rv) (hi : i < text.size) (hs : text.size ≤ 70000) :
  Calls Tryd.prog 75 #[.pointer (some ⟨g, 0, none⟩)] w fun x w' => Mv g w w' ∧
   match qd ((bytesOf text).drop (i + 1)) with
   | none => x = thrown 4 text.size
   | some p => x = .returned (.string (strOfNums p.1)) ∧ Cur w' g text ((i + 1 + p.2 : Nat) : Int) rv := by
 obtain ⟨c0, c1, c2, f1, f2, hlt⟩ := hC.open_
 have hC1 := (hC.moved ((i : Int) + 1)).below (below_alloc (Below.refl _ _) (.cells #[.pointer none, .slice none 0 0] 44))
 have hM1 : Mv g w ((w.setCell ⟨g, 1, none⟩ (.int .i64 ((i : Int) + 1))).alloc (.cells #[.pointer none, .slice none 0 0] 44)) :=
  (Mv.set g w 1 _).trans (Mv.of_below (below_alloc (Below.refl _ _) _) (by rw [World.size_setCell]; omega))
 have hb1 : IsB w.heap.size w.heap.size [] ((w.setCell ⟨g, 1, none⟩ (.int .i64 ((i : Int) + 1))).alloc (.cells #[.pointer none, .slice none 0 0] 44)) := by
  have := Lib.IsBuilderF.of (Lib.fresh_isBuilder 44 5 (w.setCell ⟨g, 1, none⟩ (.int .i64 ((i : Int) + 1))))
  rw [World.size_setCell] at this
  exact this
 generalize hres : qd ((bytesOf text).drop (i + 1)) = res
 go_enter Tryd.func75, Tryd.ntmps75
 go_wp2_with fail
 generalize (w.setCell ⟨g, 1, none⟩ (.int .i64 ((i : Int) + 1))).alloc (.cells #[.pointer none, .slice none 0 0] 44) = w1 at hC1 hM1 hb1 ⊢
 clear c0 c1 c2 f1 f2 hC
 go_loopg [] (text.size + 1) (fun k wr => QInv w g text i rv res k wr)
 case atStart =>
  refine ⟨i + 1, [], by rw [Int.natCast_add]; exact hC1, hM1, hb1, Nat.le_refl _, hi, by omega, by simp, ?_⟩
  rw [← hres]
  cases qd ((bytesOf text).drop (i + 1)) <;> simp [toI]
 case round =>
  clear hC1 hM1 hb1 hres
  obtain ⟨j, l, hC, hM, hb, h1, h2, h3, h4, hr⟩ := hrel
  obtain ⟨c0, c1, c2, f1, f2, hlt2⟩ := hC.open_
  cases gk with
  | zero => omega
  | succ k =>
  have c3b0 := eq_true (show (0 : Int) ≤ (j : Int) by omega)
  have c3b1 : decide ((0 : Int) ≤ (j : Int)) = true := decide_eq_true (by omega)
  have c4b0 := eq_true (show (j : Int) ≤ (text.size : Int) by omega)
  have c4b1 : decide ((j : Int) ≤ (text.size : Int)) = true := decide_eq_true (by omega)
  have HI := Lib.hid (show strings_IndexByte.f (text.extract j text.size) 34 = some (idx ((bytesOf text).drop j) 34) by
   unfold strings_IndexByte.f; rw [if_pos (by omega), bytesOf_drop])
  have hdl : ((bytesOf text).drop j).length = text.size - j := by rw [List.length_drop, size_of]
  go_wp2_with fail
  go_quiet (first | (go_at_call 56; (with_reducible refine (strings_IndexByte.calls (text.extract j text.size) 34 _ _ HI.out).mono ?_); rintro e w' ⟨rfl, ⟨nd, rfl⟩⟩; (try first | exact ⟨rfl, _, World.drewN_drewN _ _ _⟩ | exact ⟨rfl, _, Eq.trans (World.drewN_drewN _ _ _) (congrArg (World.drewN _) (Nat.add_assoc _ _ _))⟩)))
  by_cases hneg : idx ((bytesOf text).drop j) 34 < 0
  ·have hq := qd_none_of (idx_none hneg)
   rw [hq] at hr
   have d1 : decide (idx ((bytesOf text).drop j) 34 < 0) = true := decide_eq_true hneg
   go_wp2_with fail
   refine (cfail _ _ _).mono ?_
   rintro e w3 ⟨rfl, rfl⟩
   exact ⟨rfl, hM.drewN _, by rw [hr]; rfl⟩
  ·obtain ⟨n, hn, hnl, hd, h34⟩ := idx_some (Int.not_lt.1 hneg)
   have hst := Lib.hid (qd_step hr hnl hd h34)
   have d1 : decide (idx ((bytesOf text).drop j) 34 < 0) = false := decide_eq_false hneg
   rw [hn] at d1 ⊢
   rw [hdl] at hnl
   clear hr hd h34 hneg
   have c5b0 := eq_true (show (j : Int) ≤ (j : Int) + (n : Int) by omega)
   have c5b1 : decide ((j : Int) ≤ (j : Int) + (n : Int)) = true := decide_eq_true (by omega)
   have c6b0 := eq_true (show (j : Int) + (n : Int) ≤ (text.size : Int) by omega)
   have c6b1 : decide ((j : Int) + (n : Int) ≤ (text.size : Int)) = true := decide_eq_true (by omega)
   have hjn : ((j : Int) + (n : Int)).toNat = j + n := by omega
   have hes : bytesOf (text.extract j ((j : Int) + (n : Int)).toNat) = ((bytesOf text).drop j).take n := by
    rw [hjn, bytesOf_extract, List.drop_take, Nat.add_sub_cancel_left]
   have hez : (text.extract j ((j : Int) + (n : Int)).toNat).size = n := by
    rw [← size_of, hes, List.length_take, hdl]; omega
   have hcl : (Lib.byteCells l).length + (text.extract j ((j : Int) + (n : Int)).toNat).size ≤ 140737488355328 := by
    rw [hez, Lib.byteCells_length]; omega
   have hlow : w.heap.size ≤ wr.heap.size := hM.1.size
   have hw1 : IntKind.i64.wrap ((j : Int) + (n : Int)) = (j : Int) + (n : Int) := cwrap _ (by omega) (by omega)
   go_wp2_with fail
   go_region_held3 (fun w' => w'.cell? ⟨g, 0, none⟩ = some (.string text) ∧ w'.cell? ⟨g, 1, none⟩ = some (.int .i64 (j : Int))) (first | go_keep | (simp [*]; done) | (go_simp; done)) (first | (go_at_call 22; refine (bwrite w.heap.size w.heap.size _ _ _ (IsB.drewN hb _) hcl hlow).mono ?_; rintro e w5 ⟨rfl, hb5, hl5⟩; have hC5 := (show w5.heap[g]? = _ from (hl5.block g hlt)).trans hC; have e0 := (Cur.open_ hC5).1; have e1 := (Cur.open_ hC5).2.1))
   have hm5 : Mv g w w5 := (hM.drewN _).then hl5 (by omega)
   have hb6 := builder_more hb5
   have hL6 : toI (l ++ (text.extract j ((j : Int) + (n : Int)).toNat).data.toList) = toI l ++ ((bytesOf text).drop j).take n := by
    rw [toI_append, ← hes]; rfl
   have hl6 : (l ++ (text.extract j ((j : Int) + (n : Int)).toNat).data.toList).length = l.length + n := by
    rw [List.length_append, ← Lib.size_eq, hez]
   generalize l ++ (text.extract j ((j : Int) + (n : Int)).toNat).data.toList = l6 at hb6 hL6 hl6
   clear hb5 hcl hez hes hl5 hb hC c0 c1 c2 f1 f2 hw1 c5b0 c5b1 c6b0 c6b1
   obtain ⟨c0, c1, c2, f1, f2, hlt5⟩ := Cur.open_ hC5
   obtain ⟨m, hm⟩ : ∃ m : Nat, m = j + n + 1 := ⟨_, rfl⟩
   have hC7 := Cur.moved hC5 (m : Int)
   have hm7 : Mv g w (w5.setCell ⟨g, 1, none⟩ (.int .i64 (m : Int))) := hm5.trans (Mv.set g w5 1 _)
   have hb7 := hb6.far (i := 1) hlt (.int .i64 (m : Int))
   have hw1 : IntKind.i64.wrap ((n : Int) + 1) = (n : Int) + 1 := cwrap _ (by omega) (by omega)
   have hw2 : IntKind.i64.wrap ((j : Int) + ((n : Int) + 1)) = (m : Int) := by rw [cwrap _ (by omega) (by omega)]; omega
   have hdm : (bytesOf text).drop (j + n + 1) = (bytesOf text).drop m := by rw [hm]
   rw [hdm] at hst
   have HM := Lib.hid hm
   clear hm hdm
   go_wp2_with fail
   generalize w5.setCell ⟨g, 1, none⟩ (.int .i64 (m : Int)) = w7 at hC7 hm7 hb7 ⊢
   clear c0 c1 c2 f1 f2 hC5 hm5 hb6 e0 e1 c3b0 c3b1 c4b0 c4b1 hw1 hw2
   obtain ⟨c0, c1, c2, f1, f2, hlt7⟩ := Cur.open_ hC7
   have hmz : m ≤ text.size := by have := HM.out; omega
   have c3b0 := eq_true (show (0 : Int) ≤ (m : Int) by omega)
   have c3b1 : decide ((0 : Int) ≤ (m : Int)) = true := decide_eq_true (by omega)
   have c4b0 := eq_true (show (m : Int) ≤ (text.size : Int) by omega)
   have c4b1 : decide ((m : Int) ≤ (text.size : Int)) = true := decide_eq_true (by omega)
   obtain ⟨r, hr⟩ : ∃ r : Bool, decide (((bytesOf text).drop m).take (⟨#[34]⟩ : ByteArray).size = bytesOf ⟨#[34]⟩) = r := ⟨_, rfl⟩
   have HP := Lib.hid ((pre_at text m ⟨#[34]⟩).trans (by rw [hr]))
   have HR := Lib.hid hr
   clear hr
   go_wp2_with fail
   cases r with
   | true =>
    have hst := Lib.hid (hst.out.2 (of_decide_eq_true HR.out))
    go_quiet (first | (go_at_call 68; (with_reducible refine (strings_HasPrefix.calls (text.extract m text.size) (⟨#[34]⟩ : ByteArray) true _ HP.out).mono ?_); rintro e w' ⟨rfl, ⟨nd, rfl⟩⟩; (try first | exact ⟨rfl, _, World.drewN_drewN _ _ _⟩ | exact ⟨rfl, _, Eq.trans (World.drewN_drewN _ _ _) (congrArg (World.drewN _) (Nat.add_assoc _ _ _))⟩)))
    go_wp2_with fail
    refine (bbyte_ w.heap.size w.heap.size _ 34 _ (IsB.drewN hb7 _) (by rw [Lib.byteCells_length]; omega) (Nat.le_trans (Nat.le_of_eq rfl) hm7.1.size)).mono ?_
    rintro e w8 ⟨rfl, hb8, hl8⟩
    have hC8 : Cur w8 g text m rv := (show w8.heap[g]? = _ from (hl8.block g hlt)).trans hC7
    have hm8 : Mv g w w8 := (hm7.drewN _).then hl8 (by omega)
    have hb9 := builder_more (s := ⟨#[34]⟩) hb8
    clear hb8 hb7 hC7 hm7 hl8 c0 c1 c2 f1 f2
    obtain ⟨c0, c1, c2, f1, f2, hlt8⟩ := Cur.open_ hC8
    have hC9 := Cur.moved hC8 ((m : Int) + 1)
    have hm9 : Mv g w (w8.setCell ⟨g, 1, none⟩ (.int .i64 ((m : Int) + 1))) := hm8.trans (Mv.set g w8 1 _)
    have hb10 := hb9.far (i := 1) hlt (.int .i64 ((m : Int) + 1))
    have hw2 : IntKind.i64.wrap ((m : Int) + 1) = (m : Int) + 1 := cwrap _ (by omega) (by omega)
    go_wp2_with fail
    go_roundg k
    case rel =>
     have hmj := HM.out
     have hmlt : m < text.size := by
      have h1 := congrArg List.length (show ((bytesOf text).drop m).take 1 = [34] from of_decide_eq_true HR.out)
      rw [List.length_take, List.length_drop, size_of] at h1
      simp at h1; omega
     refine ⟨m + 1, l6 ++ [34], by rw [Int.natCast_add]; exact hC9, hm9, hb10, by omega, by omega, by omega, by rw [List.length_append, hl6]; simp; omega, ?_⟩
     rw [hst.out, toI_append, hL6, hmj]
     congr 1
     funext p
     simp only [List.append_assoc, Prod.mk.injEq]
     exact ⟨rfl, by omega⟩
    case measure => omega
   | false =>
    have hst := Lib.hid (hst.out.1 (of_decide_eq_false HR.out))
    go_quiet (first | (go_at_call 68; (with_reducible refine (strings_HasPrefix.calls (text.extract m text.size) (⟨#[34]⟩ : ByteArray) false _ HP.out).mono ?_); rintro e w' ⟨rfl, ⟨nd, rfl⟩⟩; (try first | exact ⟨rfl, _, World.drewN_drewN _ _ _⟩ | exact ⟨rfl, _, Eq.trans (World.drewN_drewN _ _ _) (congrArg (World.drewN _) (Nat.add_assoc _ _ _))⟩)))
    go_wp2_with fail
    refine (bstring w.heap.size w.heap.size l6 _ (IsB.drewN hb7 _) (Nat.le_trans (Nat.le_of_eq rfl) hm7.1.size)).mono ?_
    rintro e w8 ⟨rfl, hl8⟩
    have hC8 : Cur w8 g text m rv := (show w8.heap[g]? = _ from (hl8.block g hlt)).trans hC7
    have hm8 : Mv g w w8 := (hm7.drewN _).then hl8 (by omega)
    have hmj := HM.out
    have hres := hst.out
    clear hst HM
    subst hres
    go_wp2_with fail
    go_ret
    refine ⟨hm8, by rw [mk_of, hL6]; rfl, ?_⟩
    rw [show (i : Int) + 1 + ((n : Int) + 1 + ((j - (i + 1) : Nat) : Int)) = (m : Int) by omega]
    exact hC8
end Go.Proofs.YtjmmdphkgioooaaDoor.P
end
section
namespace Go.Proofs.YtjmmdphkgioooaaDoor.P
open Go.RowKit Go.Proofs.YtjmmdphkgioooaaDoor.La Go.Proofs.YtjmmdphkgioooaaDoorW.PrintWords Go.Proofs.YtjmmdphkgioooaaDoorW.PrintLast Go.Proofs.YtjmmdphkgioooaaDoorW.PrintMore
theorem contains4 (b : UInt8) : ([44, 10, 13, 34] : List UInt8).contains b = odd4 (b.toNat : Int) := by
 have h : ∀ c : UInt8, (b == c) = ((b.toNat : Int) == (c.toNat : Int)) := by
  intro c
  rw [Bool.eq_iff_iff, beq_iff_eq, beq_iff_eq, ← UInt8.toNat_inj]
  omega
 simp only [List.contains_cons, List.contains_nil, Bool.or_false, odd4]
 rw [h 44, h 10, h 13, h 34]
 simp only [Bool.or_assoc]
 rfl
theorem idx4 (l : List UInt8) : Lib.indexAny l [44, 10, 13, 34] = if (pln (toI l)).length = l.length then -1 else ((pln (toI l)).length : Int) := by
 induction l with
 | nil => rfl
 | cons b l ih =>
  have hl := pln_len (toI l)
  have htl : (toI l).length = l.length := List.length_map _
  have hp : pln (toI (b :: l)) = if odd4 (b.toNat : Int) = true then [] else (b.toNat : Int) :: pln (toI l) := by
   show List.takeWhile _ ((b.toNat : Int) :: toI l) = _
   rw [List.takeWhile_cons]
   cases odd4 (b.toNat : Int) <;> rfl
  rw [Lib.indexAny, contains4, hp, ih]
  cases odd4 (b.toNat : Int) with
  | true => simp
  | false =>
   simp only [Bool.false_eq_true, if_false, List.length_cons]
   by_cases he : (pln (toI l)).length = l.length
   ·simp [he]
   ·have e1 : ((((pln (toI l)).length : Nat) : Int) == -1) = false := beq_eq_false_iff_ne.2 (by omega)
    simp only [he, if_false, e1, Bool.false_eq_true]
    split <;> omega
theorem asciiInfo : (Tryd.prog.info? 77).map (fun i => (i.zero, i.size)) = some (some (.agg (Array.replicate 256 (.bool false))), 256) := by kernel_rfl
theorem idxAny4 (s : ByteArray) (hs : s.size < 4294967281) (w : World) :
  Calls Tryd.prog 34 #[.string s, .string ⟨#[44, 10, 13, 34]⟩] w fun e w' => e = .returned (.int .i64 (if (pln (bytesOf s)).length = s.size then -1 else ((pln (bytesOf s)).length : Int))) ∧ Below w.heap.size w w' := by
 have hc : ∀ (j : Nat) (b : UInt8), (⟨#[44, 10, 13, 34]⟩ : ByteArray).data.toList[j]? = some b → b.toNat < 128 := by
  intro j b h
  match j, h with
  | 0, h => obtain rfl := Option.some.inj h; decide
  | 1, h => obtain rfl := Option.some.inj h; decide
  | 2, h => obtain rfl := Option.some.inj h; decide
  | 3, h => obtain rfl := Option.some.inj h; decide
 have e : Lib.indexAny s.data.toList (⟨#[44, 10, 13, 34]⟩ : ByteArray).data.toList = (if (pln (bytesOf s)).length = s.size then -1 else ((pln (bytesOf s)).length : Int)) := by
  rw [Lib.size_eq]; exact idx4 s.data.toList
 rw [← e]
 by_cases h8 : s.size ≤ 8
 ·exact idxAny_short s _ rfl hc h8 w
 ·refine (Tryd.strings_IndexAny_long (zero_of_info asciiInfo).1 s _ w (by decide) (by omega) hs (by decide) hc).mono fun e w' h => ⟨h.1, ?_⟩
  rw [h.2]
  exact below_alloc (below_alloc (Below.refl _ _) _) _
set_option maxRecDepth 100000 in
set_option maxHeartbeats 8000000 in
theorem cplain {w : World} {g : Nat} {text : ByteArray} {i : Nat} {rv : Value} (hC : Cur w g text i rv) (hi : i ≤ text.size) (hs : text.size ≤ 70000) :
  Calls Tryd.prog 76 #[.pointer (some ⟨g, 0, none⟩)] w fun x w' => x = .returned (.string (strOfNums (pln ((bytesOf text).drop i)))) ∧ Mv g w w' ∧ Cur w' g text ((i + (pln ((bytesOf text).drop i)).length : Nat) : Int) rv := by
 obtain ⟨c0, c1, c2, f1, f2, hlt⟩ := hC.open_
 have c3b0 := eq_true (show (0 : Int) ≤ (i : Int) by omega)
 have c3b1 : decide ((0 : Int) ≤ (i : Int)) = true := decide_eq_true (by omega)
 have c4b0 := eq_true (show (i : Int) ≤ (text.size : Int) by omega)
 have c4b1 : decide ((i : Int) ≤ (text.size : Int)) = true := decide_eq_true (by omega)
 have hrb := bytesOf_drop text i
 have hpl := pln_len ((bytesOf text).drop i)
 have hpt := pln_take ((bytesOf text).drop i)
 have hpB : Bytes (pln ((bytesOf text).drop i)) := fun x hx => bytes_of text x (List.mem_of_mem_drop ((List.takeWhile_prefix _).subset hx))
 generalize hP : pln ((bytesOf text).drop i) = P at hpl hpt hpB ⊢
 rw [List.length_drop, size_of] at hpl
 have hrz : (text.extract i text.size).size = text.size - i := by rw [← size_of, hrb, List.length_drop, size_of]
 go_enter Tryd.func76, Tryd.ntmps76
 go_wp2_with fail
 go_quiet (fail)
 generalize text.extract i text.size = rest at hrb hrz ⊢
 go_wp2_with fail
 refine (idxAny4 rest (by omega) _).mono ?_
 rintro e w1 ⟨rfl, hb1⟩
 have hC1 := (hC.drewN nq).below hb1
 have hm1 : Mv g w w1 := ((Mv.refl g w).drewN nq).trans (Mv.of_below hb1 (Nat.le_of_lt hlt))
 clear c0 c1 c2 f1 f2
 obtain ⟨c0, c1, c2, f1, f2, hlt1⟩ := hC1.open_
 have hpb : rest.extract 0 P.length = strOfNums P := by
  apply bytesOf_inj
  rw [strOfNums_bytes hpB, bytesOf_take, hrb, hpt]
 rw [hrb, hP]
 obtain ⟨n, hn⟩ : ∃ n : Nat, P.length = n := ⟨_, rfl⟩
 rw [hn] at hpl hpb ⊢
 have HPB := Lib.hid hpb
 have HN := Lib.hid hn
 have hC2 := hC1.moved ((i : Int) + (n : Int))
 have hm2 : Mv g w (w1.setCell ⟨g, 1, none⟩ (.int .i64 ((i : Int) + (n : Int)))) := hm1.trans (Mv.set g w1 1 _)
 have hw1 : IntKind.i64.wrap ((i : Int) + (n : Int)) = (i : Int) + (n : Int) := cwrap _ (by omega) (by omega)
 have q1 := eq_true (show (0 : Int) ≤ (n : Int) by omega)
 have q2 := eq_true (show (n : Int) ≤ (rest.size : Int) by omega)
 clear hpb hn hrb hP hpt
 by_cases he : n = rest.size
 ·rw [if_pos he]
  have HE := Lib.hid he
  rw [he] at hC2 hm2 hw1 q1 q2
  clear he hrz hpl
  have d1 : decide ((-1 : Int) < 0) = true := rfl
  go_wp2_with fail
  go_ret
  exact ⟨by rw [← HPB.out, HE.out, show rest.extract 0 rest.size = rest by simp]; rfl, hm2, by rw [HN.out, Int.natCast_add, HE.out]; exact hC2⟩
 ·rw [if_neg he]
  have d1 : decide ((n : Int) < 0) = false := decide_eq_false (by omega)
  go_wp2_with fail
  go_ret
  exact ⟨by rw [← HPB.out]; rfl, hm2, by rw [HN.out, Int.natCast_add]; exact hC2⟩
/-- What a field's reading leaves. -/
def FRes (_w w' : World) (g : Nat) (text : ByteArray) (i : Nat) (rv : Value) (x : Ending) : (Int × Nat) ⊕ (List Int × Nat) → Prop
 | .inl e => x = thrown e.1 e.2
 | .inr p => x = .returned (.agg #[.string (strOfNums p.1), .int .i64 i]) ∧ Cur w' g text ((i + p.2 : Nat) : Int) rv
/-- Block b holds a field. -/
def FB (w : World) (b : Nat) (s : ByteArray) (i : Nat) : Prop := w.heap[b]? = some (.cells #[.string s, .int .i64 i] 57 (0, 0))
theorem FB.open_ {w : World} {b : Nat} {s : ByteArray} {i : Nat} (h : FB w b s i) : w.cell? ⟨b, 0, none⟩ = some (.string s) ∧ w.cell? ⟨b, 1, none⟩ = some (.int .i64 i) ∧ w.frozen? ⟨b, 0, none⟩ = false ∧ w.frozen? ⟨b, 1, none⟩ = false ∧ b < w.heap.size :=
 ⟨by rw [cblk_cell h]; rfl, by rw [cblk_cell h]; rfl, cblk_free h 0, cblk_free h 1, cblk_lt h⟩
theorem FB.mv {w w' : World} {b g : Nat} {s : ByteArray} {i : Nat} (h : FB w b s i) (hm : Mv g w w') (hne : b ≠ g) : FB w' b s i := (hm.2 b (cblk_lt h) hne).trans h
theorem FB.new (W : World) (s : ByteArray) (i : Nat) : FB (W.alloc (.cells #[.string s, .int .i64 i] 57)) W.heap.size s i := by
 unfold FB
 show (W.heap.push _)[W.heap.size]? = _
 exact Array.getElem?_push_size
theorem FB.put {w : World} {b : Nat} {s : ByteArray} {i : Nat} (h : FB w b s i) (s' : ByteArray) : FB (w.setCell ⟨b, 0, none⟩ (.string s')) b s' i := cblk_set h 0 _
theorem FB.put1 {w : World} {b : Nat} {s : ByteArray} {i : Nat} (h : FB w b s i) (i' : Nat) : FB (w.setCell ⟨b, 1, none⟩ (.int .i64 i')) b s i' := cblk_set h 1 _
theorem Mv.far {g b : Nat} {w W : World} (h : Mv g w W) (hb : w.heap.size ≤ b) (hg : g ≤ w.heap.size) (j : Nat) (u : Value) : Mv g w (W.setCell ⟨b, j, none⟩ u) :=
 h.then ((Below.refl w.heap.size W).setCell (p := ⟨b, j, none⟩) hb u) hg
theorem Cur.far {w : World} {g b : Nat} {text : ByteArray} {at_ : Int} {rv : Value} (h : Cur w g text at_ rv) (hne : g ≠ b) (j : Nat) (u : Value) : Cur (w.setCell ⟨b, j, none⟩ u) g text at_ rv :=
 (Below.heap_setCell w ⟨b, j, none⟩ u g hne).trans h
theorem FB.far {w : World} {b b' : Nat} {s : ByteArray} {i : Nat} (h : FB w b s i) (hne : b ≠ b') (j : Nat) (u : Value) : FB (w.setCell ⟨b', j, none⟩ u) b s i :=
 (Below.heap_setCell w ⟨b', j, none⟩ u b hne).trans h
theorem FB.drewN {w : World} {b : Nat} {s : ByteArray} {i : Nat} (h : FB w b s i) (n : Nat) : FB (w.drewN n) b s i := h
/-- What is checked behind a field's text. -/
theorem fieldS_raw {l : List Int} {i : Nat} {p : List Int × Nat} (h : raw l = some p) : fieldS l i = if fbad (l.drop p.2) then .inl (4, i + p.2) else if 4096 < p.1.length then .inl (2, i) else .inr p := by
 unfold fieldS
 rw [h]
set_option maxRecDepth 100000 in
set_option maxHeartbeats 8000000 in
theorem cfield {w : World} {g : Nat} {text : ByteArray} {i : Nat} {rv : Value} (hC : Cur w g text i rv) (hi : i ≤ text.size) (hs : text.size ≤ 70000) :
  Calls Tryd.prog 67 #[.pointer (some ⟨g, 0, none⟩)] w fun x w' => Mv g w w' ∧ FRes w w' g text i rv x (fieldS ((bytesOf text).drop i) i) := by
 obtain ⟨c0, c1, c2, f1, f2, hlt⟩ := hC.open_
 have c3b0 := eq_true (show (0 : Int) ≤ (i : Int) by omega)
 have c3b1 : decide ((0 : Int) ≤ (i : Int)) = true := decide_eq_true (by omega)
 have c4b0 := eq_true (show (i : Int) ≤ (text.size : Int) by omega)
 have c4b1 : decide ((i : Int) ≤ (text.size : Int)) = true := decide_eq_true (by omega)
 obtain ⟨r, hr⟩ : ∃ r : Bool, decide (((bytesOf text).drop i).take (⟨#[34]⟩ : ByteArray).size = bytesOf ⟨#[34]⟩) = r := ⟨_, rfl⟩
 have HP := Lib.hid ((pre_at text i ⟨#[34]⟩).trans (by rw [hr]))
 have HR := Lib.hid hr
 clear hr
 have hm1 : Mv g w ((w.alloc (.cells #[.string ⟨#[]⟩, .int .i64 0] 57)).alloc (.cells #[.string ⟨#[]⟩, .int .i64 i] 57)) :=
  Mv.of_below (below_alloc (below_alloc (Below.refl _ _) _) _) (Nat.le_of_lt hlt)
 have hC1 := (hC.below (below_alloc (below_alloc (Below.refl _ _) (.cells #[.string ⟨#[]⟩, .int .i64 0] 57)) (.cells #[.string ⟨#[]⟩, .int .i64 i] 57)))
 have hF1 : FB ((w.alloc (.cells #[.string ⟨#[]⟩, .int .i64 0] 57)).alloc (.cells #[.string ⟨#[]⟩, .int .i64 i] 57)) (w.heap.size + 1) ⟨#[]⟩ i := by
  have h := FB.new (w.alloc (.cells #[.string ⟨#[]⟩, .int .i64 0] 57)) ⟨#[]⟩ i
  rw [show (w.alloc (.cells #[.string ⟨#[]⟩, .int .i64 0] 57)).heap.size = w.heap.size + 1 from Array.size_push _] at h
  exact h
 have hG1 : FB ((w.alloc (.cells #[.string ⟨#[]⟩, .int .i64 0] 57)).alloc (.cells #[.string ⟨#[]⟩, .int .i64 i] 57)) w.heap.size ⟨#[]⟩ 0 := by
  have h := FB.new w ⟨#[]⟩ 0
  exact (below_alloc (Below.refl _ _) (.cells #[.string ⟨#[]⟩, .int .i64 i] 57)).block w.heap.size (cblk_lt h) |>.trans h
 go_enter Tryd.func67, Tryd.ntmps67
 go_wp2_with fail
 generalize (w.alloc (.cells #[.string ⟨#[]⟩, .int .i64 0] 57)).alloc (.cells #[.string ⟨#[]⟩, .int .i64 i] 57) = w1 at hm1 hC1 hF1 hG1 ⊢
 clear c0 c1 c2 f1 f2 hC
 obtain ⟨c0, c1, c2, f1, f2, hlt1⟩ := hC1.open_
 go_quiet (first | (go_at_call 68; (with_reducible refine (strings_HasPrefix.calls (text.extract i text.size) (⟨#[34]⟩ : ByteArray) r _ HP.out).mono ?_); rintro e w' ⟨rfl, ⟨nd, rfl⟩⟩; (try first | exact ⟨rfl, _, World.drewN_drewN _ _ _⟩ | exact ⟨rfl, _, Eq.trans (World.drewN_drewN _ _ _) (congrArg (World.drewN _) (Nat.add_assoc _ _ _))⟩)))
 have hraw : Hid (raw ((bytesOf text).drop i) = if r = true then (qd ((bytesOf text).drop (i + 1))).map (fun p => (p.1, p.2 + 1)) else some (pln ((bytesOf text).drop i), (pln ((bytesOf text).drop i)).length)) := by
  unfold raw
  rw [List.drop_drop]
  congr 1
  exact propext ⟨fun h => HR.out.symm.trans (decide_eq_true h), fun h => of_decide_eq_true (HR.out.trans h)⟩
 cases r
 case' true =>
  have hilt : i < text.size := by
   have h1 := congrArg List.length (show ((bytesOf text).drop i).take 1 = [34] from of_decide_eq_true HR.out)
   rw [List.length_take, List.length_drop, size_of] at h1
   simp at h1; omega
  go_wp2_with fail
  refine (cquoted (hC1.drewN nq) hilt hs).mono ?_
  rintro e w3 ⟨hm3, hq⟩
  replace hraw : raw ((bytesOf text).drop i) = (qd ((bytesOf text).drop (i + 1))).map (fun p => (p.1, p.2 + 1)) := by
   first | exact hraw.out.trans (if_pos rfl) | exact hraw.out.trans (if_pos trivial)
  have hm4 : Mv g w w3 := (hm1.drewN nq).trans hm3
  have hF3 : FB w3 (w.heap.size + 1) ⟨#[]⟩ i := hF1.mv ((Mv.refl g w1).drewN nq |>.trans hm3) (by omega)
  have hG3 : FB w3 w.heap.size ⟨#[]⟩ 0 := hG1.mv ((Mv.refl g w1).drewN nq |>.trans hm3) (by omega)
  cases hqd : qd ((bytesOf text).drop (i + 1))
  case none =>
   rw [hqd] at hq hraw
   obtain rfl := hq
   refine ⟨rfl, hm4, ?_⟩
   unfold fieldS
   rw [hraw]
   show _ = thrown 4 ((i + ((bytesOf text).drop i).length : Nat) : Int)
   rw [List.length_drop, size_of, show i + (text.size - i) = text.size by omega]
   rfl
  case' some p =>
   rw [hqd] at hq hraw
   obtain ⟨rfl, hC3⟩ := hq
   replace hC3 : Cur w3 g text ((i + (p.2 + 1) : Nat) : Int) rv := by rw [show i + (p.2 + 1) = i + 1 + p.2 by omega]; exact hC3
   obtain ⟨q, hq⟩ : ∃ q : List Int × Nat, (p.1, p.2 + 1) = q := ⟨_, rfl⟩
   replace hraw : raw ((bytesOf text).drop i) = some q := by rw [← hq]; exact hraw
   rw [show p.2 + 1 = q.2 by rw [← hq]] at hC3
   rw [show p.1 = q.1 by rw [← hq]]
   clear hq hqd hilt
 case' false =>
  go_wp2_with fail
  refine (cplain (hC1.drewN nq) hi hs).mono ?_
  rintro e w3 ⟨rfl, hm3, hC3⟩
  replace hraw : raw ((bytesOf text).drop i) = some (pln ((bytesOf text).drop i), (pln ((bytesOf text).drop i)).length) := by
   first | exact hraw.out.trans (if_neg Bool.false_ne_true) | exact hraw.out.trans (if_neg not_false)
  have hm4 : Mv g w w3 := (hm1.drewN nq).trans hm3
  have hF3 : FB w3 (w.heap.size + 1) ⟨#[]⟩ i := hF1.mv ((Mv.refl g w1).drewN nq |>.trans hm3) (by omega)
  have hG3 : FB w3 w.heap.size ⟨#[]⟩ 0 := hG1.mv ((Mv.refl g w1).drewN nq |>.trans hm3) (by omega)
  obtain ⟨q, hq⟩ : ∃ q : List Int × Nat, (pln ((bytesOf text).drop i), (pln ((bytesOf text).drop i)).length) = q := ⟨_, rfl⟩
  rw [hq] at hraw
  rw [show (pln ((bytesOf text).drop i)).length = q.2 by rw [← hq]] at hC3
  rw [show pln ((bytesOf text).drop i) = q.1 by rw [← hq]]
  clear hq
 all_goals
  clear hC1 hm1 hF1 hG1 hm3 HP HR c0 c1 c2 f1 f2
  have hql := raw_len hraw
  have hqB := raw_bytes ((bytes_of text).drop i) hraw
  rw [List.length_drop, size_of] at hql
  have HF := Lib.hid (fieldS_raw (i := i) hraw)
  rw [List.drop_drop] at HF
  obtain ⟨s, n⟩ := q
  obtain ⟨j, hj⟩ : ∃ j : Nat, i + n = j := ⟨_, rfl⟩
  simp only [hj] at HF hC3 ⊢
  have HJ := Lib.hid hj
  have hjz : j ≤ text.size := by simp only at hql; omega
  have hsz : (strOfNums s).size = s.length := size_strOfNums hqB
  simp only at hql ⊢
  obtain ⟨k0, k1, k2, k3, k4⟩ := hF3.open_
  have hF4 := hF3.put (strOfNums s)
  have hG4 := hG3.far (b' := w.heap.size + 1) (by omega) 0 (.string (strOfNums s))
  have hm5 := hm4.far (b := w.heap.size + 1) (by omega) (Nat.le_of_lt hlt) 0 (.string (strOfNums s))
  have hC4 := hC3.far (b := w.heap.size + 1) (by omega) 0 (.string (strOfNums s))
  obtain ⟨S, HSB⟩ : ∃ S, S = strOfNums s := ⟨_, rfl⟩
  rw [← HSB] at hsz hF4 hG4 hm5 hC4 ⊢
  replace HSB := Lib.hid HSB
  go_wp2_with fail
  generalize w3.setCell ⟨w.heap.size + 1, 0, none⟩ (.string S) = w5 at hF4 hG4 hm5 hC4 ⊢
  clear hF3 hG3 hm4 hC3 k0 k1 k2 k3 k4
  obtain ⟨k0, k1, k2, k3, k4⟩ := hF4.open_
  obtain ⟨c0, c1, c2, f1, f2, hlt5⟩ := hC4.open_
  obtain ⟨m0, m1, m2, m3, m4⟩ := hG4.open_
  by_cases hjl : j < text.size
  ·have e1 : decide ((j : Int) < (text.size : Int)) = true := decide_eq_true (by omega)
   have p1 := eq_true (show (0 : Int) ≤ (j : Int) by omega)
   have p2 := eq_true (show (j : Int) < (text.size : Int) by omega)
   have p3 := eq_true hjl
   obtain ⟨x, hx⟩ : ∃ x : UInt8, text[j]'hjl = x := ⟨_, rfl⟩
   have hx1 : ∀ h : j < text.size, (text[j]'h) = x := fun _ => hx
   have hdj : ((bytesOf text).drop j).take 1 = [(x.toNat : Int)] := by
    rw [← hx, List.drop_eq_getElem_cons (by rw [size_of]; exact hjl)]
    simp [bytesOf_data]; rfl
   clear hx
   by_cases h44 : (x.toNat : Int) = 44
   ·have e2 : ((x.toNat : Int) != 44) = false := by rw [h44]; rfl
    have hnb : ¬ fbad ((bytesOf text).drop j) := fun h => h.2.1 (by rw [hdj, h44])
    clear h44 hdj
    go_wp2_with fail
    go_quiet (first | (go_at_call 69; (with_reducible refine (cend (hC4.drewN _) hjz).mono ?_); rintro e w' ⟨rfl, ⟨nd, rfl⟩⟩; (try first | exact ⟨rfl, _, World.drewN_drewN _ _ _⟩ | exact ⟨rfl, _, Eq.trans (World.drewN_drewN _ _ _) (congrArg (World.drewN _) (Nat.add_assoc _ _ _))⟩)))
    replace hm5 := hm5.drewN nq
    replace hC4 := hC4.drewN nq
    have HF2 : Hid (fieldS ((bytesOf text).drop i) i = if 4096 < s.length then .inl (2, i) else .inr (s, n)) := HF.out.trans (if_neg hnb)
    by_cases h4 : 4096 < s.length
    ·have e4 : decide ((4096 : Int) < (S.size : Int)) = true := decide_eq_true (by omega)
     go_wp2_with fail
     refine (cfail _ _ _).mono ?_
     rintro e w7 ⟨rfl, rfl⟩
     exact ⟨rfl, hm5, by rw [HF2.out, if_pos h4]; rfl⟩
    ·have e4 : decide ((4096 : Int) < (S.size : Int)) = false := decide_eq_false (by omega)
     go_wp2_with fail
     have hG6 := (FB.put hG4 S).put1 i
     refine bodyPost_ret (results_cell_row rfl _ _ w.heap.size 57 #[.string S, .int .i64 i] (0, 0) _ rfl (by first | exact hG6 | exact hG6.drewN nq) Tryd.underlying57 rfl (by kernel_rfl)) rfl ?_
     have hm6 := (hm5.far (b := w.heap.size) (Nat.le_refl _) (Nat.le_of_lt hlt) 0 (.string S)).far (b := w.heap.size) (Nat.le_refl _) (Nat.le_of_lt hlt) 1 (.int .i64 i)
     have hC6 := (hC4.far (b := w.heap.size) (by omega) 0 (.string S)).far (b := w.heap.size) (by omega) 1 (.int .i64 i)
     refine ⟨hm6, ?_⟩
     rw [HF2.out, if_neg h4]
     exact ⟨by rw [← HSB.out], by show Cur _ g text ((i + n : Nat) : Int) rv; rw [HJ.out]; exact hC6⟩
   ·have e2 : ((x.toNat : Int) != 44) = true := bne_iff_ne.2 h44
    by_cases hlz : lend ((bytesOf text).drop j) = 0
    ·have e3 : (((lend ((bytesOf text).drop j) : Nat) : Int) == 0) = true := by rw [hlz]; rfl
     have hb : fbad ((bytesOf text).drop j) := ⟨fun h => by rw [h] at hdj; simp at hdj, fun h => h44 (by rw [hdj] at h; simpa using h), hlz⟩
     have HF2 := Lib.hid (HF.out.trans (if_pos hb))
     clear hlz hb hdj h44
     go_wp2_with fail
     go_quiet (first | (go_at_call 69; (with_reducible refine (cend (hC4.drewN _) hjz).mono ?_); rintro e w' ⟨rfl, ⟨nd, rfl⟩⟩; (try first | exact ⟨rfl, _, World.drewN_drewN _ _ _⟩ | exact ⟨rfl, _, Eq.trans (World.drewN_drewN _ _ _) (congrArg (World.drewN _) (Nat.add_assoc _ _ _))⟩)))
     replace hm5 := hm5.drewN nq
     replace hC4 := hC4.drewN nq
     go_wp2_with fail
     refine (cfail _ _ _).mono ?_
     rintro e w7 ⟨rfl, rfl⟩
     exact ⟨rfl, hm5, by rw [HF2.out]; rfl⟩
    ·have e3 : (((lend ((bytesOf text).drop j) : Nat) : Int) == 0) = false := beq_eq_false_iff_ne.2 (by omega)
     have hnb : ¬ fbad ((bytesOf text).drop j) := fun h => hlz h.2.2
     clear hlz hdj h44
     go_wp2_with fail
     go_quiet (first | (go_at_call 69; (with_reducible refine (cend (hC4.drewN _) hjz).mono ?_); rintro e w' ⟨rfl, ⟨nd, rfl⟩⟩; (try first | exact ⟨rfl, _, World.drewN_drewN _ _ _⟩ | exact ⟨rfl, _, Eq.trans (World.drewN_drewN _ _ _) (congrArg (World.drewN _) (Nat.add_assoc _ _ _))⟩)))
     replace hm5 := hm5.drewN nq
     replace hC4 := hC4.drewN nq
     have HF2 : Hid (fieldS ((bytesOf text).drop i) i = if 4096 < s.length then .inl (2, i) else .inr (s, n)) := HF.out.trans (if_neg hnb)
     by_cases h4 : 4096 < s.length
     ·have e4 : decide ((4096 : Int) < (S.size : Int)) = true := decide_eq_true (by omega)
      go_wp2_with fail
      refine (cfail _ _ _).mono ?_
      rintro e w7 ⟨rfl, rfl⟩
      exact ⟨rfl, hm5, by rw [HF2.out, if_pos h4]; rfl⟩
     ·have e4 : decide ((4096 : Int) < (S.size : Int)) = false := decide_eq_false (by omega)
      go_wp2_with fail
      have hG6 := (FB.put hG4 S).put1 i
      refine bodyPost_ret (results_cell_row rfl _ _ w.heap.size 57 #[.string S, .int .i64 i] (0, 0) _ rfl (by first | exact hG6 | exact hG6.drewN nq) Tryd.underlying57 rfl (by kernel_rfl)) rfl ?_
      have hm6 := (hm5.far (b := w.heap.size) (Nat.le_refl _) (Nat.le_of_lt hlt) 0 (.string S)).far (b := w.heap.size) (Nat.le_refl _) (Nat.le_of_lt hlt) 1 (.int .i64 i)
      have hC6 := (hC4.far (b := w.heap.size) (by omega) 0 (.string S)).far (b := w.heap.size) (by omega) 1 (.int .i64 i)
      refine ⟨hm6, ?_⟩
      rw [HF2.out, if_neg h4]
      exact ⟨by rw [← HSB.out], by show Cur _ g text ((i + n : Nat) : Int) rv; rw [HJ.out]; exact hC6⟩
  ·have e1 : decide ((j : Int) < (text.size : Int)) = false := decide_eq_false (by omega)
   have hnb : ¬ fbad ((bytesOf text).drop j) := fun h => h.1 (List.drop_eq_nil_of_le (by rw [size_of]; omega))
   go_wp2_with fail
   go_quiet (first | (go_at_call 69; (with_reducible refine (cend (hC4.drewN _) hjz).mono ?_); rintro e w' ⟨rfl, ⟨nd, rfl⟩⟩; (try first | exact ⟨rfl, _, World.drewN_drewN _ _ _⟩ | exact ⟨rfl, _, Eq.trans (World.drewN_drewN _ _ _) (congrArg (World.drewN _) (Nat.add_assoc _ _ _))⟩)))
   replace hm5 := hm5.drewN nq
   replace hC4 := hC4.drewN nq
   have HF2 : Hid (fieldS ((bytesOf text).drop i) i = if 4096 < s.length then .inl (2, i) else .inr (s, n)) := HF.out.trans (if_neg hnb)
   by_cases h4 : 4096 < s.length
   ·have e4 : decide ((4096 : Int) < (S.size : Int)) = true := decide_eq_true (by omega)
    go_wp2_with fail
    refine (cfail _ _ _).mono ?_
    rintro e w7 ⟨rfl, rfl⟩
    exact ⟨rfl, hm5, by rw [HF2.out, if_pos h4]; rfl⟩
   ·have e4 : decide ((4096 : Int) < (S.size : Int)) = false := decide_eq_false (by omega)
    go_wp2_with fail
    have hG6 := (FB.put hG4 S).put1 i
    refine bodyPost_ret (results_cell_row rfl _ _ w.heap.size 57 #[.string S, .int .i64 i] (0, 0) _ rfl (by first | exact hG6 | exact hG6.drewN nq) Tryd.underlying57 rfl (by kernel_rfl)) rfl ?_
    have hm6 := (hm5.far (b := w.heap.size) (Nat.le_refl _) (Nat.le_of_lt hlt) 0 (.string S)).far (b := w.heap.size) (Nat.le_refl _) (Nat.le_of_lt hlt) 1 (.int .i64 i)
    have hC6 := (hC4.far (b := w.heap.size) (by omega) 0 (.string S)).far (b := w.heap.size) (by omega) 1 (.int .i64 i)
    refine ⟨hm6, ?_⟩
    rw [HF2.out, if_neg h4]
    exact ⟨by rw [← HSB.out], by show Cur _ g text ((i + n : Nat) : Int) rv; rw [HJ.out]; exact hC6⟩
end Go.Proofs.YtjmmdphkgioooaaDoor.P
end
section
namespace Go.Proofs.YtjmmdphkgioooaaDoor.P
open Go.RowKit Go.Proofs.YtjmmdphkgioooaaDoor.La Go.Proofs.YtjmmdphkgioooaaDoorW.PrintWords Go.Proofs.YtjmmdphkgioooaaDoorW.PrintLast Go.Proofs.YtjmmdphkgioooaaDoorW.PrintMore
theorem cinfoF : (Tryd.prog.info? 57).map (fun i => (i.zero, i.size, i.bytes)) = some (some (.agg #[.string ⟨#[]⟩, .int .i64 0]), 2, 24) := by kernel_rfl
theorem cinfoR : (Tryd.prog.info? 55).map (fun i => (i.zero, i.size, i.bytes)) = some (some (.slice none 0 0), 1, 24) := by kernel_rfl
/-- What a row's reading says. -/
def rowR (rows : List (List S57)) (l : List Int) (i : Nat) : (Int × Nat) ⊕ (List S57 × Nat) :=
 if 512 < rows.length then .inl (2, i) else
 match rowS 64 [] l i with
 | .inl e => .inl e
 | .inr (r, _, j) => if rows ≠ [] ∧ r.length ≠ (rows.headD []).length then .inl (7, i) else .inr (r, j)
/-- What it leaves. -/
def RRes (B : Nat) (w' : World) (g : Nat) (text : ByteArray) (rows : List (List S57)) (x : Ending) : (Int × Nat) ⊕ (List S57 × Nat) → Prop
 | .inl e => x = thrown e.1 e.2
 | .inr p => x = .returned (.tuple #[]) ∧ ∃ rv', Cur w' g text (p.2 : Nat) rv' ∧ Kd.S (Kd.slice 57 k57) 55 w' B (fun k => k ≠ g) rv' (rows ++ [p.1])
/-- The state of the loop over a row's fields. -/
def RInv (w : World) (g : Nat) (text : ByteArray) (rv : Value) (res : (Int × Nat) ⊕ (List S57 × List Int × Nat)) (k : Nat) (vl : Value) (wx : World) : Prop :=
 ∃ (n j : Nat) (acc : List S57), k = n + 1 ∧ Cur wx g text j rv ∧ Mv g w wx ∧ Kd.R k57 57 wx w.heap.size (fun _ => True) vl acc ∧ acc.length + n = 64 ∧ j ≤ text.size ∧
  res = rowS n acc ((bytesOf text).drop j) j
set_option maxRecDepth 100000 in
set_option maxHeartbeats 8000000 in
theorem crow {B : Nat} {w : World} {g : Nat} {text : ByteArray} {i : Nat} {rv : Value} {rows : List (List S57)} (hC : Cur w g text i rv) (hS : Kd.S (Kd.slice 57 k57) 55 w B (fun k => k ≠ g) rv rows) (hB : B ≤ g) (hi : i ≤ text.size) (hs : text.size ≤ 70000) (hr : rows.length ≤ 513) :
  Calls Tryd.prog 53 #[.pointer (some ⟨g, 0, none⟩)] w fun x w' => Below B w w' ∧ RRes B w' g text rows x (rowR rows ((bytesOf text).drop i) i) := by
 obtain ⟨c0, c1, c2, f1, f2, hlt⟩ := hC.open_
 obtain ⟨RA, RC, hrv, hrc, hRC⟩ := Kd.S_reads hS
 have HRV := Lib.hid hrv
 obtain ⟨res, hres⟩ : ∃ res, rowS 64 [] ((bytesOf text).drop i) i = res := ⟨_, rfl⟩
 have HRES := Lib.hid hres
 by_cases h512 : 512 < rows.length
 ·have e1 : decide ((512 : Int) < (rows.length : Int)) = true := decide_eq_true (by omega)
  rw [hrv] at c2
  go_enter Tryd.func53, Tryd.ntmps53
  go_wp2_with fail
  refine (cfail _ _ _).mono ?_
  rintro e w7 ⟨rfl, rfl⟩
  refine ⟨rfl, Below.refl _ _, ?_⟩
  unfold rowR
  rw [if_pos h512]
  rfl
 ·have e1 : decide ((512 : Int) < (rows.length : Int)) = false := decide_eq_false (by omega)
  have c2' := c2
  rw [hrv] at c2'
  go_enter Tryd.func53, Tryd.ntmps53
  clear c2
  go_wp2_with fail
  go_loopg [3] 65 (fun k vl wx => RInv w g text rv res k vl wx)
  case atStart => exact ⟨64, i, [], rfl, hC, Mv.refl g w, Kd.R_nil _ _ _ _ _, rfl, hi, HRES.out.symm⟩
  case round =>
   obtain ⟨n, j, acc, hk, hCx, hm, hR, hn, hj, hresx⟩ := hrel
   obtain ⟨LA, LC, hvl, hlc, hLC⟩ := Kd.R_reads hR
   clear c0 c1 c2' f1 f2 e1
   obtain ⟨c0, c1, c2, f1, f2, hltx⟩ := hCx.open_
   have HRX := Lib.hid hresx
   have HK := Lib.hid hk
   clear hresx hres hk
   cases n with
   | zero =>
    have e2 : (((acc.length : Nat) : Int) == 64) = true := beq_iff_eq.2 (by omega)
    rw [hvl]
    go_wp2_with fail
    refine (cfail _ _ _).mono ?_
    rintro e w7 ⟨rfl, rfl⟩
    refine ⟨rfl, hm.low hB, ?_⟩
    unfold rowR
    rw [if_neg h512, HRES.out, HRX.out]
    rfl
   | succ n =>
    have e2 : (((acc.length : Nat) : Int) == 64) = false := beq_eq_false_iff_ne.2 (by omega)
    have hvl' := hvl
    subst hvl'
    go_wp2_with fail
    refine (cfield hCx hj hs).mono ?_
    rintro e w3 ⟨hm3, hf⟩
    have hm4 := hm.trans hm3
    cases hfs : fieldS ((bytesOf text).drop j) j with
    | inl e =>
     rw [hfs] at hf
     obtain rfl := hf
     refine ⟨rfl, hm4.low hB, ?_⟩
     unfold rowR
     rw [if_neg h512, HRES.out, HRX.out, rowS, hfs]
     rfl
    | inr p =>
     rw [hfs] at hf
     obtain ⟨rfl, hC3⟩ := hf
     obtain ⟨hp1, hp2, hp3⟩ := fieldS_len hfs
     rw [List.length_drop, size_of] at hp3
     have hRX : Hid (res = if (((bytesOf text).drop j).drop p.2).take 1 = [44] then rowS n (acc ++ [⟨strOfNums p.1, (j : Int)⟩]) (((bytesOf text).drop j).drop (p.2 + 1)) (j + p.2 + 1)
       else .inr (acc ++ [⟨strOfNums p.1, (j : Int)⟩], ((bytesOf text).drop j).drop (p.2 + lend (((bytesOf text).drop j).drop p.2)), j + p.2 + lend (((bytesOf text).drop j).drop p.2))) := by
      rw [HRX.out, rowS, hfs]
      rfl
     simp only [List.drop_drop] at hRX
     have hR3 := Kd.R_mono (Kd.R_step (w1 := w3) (Kd.R_bound hR) (fun k hk hlt => hm3.2 k hlt (by have := hk.2.1; omega))) (fun _ hk => hk.1)
     have hlow3 : w.heap.size ≤ w3.heap.size := hm4.1.size
     have hF := k57_mkM w3 w.heap.size (fun _ => False) (⟨strOfNums p.1, (j : Int)⟩ : S57)
     simp only at hF
     clear hfs HRX hR hLC c0 c1 c2 f1 f2 hCx
     generalize strOfNums p.1 = S at hRX hF ⊢
     obtain ⟨m, hmj⟩ : ∃ m : Nat, j + p.2 = m := ⟨_, rfl⟩
     rw [hmj] at hC3 hRX
     have hmz : m ≤ text.size := by omega
     go_wp2_with (at_builtin; refine Kd.R_append k57 (w0 := w3) w.heap.size rfl (.tmp 24) (.tmp 27) 55 57 (.agg #[.string ⟨#[]⟩, .int .i64 0]) 24 rfl Tryd.underlying55 cinfoF rfl (by decide) (by omega) (.slice LA acc.length LC) acc (⟨S, (j : Int)⟩ : S57) [.string S, .int .i64 (j : Int)] (fun _ => True) (fun _ => False) rfl (by first | (go_simp; done) | (go_simp; rfl)) hF (fun _ hk => hk.elim) (fun _ _ => trivial) hR3 (Below.refl _ _) hlow3 (by omega) ?_)
     intro v1 w4 hR4 hb4 hg4 hat4
     have hm5 := hm4.then hb4 (Nat.le_of_lt hlt)
     have hC4 : Cur w4 g text (m : Int) rv := (show w4.heap[g]? = _ from (hb4.block g hlt)).trans hC3
     clear hR3 hF hC3 hm4 hm3 hg4 hat4 hb4
     obtain ⟨c0, c1, c2, f1, f2, hlt4⟩ := hC4.open_
     have c3b0 := eq_true (show (0 : Int) ≤ (m : Int) by omega)
     have c3b1 : decide ((0 : Int) ≤ (m : Int)) = true := decide_eq_true (by omega)
     have c4b0 := eq_true (show (m : Int) ≤ (text.size : Int) by omega)
     have c4b1 : decide ((m : Int) ≤ (text.size : Int)) = true := decide_eq_true (by omega)
     obtain ⟨r, hr44⟩ : ∃ r : Bool, decide (((bytesOf text).drop m).take (⟨#[44]⟩ : ByteArray).size = bytesOf ⟨#[44]⟩) = r := ⟨_, rfl⟩
     have HP := Lib.hid ((pre_at text m ⟨#[44]⟩).trans (by rw [hr44]))
     have HR := Lib.hid hr44
     have HMJ := Lib.hid hmj
     clear hr44 hmj
     cases r with
     | true =>
      go_wp2_with fail
      go_quiet (first | (go_at_call 68; (with_reducible refine (strings_HasPrefix.calls (text.extract m text.size) (⟨#[44]⟩ : ByteArray) true _ HP.out).mono ?_); rintro e w' ⟨rfl, ⟨nd, rfl⟩⟩; (try first | exact ⟨rfl, _, World.drewN_drewN _ _ _⟩ | exact ⟨rfl, _, Eq.trans (World.drewN_drewN _ _ _) (congrArg (World.drewN _) (Nat.add_assoc _ _ _))⟩)))
      have hC5 := (hC4.drewN nq).moved ((m : Int) + 1)
      have hm6 := (hm5.drewN nq).trans (Mv.set g (w4.drewN nq) 1 (.int .i64 ((m : Int) + 1)))
      have hR5 := Kd.R_mono (Kd.R_step (w1 := (w4.drewN nq).setCell ⟨g, 1, none⟩ (.int .i64 ((m : Int) + 1))) (Kd.R_bound (Kd.R_drewN hR4 nq)) (fun k hk hlt' => (Mv.set g (w4.drewN nq) 1 (.int .i64 ((m : Int) + 1))).2 k hlt' (by have := hk.2.1; omega))) (fun _ hk => hk.1)
      have hmlt : m < text.size := by
       have h1 := congrArg List.length (show ((bytesOf text).drop m).take 1 = [44] from of_decide_eq_true HR.out)
       rw [List.length_take, List.length_drop, size_of] at h1
       simp at h1; omega
      have hRX2 := Lib.hid (hRX.out.trans (if_pos (show ((bytesOf text).drop m).take 1 = [44] from of_decide_eq_true HR.out)))
      have hw2 : IntKind.i64.wrap ((m : Int) + 1) = (m : Int) + 1 := cwrap _ (by omega) (by omega)
      go_wp2_with fail
      have hk := HK.out
      subst hk
      go_roundg (n + 1)
      case rel =>
       have hmj := HMJ.out
       refine ⟨n, m + 1, acc ++ [⟨S, (j : Int)⟩], rfl, by rw [Int.natCast_add]; exact hC5, hm6, hR5, by rw [List.length_append]; simp; omega, by omega, ?_⟩
       rw [hRX2.out, ← hmj]
       rfl
      case measure => omega
     | false =>
      go_wp2_with fail
      go_quiet (first | (go_at_call 68; (with_reducible refine (strings_HasPrefix.calls (text.extract m text.size) (⟨#[44]⟩ : ByteArray) false _ HP.out).mono ?_); rintro e w' ⟨rfl, ⟨nd, rfl⟩⟩; (try first | exact ⟨rfl, _, World.drewN_drewN _ _ _⟩ | exact ⟨rfl, _, Eq.trans (World.drewN_drewN _ _ _) (congrArg (World.drewN _) (Nat.add_assoc _ _ _))⟩)))
      have hC5 := hC4.drewN nq
      have hm6 := hm5.drewN nq
      have hR5 := Kd.R_drewN hR4 nq
      have hRX2 := Lib.hid (hRX.out.trans (if_neg (show ¬ ((bytesOf text).drop m).take 1 = [44] from of_decide_eq_false HR.out)))
      clear hRX
      have hLz := lend_le ((bytesOf text).drop m)
      rw [List.length_drop, size_of] at hLz
      obtain ⟨L, hL⟩ : ∃ L, lend ((bytesOf text).drop m) = L := ⟨_, rfl⟩
      have HCE := fun (q : Nat) => cend (w := w4.drewN q) (i := m) (hC4.drewN q) hmz
      simp only [hL] at HCE hRX2 hLz
      have hw3 : IntKind.i64.wrap ((m : Int) + (L : Int)) = (m : Int) + (L : Int) := cwrap _ (by omega) (by omega)
      go_wp2_with fail
      go_region_with (first | (go_at_call 69; refine (HCE _).mono ?_; rintro e w5 ⟨rfl, n5, rfl⟩))
      all_goals
       obtain ⟨q, hq⟩ : ∃ q : Nat, nq + 1 + n5 = q := ⟨_, rfl⟩
       rw [hq]
       have hC7 := (hC4.drewN q).moved ((m : Int) + (L : Int))
       have hm7 := (hm5.drewN q).trans (Mv.set g (w4.drewN q) 1 (.int .i64 ((m : Int) + (L : Int))))
       have hR7 := Kd.R_mono (Kd.R_step (w1 := (w4.drewN q).setCell ⟨g, 1, none⟩ (.int .i64 ((m : Int) + (L : Int)))) (Kd.R_bound (Kd.R_drewN hR4 q)) (fun k hk hlt' => (Mv.set g (w4.drewN q) 1 (.int .i64 ((m : Int) + (L : Int)))).2 k hlt' (by have := hk.2.1; omega))) (fun _ hk => hk.1)
       generalize (w4.drewN q).setCell ⟨g, 1, none⟩ (.int .i64 ((m : Int) + (L : Int))) = w7 at hC7 hm7 hR7 ⊢
       clear hq hC5 hm6 hR5 hC4 hm5 hR4 c0 c1 c2 f1 f2 HCE hw3
       have hS7 := Kd.S_step hS (w1 := w7) (fun k hk hlt' => hm7.2 k hlt' hk)
       have hRC7 : Kd.C (Kd.slice 57 k57) w7 RA rows.length rows := by
        have h := hS7
        rw [HRV.out] at h
        exact (Kd.S_reads' h).2.2
       obtain ⟨c0, c1, c2, f1, f2, hlt7⟩ := hC7.open_
       have c2' := c2
       rw [HRV.out] at c2'
       obtain ⟨V1, hv1a⟩ : ∃ V, v1 = V := ⟨_, rfl⟩
       obtain ⟨LA1, LC1, hv1, hlc1, hLC1⟩ := Kd.R_reads hR7
       have hnl : (acc ++ [(⟨S, (j : Int)⟩ : S57)]).length = acc.length + 1 := by simp
       rw [hnl] at hv1
       have HV1 := Lib.hid hv1
       clear hv1a
       subst hv1
       have hRR : Hid (rowR rows ((bytesOf text).drop i) i = if rows ≠ [] ∧ acc.length + 1 ≠ (rows.headD []).length then .inl (7, i) else .inr (acc ++ [(⟨S, (j : Int)⟩ : S57)], m + L)) := by
        unfold rowR
        rw [if_neg h512, HRES.out, hRX2.out]
        refine Lib.hid ?_
        show (if rows ≠ [] ∧ (acc ++ [(⟨S, (j : Int)⟩ : S57)]).length ≠ (rows.headD []).length then Sum.inl (7, i) else Sum.inr (acc ++ [(⟨S, (j : Int)⟩ : S57)], m + L)) = _
        rw [hnl]
       have hown : ∀ k, (Value.slice RA rows.length RC).ownBlock = some k → k < w.heap.size := by
        intro k hk
        exact Kd.S_lt hS k (by rw [HRV.out]; exact hk)
       have hO7 : Kd.S (Kd.slice 57 k57) 55 w7 B (fun k => k ≠ g ∧ ¬ w.heap.size ≤ k) (.slice RA rows.length RC) rows := by
        rw [← HRV.out]
        exact Kd.S_mono (Kd.S_step (Kd.S_bound hS) (fun k hk hlt' => hm7.2 k hlt' hk.1)) (fun k hk => ⟨hk.1, by have := hk.2.2.1; omega⟩)
       have hP7 : (Kd.slice 57 k57).M w7 B (fun k => w.heap.size ≤ k) (acc ++ [(⟨S, (j : Int)⟩ : S57)]) [.slice LA1 (acc.length + 1) LC1] :=
        ⟨_, rfl, Kd.R_mono (Kd.R_lower (Kd.R_bound hR7) (by omega)) (fun k hk => hk.2.1)⟩
       have hlow7 : w.heap.size ≤ w7.heap.size := hm7.1.size
       have hN := Lib.hid hnl
       clear hr hnl hR7 hS7 hRX2
       by_cases hr0 : rows = []
       ·have e3 : decide ((0 : Int) < (rows.length : Int)) = false := by rw [hr0]; rfl
        have e5 := eq_false (show ¬ 0 < rows.length by rw [hr0]; simp)
        have HRR := Lib.hid (hRR.out.trans (if_neg (fun h => h.1 hr0)))
        clear hr0 hRR
        go_wp2_with (at_builtin; refine Kd.S_append (Kd.slice 57 k57) (w0 := w7) B rfl (.tmp 80) (.tmp 82) 52 55 (.slice none 0 0) 24 rfl Tryd.underlying52 cinfoR rfl (by decide) (by omega) (.slice RA rows.length RC) rows (acc ++ [(⟨S, (j : Int)⟩ : S57)]) [.slice LA1 (acc.length + 1) LC1] (fun k => k ≠ g) (fun k => w.heap.size ≤ k) rfl (by first | (go_simp; done) | (go_simp; rfl)) hP7 (fun k hk => ⟨by omega, fun e => by have := hown k e.symm; omega⟩) (fun k hk => by omega) hO7 (Below.refl _ _) (by omega) (by omega) ?_)
        intro v2 w8 hS8 hb8 hg8 hat8
        have hC8 : Cur w8 g text ((m : Int) + (L : Int)) rv := (show w8.heap[g]? = _ from hg8.block g hlt7 (Kd.S_away hO7 (fun k hk => hk.1))).trans hC7
        obtain ⟨A2, cc2, rfl, _, _⟩ := Kd.S_reads hS8
        have hC9 := hC8.put (.slice A2 (rows ++ [acc ++ [(⟨S, (j : Int)⟩ : S57)]]).length cc2)
        have hS9 := Kd.S_far hS8 (p := ⟨g, 2, none⟩) (fun k hk => hk) (.slice A2 (rows ++ [acc ++ [(⟨S, (j : Int)⟩ : S57)]]).length cc2)
        have hB9 := (((hm7.low hB).trans hb8).setCell (p := ⟨g, 2, none⟩) hB (.slice A2 (rows ++ [acc ++ [(⟨S, (j : Int)⟩ : S57)]]).length cc2))
        generalize (rows ++ [acc ++ [(⟨S, (j : Int)⟩ : S57)]]).length = nn at hC9 hS9 hB9 ⊢
        clear c0 c1 c2 c2' f1 f2 hg8 hat8
        obtain ⟨c0, c1, c2, f1, f2, hlt8⟩ := hC8.open_
        go_wp2_with fail
        go_end0
        refine ⟨hB9, ?_⟩
        rw [HRR.out]
        exact ⟨rfl, _, by rw [Int.natCast_add]; exact hC9, hS9⟩
       ·have hpos : 0 < rows.length := List.length_pos_iff.2 hr0
        have e3 : decide ((0 : Int) < (rows.length : Int)) = true := decide_eq_true (by omega)
        have e5 := eq_true hpos
        obtain ⟨ad, cs0, hA0, _, ⟨A0, C0, rfl, _, _⟩, hc0⟩ := Kd.C_get hRC7 [] 0 (by omega) (by omega)
        have hh : rows.getD (0 : Int).toNat [] = rows.headD [] := by
         cases rows <;> rfl
        have hcell := hc0 0 _ rfl
        rw [hh] at hcell
        clear hh hc0
        subst hA0
        replace hcell : w7.cell? ad = some (.slice A0 (rows.headD []).length C0) := hcell
        generalize (rows.headD []).length = hd at hcell hRR
        by_cases hle : acc.length + 1 = hd
        ·have e4 : (((acc.length : Int) + 1) != (hd : Int)) = false := by rw [← hle]; simp
         have HRR := Lib.hid (hRR.out.trans (if_neg (fun h => h.2 hle)))
         clear hr0 hRR hle
         go_wp2_with (at_builtin; refine Kd.S_append (Kd.slice 57 k57) (w0 := w7) B rfl (.tmp 80) (.tmp 82) 52 55 (.slice none 0 0) 24 rfl Tryd.underlying52 cinfoR rfl (by decide) (by omega) (.slice (some ad) rows.length RC) rows (acc ++ [(⟨S, (j : Int)⟩ : S57)]) [.slice LA1 (acc.length + 1) LC1] (fun k => k ≠ g) (fun k => w.heap.size ≤ k) rfl (by first | (go_simp; done) | (go_simp; rfl)) hP7 (fun k hk => ⟨by omega, fun e => by have := hown k e.symm; omega⟩) (fun k hk => by omega) hO7 (Below.refl _ _) (by omega) (by omega) ?_)
         intro v2 w8 hS8 hb8 hg8 hat8
         have hC8 : Cur w8 g text ((m : Int) + (L : Int)) rv := (show w8.heap[g]? = _ from hg8.block g hlt7 (Kd.S_away hO7 (fun k hk => hk.1))).trans hC7
         obtain ⟨A2, cc2, rfl, _, _⟩ := Kd.S_reads hS8
         have hC9 := hC8.put (.slice A2 (rows ++ [acc ++ [(⟨S, (j : Int)⟩ : S57)]]).length cc2)
         have hS9 := Kd.S_far hS8 (p := ⟨g, 2, none⟩) (fun k hk => hk) (.slice A2 (rows ++ [acc ++ [(⟨S, (j : Int)⟩ : S57)]]).length cc2)
         have hB9 := (((hm7.low hB).trans hb8).setCell (p := ⟨g, 2, none⟩) hB (.slice A2 (rows ++ [acc ++ [(⟨S, (j : Int)⟩ : S57)]]).length cc2))
         generalize (rows ++ [acc ++ [(⟨S, (j : Int)⟩ : S57)]]).length = nn at hC9 hS9 hB9 ⊢
         clear c0 c1 c2 c2' f1 f2 hg8 hat8
         obtain ⟨c0, c1, c2, f1, f2, hlt8⟩ := hC8.open_
         go_wp2_with fail
         go_end0
         refine ⟨hB9, ?_⟩
         rw [HRR.out]
         exact ⟨rfl, _, by rw [Int.natCast_add]; exact hC9, hS9⟩
        ·have e4 : (((acc.length : Int) + 1) != (hd : Int)) = true := bne_iff_ne.2 (by omega)
         have HRR := Lib.hid (hRR.out.trans (if_pos ⟨hr0, hle⟩))
         clear hr0 hRR hle
         go_wp2_with fail
         refine (cfail _ _ _).mono ?_
         rintro e w8 ⟨rfl, rfl⟩
         refine ⟨rfl, hm7.low hB, ?_⟩
         rw [HRR.out]
         rfl
end Go.Proofs.YtjmmdphkgioooaaDoor.P
end
section
namespace Go.Proofs.YtjmmdphkgioooaaDoor.La
theorem enc_ne (r : Int) : enc r ≠ [] := fun h => by have := enc_len r; rw [h] at this; simp at this
theorem stp_enc {r : Int} (hr : good r) (m : List Int) : stp (enc r ++ m) = (enc r).length := by
 have := enc_len r
 unfold stp
 rw [tk_enc hr]
 rw [if_neg (by simp only; omega)]
 simp
/-- A text of letters begins with one. -/
theorem good_text {l : List Int} (hl : ∀ x ∈ l, 0 ≤ x ∧ x < 256) (h : bad l = none) (hne : l ≠ []) : ∃ r m, good r ∧ l = enc r ++ m ∧ bad m = none := by
 have h0 : (tk l).2 ≠ 0 := fun h0 => by rw [bad_none hne h0] at h; cases h
 rcases tk_inv l hl with e | ⟨hg, _, m, hm⟩
 ·rw [e] at h0; exact absurd rfl h0
 ·refine ⟨_, m, hg, hm, ?_⟩
  rw [bad_step hne h0] at h
  have hs : stp l = (enc (tk l).1).length := by
   have := stp_enc hg m
   rwa [← hm] at this
  have hd : l.drop (stp l) = m := by
   rw [hs]
   have : l.drop (enc (tk l).1).length = (enc (tk l).1 ++ m).drop (enc (tk l).1).length := by rw [← hm]
   rw [this, List.drop_left]
  rw [hd] at h
  exact Option.map_eq_none_iff.1 h
theorem tk_letter_ne {r : Int} (hr : good r) (m : List Int) : (tk (enc r ++ m)).2 ≠ 0 := by
 have := enc_len r
 rw [tk_enc hr]
 simp only
 omega
theorem bad_enc {r : Int} (hr : good r) (m : List Int) : bad (enc r ++ m) = (bad m).map (· + (enc r).length) := by
 rw [bad_step (by simp [enc_ne]) (tk_letter_ne hr m), stp_enc hr, List.drop_left]
/-- Induction over a text's letters. -/
theorem text_induction {P : List Int → Prop} (nil : P []) (cons : ∀ r m, good r → bad m = none → (∀ x ∈ m, 0 ≤ x ∧ x < 256) → P m → P (enc r ++ m)) (l : List Int) (hl : ∀ x ∈ l, 0 ≤ x ∧ x < 256) (h : bad l = none) : P l := by
 by_cases hne : l = []
 ·subst hne; exact nil
 ·obtain ⟨r, m, hr, rfl, hm⟩ := good_text hl h hne
  have hmb : ∀ x ∈ m, 0 ≤ x ∧ x < 256 := fun x hx => hl x (List.mem_append.2 (.inr hx))
  have : m.length < (enc r ++ m).length := by have := enc_len r; rw [List.length_append]; omega
  exact cons r m hr hm hmb (text_induction nil cons m hmb hm)
termination_by l.length
theorem bad_join {a b : List Int} (ha : ∀ x ∈ a, 0 ≤ x ∧ x < 256) (h : bad a = none) : bad (a ++ b) = (bad b).map (· + a.length) := by
 refine text_induction (P := fun a => bad (a ++ b) = (bad b).map (· + a.length)) ?_ ?_ a ha h
 ·simp
 ·intro r m hr _ _ ih
  rw [List.append_assoc, bad_enc hr, ih, Option.map_map]
  congr 1
  funext x
  simp [List.length_append]
  omega
end Go.Proofs.YtjmmdphkgioooaaDoor.La
end
section
namespace Go.Proofs.YtjmmdphkgioooaaDoor.La
/-- Where the last line begins. -/
def lst : List Int → Nat
 | [] => 0
 | b :: t => if 0 < lst t then lst t + 1 else if b = 10 then 1 else 0
def nl (l : List Int) : Nat := cntB l 10
theorem lst_le (l : List Int) : lst l ≤ l.length := by
 induction l with
 | nil => simp [lst]
 | cons b t ih => simp only [lst, List.length_cons]; (repeat' split) <;> omega
theorem lst_append (a b : List Int) : lst (a ++ b) = if 0 < lst b then a.length + lst b else lst a := by
 induction a with
 | nil => simp [lst]
 | cons x a ih =>
  simp only [List.cons_append, lst, ih, List.length_cons]
  by_cases h : 0 < lst b
  ·simp only [if_pos h]
   rw [if_pos (by omega)]
   omega
  ·simp only [if_neg h]
theorem lst_snoc (a : List Int) (x : Int) : lst (a ++ [x]) = if x = 10 then a.length + 1 else lst a := by
 rw [lst_append]
 by_cases h : x = 10
 ·simp [lst, h]
 ·simp [lst, h]
end Go.Proofs.YtjmmdphkgioooaaDoor.La
end
section
namespace Go.Proofs.YtjmmdphkgioooaaDoor.P
open Go.RowKit Go.Proofs.YtjmmdphkgioooaaDoorW.PrintWords Go.Proofs.YtjmmdphkgioooaaDoorW.PrintLast Go.Proofs.YtjmmdphkgioooaaDoorW.PrintMore
attribute [local go_sem] max2_int min2_int max_two min_two max_three min_three max_four min_four   -- for this text's walks alone
set_option linter.unusedVariables false
set_option linter.unusedSimpArgs false
/-! ### place_clamp: function 65 -/
def place_clamp.f (a0 : ByteArray) (a1 : Int) : Option (Int) := some (mn (mx a1 0) (a0.size : Int))
set_option maxHeartbeats 8000000 in
set_option maxRecDepth 100000 in
theorem place_clamp.calls (a0 : ByteArray) (a1 : Int) (r : Int) (w : World) (h : place_clamp.f a0 a1 = some r) :
  Calls Tryd.prog 65 #[.string a0, .int .i64 a1] w fun e w' => e = .returned (.int .i64 r) ∧ Below w.heap.size w w' := by
 have HB := Aside0.mk (Below.refl w.heap.size w)
 have H : (some (mn (mx a1 0) (a0.size : Int))) = some r := h
 clear h
 obtain ⟨ji3, hji3⟩ : ∃ j_ : Int, (mx a1 0) = j_ := ⟨_, rfl⟩
 replace H : (some (mn (ji3) (a0.size : Int))) = some r := by first | (rw [hji3] at H; exact H) | (simp only [hji3] at H ⊢; exact H)
 (try (have hji3l : 0 ≤ ji3 := by (rw [← hji3]; unfold mx; (repeat' split) <;> omega)))
 (try (have hji3m : 0 ≤ ji3 := by omega))
 have hji3_ : (if a1 < 0 then 0 else a1) = ji3 := hji3
 obtain ⟨ji4, hji4⟩ : ∃ j_ : Int, (mn (ji3) (a0.size : Int)) = j_ := ⟨_, rfl⟩
 replace H : (some ji4) = some r := by first | (rw [hji4] at H; exact H) | (simp only [hji4] at H ⊢; exact H)
 have hji4_ : (if (a0.size : Int) < (ji3) then (a0.size : Int) else (ji3)) = ji4 := hji4
 obtain rfl := Option.some.inj H
 go_enter Tryd.func65, Tryd.ntmps65
 go_wp2
 go_ret
 exact ⟨by first | rfl | (simp [errW_none, errW_some] <;> rfl) | (simp [*, errW_none, errW_some, bne]; done) | (simp only [← hji3, ← hji4]; first | rfl | (simp [errW_none, errW_some] <;> rfl)) | (simp [*, errW_none, errW_some] <;> rfl), by repeat (first | (with_reducible first | exact HB.out | apply below_alloc | apply pw_below_drewN | apply below_drew1) | exact HB.out)⟩
end Go.Proofs.YtjmmdphkgioooaaDoor.P
end
section
namespace Go.Proofs.YtjmmdphkgioooaaDoor.P
open Go.RowKit Go.Proofs.YtjmmdphkgioooaaDoorW.PrintWords Go.Proofs.YtjmmdphkgioooaaDoorW.PrintLast Go.Proofs.YtjmmdphkgioooaaDoorW.PrintMore
attribute [local go_sem] max2_int min2_int max_two min_two max_three min_three max_four min_four   -- for this text's walks alone
set_option linter.unusedVariables false
set_option linter.unusedSimpArgs false
/-! ### bytealg_LastIndexByteString: function 80 -/
def bytealg_LastIndexByteString.l0 : Nat → ByteArray → Int → Int → Option (Int)
 | 0, _, _, _ => none
 | k + 1, x0, x1, x5 => if x5 ≥ 0 then (if 0 ≤ x5 then (if x5 < (x0.size : Int) then (if (bt x0 x5) = x1 then (some x5) else (bytealg_LastIndexByteString.l0 k x0 x1 (wrap64 (x5 - 1)))) else (none)) else (none)) else (some (-1))
def bytealg_LastIndexByteString.f (k : Nat) (a0 : ByteArray) (a1 : Int) : Option (Int) := bytealg_LastIndexByteString.l0 k a0 a1 (wrap64 ((a0.size : Int) - 1))
set_option maxHeartbeats 8000000 in
set_option maxRecDepth 100000 in
theorem bytealg_LastIndexByteString.calls (k : Nat) (a0 : ByteArray) (a1 : Int) (r : Int) (w : World) (h : bytealg_LastIndexByteString.f k a0 a1 = some r) :
  Calls Tryd.prog 80 #[.string a0, .int .u8 a1] w fun e w' => e = .returned (.int .i64 r) ∧ Drawn0 w w' := by
 have H : (bytealg_LastIndexByteString.l0 k a0 a1 (wrap64 ((a0.size : Int) - 1))) = some r := h
 clear h
 have H' := Aside0.mk H
 clear H
 go_enter Tryd.func80, Tryd.ntmps80
 go_wp2
 go_loopg [5] k (fun kq v5 w' => ∃ (x5_1 : Int), v5 = .int .i64 x5_1 ∧ Aside0 (bytealg_LastIndexByteString.l0 kq a0 a1 x5_1 = some r) ∧ Aside0 (kq ≤ k) ∧ Drawn0 w w')
 case atStart => exact ⟨(wrap64 ((a0.size : Int) - 1)), (by first | rfl | (simp; done) | (simp [*]; done)), H', ⟨Nat.le_refl _⟩, by repeat (first | exact Drawn0.refl _ | apply Drawn0.step)⟩
 case round =>
  clear H'
  try clear p2
  obtain ⟨x5_1, rfl, HA, HK1, ⟨m1, rfl⟩⟩ := hrel
  cases gk with
  | zero => exact absurd HA.out (by simp [bytealg_LastIndexByteString.l0])
  | succ k1 =>
   have H := HA.out
   clear HA
   simp only [bytealg_LastIndexByteString.l0] at H
   by_cases c3 : x5_1 ≥ 0
   ·rw [if_pos c3] at H
    have c3b0 : decide (0 ≤ x5_1) = true := decide_eq_true c3
    clear c3
    by_cases c4 : 0 ≤ x5_1
    ·rw [if_pos c4] at H
     have c4b0 : decide (0 ≤ x5_1) = true := decide_eq_true c4
     clear c4
     by_cases c5 : x5_1 < (a0.size : Int)
     ·rw [if_pos c5] at H
      have c5b0 : decide (x5_1 < (a0.size : Int)) = true := decide_eq_true c5
      clear c5
      by_cases c7 : (bt a0 x5_1) = a1
      ·rw [if_pos c7] at H
       have c7b0 : ((bt a0 x5_1) == a1) = true := beq_iff_eq.mpr c7
       have c7b1 : ((bt a0 x5_1) != a1) = false := bne_eq_false_iff_eq.mpr c7
       clear c7
       obtain rfl := Option.some.inj H
       have p6 : 0 ≤ (x5_1 : Int) := of_decide_eq_true (by first | (with_reducible assumption) | assumption)
       have q6 : x5_1 < (a0.size : Int) := of_decide_eq_true (by first | (with_reducible assumption) | assumption)
       have hx6 := bt_at a0 x5_1
       replace p6 := eq_true p6
       replace q6 := eq_true q6
       go_wp2
       go_ret
       exact ⟨by first | rfl | (simp; done) | (simp [*]; done), by repeat (first | exact Drawn0.refl _ | apply Drawn0.step)⟩
      ·rw [if_neg c7] at H
       have c7b0 : ((bt a0 x5_1) == a1) = false := beq_eq_false_iff_ne.mpr c7
       have c7b1 : ((bt a0 x5_1) != a1) = true := bne_iff_ne.mpr c7
       have H' := Aside0.mk H
       clear H
       have p6 : 0 ≤ (x5_1 : Int) := of_decide_eq_true (by first | (with_reducible assumption) | assumption)
       have q6 : x5_1 < (a0.size : Int) := of_decide_eq_true (by first | (with_reducible assumption) | assumption)
       have hx6 := bt_at a0 x5_1
       replace p6 := eq_true p6
       replace q6 := eq_true q6
       go_wp2
       go_roundg k1
       case measure => have := HK1.out; omega
       case rel => exact ⟨(wrap64 (x5_1 - 1)), (by first | rfl | (simp; done) | (simp [*]; done)), H', ⟨by have := HK1.out; omega⟩, by repeat (first | exact Drawn0.refl _ | apply Drawn0.step)⟩
     ·rw [if_neg c5] at H
      exact absurd H (by simp)
    ·rw [if_neg c4] at H
     exact absurd H (by simp)
   ·rw [if_neg c3] at H
    have c3b0 : decide (0 ≤ x5_1) = false := decide_eq_false c3
    clear c3
    obtain rfl := Option.some.inj H
    go_wp2
    go_ret
    exact ⟨by first | rfl | (simp; done) | (simp [*]; done), by repeat (first | exact Drawn0.refl _ | apply Drawn0.step)⟩
end Go.Proofs.YtjmmdphkgioooaaDoor.P
end
section
namespace Go.Proofs.YtjmmdphkgioooaaDoor.P
open Go.RowKit Go.Proofs.YtjmmdphkgioooaaDoorW.PrintWords Go.Proofs.YtjmmdphkgioooaaDoorW.PrintLast Go.Proofs.YtjmmdphkgioooaaDoorW.PrintMore
attribute [local go_sem] max2_int min2_int max_two min_two max_three min_three max_four min_four   -- for this text's walks alone
set_option linter.unusedVariables false
set_option linter.unusedSimpArgs false
/-! ### strings_LastIndexByte: function 73 -/
def strings_LastIndexByte.f (k : Nat) (a0 : ByteArray) (a1 : Int) : Option (Int) := (bytealg_LastIndexByteString.f k a0 a1).bind fun t214 => (some t214)
set_option maxHeartbeats 8000000 in
set_option maxRecDepth 100000 in
theorem strings_LastIndexByte.calls (k : Nat) (a0 : ByteArray) (a1 : Int) (r : Int) (w : World) (h : strings_LastIndexByte.f k a0 a1 = some r) :
  Calls Tryd.prog 73 #[.string a0, .int .u8 a1] w fun e w' => e = .returned (.int .i64 r) ∧ Drawn0 w w' := by
 have H : ((bytealg_LastIndexByteString.f k a0 a1).bind fun t214 => (some t214)) = some r := h
 clear h
 replace H := Option.bind_eq_some_iff.mp H
 obtain ⟨t214, A30, H⟩ := H
 replace H : (some t214) = some r := H
 have A3 := Aside0.mk A30
 clear A30
 obtain rfl := Option.some.inj H
 go_enter Tryd.func73, Tryd.ntmps73
 go_wp2_with (first | ((with_reducible refine gate_callee (f := 80) rfl ?_); refine goesL_ (some 7) rfl rfl Tryd.func80 (by kernel_rfl) rfl #[.string a0, .int .u8 a1] rfl (by (try simp only [List.map_toArray, List.map_cons, List.map_nil]); first | done | rfl | (simp only [List.length_drop, List.length_take]; rfl)) ?_; (with_reducible refine (bytealg_LastIndexByteString.calls k a0 a1 t214 _ A3.out).mono ?_); rintro e w' ⟨rfl, ⟨nd, rfl⟩⟩; refine ⟨_, rfl, ?_⟩))
 go_ret
 exact ⟨by first | rfl | (simp; done) | (simp [*]; done), by repeat (first | exact Drawn0.refl _ | apply Drawn0.step)⟩
end Go.Proofs.YtjmmdphkgioooaaDoor.P
end
section
namespace Go.Proofs.YtjmmdphkgioooaaDoor.P
open Go.RowKit Go.Proofs.YtjmmdphkgioooaaDoorW.PrintWords Go.Proofs.YtjmmdphkgioooaaDoorW.PrintLast Go.Proofs.YtjmmdphkgioooaaDoorW.PrintMore
attribute [local go_sem] max2_int min2_int max_two min_two max_three min_three max_four min_four   -- for this text's walks alone
set_option linter.unusedVariables false
set_option linter.unusedSimpArgs false
/-! ### place_Of: function 64 -/
def place_Of.f (k : Nat) (a0 : ByteArray) (a1 : Int) : Option (Int × Int) := (place_clamp.f a0 a1).bind fun t218 => (if 0 ≤ t218 then (if t218 ≤ (a0.size : Int) then ((strings_LastIndexByte.f k (a0.extract 0 (t218 : Int).toNat) 10).bind fun t219 => ((strings_Count.f (a0.extract 0 (t218 : Int).toNat) (⟨#[10]⟩ : ByteArray)).bind fun t220 => (if 0 ≤ (wrap64 (t219 + 1)) then (if (wrap64 (t219 + 1)) ≤ ((a0.extract 0 (t218 : Int).toNat).size : Int) then ((utf_Count.f k ((a0.extract 0 (t218 : Int).toNat).extract ((wrap64 (t219 + 1)) : Int).toNat (a0.extract 0 (t218 : Int).toNat).size)).bind fun t221 => (some (wrap64 (t220 + 1), wrap64 (t221 + 1)))) else (none)) else (none)))) else (none)) else (none))
def place_Of.T3 : Bool × List (List Nat × List Nat) := (true, [([], []), ([0], [0]), ([1], [1]), ([], []), ([], []), ([3, 4], [3, 4]), ([5, 1], [5]), ([6], [6]), ([2, 6, 0, 1, 2], [2]), ([7, 8, 0, 1, 2, 3, 4, 5, 6, 7, 8], [7])])
def place_Of.B3 : List Nat := [0, 1, 3, 0, 0, 24, 59, 123, 127, 511]
theorem place_Of.tab3 : rtab .any (opsOf Tryd.f64 3) = place_Of.T3 := by kernel_rfl
theorem place_Of.bits3 : waitsOk place_Of.T3.2 place_Of.B3 = true := by kernel_rfl
set_option maxHeartbeats 8000000 in
set_option maxRecDepth 100000 in
theorem place_Of.calls (k : Nat) (a0 : ByteArray) (a1 : Int) (r1 : Int) (r2 : Int) (w : World) (h : place_Of.f k a0 a1 = some (r1, r2)) :
  Calls Tryd.prog 64 #[.string a0, .int .i64 a1] w fun e w' => e = .returned (.tuple #[.int .i64 r1, .int .i64 r2]) ∧ Below w.heap.size w w' := by
 have HB := Aside0.mk (Below.refl w.heap.size w)
 have H : ((place_clamp.f a0 a1).bind fun t218 => (if 0 ≤ t218 then (if t218 ≤ (a0.size : Int) then ((strings_LastIndexByte.f k (a0.extract 0 (t218 : Int).toNat) 10).bind fun t219 => ((strings_Count.f (a0.extract 0 (t218 : Int).toNat) (⟨#[10]⟩ : ByteArray)).bind fun t220 => (if 0 ≤ (wrap64 (t219 + 1)) then (if (wrap64 (t219 + 1)) ≤ ((a0.extract 0 (t218 : Int).toNat).size : Int) then ((utf_Count.f k ((a0.extract 0 (t218 : Int).toNat).extract ((wrap64 (t219 + 1)) : Int).toNat (a0.extract 0 (t218 : Int).toNat).size)).bind fun t221 => (some (wrap64 (t220 + 1), wrap64 (t221 + 1)))) else (none)) else (none)))) else (none)) else (none))) = some (r1, r2) := h
 clear h
 replace H := Option.bind_eq_some_iff.mp H
 obtain ⟨t218, A30, H⟩ := H
 replace H : (if 0 ≤ t218 then (if t218 ≤ (a0.size : Int) then ((strings_LastIndexByte.f k (a0.extract 0 (t218 : Int).toNat) 10).bind fun t219 => ((strings_Count.f (a0.extract 0 (t218 : Int).toNat) (⟨#[10]⟩ : ByteArray)).bind fun t220 => (if 0 ≤ (wrap64 (t219 + 1)) then (if (wrap64 (t219 + 1)) ≤ ((a0.extract 0 (t218 : Int).toNat).size : Int) then ((utf_Count.f k ((a0.extract 0 (t218 : Int).toNat).extract ((wrap64 (t219 + 1)) : Int).toNat (a0.extract 0 (t218 : Int).toNat).size)).bind fun t221 => (some (wrap64 (t220 + 1), wrap64 (t221 + 1)))) else (none)) else (none)))) else (none)) else (none)) = some (r1, r2) := H
 have A3 := Aside0.mk A30
 clear A30
 by_cases c4 : 0 ≤ t218
 ·rw [if_pos c4] at H
  have c4b0 := eq_true c4
  have c4b1 : decide (0 ≤ t218) = true := decide_eq_true c4
  clear c4
  by_cases c5 : t218 ≤ (a0.size : Int)
  ·rw [if_pos c5] at H
   have c5b0 := eq_true c5
   have c5b1 : decide (t218 ≤ (a0.size : Int)) = true := decide_eq_true c5
   clear c5
   replace H := Option.bind_eq_some_iff.mp H
   obtain ⟨t219, A60, H⟩ := H
   replace H : ((strings_Count.f (a0.extract 0 (t218 : Int).toNat) (⟨#[10]⟩ : ByteArray)).bind fun t220 => (if 0 ≤ (wrap64 (t219 + 1)) then (if (wrap64 (t219 + 1)) ≤ ((a0.extract 0 (t218 : Int).toNat).size : Int) then ((utf_Count.f k ((a0.extract 0 (t218 : Int).toNat).extract ((wrap64 (t219 + 1)) : Int).toNat (a0.extract 0 (t218 : Int).toNat).size)).bind fun t221 => (some (wrap64 (t220 + 1), wrap64 (t221 + 1)))) else (none)) else (none))) = some (r1, r2) := H
   have A6 := Aside0.mk A60
   clear A60
   replace H := Option.bind_eq_some_iff.mp H
   obtain ⟨t220, A70, H⟩ := H
   replace H : (if 0 ≤ (wrap64 (t219 + 1)) then (if (wrap64 (t219 + 1)) ≤ ((a0.extract 0 (t218 : Int).toNat).size : Int) then ((utf_Count.f k ((a0.extract 0 (t218 : Int).toNat).extract ((wrap64 (t219 + 1)) : Int).toNat (a0.extract 0 (t218 : Int).toNat).size)).bind fun t221 => (some (wrap64 (t220 + 1), wrap64 (t221 + 1)))) else (none)) else (none)) = some (r1, r2) := H
   have A7 := Aside0.mk A70
   clear A70
   obtain ⟨ji8, hji8⟩ : ∃ j_ : Int, (wrap64 (t219 + 1)) = j_ := ⟨_, rfl⟩
   replace H : (if 0 ≤ (ji8) then (if (ji8) ≤ ((a0.extract 0 (t218 : Int).toNat).size : Int) then ((utf_Count.f k ((a0.extract 0 (t218 : Int).toNat).extract ((ji8) : Int).toNat (a0.extract 0 (t218 : Int).toNat).size)).bind fun t221 => (some (wrap64 (t220 + 1), wrap64 (t221 + 1)))) else (none)) else (none)) = some (r1, r2) := by first | (rw [hji8] at H; exact H) | (simp only [hji8] at H ⊢; exact H)
   (try rw [hji8] at A3)
   (try rw [hji8] at A6)
   (try rw [hji8] at A7)
   have hji8w : (IntKind.i64.wrap (t219 + 1)) = ji8 := (i64_w _).trans hji8
   by_cases c9 : 0 ≤ (ji8)
   ·rw [if_pos c9] at H
    have c9b0 := eq_true c9
    have c9b1 : decide (0 ≤ (ji8)) = true := decide_eq_true c9
    clear c9
    by_cases c10 : (ji8) ≤ ((a0.extract 0 (t218 : Int).toNat).size : Int)
    ·rw [if_pos c10] at H
     have c10b0 := eq_true c10
     have c10b1 : decide ((ji8) ≤ ((a0.extract 0 (t218 : Int).toNat).size : Int)) = true := decide_eq_true c10
     have c10x : (ji8 ≤ max t218 0) = True := eq_true (by have h1_ := of_decide_eq_true c10b1; rw [ByteArray.size_extract] at h1_; have h2_ := of_decide_eq_true c5b1; omega)
     clear c10
     replace H := Option.bind_eq_some_iff.mp H
     obtain ⟨t221, A110, H⟩ := H
     replace H : (some (wrap64 (t220 + 1), wrap64 (t221 + 1))) = some (r1, r2) := H
     have A11 := Aside0.mk A110
     clear A110
     simp only [Option.some.injEq, Prod.mk.injEq] at H
     obtain ⟨rfl, rfl⟩ := H
     go_enter Tryd.func64, Tryd.ntmps64
     try go_wp2_with (first | ((with_reducible refine gate_callee (f := 65) rfl ?_); refine goesL_ (some 11) rfl rfl Tryd.func65 (by kernel_rfl) rfl #[.string a0, .int .i64 a1] rfl (by (try simp only [List.map_toArray, List.map_cons, List.map_nil]); first | done | rfl | (simp only [List.length_drop, List.length_take]; rfl)) ?_; (with_reducible refine (place_clamp.calls a0 a1 t218 _ A3.out).mono ?_); rintro e w12 ⟨rfl, hb⟩; refine ⟨_, rfl, ?_⟩; have n0_ := Aside0.mk (below_step (by repeat (first | (with_reducible first | exact HB.out | apply below_alloc | apply pw_below_drewN | apply below_drew1) | exact HB.out)) hb); clear HB; have HB := n0_; clear n0_; (try clear hb); (try clear hb2); (try clear hk); (try clear hi)) | ((with_reducible refine gate_callee (f := 73) rfl ?_); refine goesL_ (some 14) rfl rfl Tryd.func73 (by kernel_rfl) rfl #[.string (a0.extract 0 (t218 : Int).toNat), .int .u8 10] rfl (by (try simp only [List.map_toArray, List.map_cons, List.map_nil]); first | done | rfl | (simp only [List.length_drop, List.length_take]; rfl)) ?_; (with_reducible refine (strings_LastIndexByte.calls k (a0.extract 0 (t218 : Int).toNat) 10 t219 _ A6.out).mono ?_); rintro e w' ⟨rfl, ⟨nd, rfl⟩⟩; refine ⟨_, rfl, ?_⟩))
     (try (rw [drewN_self w12]; generalize hq_ : World.drewN w12 _ = w12; have n0_ : Aside0 (Below w.heap.size w w12) := ⟨by rw [← hq_]; exact (by repeat (first | (with_reducible first | exact HB.out | apply below_alloc | apply pw_below_drewN | apply below_drew1) | exact HB.out))⟩; clear HB hq_; have HB := n0_; clear n0_))
     have n0_ := Aside0.mk (below_drew1 HB.out)
     clear HB
     have HB := n0_
     clear n0_
     refine start_ (n := 10) (S := fun w' => True) (ds := []) #[false, false, false, false, false, false, false, false, false, false] (by kernel_rfl) rfl rfl trivial (fun hHeld => ?_); refine with_tabW place_Of.tab3 place_Of.bits3 (fun HT_ HW_ => ?_)
     generalize w12.drew = w13 at HB hHeld ⊢
     refine pure_ (i := 0) (N := some 16) (v := ?_) (a' := ?_) #[true, false, false, false, false, false, false, false, false, false] rfl rfl (any_of HT_.out (by kernel_rfl)) (fun _ _ _ h => h) (Or.inl ⟨by rfl, ?_⟩) ?_ ?_
     rotate_left
     ·intro w'
      go_simp
      with_reducible rfl
     rotate_left
     ·simp only [Act.put, List.setIfInBounds_toArray, List.set_cons_zero, List.set_cons_succ, i64_w, i32_w]
      rfl
     refine pure_ (i := 3) (N := some 19) (v := ?_) (a' := ?_) #[true, false, false, true, false, false, false, false, false, false] rfl rfl (any_of HT_.out (by kernel_rfl)) (fun _ _ _ h => h) (Or.inl ⟨by rfl, ?_⟩) ?_ ?_
     rotate_left
     ·intro w'
      go_simp
      with_reducible rfl
     rotate_left
     ·simp only [Act.put, List.setIfInBounds_toArray, List.set_cons_zero, List.set_cons_succ, i64_w, i32_w]
      rfl
     refine pure_ (i := 4) (N := some 20) (v := ?_) (a' := ?_) #[true, false, false, true, true, false, false, false, false, false] rfl rfl (any_of HT_.out (by kernel_rfl)) (fun _ _ _ h => h) (Or.inl ⟨by rfl, ?_⟩) ?_ ?_
     rotate_left
     ·intro w'
      go_simp
      with_reducible rfl
     rotate_left
     ·simp only [Act.put, List.setIfInBounds_toArray, List.set_cons_zero, List.set_cons_succ, i64_w, i32_w]
      rfl
     refine pure_ (i := 5) (N := some 21) (v := ?_) (a' := ?_) #[true, false, false, true, true, true, false, false, false, false] rfl rfl (any_of HT_.out (by kernel_rfl)) (fun _ _ _ h => h) (Or.inl ⟨by rfl, ?_⟩) ?_ ?_
     rotate_left
     ·intro w'
      go_simp
      with_reducible rfl
     rotate_left
     ·simp only [Act.put, List.setIfInBounds_toArray, List.set_cons_zero, List.set_cons_succ, i64_w, i32_w]
      rfl
     refine one_ (i := 1) (N := some 17) #[true, true, false, true, true, true, false, false, false, false] rfl rfl (one_of HT_.out (by kernel_rfl)) (by decide) (fun K hK => ?_)
     refine goes_ Tryd.func48 (by kernel_rfl) rfl #[.string (a0.extract 0 (t218 : Int).toNat), .string (⟨#[10]⟩ : ByteArray)] (by rfl) rfl rfl (by (try simp only [List.map_toArray, List.map_cons, List.map_nil]); first | done | rfl | (simp only [List.length_drop, List.length_take]; rfl)) ?_
     with_reducible refine (strings_Count.calls (a0.extract 0 (t218 : Int).toNat) (⟨#[10]⟩ : ByteArray) t220 _ A7.out).mono ?_
     rintro e w' ⟨rfl, ⟨nd, rfl⟩⟩
     refine ⟨_, rfl, ?_⟩
     refine hK.out _ _ trivial (fun hHeld => ?_)
     clear hK K
     refine norm_ (a' := ?_) ?_ ?_
     rotate_left
     ·show Act.put _ (some 17) _ = _
      simp only [Act.put, List.setIfInBounds_toArray, List.set_cons_zero, List.set_cons_succ, i64_w, i32_w]
      rfl
     refine pure_ (i := 2) (N := some 18) (v := ?_) (a' := ?_) #[true, true, true, true, true, true, false, false, false, false] rfl rfl (any_of HT_.out (by kernel_rfl)) (fun _ _ _ h => h) (Or.inl ⟨by rfl, ?_⟩) ?_ ?_
     rotate_left
     ·intro w'
      go_simp
      with_reducible rfl
     rotate_left
     ·simp only [Act.put, List.setIfInBounds_toArray, List.set_cons_zero, List.set_cons_succ, i64_w, i32_w]
      rfl
     refine one_ (i := 6) (N := some 22) #[true, true, true, true, true, true, true, false, false, false] rfl rfl (one_of HT_.out (by kernel_rfl)) (by decide) (fun K hK => ?_)
     refine goes_ Tryd.func74 (by kernel_rfl) rfl #[.string ((a0.extract 0 (t218 : Int).toNat).extract ((ji8) : Int).toNat (a0.extract 0 (t218 : Int).toNat).size)] (by rfl) rfl rfl (by (try simp only [List.map_toArray, List.map_cons, List.map_nil]); first | done | (rw [show (a0.extract 0 (t218 : Int).toNat).size = (t218 : Int).toNat from (by rw [ByteArray.size_extract]; have h2_ := of_decide_eq_true c5b1; have h1_ := of_decide_eq_true c4b1; omega)]; rfl) | (simp only [hji8]; rfl) | rfl | (simp only [List.length_drop, List.length_take]; rfl)) ?_
     with_reducible refine (utf_Count.calls k ((a0.extract 0 (t218 : Int).toNat).extract ((ji8) : Int).toNat (a0.extract 0 (t218 : Int).toNat).size) t221 _ A11.out).mono ?_
     rintro e w14 ⟨rfl, hb⟩
     refine ⟨_, rfl, ?_⟩
     have n0_ := Aside0.mk (below_step (by repeat (first | (with_reducible first | exact HB.out | apply below_alloc | apply pw_below_drewN | apply below_drew1) | exact HB.out)) hb)
     clear HB
     have HB := n0_
     clear n0_
     (try clear hb)
     (try clear hb2)
     (try clear hk)
     (try clear hi)
     refine hK.out _ _ trivial (fun hHeld => ?_)
     clear hK K
     refine norm_ (a' := ?_) ?_ ?_
     rotate_left
     ·show Act.put _ (some 22) _ = _
      simp only [Act.put, List.setIfInBounds_toArray, List.set_cons_zero, List.set_cons_succ, i64_w, i32_w]
      rfl
     refine pure_ (i := 7) (N := some 23) (v := ?_) (a' := ?_) #[true, true, true, true, true, true, true, true, false, false] rfl rfl (any_of HT_.out (by kernel_rfl)) (fun _ _ _ h => h) (Or.inl ⟨by rfl, ?_⟩) ?_ ?_
     rotate_left
     ·intro w'
      go_simp
      with_reducible rfl
     rotate_left
     ·simp only [Act.put, List.setIfInBounds_toArray, List.set_cons_zero, List.set_cons_succ, i64_w, i32_w]
      rfl
     refine pure_ (i := 8) (N := some 4) (v := ?_) (a' := ?_) #[true, true, true, true, true, true, true, true, true, false] rfl rfl (any_of HT_.out (by kernel_rfl)) (fun _ _ _ h => h) (Or.inl ⟨by rfl, ?_⟩) ?_ ?_
     rotate_left
     ·intro w'
      go_simp
      with_reducible rfl
     rotate_left
     ·simp only [Act.put, List.setIfInBounds_toArray, List.set_cons_zero, List.set_cons_succ, i64_w, i32_w]
      rfl
     refine pure_ (i := 9) (N := some 5) (v := ?_) (a' := ?_) #[true, true, true, true, true, true, true, true, true, true] rfl rfl (any_of HT_.out (by kernel_rfl)) (fun _ _ _ h => h) (Or.inl ⟨by rfl, ?_⟩) ?_ ?_
     rotate_left
     ·intro w'
      go_simp
      with_reducible rfl
     rotate_left
     ·simp only [Act.put, List.setIfInBounds_toArray, List.set_cons_zero, List.set_cons_succ, i64_w, i32_w]
      rfl
     refine done_ (done_of HT_.out (by kernel_rfl)) ?_
     try go_wp2
     go_ret2
     exact ⟨by first | rfl | (simp [errW_none, errW_some] <;> rfl) | (simp [*, errW_none, errW_some, bne]; done) | (simp only [← hji8]; first | rfl | (simp [errW_none, errW_some] <;> rfl)) | (simp [*, errW_none, errW_some] <;> rfl), by repeat (first | (with_reducible first | exact HB.out | apply below_alloc | apply pw_below_drewN | apply below_drew1) | exact HB.out)⟩
    ·rw [if_neg c10] at H
     exact absurd H (by simp)
   ·rw [if_neg c9] at H
    exact absurd H (by simp)
  ·rw [if_neg c5] at H
   exact absurd H (by simp)
 ·rw [if_neg c4] at H
  exact absurd H (by simp)
end Go.Proofs.YtjmmdphkgioooaaDoor.P
end
section
namespace Go.Proofs.YtjmmdphkgioooaaDoor.P
open Go.RowKit Go.Proofs.YtjmmdphkgioooaaDoorW.PrintWords Go.Proofs.YtjmmdphkgioooaaDoorW.PrintLast Go.Proofs.YtjmmdphkgioooaaDoorW.PrintMore
attribute [local go_sem] max2_int min2_int max_two min_two max_three min_three max_four min_four   -- for this text's walks alone
set_option linter.unusedVariables false
set_option linter.unusedSimpArgs false
/-! ### place_Fault: function 51 -/
def place_Fault.f (k : Nat) (a0 : ByteArray) (a1 : Int) (a2 : Int) : Option (Int × Int × Int × Int) := (place_Of.f k a0 a1).bind fun bt223 => ((place_clamp.f a0 a1).bind fun t225 => (some (a2, t225, bt223.1, bt223.2)))
set_option maxHeartbeats 8000000 in
set_option maxRecDepth 100000 in
theorem place_Fault.calls (k : Nat) (a0 : ByteArray) (a1 : Int) (a2 : Int) (r1 : Int) (r2 : Int) (r3 : Int) (r4 : Int) (w : World) (h : place_Fault.f k a0 a1 a2 = some (r1, r2, r3, r4)) :
  Calls Tryd.prog 51 #[.string a0, .int .i64 a1, .int .i64 a2] w fun e w' => e = .returned (.agg #[.int .i64 r1, .int .i64 r2, .int .i64 r3, .int .i64 r4]) ∧ Below w.heap.size w w' := by
 have hu30 := Tryd.underlying30
 have HB := Aside0.mk (Below.refl w.heap.size w)
 have H : ((place_Of.f k a0 a1).bind fun bt223 => ((place_clamp.f a0 a1).bind fun t225 => (some (a2, t225, bt223.1, bt223.2)))) = some (r1, r2, r3, r4) := h
 clear h
 replace H := Option.bind_eq_some_iff.mp H
 obtain ⟨⟨t223, t224⟩, A40, H⟩ := H
 replace H : ((place_clamp.f a0 a1).bind fun t225 => (some (a2, t225, t223, t224))) = some (r1, r2, r3, r4) := H
 have A4 := Aside0.mk A40
 clear A40
 replace H := Option.bind_eq_some_iff.mp H
 obtain ⟨t225, A50, H⟩ := H
 replace H : (some (a2, t225, t223, t224)) = some (r1, r2, r3, r4) := H
 have A5 := Aside0.mk A50
 clear A50
 simp only [Option.some.injEq, Prod.mk.injEq] at H
 obtain ⟨rfl, rfl, rfl, rfl⟩ := H
 go_enter Tryd.func51, Tryd.ntmps51
 go_wp2_with (first | ((with_reducible refine gate_dst (N := 6) rfl ?_); refine box_event ?hg (N := 6) ?hd (cs := #[.int .i64 0, .int .i64 0, .int .i64 0, .int .i64 0]) (t := 30) ?hr ?_; (case hd => rfl); (case hg => rfl); (case hr => first | (go_simp; done) | (go_simp; rfl)); intro gb222 hg w6 hbox hb; have n0_ := Aside0.mk (below_step (by repeat (first | (with_reducible first | exact HB.out | apply below_alloc | apply pw_below_drewN | apply below_drew1) | exact HB.out)) hb); have n1_ := Aside0.mk (hbox); have n2_ := Aside0.mk ((by rw [hg]; exact (below_size (by repeat (first | (with_reducible first | exact HB.out | apply below_alloc | apply pw_below_drewN | apply below_drew1) | exact HB.out))) : w.heap.size ≤ gb222)); have n3_ := Aside0.mk ((by rw [hg]; exact (below_size (by repeat (first | (with_reducible first | exact HB.out | apply below_alloc | apply pw_below_drewN | apply below_drew1) | exact HB.out))) : w.heap.size ≤ gb222)); clear HB; have HB := n0_; have BK222 := n1_; have GW222 := n2_; have GE222 := n3_; clear n0_ n1_ n2_ n3_; clear hb hbox hg) | ((with_reducible refine gate_callee (f := 64) rfl ?_); refine goesL_ (some 12) rfl rfl Tryd.func64 (by kernel_rfl) rfl #[.string a0, .int .i64 a1] rfl (by (try simp only [List.map_toArray, List.map_cons, List.map_nil]); first | done | rfl | (simp only [List.length_drop, List.length_take]; rfl)) ?_; (with_reducible refine (place_Of.calls k a0 a1 t223 t224 _ A4.out).mono ?_); rintro e w7 ⟨rfl, hb⟩; refine ⟨_, rfl, ?_⟩; have n0_ := Aside0.mk (blk_below (g := gb222) (o := .cells #[.int .i64 0, .int .i64 0, .int .i64 0, .int .i64 0] 30 (0, 0)) (by (with_reducible repeat (first | refine blk_drewN ?_ _ | refine blk_drew ?_ | refine blk_alloc ?_ _)); exact BK222.out) hb); have n1_ := Aside0.mk (below_step (by repeat (first | (with_reducible first | exact HB.out | apply below_alloc | apply pw_below_drewN | apply below_drew1 | refine below_set ?_ GE222.out) | exact HB.out)) hb); clear BK222; clear HB; have BK222 := n0_; have HB := n1_; clear n0_ n1_; (try clear hb); (try clear hb2); (try clear hk); (try clear hi)) | ((with_reducible refine gate_callee (f := 65) rfl ?_); refine goesL_ (some 18) rfl rfl Tryd.func65 (by kernel_rfl) rfl #[.string a0, .int .i64 a1] rfl (by (try simp only [List.map_toArray, List.map_cons, List.map_nil]); first | done | rfl | (simp only [List.length_drop, List.length_take]; rfl)) ?_; (with_reducible refine (place_clamp.calls a0 a1 t225 _ A5.out).mono ?_); rintro e w8 ⟨rfl, hb⟩; refine ⟨_, rfl, ?_⟩; have n0_ := Aside0.mk (blk_below (g := gb222) (o := .cells #[.int .i64 0, .int .i64 0, .int .i64 0, .int .i64 0] 30 (0, 0)) (by (with_reducible repeat (first | refine blk_drewN ?_ _ | refine blk_drew ?_ | refine blk_alloc ?_ _)); exact BK222.out) hb); have n1_ := Aside0.mk (below_step (by repeat (first | (with_reducible first | exact HB.out | apply below_alloc | apply pw_below_drewN | apply below_drew1 | refine below_set ?_ GE222.out) | exact HB.out)) hb); clear BK222; clear HB; have BK222 := n0_; have HB := n1_; clear n0_ n1_; (try clear hb); (try clear hb2); (try clear hk); (try clear hi); have hcz9_0 : w8.cell? ⟨gb222, 0, none⟩ = some (.int .i64 0) := (blk_cell BK222.out 0).trans rfl; have hcz9_1 : w8.cell? ⟨gb222, 1, none⟩ = some (.int .i64 0) := (blk_cell BK222.out 1).trans rfl; have hcz9_2 : w8.cell? ⟨gb222, 2, none⟩ = some (.int .i64 0) := (blk_cell BK222.out 2).trans rfl; have hcz9_3 : w8.cell? ⟨gb222, 3, none⟩ = some (.int .i64 0) := (blk_cell BK222.out 3).trans rfl; have hfz9_0 := blk_frozen BK222.out 0; have hfz9_1 := blk_frozen BK222.out 1; have hfz9_2 := blk_frozen BK222.out 2; have hfz9_3 := blk_frozen BK222.out 3))
 refine bodyPost_ret (results_cell_row rfl _ _ gb222 30 #[.int .i64 a2, .int .i64 t225, .int .i64 t223, .int .i64 t224] (0, 0) _ rfl (by (with_reducible repeat (first | refine blk_drewN ?_ _ | refine blk_drew ?_ | refine blk_alloc ?_ _)); refine blk_put (cs := #[.int .i64 a2, .int .i64 t225, .int .i64 t223, .int .i64 0]) ?_ 3 _ rfl; (with_reducible repeat (first | refine blk_drewN ?_ _ | refine blk_drew ?_ | refine blk_alloc ?_ _)); refine blk_put (cs := #[.int .i64 a2, .int .i64 t225, .int .i64 0, .int .i64 0]) ?_ 2 _ rfl; (with_reducible repeat (first | refine blk_drewN ?_ _ | refine blk_drew ?_ | refine blk_alloc ?_ _)); refine blk_put (cs := #[.int .i64 a2, .int .i64 0, .int .i64 0, .int .i64 0]) ?_ 1 _ rfl; (with_reducible repeat (first | refine blk_drewN ?_ _ | refine blk_drew ?_ | refine blk_alloc ?_ _)); refine blk_put (cs := #[.int .i64 0, .int .i64 0, .int .i64 0, .int .i64 0]) ?_ 0 _ rfl; (with_reducible repeat (first | refine blk_drewN ?_ _ | refine blk_drew ?_ | refine blk_alloc ?_ _)); exact BK222.out) Tryd.underlying30 rfl (by kernel_rfl)) rfl ?_
 exact ⟨by first | rfl | (simp [errW_none, errW_some] <;> rfl) | (simp [*, errW_none, errW_some, bne]; done) | (simp [*, errW_none, errW_some] <;> rfl), by repeat (first | (with_reducible first | exact HB.out | apply below_alloc | apply pw_below_drewN | apply below_drew1 | refine below_set ?_ GE222.out) | exact HB.out)⟩
end Go.Proofs.YtjmmdphkgioooaaDoor.P
end
section
namespace Go.Proofs.YtjmmdphkgioooaaDoor.La
open Go.RowKit Go.Proofs.YtjmmdphkgioooaaDoor.P Go.Proofs.YtjmmdphkgioooaaDoorW.PrintWords Go.Proofs.YtjmmdphkgioooaaDoorW.PrintLast Go.Proofs.YtjmmdphkgioooaaDoorW.PrintMore
def clamp (size : Nat) (i : Int) : Nat := if i < 0 then 0 else if i > (size : Int) then size else i.toNat
theorem clamp_le (size : Nat) (i : Int) : clamp size i ≤ size := by unfold clamp; (repeat' split) <;> omega
theorem clamp_eq (s : ByteArray) (i : Int) : place_clamp.f s i = some (clamp s.size i : Int) := by
 unfold place_clamp.f mn mx clamp
 congr 1
 (repeat' split) <;> omega
theorem count10 (s : ByteArray) : strings_Count.f s (⟨#[10]⟩ : ByteArray) = some (nl (bytesOf s) : Int) := by
 unfold strings_Count.f
 rw [if_pos (by rfl)]
 rfl
theorem last_l0 (s : ByteArray) (hs : s.size ≤ 140737488355328) (m : Nat) : m ≤ s.size → Ev (fun k => bytealg_LastIndexByteString.l0 k s 10 ((m : Int) - 1)) ((lst ((bytesOf s).take m) : Int) - 1) := by
 induction m with
 | zero =>
  intro _
  refine Ev.step (fun k => by rw [bytealg_LastIndexByteString.l0]) ?_
  simp only [if_neg (show ¬ (((0 : Nat) : Int) - 1 ≥ 0) by omega)]
  exact Ev.now _
 | succ m ih =>
  intro hm
  refine Ev.step (fun k => by rw [bytealg_LastIndexByteString.l0]) ?_
  have e : ((m + 1 : Nat) : Int) - 1 = (m : Int) := by omega
  have hlt : m < (bytesOf s).length := by rw [size_of]; omega
  have hb : bt s (m : Int) = (bytesOf s)[m] := by rw [bt_get]; simp [List.getD_eq_getElem?_getD, hlt]
  simp only [e, if_pos (show (m : Int) ≥ 0 by omega), if_pos (show (m : Int) < (s.size : Int) by omega)]
  rw [List.take_succ_eq_append_getElem hlt, lst_snoc, hb]
  by_cases h : (bytesOf s)[m] = 10
  ·simp only [if_pos h, List.length_take, Nat.min_eq_left (Nat.le_of_lt hlt)]
   have : ((m + 1 : Nat) : Int) - 1 = (m : Int) := by omega
   rw [this]
   exact Ev.now _
  ·simp only [if_neg h]
   rw [wrap_id (by omega) (by omega)]
   exact ih (by omega)
theorem last_ev (s : ByteArray) (hs : s.size ≤ 140737488355328) : Ev (fun k => strings_LastIndexByte.f k s 10) ((lst (bytesOf s) : Int) - 1) := by
 have h := last_l0 s hs s.size (Nat.le_refl _)
 rw [List.take_of_length_le (by rw [size_of]; omega)] at h
 refine Ev.congr (fun k => by rw [strings_LastIndexByte.f, bytealg_LastIndexByteString.f, wrap_id (by omega) (by omega)]) (Ev.bind h ?_)
 exact Ev.now _
/-- A place's line and column. -/
def lineOf (l : List Int) : Int := (nl l : Int) + 1
def colOf (l : List Int) : Int := (cnt (l.drop (lst l)) : Int) + 1
theorem of_ev (s : ByteArray) (hs : s.size ≤ 8796093022208) (i : Int) : Ev (fun k => place_Of.f k s i) (lineOf ((bytesOf s).take (clamp s.size i)), colOf ((bytesOf s).take (clamp s.size i))) := by
 have hc := clamp_le s.size i
 refine Ev.congr (fun k => by rw [place_Of.f, clamp_eq, Option.bind_some]) ?_
 generalize clamp s.size i = c at *
 have hsz : (s.extract 0 c).size = c := size_take s hc
 have hl := lst_le ((bytesOf s).take c)
 rw [List.length_take, size_of, Nat.min_eq_left hc] at hl
 simp only [if_pos (show (0 : Int) ≤ (c : Int) by omega), if_pos (show (c : Int) ≤ (s.size : Int) by omega), Int.toNat_natCast]
 refine Ev.bind (last_ev (s.extract 0 c) (by rw [hsz]; omega)) ?_
 rw [bytesOf_take]
 have hn : nl ((bytesOf s).take c) ≤ c := by
  have := cntB_le ((bytesOf s).take c) 10
  rw [List.length_take, size_of, Nat.min_eq_left hc] at this
  exact this
 have hw : wrap64 ((lst ((bytesOf s).take c) : Int) - 1 + 1) = (lst ((bytesOf s).take c) : Int) := by rw [wrap_id (by omega) (by omega)]; omega
 simp only [count10, Option.bind_some, hw, hsz, bytesOf_take, if_pos (show (0 : Int) ≤ (lst ((bytesOf s).take c) : Int) by omega), if_pos (show (lst ((bytesOf s).take c) : Int) ≤ (c : Int) by omega), Int.toNat_natCast]
 have hx : bytesOf ((s.extract 0 c).extract (lst ((bytesOf s).take c)) c) = ((bytesOf s).take c).drop (lst ((bytesOf s).take c)) := by
  rw [bytesOf_extract, bytesOf_take, List.take_take, Nat.min_self]
 have hxs : ((s.extract 0 c).extract (lst ((bytesOf s).take c)) c).size ≤ 140737488355328 := by rw [← size_of, hx, List.length_drop, List.length_take, size_of]; omega
 refine Ev.bind (count_ev _ hxs) ?_
 rw [hx]
 have hcn := cnt_le (((bytesOf s).take c).drop (lst ((bytesOf s).take c)))
 rw [List.length_drop, List.length_take, size_of] at hcn
 rw [wrap_id (by omega) (by omega), wrap_id (by omega) (by omega)]
 exact Ev.now _
theorem fault_ev (s : ByteArray) (hs : s.size ≤ 8796093022208) (i e : Int) : Ev (fun k => place_Fault.f k s i e) (e, (clamp s.size i : Int), lineOf ((bytesOf s).take (clamp s.size i)), colOf ((bytesOf s).take (clamp s.size i))) := by
 refine Ev.congr (fun k => by rw [place_Fault.f]) (Ev.bind (of_ev s hs i) ?_)
 rw [clamp_eq, Option.bind_some]
 exact Ev.now _
end Go.Proofs.YtjmmdphkgioooaaDoor.La
end
section
namespace Go.Proofs.YtjmmdphkgioooaaDoor.P
open Go.RowKit Go.Proofs.YtjmmdphkgioooaaDoor.La Go.Proofs.YtjmmdphkgioooaaDoorW.PrintWords Go.Proofs.YtjmmdphkgioooaaDoorW.PrintLast Go.Proofs.YtjmmdphkgioooaaDoorW.PrintMore
theorem wpQ {P : Program} {c : Code} {Q : Exit → Act → World → Prop} {a : Act} {w : World} (R : Act → World → Prop) (h : ∀ Q', (∀ a' w', R a' w' → Q' Exit.normal a' w') → c.wp P Q' a w) (hR : ∀ a' w', R a' w' → Q .normal a' w') : c.wp P Q a w := h Q hR
theorem tassert_yes (v : Value) (xT : TypeId) (w : World) : (Instr.typeAssert (.iface 85 v) xT 85 true).run Tryd.prog w = .ok (.tuple #[v, .bool true]) w := by
 simp [Instr.typeAssert, run_underlying Tryd.underlying85, go_sem, Result.andThen]
theorem tassert_nil (xT : TypeId) (w : World) : (Instr.typeAssert .nilIface xT 85 true).run Tryd.prog w = .ok (.tuple #[.agg #[.int .i64 0, .int .i64 0], .bool false]) w := by
 simp [Instr.typeAssert, run_underlying Tryd.underlying85, Tryd.zeroValue85, go_sem, Result.andThen]
set_option maxRecDepth 100000 in
set_option maxHeartbeats 8000000 in
/-- The deferred closure, where something was thrown. -/
theorem catch_thrown {W : World} {b : Nat} {text : ByteArray} {at_ er : Int} {k : Nat} {r1 r2 r3 r4 : Int} (older : List PanicEntry) (hF : place_Fault.f k text at_ er = some (r1, r2, r3, r4))
  (h0 : W.heap[b]? = some (.cells #[.string text] 9 (0, 0))) (h1 : W.heap[b + 1]? = some (.cells #[.slice none 0 0] 52 (0, 0))) (h2 : W.heap[b + 2]? = some (.cells #[.int .i64 0, .int .i64 0, .int .i64 0, .int .i64 0] 30 (0, 0))) :
  CallsD Tryd.prog 52 #[.pointer (some ⟨b, 0, none⟩), .pointer (some ⟨b + 1, 0, none⟩), .pointer (some ⟨b + 2, 0, none⟩)] (.panicking ({ v := .iface 85 (.agg #[.int .i64 er, .int .i64 at_]), recovered := false } :: older)) W fun e u' w' =>
   e = .returned (.tuple #[]) ∧ u' = .panicking ({ v := .iface 85 (.agg #[.int .i64 er, .int .i64 at_]), recovered := true } :: older) ∧ Below b W w' ∧
   w'.heap[b + 1]? = some (.cells #[.slice none 0 0] 52 (0, 0)) ∧ w'.heap[b + 2]? = some (.cells #[.int .i64 r1, .int .i64 r2, .int .i64 r3, .int .i64 r4] 30 (0, 0)) := by
 have hlt := cblk_lt h2
 have hA : Below W.heap.size W (W.alloc (.cells #[.int .i64 er, .int .i64 at_] 85)) := below_alloc (Below.refl _ _) _
 have hA0 := (hA.block b (by omega)).trans h0
 have e0 : (W.alloc (.cells #[.int .i64 er, .int .i64 at_] 85)).cell? ⟨b, 0, none⟩ = some (.string text) := by rw [cblk_cell hA0]; rfl
 refine callsD_of_wpS Tryd.func52 rfl fun c₀ cs hu => ?_
 simp only [Tryd.ntmps52, List.size_toArray, List.length_cons, List.length_nil, Nat.reduceAdd, Nat.reduceSub, Array.replicate_succ, Array.replicate_zero, List.push_toArray, List.append_toArray, List.nil_append, List.cons_append]
 apply wpS_seq
 apply wpS_region
 simp [wpOpsS, go_sem, recoverD, hu, Exit.thenS]
 refine wpS_of_wp ?_
 refine wpQ (fun a' w' => a'.defers = [] ∧ Below b W w' ∧ w'.heap[b + 1]? = some (.cells #[.slice none 0 0] 52 (0, 0)) ∧ w'.heap[b + 2]? = some (.cells #[.int .i64 r1, .int .i64 r2, .int .i64 r3, .int .i64 r4] 30 (0, 0))) ?_ ?_
 ·intro Q' hQ'
  have HQ := Lib.hid hQ'
  clear hQ' hu
  have hta := tassert_yes
  go_wp2_with fail
  refine (place_Fault.calls k _ _ _ _ _ _ _ _ hF).mono ?_
  rintro e w5 ⟨rfl, hb5⟩
  have hB := below_step hA hb5
  have g1 := (hB.block (b + 1) (by omega)).trans h1
  have g2 := (hB.block (b + 2) (by omega)).trans h2
  clear e0 hA0 hA hb5
  have k1 : w5.cell? ⟨b + 1, 0, none⟩ = some (.slice none 0 0) := by rw [cblk_cell g1]; rfl
  have k2 := cblk_free g1 0
  have m0 : w5.cell? ⟨b + 2, 0, none⟩ = some (.int .i64 0) := by rw [cblk_cell g2]; rfl
  have m1 : w5.cell? ⟨b + 2, 1, none⟩ = some (.int .i64 0) := by rw [cblk_cell g2]; rfl
  have m2 : w5.cell? ⟨b + 2, 2, none⟩ = some (.int .i64 0) := by rw [cblk_cell g2]; rfl
  have m3 : w5.cell? ⟨b + 2, 3, none⟩ = some (.int .i64 0) := by rw [cblk_cell g2]; rfl
  have n0 := cblk_free g2 0
  have n1 := cblk_free g2 1
  have n2 := cblk_free g2 2
  have n3 := cblk_free g2 3
  go_wp2_with fail
  refine HQ.out _ _ ⟨rfl, ?_, ?_, ?_⟩
  ·exact (((((hB.mono (show b ≤ W.heap.size by omega)).setCell (p := ⟨b + 1, 0, none⟩) (Nat.le_add_right b 1) _).setCell (p := ⟨b + 2, 0, none⟩) (Nat.le_add_right b 2) _).setCell (p := ⟨b + 2, 1, none⟩) (Nat.le_add_right b 2) _).setCell (p := ⟨b + 2, 2, none⟩) (Nat.le_add_right b 2) _).setCell (p := ⟨b + 2, 3, none⟩) (Nat.le_add_right b 2) _
  ·rw [Below.heap_setCell _ _ _ _ (show b + 1 ≠ b + 2 by omega), Below.heap_setCell _ _ _ _ (show b + 1 ≠ b + 2 by omega), Below.heap_setCell _ _ _ _ (show b + 1 ≠ b + 2 by omega), Below.heap_setCell _ _ _ _ (show b + 1 ≠ b + 2 by omega)]
   exact cblk_set g1 0 _
  ·exact cblk_set (cblk_set (cblk_set (cblk_set ((Below.heap_setCell _ _ _ _ (show b + 2 ≠ b + 1 by omega)).trans g2) 0 (.int .i64 r1)) 1 (.int .i64 r2)) 2 (.int .i64 r3)) 3 (.int .i64 r4)
 ·rintro a' w' ⟨h1, h2⟩
  exact ⟨h1, _, rfl, _, results_none rfl _ _ _, rfl, rfl, h2⟩
set_option maxRecDepth 100000 in
set_option maxHeartbeats 8000000 in
/-- .. where nothing was thrown. -/
theorem catch_idle (b : Nat) (W : World) :
  CallsD Tryd.prog 52 #[.pointer (some ⟨b, 0, none⟩), .pointer (some ⟨b + 1, 0, none⟩), .pointer (some ⟨b + 2, 0, none⟩)] .returning W fun e u' w' =>
   e = .returned (.tuple #[]) ∧ u' = .returning ∧ Below W.heap.size W w' := by
 refine callsD_of_wpS Tryd.func52 rfl fun c₀ cs hu => ?_
 simp only [Tryd.ntmps52, List.size_toArray, List.length_cons, List.length_nil, Nat.reduceAdd, Nat.reduceSub, Array.replicate_succ, Array.replicate_zero, List.push_toArray, List.append_toArray, List.nil_append, List.cons_append]
 apply wpS_seq
 apply wpS_region
 simp [wpOpsS, go_sem, recoverD, hu, Exit.thenS]
 refine wpS_of_wp ?_
 refine wpQ (fun a' w' => a'.defers = [] ∧ Below W.heap.size W w') ?_ ?_
 ·intro Q' hQ'
  have HQ := Lib.hid hQ'
  clear hQ' hu
  have hta := tassert_nil
  go_wp2_with fail
  exact HQ.out _ _ ⟨rfl, below_alloc (Below.refl _ _) _⟩
 ·rintro a' w' ⟨h1, h2⟩
  cases c₀
  exact ⟨h1, _, by simp_all, _, results_none rfl _ _ _, rfl, rfl, h2⟩
theorem rowS_drop {L : List Int} : ∀ (k : Nat) (acc : List S57) (i : Nat) (r : List S57) (l2 : List Int) (j : Nat), i ≤ L.length → rowS k acc (L.drop i) i = .inr (r, l2, j) → l2 = L.drop j ∧ j ≤ L.length
 | 0, _, _, _, _, _, _, h => by cases h
 | k + 1, acc, i, r, l2, j, hi, h => by
  rw [rowS] at h
  cases hf : fieldS (L.drop i) i with
  | inl e => rw [hf] at h; cases h
  | inr p =>
   rw [hf] at h
   obtain ⟨_, _, h3⟩ := fieldS_len hf
   rw [List.length_drop] at h3
   simp only [List.drop_drop] at h
   by_cases h44 : (L.drop (i + p.2)).take 1 = [44]
   ·rw [if_pos h44] at h
    have h5 := congrArg List.length h44
    rw [List.length_take, List.length_drop] at h5
    simp at h5
    exact rowS_drop k _ (i + p.2 + 1) r l2 j (by omega) h
   ·rw [if_neg h44] at h
    have h6 := Prod.mk.inj (Sum.inr.inj h)
    obtain ⟨h7, h8⟩ := Prod.mk.inj h6.2
    have h9 := lend_le (L.drop (i + p.2))
    rw [List.length_drop] at h9
    subst h7
    subst h8
    exact ⟨by congr 1; omega, by omega⟩
/-- One row more. -/
theorem wholeS_step {L : List Int} {n i : Nat} {rows : List (List S57)} (hi : i < L.length) (hn : rows.length + n = 513) :
  (∃ e, rowR rows (L.drop i) i = .inl e ∧ wholeS n rows (L.drop i) i = .inl e) ∨ (∃ r j m, rowR rows (L.drop i) i = .inr (r, j) ∧ n = m + 1 ∧ j ≤ L.length ∧ wholeS n rows (L.drop i) i = wholeS m (rows ++ [r]) (L.drop j) j) := by
 have hne : L.drop i ≠ [] := by
  intro h
  have := congrArg List.length h
  rw [List.length_drop] at this
  simp at this; omega
 unfold rowR
 cases n with
 | zero => exact .inl ⟨(2, i), by rw [if_pos (by omega)], by rw [wholeS, if_neg hne]⟩
 | succ m =>
  rw [if_neg (by omega), wholeS, if_neg hne]
  cases hr : rowS 64 [] (L.drop i) i with
  | inl e => exact .inl ⟨e, rfl, rfl⟩
  | inr x =>
   obtain ⟨r, l2, j⟩ := x
   obtain ⟨h1, h2⟩ := rowS_drop 64 [] i r l2 j (by omega) hr
   by_cases hc : rows ≠ [] ∧ r.length ≠ (rows.headD []).length
   ·exact .inl ⟨(7, i), by simp only; rw [if_pos hc], by simp only; rw [if_pos hc]⟩
   ·exact .inr ⟨r, j, m, by simp only; rw [if_neg hc], rfl, h2, by simp only; rw [if_neg hc, h1]⟩
/-- The state of the loop over the rows. -/
def WInv (w : World) (g : Nat) (text : ByteArray) (res : (Int × Nat) ⊕ List (List S57)) (k : Nat) (wx : World) : Prop :=
 ∃ (n i : Nat) (rows : List (List S57)) (rv : Value), k = n + 1 ∧ Cur wx g text i rv ∧ Kd.S (Kd.slice 57 k57) 55 wx g (fun k => k ≠ g) rv rows ∧ Below g w wx ∧ rows.length + n = 513 ∧ i ≤ text.size ∧ res = wholeS n rows ((bytesOf text).drop i) i
theorem wstores {W : World} {b1 b2 : Nat} (hne : b1 ≠ b2) {v v0 : Value} (h1 : W.heap[b1]? = some (.cells #[v0] 52 (0, 0))) (h2 : W.heap[b2]? = some (.cells #[.int .i64 0, .int .i64 0, .int .i64 0, .int .i64 0] 30 (0, 0))) (B : Nat) (hB1 : B ≤ b1) (hB2 : B ≤ b2) :
  (((((W.setCell ⟨b1, 0, none⟩ v).setCell ⟨b2, 0, none⟩ (.int .i64 0)).setCell ⟨b2, 1, none⟩ (.int .i64 0)).setCell ⟨b2, 2, none⟩ (.int .i64 0)).setCell ⟨b2, 3, none⟩ (.int .i64 0)).heap[b1]? = some (.cells #[v] 52 (0, 0)) ∧
  (((((W.setCell ⟨b1, 0, none⟩ v).setCell ⟨b2, 0, none⟩ (.int .i64 0)).setCell ⟨b2, 1, none⟩ (.int .i64 0)).setCell ⟨b2, 2, none⟩ (.int .i64 0)).setCell ⟨b2, 3, none⟩ (.int .i64 0)).heap[b2]? = some (.cells #[.int .i64 0, .int .i64 0, .int .i64 0, .int .i64 0] 30 (0, 0)) ∧
  Below B W (((((W.setCell ⟨b1, 0, none⟩ v).setCell ⟨b2, 0, none⟩ (.int .i64 0)).setCell ⟨b2, 1, none⟩ (.int .i64 0)).setCell ⟨b2, 2, none⟩ (.int .i64 0)).setCell ⟨b2, 3, none⟩ (.int .i64 0)) ∧
  (∀ k, k ≠ b1 → k ≠ b2 → (((((W.setCell ⟨b1, 0, none⟩ v).setCell ⟨b2, 0, none⟩ (.int .i64 0)).setCell ⟨b2, 1, none⟩ (.int .i64 0)).setCell ⟨b2, 2, none⟩ (.int .i64 0)).setCell ⟨b2, 3, none⟩ (.int .i64 0)).heap[k]? = W.heap[k]?) := by
 refine ⟨?_, ?_, ?_, ?_⟩
 ·rw [Below.heap_setCell _ _ _ _ hne, Below.heap_setCell _ _ _ _ hne, Below.heap_setCell _ _ _ _ hne, Below.heap_setCell _ _ _ _ hne]
  exact cblk_set h1 0 v
 ·exact cblk_set (cblk_set (cblk_set (cblk_set ((Below.heap_setCell _ _ _ _ (Ne.symm hne)).trans h2) 0 (.int .i64 0)) 1 (.int .i64 0)) 2 (.int .i64 0)) 3 (.int .i64 0)
 ·exact (((((Below.refl B W).setCell (p := ⟨b1, 0, none⟩) hB1 _).setCell (p := ⟨b2, 0, none⟩) hB2 _).setCell (p := ⟨b2, 1, none⟩) hB2 _).setCell (p := ⟨b2, 2, none⟩) hB2 _).setCell (p := ⟨b2, 3, none⟩) hB2 _
 ·intro k n1 n2
  rw [Below.heap_setCell _ _ _ _ n2, Below.heap_setCell _ _ _ _ n2, Below.heap_setCell _ _ _ _ n2, Below.heap_setCell _ _ _ _ n2, Below.heap_setCell _ _ _ _ n1]
theorem wresults (tmps : Array Value) (w : World) (b1 b2 : Nat) (v : Value) (r1 r2 r3 r4 : Int) (h2 : tmps.getD 2 undef = .pointer (some ⟨b1, 0, none⟩)) (h3 : tmps.getD 3 undef = .pointer (some ⟨b2, 0, none⟩))
  (g1 : w.heap[b1]? = some (.cells #[v] 52 (0, 0))) (g2 : w.heap[b2]? = some (.cells #[.int .i64 r1, .int .i64 r2, .int .i64 r3, .int .i64 r4] 30 (0, 0))) :
  (results Tryd.f37 tmps).run Tryd.prog w = .ok (.tuple #[v, .agg #[.int .i64 r1, .int .i64 r2, .int .i64 r3, .int .i64 r4]]) w := by
 have c1 : w.cell? ⟨b1, 0, none⟩ = some v := by rw [cblk_cell g1]; rfl
 have hr : Tryd.f37.results = [.cell 2 52, .cell 3 30].toArray := rfl
 have hl := run_loadVar_row (P := Tryd.prog) w b2 30 30 _ (0, 0) _ g2 Tryd.underlying30 rfl (by kernel_rfl)
 have hl1 : (loadVar 52 ⟨b1, 0, none⟩).run Tryd.prog w = .ok v w := by
  simp [loadVar, go_sem, c1]
 unfold results
 rw [hr, List.mapM_toArray]
 rw [Array.getD_eq_getD_getElem?] at h2 h3
 simp [List.mapM_cons, asAddr, h2, h3, hl, hl1, Result.andThen]
/-- A fault at a place. -/
def faultR (s : ByteArray) (at_ e : Int) : Int × Int × Int × Int := (e, (clamp s.size at_ : Int), lineOf ((bytesOf s).take (clamp s.size at_)), colOf ((bytesOf s).take (clamp s.size at_)))
/-- What is answered. -/
def wholeR (a0 : ByteArray) : (Int × Nat) ⊕ List (List S57) → List (List S57) × Int × Int × Int × Int
 | .inl e => ([], faultR a0 e.2 e.1)
 | .inr rows => (rows, 0, 0, 0, 0)
def cread_whole.f (a0 : ByteArray) : Option (List (List S57) × Int × Int × Int × Int) :=
 if a0.size ≤ 70000 then some (wholeR a0 (wholeS 513 [] (bytesOf a0) 0)) else none
set_option maxRecDepth 100000 in
set_option maxHeartbeats 8000000 in
theorem cread_whole.calls (a0 : ByteArray) (r1 : List (List S57)) (r2 r3 r4 r5 : Int) (w : World) (h : cread_whole.f a0 = some (r1, r2, r3, r4, r5)) :
  Calls Tryd.prog 37 #[.string a0] w fun e w' => ∃ v0_ : Value, e = .returned (.tuple #[v0_, .agg #[.int .i64 r2, .int .i64 r3, .int .i64 r4, .int .i64 r5]]) ∧ Kd.S (Kd.slice 57 k57) 55 w' w.heap.size (fun _ => True) v0_ r1 ∧ Below w.heap.size w w' := by
 have hmf : ∀ (fn : Fn) (first cap : Array Value) (w : World), (Instr.makeFunc fn first cap).run Tryd.prog w = .ok (.func fn first cap) w := fun _ _ _ _ => rfl
 unfold cread_whole.f at h
 by_cases hs : a0.size ≤ 70000
 ·rw [if_pos hs] at h
  obtain ⟨res, hres⟩ : ∃ res, wholeS 513 [] (bytesOf a0) 0 = res := ⟨_, rfl⟩
  rw [hres] at h
  have H := Lib.hid (Option.some.inj h)
  have HRES := Lib.hid hres
  clear h hres
  go_enter_defers Tryd.func37, Tryd.ntmps37
  go_wp2_with fail
  have hB4 : Below w.heap.size w ((((w.alloc (.cells #[.string a0] 9)).alloc (.cells #[.slice none 0 0] 52)).alloc (.cells #[.int .i64 0, .int .i64 0, .int .i64 0, .int .i64 0] 30)).alloc (.cells #[.string a0, .int .i64 0, .slice none 0 0] 89)) :=
   below_alloc (below_alloc (below_alloc (below_alloc (Below.refl _ _) _) _) _) _
  have hz0 : (w.alloc (.cells #[.string a0] 9)).heap.size = w.heap.size + 1 := Array.size_push _
  have hz1 : ((w.alloc (.cells #[.string a0] 9)).alloc (.cells #[.slice none 0 0] 52)).heap.size = w.heap.size + 1 + 1 := by rw [← hz0]; exact Array.size_push _
  have hz2 : (((w.alloc (.cells #[.string a0] 9)).alloc (.cells #[.slice none 0 0] 52)).alloc (.cells #[.int .i64 0, .int .i64 0, .int .i64 0, .int .i64 0] 30)).heap.size = w.heap.size + 1 + 1 + 1 := by rw [← hz1]; exact Array.size_push _
  have hnew : ∀ (W : World) (o : Obj), (W.alloc o).heap[W.heap.size]? = some o := fun W o => Array.getElem?_push_size
  have hold : ∀ (W : World) (o : Obj) (k : Nat), k < W.heap.size → (W.alloc o).heap[k]? = W.heap[k]? := fun W o k hk => Below.heap_alloc W o k hk
  have g3 := hnew (((w.alloc (.cells #[.string a0] 9)).alloc (.cells #[.slice none 0 0] 52)).alloc (.cells #[.int .i64 0, .int .i64 0, .int .i64 0, .int .i64 0] 30)) (.cells #[.string a0, .int .i64 0, .slice none 0 0] 89)
  rw [hz2] at g3
  have g2 := (hold (((w.alloc (.cells #[.string a0] 9)).alloc (.cells #[.slice none 0 0] 52)).alloc (.cells #[.int .i64 0, .int .i64 0, .int .i64 0, .int .i64 0] 30)) (.cells #[.string a0, .int .i64 0, .slice none 0 0] 89) (w.heap.size + 1 + 1) (by omega)).trans (show _ = some (.cells #[.int .i64 0, .int .i64 0, .int .i64 0, .int .i64 0] 30 (0, 0)) from by
   have h := hnew ((w.alloc (.cells #[.string a0] 9)).alloc (.cells #[.slice none 0 0] 52)) (.cells #[.int .i64 0, .int .i64 0, .int .i64 0, .int .i64 0] 30)
   rw [hz1] at h
   exact h)
  have g1 := (hold (((w.alloc (.cells #[.string a0] 9)).alloc (.cells #[.slice none 0 0] 52)).alloc (.cells #[.int .i64 0, .int .i64 0, .int .i64 0, .int .i64 0] 30)) (.cells #[.string a0, .int .i64 0, .slice none 0 0] 89) (w.heap.size + 1) (by omega)).trans ((hold ((w.alloc (.cells #[.string a0] 9)).alloc (.cells #[.slice none 0 0] 52)) (.cells #[.int .i64 0, .int .i64 0, .int .i64 0, .int .i64 0] 30) (w.heap.size + 1) (by omega)).trans (show _ = some (.cells #[.slice none 0 0] 52 (0, 0)) from by
   have h := hnew (w.alloc (.cells #[.string a0] 9)) (.cells #[.slice none 0 0] 52)
   rw [hz0] at h
   exact h))
  have g0 := (hold (((w.alloc (.cells #[.string a0] 9)).alloc (.cells #[.slice none 0 0] 52)).alloc (.cells #[.int .i64 0, .int .i64 0, .int .i64 0, .int .i64 0] 30)) (.cells #[.string a0, .int .i64 0, .slice none 0 0] 89) w.heap.size (by omega)).trans ((hold ((w.alloc (.cells #[.string a0] 9)).alloc (.cells #[.slice none 0 0] 52)) (.cells #[.int .i64 0, .int .i64 0, .int .i64 0, .int .i64 0] 30) w.heap.size (by omega)).trans ((hold (w.alloc (.cells #[.string a0] 9)) (.cells #[.slice none 0 0] 52) w.heap.size (by omega)).trans (hnew w (.cells #[.string a0] 9))))
  generalize (((w.alloc (.cells #[.string a0] 9)).alloc (.cells #[.slice none 0 0] 52)).alloc (.cells #[.int .i64 0, .int .i64 0, .int .i64 0, .int .i64 0] 30)).alloc (.cells #[.string a0, .int .i64 0, .slice none 0 0] 89) = w4 at hB4 g0 g1 g2 g3 ⊢
  clear hz0 hz1 hz2 hnew hold
  go_loopg [] 514 (fun k wx => WInv w4 (w.heap.size + 1 + 1 + 1) a0 res k wx)
  case atStart => exact ⟨513, 0, [], .slice none 0 0, rfl, g3, Kd.S_nil _ _ _ _ _, Below.refl _ _, rfl, by omega, by rw [List.drop_zero]; exact HRES.out.symm⟩
  case round =>
   obtain ⟨n, i, rows, rv, hk, hC, hS, hB, hn, hi, hr⟩ := hrel
   have HR := Lib.hid hr
   have HK := Lib.hid hk
   clear hr hk
   have b0 := (hB.block w.heap.size (by omega)).trans g0
   have b1 := (hB.block (w.heap.size + 1) (by omega)).trans g1
   have b2 := (hB.block (w.heap.size + 1 + 1) (by omega)).trans g2
   obtain ⟨c0, c1, c2, f1, f2, hlt⟩ := hC.open_
   have t0 : wr.cell? ⟨w.heap.size, 0, none⟩ = some (.string a0) := by rw [cblk_cell b0]; rfl
   by_cases hlt2 : i < a0.size
   ·have e1 : decide ((i : Int) < (a0.size : Int)) = true := decide_eq_true (by omega)
    go_wp2_with fail
    go_quiet (fail)
    go_wp2_with fail
    refine (crow (hC.drewN nq) (Kd.S_drewN hS nq) (Nat.le_refl _) hi hs (by omega)).mono ?_
    rintro e w5 ⟨hB5, hrr⟩
    have hB6 := (pw_below_drewN hB nq).trans hB5
    rcases wholeS_step (L := bytesOf a0) (n := n) (i := i) (rows := rows) (by rw [size_of]; exact hlt2) hn with ⟨e, h1, h2⟩ | ⟨r, j, m, h1, hnm, hj, h2⟩
    ·rw [h1] at hrr
     obtain rfl := hrr
     have hres := HR.out.trans h2
     have HH := H.out
     rw [hres] at HH
     have hf := fault_ev a0 (by omega) e.2 e.1
     obtain ⟨K, hK⟩ := hf
     have b0' := (hB6.block w.heap.size (by omega)).trans g0
     have b1' := (hB6.block (w.heap.size + 1) (by omega)).trans g1
     have b2' := (hB6.block (w.heap.size + 1 + 1) (by omega)).trans g2
     refine leaves_cons (f := 52) (args := #[.pointer (some ⟨w.heap.size, 0, none⟩), .pointer (some ⟨w.heap.size + 1, 0, none⟩), .pointer (some ⟨w.heap.size + 1 + 1, 0, none⟩)]) (by simp) (by simp [go_sem]) ?_
     refine (catch_thrown [] (hK K (Nat.le_refl _)) b0' b1' b2').mono ?_
     rintro e7 u7 w7 ⟨rfl, rfl, hB7, h7, h8⟩
     refine ⟨_, wresults _ w7 _ _ _ _ _ _ _ rfl rfl h7 h8, ?_⟩
     obtain ⟨q1, q2⟩ := Prod.mk.inj HH
     obtain ⟨q2, q3⟩ := Prod.mk.inj q2
     obtain ⟨q3, q4⟩ := Prod.mk.inj q3
     obtain ⟨q4, q5⟩ := Prod.mk.inj q4
     subst q1
     exact ⟨_, by rw [← q2, ← q3, ← q4, ← q5], Kd.S_nil _ _ _ _ _, hB4.trans ((hB6.mono (by omega)).trans hB7)⟩
    ·rw [h1] at hrr
     obtain ⟨rfl, rv', hC5, hS5⟩ := hrr
     have hk := HK.out
     subst hnm
     subst hk
     go_wp2_with fail
     go_roundg (m + 1)
     case rel => exact ⟨m, j, rows ++ [r], rv', rfl, hC5, hS5, hB6, by rw [List.length_append]; simp; omega, by rw [size_of] at hj; exact hj, HR.out.trans h2⟩
     case measure => omega
   ·have e1 : decide ((i : Int) < (a0.size : Int)) = false := decide_eq_false (by omega)
    obtain ⟨RA, RC, hrv, _, _⟩ := Kd.S_reads hS
    have HRV := Lib.hid hrv
    subst hrv
    have k1 : wr.cell? ⟨w.heap.size + 1, 0, none⟩ = some (.slice none 0 0) := by rw [cblk_cell b1]; rfl
    have k2 := cblk_free b1 0
    have m0 : wr.cell? ⟨w.heap.size + 1 + 1, 0, none⟩ = some (.int .i64 0) := by rw [cblk_cell b2]; rfl
    have m1 : wr.cell? ⟨w.heap.size + 1 + 1, 1, none⟩ = some (.int .i64 0) := by rw [cblk_cell b2]; rfl
    have m2 : wr.cell? ⟨w.heap.size + 1 + 1, 2, none⟩ = some (.int .i64 0) := by rw [cblk_cell b2]; rfl
    have m3 : wr.cell? ⟨w.heap.size + 1 + 1, 3, none⟩ = some (.int .i64 0) := by rw [cblk_cell b2]; rfl
    have n0 := cblk_free b2 0
    have n1 := cblk_free b2 1
    have n2 := cblk_free b2 2
    have n3 := cblk_free b2 3
    go_wp2_with fail
    go_quiet (fail)
    go_wp2_with fail
    have hil : i = a0.size := by omega
    have hres : res = .inr rows := by
     rw [HR.out, List.drop_eq_nil_of_le (by rw [size_of]; omega)]
     cases n <;> rfl
    have HH := H.out
    rw [hres] at HH
    obtain ⟨q1, q2⟩ := Prod.mk.inj HH
    obtain ⟨q2, q3⟩ := Prod.mk.inj q2
    obtain ⟨q3, q4⟩ := Prod.mk.inj q3
    obtain ⟨q4, q5⟩ := Prod.mk.inj q4
    subst q1
    refine leaves_cons (f := 52) (args := #[.pointer (some ⟨w.heap.size, 0, none⟩), .pointer (some ⟨w.heap.size + 1, 0, none⟩), .pointer (some ⟨w.heap.size + 1 + 1, 0, none⟩)]) (by simp) (by simp [go_sem]) ?_
    refine (catch_idle w.heap.size _).mono ?_
    rintro e7 u7 w7 ⟨rfl, rfl, hB7⟩
    obtain ⟨p1, p2, p3, p4⟩ := wstores (W := wr.drewN nq) (b1 := w.heap.size + 1) (b2 := w.heap.size + 1 + 1) (by omega) (v := .slice RA rows.length RC) b1 b2 w.heap.size (by omega) (by omega)
    have s1 := Kd.S_mono (Kd.S_step (Kd.S_bound (Kd.S_drewN hS nq)) (fun k hk _ => p4 k (by have := hk.2.1; omega) (by have := hk.2.1; omega))) (fun k hk => hk.1)
    have s2 := Kd.S_mono (Kd.S_lower (Kd.S_below s1 hB7) (show w.heap.size ≤ w.heap.size + 1 + 1 + 1 by omega)) (fun _ _ => trivial)
    have hlt1 := cblk_lt p1
    have hlt2 := cblk_lt p2
    refine ⟨_, wresults _ w7 _ _ _ _ _ _ _ rfl rfl ((hB7.block _ hlt1).trans p1) ((hB7.block _ hlt2).trans p2), ?_⟩
    exact ⟨_, by rw [← q2, ← q3, ← q4, ← q5], s2, hB4.trans (((pw_below_drewN (hB.mono (by omega)) nq).trans p3).trans (hB7.mono (Nat.le_trans hB4.size (Nat.le_trans hB.size p3.size))))⟩
 ·rw [if_neg hs] at h
  cases h
end Go.Proofs.YtjmmdphkgioooaaDoor.P
end
section
namespace Go.Proofs.YtjmmdphkgioooaaDoor.P
open Go.RowKit Go.Proofs.YtjmmdphkgioooaaDoorW.PrintWords Go.Proofs.YtjmmdphkgioooaaDoorW.PrintLast Go.Proofs.YtjmmdphkgioooaaDoorW.PrintMore
attribute [local go_sem] max2_int min2_int max_two min_two max_three min_three max_four min_four   -- for this text's walks alone
set_option linter.unusedVariables false
set_option linter.unusedSimpArgs false
/-! ### jlex_Judge: function 36 -/
def jlex_Judge.f (k : Nat) (a0 : ByteArray) : Option (Int × Int × Int × Int) := if (a0.size : Int) > 65536 then ((place_Fault.f k a0 (a0.size : Int) 2).bind fun bt227 => (some (bt227.1, bt227.2.1, bt227.2.2.1, bt227.2.2.2))) else ((utf_Valid.f k a0).bind fun bt231 => (if bt231.2 = true then (some (0, 0, 0, 0)) else ((place_Fault.f k a0 bt231.1 3).bind fun bt233 => (some (bt233.1, bt233.2.1, bt233.2.2.1, bt233.2.2.2)))))
set_option maxHeartbeats 8000000 in
set_option maxRecDepth 100000 in
theorem jlex_Judge.calls (k : Nat) (a0 : ByteArray) (r1 : Int) (r2 : Int) (r3 : Int) (r4 : Int) (w : World) (h : jlex_Judge.f k a0 = some (r1, r2, r3, r4)) :
  Calls Tryd.prog 36 #[.string a0] w fun e w' => e = .returned (.agg #[.int .i64 r1, .int .i64 r2, .int .i64 r3, .int .i64 r4]) ∧ Below w.heap.size w w' := by
 have hu30 := Tryd.underlying30
 have HB := Aside0.mk (Below.refl w.heap.size w)
 have H : (if (a0.size : Int) > 65536 then ((place_Fault.f k a0 (a0.size : Int) 2).bind fun bt227 => (some (bt227.1, bt227.2.1, bt227.2.2.1, bt227.2.2.2))) else ((utf_Valid.f k a0).bind fun bt231 => (if bt231.2 = true then (some (0, 0, 0, 0)) else ((place_Fault.f k a0 bt231.1 3).bind fun bt233 => (some (bt233.1, bt233.2.1, bt233.2.2.1, bt233.2.2.2)))))) = some (r1, r2, r3, r4) := h
 clear h
 by_cases c2 : (a0.size : Int) > 65536
 ·rw [if_pos c2] at H
  have c2b0 : decide (65536 < (a0.size : Int)) = true := decide_eq_true c2
  have c2b1 : decide (65536 < a0.size) = true := decide_eq_true (by omega)
  clear c2
  replace H := Option.bind_eq_some_iff.mp H
  obtain ⟨⟨t227, t228, t229, t230⟩, A30, H⟩ := H
  replace H : (some (t227, t228, t229, t230)) = some (r1, r2, r3, r4) := H
  have A3 := Aside0.mk A30
  clear A30
  simp only [Option.some.injEq, Prod.mk.injEq] at H
  obtain ⟨rfl, rfl, rfl, rfl⟩ := H
  go_enter Tryd.func36, Tryd.ntmps36
  go_wp2_with (first | ((with_reducible refine gate_dst (N := 2) rfl ?_); refine box_event ?hg (N := 2) ?hd (cs := #[.int .i64 0, .int .i64 0, .int .i64 0, .int .i64 0]) (t := 30) ?hr ?_; (case hd => rfl); (case hg => rfl); (case hr => first | (go_simp; done) | (go_simp; rfl)); intro gb226 hg w4 hbox hb; have n0_ := Aside0.mk (below_step (by repeat (first | (with_reducible first | exact HB.out | apply below_alloc | apply pw_below_drewN | apply below_drew1) | exact HB.out)) hb); have n1_ := Aside0.mk (hbox); have n2_ := Aside0.mk ((by rw [hg]; exact (below_size (by repeat (first | (with_reducible first | exact HB.out | apply below_alloc | apply pw_below_drewN | apply below_drew1) | exact HB.out))) : w.heap.size ≤ gb226)); have n3_ := Aside0.mk ((by rw [hg]; exact (below_size (by repeat (first | (with_reducible first | exact HB.out | apply below_alloc | apply pw_below_drewN | apply below_drew1) | exact HB.out))) : w.heap.size ≤ gb226)); clear HB; have HB := n0_; have BK226 := n1_; have GW226 := n2_; have GE226 := n3_; clear n0_ n1_ n2_ n3_; clear hb hbox hg) | ((with_reducible refine gate_callee (f := 51) rfl ?_); refine goesL_ (some 11) rfl rfl Tryd.func51 (by kernel_rfl) rfl #[.string a0, .int .i64 (a0.size : Int), .int .i64 2] rfl (by (try simp only [List.map_toArray, List.map_cons, List.map_nil]); first | done | rfl | (simp only [List.length_drop, List.length_take]; rfl)) ?_; (with_reducible refine (place_Fault.calls k a0 (a0.size : Int) 2 t227 t228 t229 t230 _ A3.out).mono ?_); rintro e w5 ⟨rfl, hb⟩; refine ⟨_, rfl, ?_⟩; have n0_ := Aside0.mk (blk_below (g := gb226) (o := .cells #[.int .i64 0, .int .i64 0, .int .i64 0, .int .i64 0] 30 (0, 0)) (by (with_reducible repeat (first | refine blk_drewN ?_ _ | refine blk_drew ?_ | refine blk_alloc ?_ _)); exact BK226.out) hb); have n1_ := Aside0.mk (below_step (by repeat (first | (with_reducible first | exact HB.out | apply below_alloc | apply pw_below_drewN | apply below_drew1 | refine below_set ?_ GE226.out) | exact HB.out)) hb); clear BK226; clear HB; have BK226 := n0_; have HB := n1_; clear n0_ n1_; (try clear hb); (try clear hb2); (try clear hk); (try clear hi); have hcz6_0 : w5.cell? ⟨gb226, 0, none⟩ = some (.int .i64 0) := (blk_cell BK226.out 0).trans rfl; have hcz6_1 : w5.cell? ⟨gb226, 1, none⟩ = some (.int .i64 0) := (blk_cell BK226.out 1).trans rfl; have hcz6_2 : w5.cell? ⟨gb226, 2, none⟩ = some (.int .i64 0) := (blk_cell BK226.out 2).trans rfl; have hcz6_3 : w5.cell? ⟨gb226, 3, none⟩ = some (.int .i64 0) := (blk_cell BK226.out 3).trans rfl; have hfz6_0 := blk_frozen BK226.out 0; have hfz6_1 := blk_frozen BK226.out 1; have hfz6_2 := blk_frozen BK226.out 2; have hfz6_3 := blk_frozen BK226.out 3))
  refine bodyPost_ret (results_cell_row rfl _ _ gb226 30 #[.int .i64 t227, .int .i64 t228, .int .i64 t229, .int .i64 t230] (0, 0) _ rfl (by (with_reducible repeat (first | refine blk_drewN ?_ _ | refine blk_drew ?_ | refine blk_alloc ?_ _)); refine blk_put (cs := #[.int .i64 t227, .int .i64 t228, .int .i64 t229, .int .i64 0]) ?_ 3 _ rfl; (with_reducible repeat (first | refine blk_drewN ?_ _ | refine blk_drew ?_ | refine blk_alloc ?_ _)); refine blk_put (cs := #[.int .i64 t227, .int .i64 t228, .int .i64 0, .int .i64 0]) ?_ 2 _ rfl; (with_reducible repeat (first | refine blk_drewN ?_ _ | refine blk_drew ?_ | refine blk_alloc ?_ _)); refine blk_put (cs := #[.int .i64 t227, .int .i64 0, .int .i64 0, .int .i64 0]) ?_ 1 _ rfl; (with_reducible repeat (first | refine blk_drewN ?_ _ | refine blk_drew ?_ | refine blk_alloc ?_ _)); refine blk_put (cs := #[.int .i64 0, .int .i64 0, .int .i64 0, .int .i64 0]) ?_ 0 _ rfl; (with_reducible repeat (first | refine blk_drewN ?_ _ | refine blk_drew ?_ | refine blk_alloc ?_ _)); exact BK226.out) Tryd.underlying30 rfl (by kernel_rfl)) rfl ?_
  exact ⟨by first | rfl | (simp [errW_none, errW_some] <;> rfl) | (simp [*, errW_none, errW_some, bne]; done) | (simp [*, errW_none, errW_some] <;> rfl), by repeat (first | (with_reducible first | exact HB.out | apply below_alloc | apply pw_below_drewN | apply below_drew1 | refine below_set ?_ GE226.out) | exact HB.out)⟩
 ·rw [if_neg c2] at H
  have c2b0 : decide (65536 < (a0.size : Int)) = false := decide_eq_false c2
  have c2b1 : decide (65536 < a0.size) = false := decide_eq_false (by omega)
  clear c2
  replace H := Option.bind_eq_some_iff.mp H
  obtain ⟨⟨t231, t232⟩, A70, H⟩ := H
  replace H : (if t232 = true then (some (0, 0, 0, 0)) else ((place_Fault.f k a0 t231 3).bind fun bt233 => (some (bt233.1, bt233.2.1, bt233.2.2.1, bt233.2.2.2)))) = some (r1, r2, r3, r4) := H
  have A7 := Aside0.mk A70
  clear A70
  by_cases c8 : t232 = true
  ·subst c8
   have H1 : (some (0, 0, 0, 0)) = some (r1, r2, r3, r4) := by rw [if_pos rfl] at H; exact H
   clear H
   have H := H1
   clear H1
   simp only [Option.some.injEq, Prod.mk.injEq] at H
   obtain ⟨rfl, rfl, rfl, rfl⟩ := H
   go_enter Tryd.func36, Tryd.ntmps36
   go_wp2_with (first | ((with_reducible refine gate_dst (N := 2) rfl ?_); refine box_event ?hg (N := 2) ?hd (cs := #[.int .i64 0, .int .i64 0, .int .i64 0, .int .i64 0]) (t := 30) ?hr ?_; (case hd => rfl); (case hg => rfl); (case hr => first | (go_simp; done) | (go_simp; rfl)); intro gb226 hg w9 hbox hb; have n0_ := Aside0.mk (below_step (by repeat (first | (with_reducible first | exact HB.out | apply below_alloc | apply pw_below_drewN | apply below_drew1) | exact HB.out)) hb); have n1_ := Aside0.mk (hbox); have n2_ := Aside0.mk ((by rw [hg]; exact (below_size (by repeat (first | (with_reducible first | exact HB.out | apply below_alloc | apply pw_below_drewN | apply below_drew1) | exact HB.out))) : w.heap.size ≤ gb226)); have n3_ := Aside0.mk ((by rw [hg]; exact (below_size (by repeat (first | (with_reducible first | exact HB.out | apply below_alloc | apply pw_below_drewN | apply below_drew1) | exact HB.out))) : w.heap.size ≤ gb226)); clear HB; have HB := n0_; have BK226 := n1_; have GW226 := n2_; have GE226 := n3_; clear n0_ n1_ n2_ n3_; clear hb hbox hg) | ((with_reducible refine gate_callee (f := 19) rfl ?_); refine goesL_ (some 14) rfl rfl Tryd.func19 (by kernel_rfl) rfl #[.string a0] rfl (by (try simp only [List.map_toArray, List.map_cons, List.map_nil]); first | done | rfl | (simp only [List.length_drop, List.length_take]; rfl)) ?_; (with_reducible refine (utf_Valid.calls k a0 t231 true _ A7.out).mono ?_); rintro e w' ⟨rfl, ⟨nd, rfl⟩⟩; refine ⟨_, rfl, ?_⟩; (try (rw [drewN_self w9]; generalize hq_ : World.drewN w9 _ = w9; have n0_ : Aside0 (w9.heap[gb226]? = some (.cells #[.int .i64 0, .int .i64 0, .int .i64 0, .int .i64 0] 30 (0, 0))) := ⟨by rw [← hq_]; exact (by (with_reducible repeat (first | refine blk_drewN ?_ _ | refine blk_drew ?_ | refine blk_alloc ?_ _)); exact BK226.out)⟩; have n1_ : Aside0 (Below w.heap.size w w9) := ⟨by rw [← hq_]; exact (by repeat (first | (with_reducible first | exact HB.out | apply below_alloc | apply pw_below_drewN | apply below_drew1 | refine below_set ?_ GE226.out) | exact HB.out))⟩; clear BK226 HB hq_; have BK226 := n0_; have HB := n1_; clear n0_ n1_)); have hcz10_0 : w9.cell? ⟨gb226, 0, none⟩ = some (.int .i64 0) := (blk_cell BK226.out 0).trans rfl; have hcz10_1 : w9.cell? ⟨gb226, 1, none⟩ = some (.int .i64 0) := (blk_cell BK226.out 1).trans rfl; have hcz10_2 : w9.cell? ⟨gb226, 2, none⟩ = some (.int .i64 0) := (blk_cell BK226.out 2).trans rfl; have hcz10_3 : w9.cell? ⟨gb226, 3, none⟩ = some (.int .i64 0) := (blk_cell BK226.out 3).trans rfl; have hfz10_0 := blk_frozen BK226.out 0; have hfz10_1 := blk_frozen BK226.out 1; have hfz10_2 := blk_frozen BK226.out 2; have hfz10_3 := blk_frozen BK226.out 3))
   refine bodyPost_ret (results_cell_row rfl _ _ gb226 30 #[.int .i64 0, .int .i64 0, .int .i64 0, .int .i64 0] (0, 0) _ rfl (by (with_reducible repeat (first | refine blk_drewN ?_ _ | refine blk_drew ?_ | refine blk_alloc ?_ _)); refine blk_put (cs := #[.int .i64 0, .int .i64 0, .int .i64 0, .int .i64 0]) ?_ 3 _ rfl; (with_reducible repeat (first | refine blk_drewN ?_ _ | refine blk_drew ?_ | refine blk_alloc ?_ _)); refine blk_put (cs := #[.int .i64 0, .int .i64 0, .int .i64 0, .int .i64 0]) ?_ 2 _ rfl; (with_reducible repeat (first | refine blk_drewN ?_ _ | refine blk_drew ?_ | refine blk_alloc ?_ _)); refine blk_put (cs := #[.int .i64 0, .int .i64 0, .int .i64 0, .int .i64 0]) ?_ 1 _ rfl; (with_reducible repeat (first | refine blk_drewN ?_ _ | refine blk_drew ?_ | refine blk_alloc ?_ _)); refine blk_put (cs := #[.int .i64 0, .int .i64 0, .int .i64 0, .int .i64 0]) ?_ 0 _ rfl; (with_reducible repeat (first | refine blk_drewN ?_ _ | refine blk_drew ?_ | refine blk_alloc ?_ _)); exact BK226.out) Tryd.underlying30 rfl (by kernel_rfl)) rfl ?_
   exact ⟨by first | rfl | (simp [errW_none, errW_some] <;> rfl) | (simp [*, errW_none, errW_some, bne]; done) | (simp [*, errW_none, errW_some] <;> rfl), by repeat (first | (with_reducible first | exact HB.out | apply below_alloc | apply pw_below_drewN | apply below_drew1 | refine below_set ?_ GE226.out) | exact HB.out)⟩
  ·replace c8 := Bool.eq_false_iff.mpr c8
   subst c8
   have H1 : ((place_Fault.f k a0 t231 3).bind fun bt233 => (some (bt233.1, bt233.2.1, bt233.2.2.1, bt233.2.2.2))) = some (r1, r2, r3, r4) := by rw [if_neg (show ¬ (false = true) by decide)] at H; exact H
   clear H
   have H := H1
   clear H1
   replace H := Option.bind_eq_some_iff.mp H
   obtain ⟨⟨t233, t234, t235, t236⟩, A110, H⟩ := H
   replace H : (some (t233, t234, t235, t236)) = some (r1, r2, r3, r4) := H
   have A11 := Aside0.mk A110
   clear A110
   simp only [Option.some.injEq, Prod.mk.injEq] at H
   obtain ⟨rfl, rfl, rfl, rfl⟩ := H
   go_enter Tryd.func36, Tryd.ntmps36
   go_wp2_with (first | ((with_reducible refine gate_dst (N := 2) rfl ?_); refine box_event ?hg (N := 2) ?hd (cs := #[.int .i64 0, .int .i64 0, .int .i64 0, .int .i64 0]) (t := 30) ?hr ?_; (case hd => rfl); (case hg => rfl); (case hr => first | (go_simp; done) | (go_simp; rfl)); intro gb226 hg w12 hbox hb; have n0_ := Aside0.mk (below_step (by repeat (first | (with_reducible first | exact HB.out | apply below_alloc | apply pw_below_drewN | apply below_drew1) | exact HB.out)) hb); have n1_ := Aside0.mk (hbox); have n2_ := Aside0.mk ((by rw [hg]; exact (below_size (by repeat (first | (with_reducible first | exact HB.out | apply below_alloc | apply pw_below_drewN | apply below_drew1) | exact HB.out))) : w.heap.size ≤ gb226)); have n3_ := Aside0.mk ((by rw [hg]; exact (below_size (by repeat (first | (with_reducible first | exact HB.out | apply below_alloc | apply pw_below_drewN | apply below_drew1) | exact HB.out))) : w.heap.size ≤ gb226)); clear HB; have HB := n0_; have BK226 := n1_; have GW226 := n2_; have GE226 := n3_; clear n0_ n1_ n2_ n3_; clear hb hbox hg) | ((with_reducible refine gate_callee (f := 19) rfl ?_); refine goesL_ (some 14) rfl rfl Tryd.func19 (by kernel_rfl) rfl #[.string a0] rfl (by (try simp only [List.map_toArray, List.map_cons, List.map_nil]); first | done | rfl | (simp only [List.length_drop, List.length_take]; rfl)) ?_; (with_reducible refine (utf_Valid.calls k a0 t231 false _ A7.out).mono ?_); rintro e w' ⟨rfl, ⟨nd, rfl⟩⟩; refine ⟨_, rfl, ?_⟩; (try (rw [drewN_self w12]; generalize hq_ : World.drewN w12 _ = w12; have n0_ : Aside0 (w12.heap[gb226]? = some (.cells #[.int .i64 0, .int .i64 0, .int .i64 0, .int .i64 0] 30 (0, 0))) := ⟨by rw [← hq_]; exact (by (with_reducible repeat (first | refine blk_drewN ?_ _ | refine blk_drew ?_ | refine blk_alloc ?_ _)); exact BK226.out)⟩; have n1_ : Aside0 (Below w.heap.size w w12) := ⟨by rw [← hq_]; exact (by repeat (first | (with_reducible first | exact HB.out | apply below_alloc | apply pw_below_drewN | apply below_drew1 | refine below_set ?_ GE226.out) | exact HB.out))⟩; clear BK226 HB hq_; have BK226 := n0_; have HB := n1_; clear n0_ n1_))) | ((with_reducible refine gate_callee (f := 51) rfl ?_); refine goesL_ (some 21) rfl rfl Tryd.func51 (by kernel_rfl) rfl #[.string a0, .int .i64 t231, .int .i64 3] rfl (by (try simp only [List.map_toArray, List.map_cons, List.map_nil]); first | done | rfl | (simp only [List.length_drop, List.length_take]; rfl)) ?_; (with_reducible refine (place_Fault.calls k a0 t231 3 t233 t234 t235 t236 _ A11.out).mono ?_); rintro e w13 ⟨rfl, hb⟩; refine ⟨_, rfl, ?_⟩; have n0_ := Aside0.mk (blk_below (g := gb226) (o := .cells #[.int .i64 0, .int .i64 0, .int .i64 0, .int .i64 0] 30 (0, 0)) (by (with_reducible repeat (first | refine blk_drewN ?_ _ | refine blk_drew ?_ | refine blk_alloc ?_ _)); exact BK226.out) hb); have n1_ := Aside0.mk (below_step (by repeat (first | (with_reducible first | exact HB.out | apply below_alloc | apply pw_below_drewN | apply below_drew1 | refine below_set ?_ GE226.out) | exact HB.out)) hb); clear BK226; clear HB; have BK226 := n0_; have HB := n1_; clear n0_ n1_; (try clear hb); (try clear hb2); (try clear hk); (try clear hi); have hcz14_0 : w13.cell? ⟨gb226, 0, none⟩ = some (.int .i64 0) := (blk_cell BK226.out 0).trans rfl; have hcz14_1 : w13.cell? ⟨gb226, 1, none⟩ = some (.int .i64 0) := (blk_cell BK226.out 1).trans rfl; have hcz14_2 : w13.cell? ⟨gb226, 2, none⟩ = some (.int .i64 0) := (blk_cell BK226.out 2).trans rfl; have hcz14_3 : w13.cell? ⟨gb226, 3, none⟩ = some (.int .i64 0) := (blk_cell BK226.out 3).trans rfl; have hfz14_0 := blk_frozen BK226.out 0; have hfz14_1 := blk_frozen BK226.out 1; have hfz14_2 := blk_frozen BK226.out 2; have hfz14_3 := blk_frozen BK226.out 3))
   refine bodyPost_ret (results_cell_row rfl _ _ gb226 30 #[.int .i64 t233, .int .i64 t234, .int .i64 t235, .int .i64 t236] (0, 0) _ rfl (by (with_reducible repeat (first | refine blk_drewN ?_ _ | refine blk_drew ?_ | refine blk_alloc ?_ _)); refine blk_put (cs := #[.int .i64 t233, .int .i64 t234, .int .i64 t235, .int .i64 0]) ?_ 3 _ rfl; (with_reducible repeat (first | refine blk_drewN ?_ _ | refine blk_drew ?_ | refine blk_alloc ?_ _)); refine blk_put (cs := #[.int .i64 t233, .int .i64 t234, .int .i64 0, .int .i64 0]) ?_ 2 _ rfl; (with_reducible repeat (first | refine blk_drewN ?_ _ | refine blk_drew ?_ | refine blk_alloc ?_ _)); refine blk_put (cs := #[.int .i64 t233, .int .i64 0, .int .i64 0, .int .i64 0]) ?_ 1 _ rfl; (with_reducible repeat (first | refine blk_drewN ?_ _ | refine blk_drew ?_ | refine blk_alloc ?_ _)); refine blk_put (cs := #[.int .i64 0, .int .i64 0, .int .i64 0, .int .i64 0]) ?_ 0 _ rfl; (with_reducible repeat (first | refine blk_drewN ?_ _ | refine blk_drew ?_ | refine blk_alloc ?_ _)); exact BK226.out) Tryd.underlying30 rfl (by kernel_rfl)) rfl ?_
   exact ⟨by first | rfl | (simp [errW_none, errW_some] <;> rfl) | (simp [*, errW_none, errW_some, bne]; done) | (simp [*, errW_none, errW_some] <;> rfl), by repeat (first | (with_reducible first | exact HB.out | apply below_alloc | apply pw_below_drewN | apply below_drew1 | refine below_set ?_ GE226.out) | exact HB.out)⟩
end Go.Proofs.YtjmmdphkgioooaaDoor.P
end
section
namespace Go.Proofs.YtjmmdphkgioooaaDoor.P
open Go.RowKit Go.Proofs.YtjmmdphkgioooaaDoorW.PrintWords Go.Proofs.YtjmmdphkgioooaaDoorW.PrintLast Go.Proofs.YtjmmdphkgioooaaDoorW.PrintMore
attribute [local go_sem] max2_int min2_int max_two min_two max_three min_three max_four min_four   -- for this text's walks alone
set_option linter.unusedVariables false
set_option linter.unusedSimpArgs false
/-! ### cread_Fields: function 27 -/
def cread_Fields.f (k : Nat) (a0 : ByteArray) : Option ((List (List (S57))) × Int × Int × Int × Int) := (jlex_Judge.f k a0).bind fun bt245 => (if bt245.1 = 0 then ((cread_whole.f a0).bind fun bt250 => (some (bt250.1, bt250.2.1, bt250.2.2.1, bt250.2.2.2.1, bt250.2.2.2.2))) else (some (([] : List (List (S57))), bt245.1, bt245.2.1, bt245.2.2.1, bt245.2.2.2)))
set_option maxHeartbeats 8000000 in
set_option maxRecDepth 100000 in
theorem cread_Fields.calls (k : Nat) (a0 : ByteArray) (r1 : List (List (S57))) (r2 : Int) (r3 : Int) (r4 : Int) (r5 : Int) (w : World) (h : cread_Fields.f k a0 = some (r1, r2, r3, r4, r5)) :
  Calls Tryd.prog 27 #[.string a0] w fun e w' => ∃ v0_ : Value, e = .returned (.tuple #[v0_, .agg #[.int .i64 r2, .int .i64 r3, .int .i64 r4, .int .i64 r5]]) ∧ Kd.S (Kd.slice 57 k57) 55 w' w.heap.size (fun _ => True) v0_ r1 ∧ Below w.heap.size w w' := by
 have hu30 := Tryd.underlying30
 have HB := Aside0.mk (Below.refl w.heap.size w)
 have H : ((jlex_Judge.f k a0).bind fun bt245 => (if bt245.1 = 0 then ((cread_whole.f a0).bind fun bt250 => (some (bt250.1, bt250.2.1, bt250.2.2.1, bt250.2.2.2.1, bt250.2.2.2.2))) else (some (([] : List (List (S57))), bt245.1, bt245.2.1, bt245.2.2.1, bt245.2.2.2)))) = some (r1, r2, r3, r4, r5) := h
 clear h
 replace H := Option.bind_eq_some_iff.mp H
 obtain ⟨⟨t245, t246, t247, t248⟩, A20, H⟩ := H
 replace H : (if t245 = 0 then ((cread_whole.f a0).bind fun bt250 => (some (bt250.1, bt250.2.1, bt250.2.2.1, bt250.2.2.2.1, bt250.2.2.2.2))) else (some (([] : List (List (S57))), t245, t246, t247, t248))) = some (r1, r2, r3, r4, r5) := H
 have A2 := Aside0.mk A20
 clear A20
 by_cases c3 : t245 = 0
 ·rw [if_pos c3] at H
  have c3b0 : (t245 == 0) = true := beq_iff_eq.mpr c3
  have c3b1 : (t245 != 0) = false := bne_eq_false_iff_eq.mpr c3
  clear c3
  replace H := Option.bind_eq_some_iff.mp H
  obtain ⟨⟨t250, t253, t254, t255, t256⟩, A40, H⟩ := H
  replace H : (some (t250, t253, t254, t255, t256)) = some (r1, r2, r3, r4, r5) := H
  have A4 := Aside0.mk A40
  clear A40
  simp only [Option.some.injEq, Prod.mk.injEq] at H
  obtain ⟨rfl, rfl, rfl, rfl, rfl⟩ := H
  go_enter Tryd.func27, Tryd.ntmps27
  go_wp2_with (first | ((with_reducible refine gate_dst (N := 3) rfl ?_); refine box_event ?hg (N := 3) ?hd (cs := #[.int .i64 0, .int .i64 0, .int .i64 0, .int .i64 0]) (t := 30) ?hr ?_; (case hd => rfl); (case hg => rfl); (case hr => first | (go_simp; done) | (go_simp; rfl)); intro gb244 hg w5 hbox hb; have n0_ := Aside0.mk (below_step (by repeat (first | (with_reducible first | exact HB.out | apply below_alloc | apply pw_below_drewN | apply below_drew1) | exact HB.out)) hb); have n1_ := Aside0.mk (hbox); have n2_ := Aside0.mk ((by rw [hg]; exact (below_size (by repeat (first | (with_reducible first | exact HB.out | apply below_alloc | apply pw_below_drewN | apply below_drew1) | exact HB.out))) : w.heap.size ≤ gb244)); have n3_ := Aside0.mk ((by rw [hg]; exact (below_size (by repeat (first | (with_reducible first | exact HB.out | apply below_alloc | apply pw_below_drewN | apply below_drew1) | exact HB.out))) : w.heap.size ≤ gb244)); clear HB; have HB := n0_; have BK244 := n1_; have GW244 := n2_; have GE244 := n3_; clear n0_ n1_ n2_ n3_; clear hb hbox hg) | ((with_reducible refine gate_callee (f := 36) rfl ?_); refine goesL_ (some 6) rfl rfl Tryd.func36 (by kernel_rfl) rfl #[.string a0] rfl (by (try simp only [List.map_toArray, List.map_cons, List.map_nil]); first | done | rfl | (simp only [List.length_drop, List.length_take]; rfl)) ?_; (with_reducible refine (jlex_Judge.calls k a0 t245 t246 t247 t248 _ A2.out).mono ?_); rintro e w6 ⟨rfl, hb⟩; refine ⟨_, rfl, ?_⟩; have n0_ := Aside0.mk (blk_below (g := gb244) (o := .cells #[.int .i64 0, .int .i64 0, .int .i64 0, .int .i64 0] 30 (0, 0)) (by (with_reducible repeat (first | refine blk_drewN ?_ _ | refine blk_drew ?_ | refine blk_alloc ?_ _)); exact BK244.out) hb); have n1_ := Aside0.mk (below_step (by repeat (first | (with_reducible first | exact HB.out | apply below_alloc | apply pw_below_drewN | apply below_drew1 | refine below_set ?_ GE244.out) | exact HB.out)) hb); clear BK244; clear HB; have BK244 := n0_; have HB := n1_; clear n0_ n1_; (try clear hb); (try clear hb2); (try clear hk); (try clear hi)) | ((with_reducible refine gate_dst (N := 4) rfl ?_); refine box_event ?hg (N := 4) ?hd (cs := #[.int .i64 0, .int .i64 0, .int .i64 0, .int .i64 0]) (t := 30) ?hr ?_; (case hd => rfl); (case hg => rfl); (case hr => first | (go_simp; done) | (go_simp; rfl)); intro gb249 hg w7 hbox hb; have n0_ := Aside0.mk (blk_below (g := gb244) (o := .cells #[.int .i64 0, .int .i64 0, .int .i64 0, .int .i64 0] 30 (0, 0)) (by (with_reducible repeat (first | refine blk_drewN ?_ _ | refine blk_drew ?_ | refine blk_alloc ?_ _)); exact BK244.out) hb); have n1_ := Aside0.mk (below_step (by repeat (first | (with_reducible first | exact HB.out | apply below_alloc | apply pw_below_drewN | apply below_drew1 | refine below_set ?_ GE244.out) | exact HB.out)) hb); have n2_ := Aside0.mk (hbox); have n3_ := Aside0.mk ((by rw [hg]; exact (below_size (by repeat (first | (with_reducible first | exact HB.out | apply below_alloc | apply pw_below_drewN | apply below_drew1 | refine below_set ?_ GE244.out) | exact HB.out))) : w.heap.size ≤ gb249)); have n4_ := Aside0.mk ((by rw [hg]; exact (below_size (by repeat (first | (with_reducible first | exact HB.out | apply below_alloc | apply pw_below_drewN | apply below_drew1 | refine below_set ?_ GE244.out) | exact HB.out))) : w.heap.size ≤ gb249)); have n5_ := Aside0.mk ((by rw [hg]; exact Nat.ne_of_lt (blk_lt (g := gb244) (o := .cells #[.int .i64 0, .int .i64 0, .int .i64 0, .int .i64 0] 30 (0, 0)) (by (with_reducible repeat (first | refine blk_drewN ?_ _ | refine blk_drew ?_ | refine blk_alloc ?_ _)); exact BK244.out)) : gb244 ≠ gb249)); have n6_ := Aside0.mk ((by rw [hg]; exact Nat.ne_of_gt (blk_lt (g := gb244) (o := .cells #[.int .i64 0, .int .i64 0, .int .i64 0, .int .i64 0] 30 (0, 0)) (by (with_reducible repeat (first | refine blk_drewN ?_ _ | refine blk_drew ?_ | refine blk_alloc ?_ _)); exact BK244.out)) : gb249 ≠ gb244)); clear BK244; clear HB; have BK244 := n0_; have HB := n1_; have BK249 := n2_; have GW249 := n3_; have GE249 := n4_; have NB244_249 := n5_; have NB249_244 := n6_; clear n0_ n1_ n2_ n3_ n4_ n5_ n6_; clear hb hbox hg; have hnb8 := NB249_244.out; have hnc8 := NB244_249.out; have hcz9_0 : w7.cell? ⟨gb249, 0, none⟩ = some (.int .i64 0) := (blk_cell BK249.out 0).trans rfl; have hcz9_1 : w7.cell? ⟨gb249, 1, none⟩ = some (.int .i64 0) := (blk_cell BK249.out 1).trans rfl; have hcz9_2 : w7.cell? ⟨gb249, 2, none⟩ = some (.int .i64 0) := (blk_cell BK249.out 2).trans rfl; have hcz9_3 : w7.cell? ⟨gb249, 3, none⟩ = some (.int .i64 0) := (blk_cell BK249.out 3).trans rfl; have hfz9_0 := blk_frozen BK249.out 0; have hfz9_1 := blk_frozen BK249.out 1; have hfz9_2 := blk_frozen BK249.out 2; have hfz9_3 := blk_frozen BK249.out 3) | ((with_reducible refine gate_callee (f := 37) rfl ?_); refine goesL_ (some 12) rfl rfl Tryd.func37 (by kernel_rfl) rfl #[.string a0] rfl (by (try simp only [List.map_toArray, List.map_cons, List.map_nil]); first | done | rfl | (simp only [List.length_drop, List.length_take]; rfl)) ?_; (with_reducible refine (cread_whole.calls a0 t250 t253 t254 t255 t256 _ A4.out).mono ?_); rintro e w10 ⟨v251, rfl, ho0, hb⟩; refine ⟨_, rfl, ?_⟩; have n0_ := Aside0.mk (Kd.S_lower ho0 (below_size (by repeat (first | (with_reducible first | exact HB.out | apply below_alloc | apply pw_below_drewN | apply below_drew1 | refine below_set ?_ GE244.out | refine below_set ?_ GE249.out) | exact HB.out)))); have n1_ := Aside0.mk (blk_below (g := gb244) (o := .cells #[.int .i64 0, .int .i64 0, .int .i64 0, .int .i64 0] 30 (0, 0)) (by (with_reducible repeat (first | refine blk_drewN ?_ _ | refine blk_drew ?_ | refine blk_alloc ?_ _)); refine blk_far ?_ NB244_249.out _; (with_reducible repeat (first | refine blk_drewN ?_ _ | refine blk_drew ?_ | refine blk_alloc ?_ _)); refine blk_far ?_ NB244_249.out _; (with_reducible repeat (first | refine blk_drewN ?_ _ | refine blk_drew ?_ | refine blk_alloc ?_ _)); refine blk_far ?_ NB244_249.out _; (with_reducible repeat (first | refine blk_drewN ?_ _ | refine blk_drew ?_ | refine blk_alloc ?_ _)); refine blk_far ?_ NB244_249.out _; (with_reducible repeat (first | refine blk_drewN ?_ _ | refine blk_drew ?_ | refine blk_alloc ?_ _)); exact BK244.out) hb); have n2_ := Aside0.mk (blk_below (g := gb249) (o := .cells #[.int .i64 t245, .int .i64 t246, .int .i64 t247, .int .i64 t248] 30 (0, 0)) (by (with_reducible repeat (first | refine blk_drewN ?_ _ | refine blk_drew ?_ | refine blk_alloc ?_ _)); refine blk_put (cs := #[.int .i64 t245, .int .i64 t246, .int .i64 t247, .int .i64 0]) ?_ 3 _ rfl; (with_reducible repeat (first | refine blk_drewN ?_ _ | refine blk_drew ?_ | refine blk_alloc ?_ _)); refine blk_put (cs := #[.int .i64 t245, .int .i64 t246, .int .i64 0, .int .i64 0]) ?_ 2 _ rfl; (with_reducible repeat (first | refine blk_drewN ?_ _ | refine blk_drew ?_ | refine blk_alloc ?_ _)); refine blk_put (cs := #[.int .i64 t245, .int .i64 0, .int .i64 0, .int .i64 0]) ?_ 1 _ rfl; (with_reducible repeat (first | refine blk_drewN ?_ _ | refine blk_drew ?_ | refine blk_alloc ?_ _)); refine blk_put (cs := #[.int .i64 0, .int .i64 0, .int .i64 0, .int .i64 0]) ?_ 0 _ rfl; (with_reducible repeat (first | refine blk_drewN ?_ _ | refine blk_drew ?_ | refine blk_alloc ?_ _)); exact BK249.out) hb); have n3_ := Aside0.mk (below_step (by repeat (first | (with_reducible first | exact HB.out | apply below_alloc | apply pw_below_drewN | apply below_drew1 | refine below_set ?_ GE244.out | refine below_set ?_ GE249.out) | exact HB.out)) hb); clear BK244; clear BK249; clear HB; have HO252 := n0_; have BK244 := n1_; have BK249 := n2_; have HB := n3_; clear n0_ n1_ n2_ n3_; (try clear hb); (try clear hb2); (try clear hk); (try clear hi); (try clear ho0); have hcz11_0 : w10.cell? ⟨gb244, 0, none⟩ = some (.int .i64 0) := (blk_cell BK244.out 0).trans rfl; have hcz11_1 : w10.cell? ⟨gb244, 1, none⟩ = some (.int .i64 0) := (blk_cell BK244.out 1).trans rfl; have hcz11_2 : w10.cell? ⟨gb244, 2, none⟩ = some (.int .i64 0) := (blk_cell BK244.out 2).trans rfl; have hcz11_3 : w10.cell? ⟨gb244, 3, none⟩ = some (.int .i64 0) := (blk_cell BK244.out 3).trans rfl; have hfz11_0 := blk_frozen BK244.out 0; have hfz11_1 := blk_frozen BK244.out 1; have hfz11_2 := blk_frozen BK244.out 2; have hfz11_3 := blk_frozen BK244.out 3))
  refine bodyPost_ret (results_tc rfl _ _ gb244 30 #[.int .i64 t253, .int .i64 t254, .int .i64 t255, .int .i64 t256] (0, 0) _ rfl (by (with_reducible repeat (first | refine blk_drewN ?_ _ | refine blk_drew ?_ | refine blk_alloc ?_ _)); refine blk_put (cs := #[.int .i64 t253, .int .i64 t254, .int .i64 t255, .int .i64 0]) ?_ 3 _ rfl; (with_reducible repeat (first | refine blk_drewN ?_ _ | refine blk_drew ?_ | refine blk_alloc ?_ _)); refine blk_put (cs := #[.int .i64 t253, .int .i64 t254, .int .i64 0, .int .i64 0]) ?_ 2 _ rfl; (with_reducible repeat (first | refine blk_drewN ?_ _ | refine blk_drew ?_ | refine blk_alloc ?_ _)); refine blk_put (cs := #[.int .i64 t253, .int .i64 0, .int .i64 0, .int .i64 0]) ?_ 1 _ rfl; (with_reducible repeat (first | refine blk_drewN ?_ _ | refine blk_drew ?_ | refine blk_alloc ?_ _)); refine blk_put (cs := #[.int .i64 0, .int .i64 0, .int .i64 0, .int .i64 0]) ?_ 0 _ rfl; (with_reducible repeat (first | refine blk_drewN ?_ _ | refine blk_drew ?_ | refine blk_alloc ?_ _)); exact BK244.out) Tryd.underlying30 rfl (by kernel_rfl)) rfl ?_
  exact ⟨_, by first | rfl | (simp [errW_none, errW_some] <;> rfl) | (simp [*, errW_none, errW_some, bne]; done) | (simp [*, errW_none, errW_some] <;> rfl), by (with_reducible repeat (first | apply Kd.S_alloc | apply Kd.S_drewN | apply Kd.S_drew)); exact Kd.S_mono (Kd.S_far (p := ⟨gb244, 3, none⟩) (Kd.S_far (p := ⟨gb244, 2, none⟩) (Kd.S_far (p := ⟨gb244, 1, none⟩) (Kd.S_far (p := ⟨gb244, 0, none⟩) (Kd.S_types HO252.out BK244.out (by decide)) (fun _ hk => hk.2) (.int .i64 t253)) (fun _ hk => hk.2) (.int .i64 t254)) (fun _ hk => hk.2) (.int .i64 t255)) (fun _ hk => hk.2) (.int .i64 t256)) (fun _ hk => trivial), by repeat (first | (with_reducible first | exact HB.out | apply below_alloc | apply pw_below_drewN | apply below_drew1 | refine below_set ?_ GE244.out | refine below_set ?_ GE249.out) | exact HB.out)⟩
 ·rw [if_neg c3] at H
  have c3b0 : (t245 == 0) = false := beq_eq_false_iff_ne.mpr c3
  have c3b1 : (t245 != 0) = true := bne_iff_ne.mpr c3
  simp only [Option.some.injEq, Prod.mk.injEq] at H
  obtain ⟨rfl, rfl, rfl, rfl, rfl⟩ := H
  go_enter Tryd.func27, Tryd.ntmps27
  try go_wp2_with (first | ((with_reducible refine gate_dst (N := 3) rfl ?_); refine box_event ?hg (N := 3) ?hd (cs := #[.int .i64 0, .int .i64 0, .int .i64 0, .int .i64 0]) (t := 30) ?hr ?_; (case hd => rfl); (case hg => rfl); (case hr => first | (go_simp; done) | (go_simp; rfl)); intro gb244 hg w12 hbox hb; have n0_ := Aside0.mk (below_step (by repeat (first | (with_reducible first | exact HB.out | apply below_alloc | apply pw_below_drewN | apply below_drew1) | exact HB.out)) hb); have n1_ := Aside0.mk (hbox); have n2_ := Aside0.mk ((by rw [hg]; exact (below_size (by repeat (first | (with_reducible first | exact HB.out | apply below_alloc | apply pw_below_drewN | apply below_drew1) | exact HB.out))) : w.heap.size ≤ gb244)); have n3_ := Aside0.mk ((by rw [hg]; exact (below_size (by repeat (first | (with_reducible first | exact HB.out | apply below_alloc | apply pw_below_drewN | apply below_drew1) | exact HB.out))) : w.heap.size ≤ gb244)); clear HB; have HB := n0_; have BK244 := n1_; have GW244 := n2_; have GE244 := n3_; clear n0_ n1_ n2_ n3_; clear hb hbox hg) | ((with_reducible refine gate_callee (f := 36) rfl ?_); refine goesL_ (some 6) rfl rfl Tryd.func36 (by kernel_rfl) rfl #[.string a0] rfl (by (try simp only [List.map_toArray, List.map_cons, List.map_nil]); first | done | rfl | (simp only [List.length_drop, List.length_take]; rfl)) ?_; (with_reducible refine (jlex_Judge.calls k a0 t245 t246 t247 t248 _ A2.out).mono ?_); rintro e w13 ⟨rfl, hb⟩; refine ⟨_, rfl, ?_⟩; have n0_ := Aside0.mk (blk_below (g := gb244) (o := .cells #[.int .i64 0, .int .i64 0, .int .i64 0, .int .i64 0] 30 (0, 0)) (by (with_reducible repeat (first | refine blk_drewN ?_ _ | refine blk_drew ?_ | refine blk_alloc ?_ _)); exact BK244.out) hb); have n1_ := Aside0.mk (below_step (by repeat (first | (with_reducible first | exact HB.out | apply below_alloc | apply pw_below_drewN | apply below_drew1 | refine below_set ?_ GE244.out) | exact HB.out)) hb); clear BK244; clear HB; have BK244 := n0_; have HB := n1_; clear n0_ n1_; (try clear hb); (try clear hb2); (try clear hk); (try clear hi)) | ((with_reducible refine gate_dst (N := 4) rfl ?_); refine box_event ?hg (N := 4) ?hd (cs := #[.int .i64 0, .int .i64 0, .int .i64 0, .int .i64 0]) (t := 30) ?hr ?_; (case hd => rfl); (case hg => rfl); (case hr => first | (go_simp; done) | (go_simp; rfl)); intro gb249 hg w14 hbox hb; have n0_ := Aside0.mk (blk_below (g := gb244) (o := .cells #[.int .i64 0, .int .i64 0, .int .i64 0, .int .i64 0] 30 (0, 0)) (by (with_reducible repeat (first | refine blk_drewN ?_ _ | refine blk_drew ?_ | refine blk_alloc ?_ _)); exact BK244.out) hb); have n1_ := Aside0.mk (below_step (by repeat (first | (with_reducible first | exact HB.out | apply below_alloc | apply pw_below_drewN | apply below_drew1 | refine below_set ?_ GE244.out) | exact HB.out)) hb); have n2_ := Aside0.mk (hbox); have n3_ := Aside0.mk ((by rw [hg]; exact (below_size (by repeat (first | (with_reducible first | exact HB.out | apply below_alloc | apply pw_below_drewN | apply below_drew1 | refine below_set ?_ GE244.out) | exact HB.out))) : w.heap.size ≤ gb249)); have n4_ := Aside0.mk ((by rw [hg]; exact (below_size (by repeat (first | (with_reducible first | exact HB.out | apply below_alloc | apply pw_below_drewN | apply below_drew1 | refine below_set ?_ GE244.out) | exact HB.out))) : w.heap.size ≤ gb249)); have n5_ := Aside0.mk ((by rw [hg]; exact Nat.ne_of_lt (blk_lt (g := gb244) (o := .cells #[.int .i64 0, .int .i64 0, .int .i64 0, .int .i64 0] 30 (0, 0)) (by (with_reducible repeat (first | refine blk_drewN ?_ _ | refine blk_drew ?_ | refine blk_alloc ?_ _)); exact BK244.out)) : gb244 ≠ gb249)); have n6_ := Aside0.mk ((by rw [hg]; exact Nat.ne_of_gt (blk_lt (g := gb244) (o := .cells #[.int .i64 0, .int .i64 0, .int .i64 0, .int .i64 0] 30 (0, 0)) (by (with_reducible repeat (first | refine blk_drewN ?_ _ | refine blk_drew ?_ | refine blk_alloc ?_ _)); exact BK244.out)) : gb249 ≠ gb244)); clear BK244; clear HB; have BK244 := n0_; have HB := n1_; have BK249 := n2_; have GW249 := n3_; have GE249 := n4_; have NB244_249 := n5_; have NB249_244 := n6_; clear n0_ n1_ n2_ n3_ n4_ n5_ n6_; clear hb hbox hg; have hnb15 := NB249_244.out; have hnc15 := NB244_249.out; have hcz16_0 : w14.cell? ⟨gb249, 0, none⟩ = some (.int .i64 0) := (blk_cell BK249.out 0).trans rfl; have hcz16_1 : w14.cell? ⟨gb249, 1, none⟩ = some (.int .i64 0) := (blk_cell BK249.out 1).trans rfl; have hcz16_2 : w14.cell? ⟨gb249, 2, none⟩ = some (.int .i64 0) := (blk_cell BK249.out 2).trans rfl; have hcz16_3 : w14.cell? ⟨gb249, 3, none⟩ = some (.int .i64 0) := (blk_cell BK249.out 3).trans rfl; have hfz16_0 := blk_frozen BK249.out 0; have hfz16_1 := blk_frozen BK249.out 1; have hfz16_2 := blk_frozen BK249.out 2; have hfz16_3 := blk_frozen BK249.out 3))
  have n0_ : Aside0 (((((w14.setCell ⟨gb249, 0, none⟩ (.int .i64 t245)).setCell ⟨gb249, 1, none⟩ (.int .i64 t246)).setCell ⟨gb249, 2, none⟩ (.int .i64 t247)).setCell ⟨gb249, 3, none⟩ (.int .i64 t248)).heap[gb244]? = some (.cells #[.int .i64 0, .int .i64 0, .int .i64 0, .int .i64 0] 30 (0, 0))) := ⟨by (with_reducible repeat (first | refine blk_drewN ?_ _ | refine blk_drew ?_ | refine blk_alloc ?_ _)); refine blk_far ?_ NB244_249.out _; (with_reducible repeat (first | refine blk_drewN ?_ _ | refine blk_drew ?_ | refine blk_alloc ?_ _)); refine blk_far ?_ NB244_249.out _; (with_reducible repeat (first | refine blk_drewN ?_ _ | refine blk_drew ?_ | refine blk_alloc ?_ _)); refine blk_far ?_ NB244_249.out _; (with_reducible repeat (first | refine blk_drewN ?_ _ | refine blk_drew ?_ | refine blk_alloc ?_ _)); refine blk_far ?_ NB244_249.out _; (with_reducible repeat (first | refine blk_drewN ?_ _ | refine blk_drew ?_ | refine blk_alloc ?_ _)); exact BK244.out⟩
  have n1_ : Aside0 (((((w14.setCell ⟨gb249, 0, none⟩ (.int .i64 t245)).setCell ⟨gb249, 1, none⟩ (.int .i64 t246)).setCell ⟨gb249, 2, none⟩ (.int .i64 t247)).setCell ⟨gb249, 3, none⟩ (.int .i64 t248)).heap[gb249]? = some (.cells #[.int .i64 t245, .int .i64 t246, .int .i64 t247, .int .i64 t248] 30 (0, 0))) := ⟨by (with_reducible repeat (first | refine blk_drewN ?_ _ | refine blk_drew ?_ | refine blk_alloc ?_ _)); refine blk_put (cs := #[.int .i64 t245, .int .i64 t246, .int .i64 t247, .int .i64 0]) ?_ 3 _ rfl; (with_reducible repeat (first | refine blk_drewN ?_ _ | refine blk_drew ?_ | refine blk_alloc ?_ _)); refine blk_put (cs := #[.int .i64 t245, .int .i64 t246, .int .i64 0, .int .i64 0]) ?_ 2 _ rfl; (with_reducible repeat (first | refine blk_drewN ?_ _ | refine blk_drew ?_ | refine blk_alloc ?_ _)); refine blk_put (cs := #[.int .i64 t245, .int .i64 0, .int .i64 0, .int .i64 0]) ?_ 1 _ rfl; (with_reducible repeat (first | refine blk_drewN ?_ _ | refine blk_drew ?_ | refine blk_alloc ?_ _)); refine blk_put (cs := #[.int .i64 0, .int .i64 0, .int .i64 0, .int .i64 0]) ?_ 0 _ rfl; (with_reducible repeat (first | refine blk_drewN ?_ _ | refine blk_drew ?_ | refine blk_alloc ?_ _)); exact BK249.out⟩
  have n2_ : Aside0 (Below w.heap.size w ((((w14.setCell ⟨gb249, 0, none⟩ (.int .i64 t245)).setCell ⟨gb249, 1, none⟩ (.int .i64 t246)).setCell ⟨gb249, 2, none⟩ (.int .i64 t247)).setCell ⟨gb249, 3, none⟩ (.int .i64 t248))) := ⟨by repeat (first | (with_reducible first | exact HB.out | apply below_alloc | apply pw_below_drewN | apply below_drew1 | refine below_set ?_ GE244.out | refine below_set ?_ GE249.out) | exact HB.out)⟩
  (try clear BK244)
  (try clear BK249)
  (try clear HB)
  generalize ((((w14.setCell ⟨gb249, 0, none⟩ (.int .i64 t245)).setCell ⟨gb249, 1, none⟩ (.int .i64 t246)).setCell ⟨gb249, 2, none⟩ (.int .i64 t247)).setCell ⟨gb249, 3, none⟩ (.int .i64 t248)) = w17 at n0_ n1_ n2_ ⊢
  have BK244 := n0_
  have BK249 := n1_
  have HB := n2_
  clear n0_ n1_ n2_
  have n0_ := Aside0.mk (blk_drew BK244.out)
  have n1_ := Aside0.mk (blk_drew BK249.out)
  have n2_ := Aside0.mk (below_drew1 HB.out)
  clear BK244
  clear BK249
  clear HB
  have BK244 := n0_
  have BK249 := n1_
  have HB := n2_
  clear n0_ n1_ n2_
  refine start_ (n := 3) (S := fun w' => w'.cell? ⟨gb249, 0, none⟩ = some (.int .i64 t245) ∧ w'.cell? ⟨gb249, 1, none⟩ = some (.int .i64 t246) ∧ w'.cell? ⟨gb249, 2, none⟩ = some (.int .i64 t247) ∧ w'.cell? ⟨gb249, 3, none⟩ = some (.int .i64 t248)) (ds := []) #[false, false, false] (by kernel_rfl) rfl rfl ⟨(blk_cell BK249.out 0).trans rfl, (blk_cell BK249.out 1).trans rfl, (blk_cell BK249.out 2).trans rfl, (blk_cell BK249.out 3).trans rfl⟩ (fun hHeld => ?_)
  generalize w17.drew = w18 at BK244 BK249 HB hHeld ⊢
  refine pure_ (i := 1) (N := some 2) (v := ?_) (a' := ?_) #[false, true, false] rfl rfl (by kernel_rfl) (fun _ _ _ h => h) (Or.inl ⟨by rfl, ?_⟩) ?_ ?_
  rotate_left
  ·intro w'
   go_simp
   with_reducible rfl
  rotate_left
  ·simp only [Act.put, List.setIfInBounds_toArray, List.set_cons_zero, List.set_cons_succ, i64_w, i32_w]
   rfl
  refine take_ (i := 0) (N := some 10) (v := ?_) (a' := ?_) #[true, true, false] rfl rfl (by kernel_rfl) (fun _ _ _ h => h) (Or.inl ⟨by rfl, ?_⟩) hHeld ?_ ?_
  rotate_left
  ·rintro w' ⟨s0, s1, s2, s3⟩
   go_simp
   with_reducible rfl
  rotate_left
  ·simp only [Act.put, List.setIfInBounds_toArray, List.set_cons_zero, List.set_cons_succ, i64_w, i32_w]
   rfl
  refine one_ (i := 2) (N := none) #[true, true, true] rfl rfl (by kernel_rfl) (by decide) (fun K hK => ?_)
  have hs19 : w18.cell? ⟨gb244, 0, none⟩ = some (.int .i64 0) := (blk_cell BK244.out 0).trans rfl
  have hfs19 := blk_frozen BK244.out 0
  have hns19_1 := NB249_244.out
  have hms19_1 := NB244_249.out
  have hs20 : w18.cell? ⟨gb244, 1, none⟩ = some (.int .i64 0) := (blk_cell BK244.out 1).trans rfl
  have hfs20 := blk_frozen BK244.out 1
  have hns20_1 := NB249_244.out
  have hms20_1 := NB244_249.out
  have hs21 : w18.cell? ⟨gb244, 2, none⟩ = some (.int .i64 0) := (blk_cell BK244.out 2).trans rfl
  have hfs21 := blk_frozen BK244.out 2
  have hns21_1 := NB249_244.out
  have hms21_1 := NB244_249.out
  have hs22 : w18.cell? ⟨gb244, 3, none⟩ = some (.int .i64 0) := (blk_cell BK244.out 3).trans rfl
  have hfs22 := blk_frozen BK244.out 3
  have hns22_1 := NB249_244.out
  have hms22_1 := NB244_249.out
  refine skip_ (w1 := ?_) (by rfl) rfl ?_ ?_
  rotate_left
  ·go_simp
   rfl
  refine hK.out _ _ ⟨((cell_far (p := ⟨gb244, _, none⟩) NB249_244.out _).trans (((cell_far (p := ⟨gb244, _, none⟩) NB249_244.out _).trans (((cell_far (p := ⟨gb244, _, none⟩) NB249_244.out _).trans (((cell_far (p := ⟨gb244, _, none⟩) NB249_244.out _).trans (hHeld.1)))))))), ((cell_far (p := ⟨gb244, _, none⟩) NB249_244.out _).trans (((cell_far (p := ⟨gb244, _, none⟩) NB249_244.out _).trans (((cell_far (p := ⟨gb244, _, none⟩) NB249_244.out _).trans (((cell_far (p := ⟨gb244, _, none⟩) NB249_244.out _).trans (hHeld.2.1)))))))), ((cell_far (p := ⟨gb244, _, none⟩) NB249_244.out _).trans (((cell_far (p := ⟨gb244, _, none⟩) NB249_244.out _).trans (((cell_far (p := ⟨gb244, _, none⟩) NB249_244.out _).trans (((cell_far (p := ⟨gb244, _, none⟩) NB249_244.out _).trans (hHeld.2.2.1)))))))), ((cell_far (p := ⟨gb244, _, none⟩) NB249_244.out _).trans (((cell_far (p := ⟨gb244, _, none⟩) NB249_244.out _).trans (((cell_far (p := ⟨gb244, _, none⟩) NB249_244.out _).trans (((cell_far (p := ⟨gb244, _, none⟩) NB249_244.out _).trans (hHeld.2.2.2))))))))⟩ (fun hHeld => ?_)
  clear hK K
  refine done_ (by kernel_rfl) ?_
  try go_wp2
  refine bodyPost_ret (results_tc rfl _ _ gb244 30 #[.int .i64 t245, .int .i64 t246, .int .i64 t247, .int .i64 t248] (0, 0) _ rfl (by (with_reducible repeat (first | refine blk_drewN ?_ _ | refine blk_drew ?_ | refine blk_alloc ?_ _)); refine blk_put (cs := #[.int .i64 t245, .int .i64 t246, .int .i64 t247, .int .i64 0]) ?_ 3 _ rfl; (with_reducible repeat (first | refine blk_drewN ?_ _ | refine blk_drew ?_ | refine blk_alloc ?_ _)); refine blk_put (cs := #[.int .i64 t245, .int .i64 t246, .int .i64 0, .int .i64 0]) ?_ 2 _ rfl; (with_reducible repeat (first | refine blk_drewN ?_ _ | refine blk_drew ?_ | refine blk_alloc ?_ _)); refine blk_put (cs := #[.int .i64 t245, .int .i64 0, .int .i64 0, .int .i64 0]) ?_ 1 _ rfl; (with_reducible repeat (first | refine blk_drewN ?_ _ | refine blk_drew ?_ | refine blk_alloc ?_ _)); refine blk_put (cs := #[.int .i64 0, .int .i64 0, .int .i64 0, .int .i64 0]) ?_ 0 _ rfl; (with_reducible repeat (first | refine blk_drewN ?_ _ | refine blk_drew ?_ | refine blk_alloc ?_ _)); exact BK244.out) Tryd.underlying30 rfl (by kernel_rfl)) rfl ?_
  exact ⟨_, by first | rfl | (simp [errW_none, errW_some] <;> rfl) | (simp [*, errW_none, errW_some, bne]; done) | (simp [*, errW_none, errW_some] <;> rfl), by first | exact Kd.S_nil _ _ _ _ _ | exact Kd.N_nil _ _ _ _ _ | exact Kd.V_nil _ _ _ _ _ | exact Kd.Q_nil _ _ _ _ _ | exact Kd.R_nil _ _ _ _ _, by repeat (first | (with_reducible first | exact HB.out | apply below_alloc | apply pw_below_drewN | apply below_drew1 | refine below_set ?_ GE244.out | refine below_set ?_ GE249.out) | exact HB.out)⟩
end Go.Proofs.YtjmmdphkgioooaaDoor.P
end
section
namespace Go.Proofs.YtjmmdphkgioooaaDoor.La
open Go.RowKit Go.Proofs.YtjmmdphkgioooaaDoor.P Go.Proofs.YtjmmdphkgioooaaDoorW.PrintWords Go.Proofs.YtjmmdphkgioooaaDoorW.PrintLast Go.Proofs.YtjmmdphkgioooaaDoorW.PrintMore
def judgeR (s : ByteArray) : Int × Int × Int × Int :=
 if 65536 < s.size then faultR s s.size 2 else match bad (bytesOf s) with
  | none => (0, 0, 0, 0)
  | some p => faultR s p 3
theorem judge_ev (s : ByteArray) (hs : s.size ≤ 8796093022208) : Ev (fun k => jlex_Judge.f k s) (judgeR s) := by
 unfold judgeR
 by_cases hz : 65536 < s.size
 ·rw [if_pos hz]
  refine Ev.congr (fun k => by rw [jlex_Judge.f, if_pos (by omega)]) (Ev.bind (fault_ev s hs s.size 2) (Ev.now _))
 ·rw [if_neg hz]
  refine Ev.congr (fun k => by rw [jlex_Judge.f, if_neg (by omega)]) (Ev.bind (valid_ev s (by omega)) ?_)
  cases hb : bad (bytesOf s) with
  | none =>
   simp only [badR, if_true]
   exact Ev.now _
  | some p =>
   simp only [badR, Bool.false_eq_true, if_false, Nat.zero_add]
   exact Ev.bind (fault_ev s (by omega) (p : Int) 3) (Ev.now _)
def fieldsR (s : ByteArray) : List (List S57) × Int × Int × Int × Int :=
 if 65536 < s.size then ([], faultR s s.size 2) else match bad (bytesOf s) with
  | some p => ([], faultR s p 3)
  | none => wholeR s (wholeS 513 [] (bytesOf s) 0)
theorem fields_ev (s : ByteArray) (hs : s.size ≤ 8796093022208) : Ev (fun k => cread_Fields.f k s) (fieldsR s) := by
 refine Ev.congr (fun k => by rw [cread_Fields.f]) (Ev.bind (judge_ev s hs) ?_)
 unfold judgeR fieldsR
 by_cases hz : 65536 < s.size
 ·rw [if_pos hz, if_pos hz]
  exact Ev.congr (fun k => if_neg (show ¬ (2 : Int) = 0 by decide)) (Ev.now _)
 ·rw [if_neg hz, if_neg hz]
  cases hb : bad (bytesOf s) with
  | none =>
   simp only [if_true]
   unfold cread_whole.f
   rw [if_pos (by omega)]
   exact Ev.now _
  | some p =>
   exact Ev.congr (fun k => if_neg (show ¬ (3 : Int) = 0 by decide)) (Ev.now _)
theorem rowS_bound : ∀ (k : Nat) (acc : List S57) (l : List Int) (i : Nat) (r : List S57) (l2 : List Int) (j : Nat), rowS k acc l i = .inr (r, l2, j) → r.length ≤ acc.length + k
 | 0, _, _, _, _, _, _, h => by cases h
 | k + 1, acc, l, i, r, l2, j, h => by
  rw [rowS] at h
  cases hf : fieldS l i with
  | inl e => rw [hf] at h; cases h
  | inr p =>
   rw [hf] at h
   simp only at h
   split at h
   ·have := rowS_bound k _ _ _ _ _ _ h
    rw [List.length_append, List.length_singleton] at this
    omega
   ·have h6 := (Prod.mk.inj (Sum.inr.inj h)).1
    rw [← h6, List.length_append, List.length_singleton]
    omega
theorem wholeS_bound : ∀ (n : Nat) (rows : List (List S57)) (l : List Int) (i : Nat) (r : List (List S57)), wholeS n rows l i = .inr r → r.length ≤ rows.length + n ∧ ∀ R ∈ r, R ∈ rows ∨ R.length ≤ 64
 | 0, rows, l, i, r, h => by
  rw [wholeS] at h
  split at h
  ·obtain rfl := Sum.inr.inj h
   exact ⟨by omega, fun R hR => .inl hR⟩
  ·cases h
 | n + 1, rows, l, i, r, h => by
  rw [wholeS] at h
  split at h
  ·obtain rfl := Sum.inr.inj h
   exact ⟨by omega, fun R hR => .inl hR⟩
  ·cases hr : rowS 64 [] l i with
   | inl e => rw [hr] at h; cases h
   | inr x =>
    obtain ⟨a, l2, j⟩ := x
    rw [hr] at h
    simp only at h
    split at h
    ·cases h
    ·obtain ⟨h1, h2⟩ := wholeS_bound n _ _ _ _ h
     have h3 := rowS_bound 64 [] l i a l2 j hr
     rw [List.length_append, List.length_singleton] at h1
     refine ⟨by omega, fun R hR => ?_⟩
     rcases h2 R hR with h4 | h4
     ·rcases List.mem_append.1 h4 with h5 | h5
      ·exact .inl h5
      ·rw [List.mem_singleton.1 h5]
       exact .inr (by simpa using h3)
     ·exact .inr h4
theorem fieldsR_bound (s : ByteArray) : (fieldsR s).1.length ≤ 513 ∧ ∀ R ∈ (fieldsR s).1, R.length ≤ 64 := by
 unfold fieldsR
 split
 ·exact ⟨by simp, fun R hR => by cases hR⟩
 ·split
  ·exact ⟨by simp, fun R hR => by cases hR⟩
  ·cases hw : wholeS 513 [] (bytesOf s) 0 with
   | inl e => exact ⟨by simp [wholeR], fun R hR => by cases hR⟩
   | inr r =>
    obtain ⟨h1, h2⟩ := wholeS_bound 513 [] _ _ _ hw
    refine ⟨by simpa [wholeR] using h1, fun R hR => ?_⟩
    rcases h2 R hR with h | h
    ·cases h
    ·exact h
/-- What cread.Rows answers. -/
def readR (s : ByteArray) : List (List ByteArray) × Int × Int × Int × Int := ((fieldsR s).1.map (·.map S57.f0), (fieldsR s).2)
end Go.Proofs.YtjmmdphkgioooaaDoor.La
end
section
namespace Go.Proofs.YtjmmdphkgioooaaDoor.P
open Go.RowKit Go.Proofs.YtjmmdphkgioooaaDoor.La Go.Proofs.YtjmmdphkgioooaaDoorW.PrintWords Go.Proofs.YtjmmdphkgioooaaDoorW.PrintLast Go.Proofs.YtjmmdphkgioooaaDoorW.PrintMore
theorem cinfoT : (Tryd.prog.info? 9).map (fun i => (i.zero, i.size, i.bytes)) = some (some (.string ⟨#[]⟩), 1, 16) := by kernel_rfl
theorem cinfoTs : (Tryd.prog.info? 24).map (fun i => (i.zero, i.size, i.bytes)) = some (some (.slice none 0 0), 1, 24) := by kernel_rfl
abbrev OutS (wx : World) (B : Nat) (ok : Nat → Prop) (v : Value) (xs : List (List ByteArray)) : Prop := Kd.S (Kd.slice 9 Kd.string) 24 wx B ok v xs
abbrev InS (wx : World) (B : Nat) (ok : Nat → Prop) (v : Value) (xs : List (List S57)) : Prop := Kd.S (Kd.slice 57 k57) 55 wx B ok v xs
def Boxes (wx : World) (b bf : Nat) (q1 q2 q3 q4 : Int) : Prop := wx.heap[b]? = some (.cells #[.int .i64 0, .int .i64 0, .int .i64 0, .int .i64 0] 30 (0, 0)) ∧ wx.heap[bf]? = some (.cells #[.int .i64 q1, .int .i64 q2, .int .i64 q3, .int .i64 q4] 30 (0, 0))
theorem Boxes.step {wx w1 : World} {b bf : Nat} {q1 q2 q3 q4 : Int} (h : Boxes wx b bf q1 q2 q3 q4) (hm : ∀ k, k < wx.heap.size → (k = b ∨ k = bf) → w1.heap[k]? = wx.heap[k]?) : Boxes w1 b bf q1 q2 q3 q4 :=
 ⟨(hm b (cblk_lt h.1) (.inl rfl)).trans h.1, (hm bf (cblk_lt h.2) (.inr rfl)).trans h.2⟩
/-- The outer loop's state. -/
def OInv (w : World) (rows : List (List S57)) (rv : Value) (bf : Nat) (q1 q2 q3 q4 : Int) (k : Nat) (vo vi : Value) (wx : World) : Prop :=
 ∃ x : Int, 0 ≤ x ∧ x ≤ rows.length ∧ k = rows.length - x.toNat + 1 ∧ vi = .int .i64 x ∧ OutS wx w.heap.size (fun _ => True) vo ((rows.take x.toNat).map (·.map S57.f0)) ∧ InS wx w.heap.size (fun _ => True) rv rows ∧ Boxes wx w.heap.size bf q1 q2 q3 q4 ∧ Below w.heap.size w wx
/-- The inner loop's state. -/
def NInv (w : World) (N : Nat) (rows : List (List S57)) (rv : Value) (outs : List (List ByteArray)) (vo : Value) (row : List S57) (vr : Value) (bf : Nat) (q1 q2 q3 q4 : Int) (k : Nat) (vl vi : Value) (wx : World) : Prop :=
 ∃ x : Int, 0 ≤ x ∧ x ≤ row.length ∧ k = row.length - x.toNat + 1 ∧ vi = .int .i64 x ∧ Kd.R Kd.string 9 wx N (fun _ => True) vl ((row.take x.toNat).map S57.f0) ∧ OutS wx w.heap.size (fun k => k < N) vo outs ∧ InS wx w.heap.size (fun k => k < N) rv rows ∧
  Kd.R k57 57 wx w.heap.size (fun k => k < N) vr row ∧ Boxes wx w.heap.size bf q1 q2 q3 q4 ∧ Below w.heap.size w wx ∧ N ≤ wx.heap.size
def cread_Rows.f (a0 : ByteArray) : Option (List (List ByteArray) × Int × Int × Int × Int) := if a0.size ≤ 8796093022208 then some (readR a0) else none
set_option maxRecDepth 100000 in
set_option maxHeartbeats 8000000 in
theorem cread_Rows.calls (a0 : ByteArray) (r1 : List (List ByteArray)) (r2 r3 r4 r5 : Int) (w : World) (h : cread_Rows.f a0 = some (r1, r2, r3, r4, r5)) :
  Calls Tryd.prog 15 #[.string a0] w fun e w' => ∃ v0_ : Value, e = .returned (.tuple #[v0_, .agg #[.int .i64 r2, .int .i64 r3, .int .i64 r4, .int .i64 r5]]) ∧ Kd.S (Kd.slice 9 Kd.string) 24 w' w.heap.size (fun _ => True) v0_ r1 ∧ Below w.heap.size w w' := by
 unfold cread_Rows.f at h
 by_cases hs : a0.size ≤ 8796093022208
 ·rw [if_pos hs] at h
  obtain ⟨K, hK⟩ := fields_ev a0 hs
  obtain ⟨hb1, hb2⟩ := fieldsR_bound a0
  have hK := hK K (Nat.le_refl _)
  have H := Lib.hid (Option.some.inj h)
  clear h
  unfold readR at H
  generalize fieldsR a0 = q at hb1 hb2 hK H
  obtain ⟨rows, q1, q2, q3, q4⟩ := q
  go_enter Tryd.func15, Tryd.ntmps15
  go_wp2_with fail
  refine (cread_Fields.calls K a0 rows q1 q2 q3 q4 _ hK).mono ?_
  rintro e w1 ⟨v0, rfl, hS, hB⟩
  have hz0 : (w.alloc (.cells #[.int .i64 0, .int .i64 0, .int .i64 0, .int .i64 0] 30)).heap.size = w.heap.size + 1 := Array.size_push _
  have hA : Below w.heap.size w (w.alloc (.cells #[.int .i64 0, .int .i64 0, .int .i64 0, .int .i64 0] 30)) := below_alloc (Below.refl _ _) _
  have hB1 := below_step hA hB
  have g0 : w1.heap[w.heap.size]? = some (.cells #[.int .i64 0, .int .i64 0, .int .i64 0, .int .i64 0] 30 (0, 0)) := (hB.block w.heap.size (by omega)).trans (show (w.heap.push _)[w.heap.size]? = _ from Array.getElem?_push_size)
  have hS1 := Kd.S_lower hS (show w.heap.size ≤ (w.alloc (.cells #[.int .i64 0, .int .i64 0, .int .i64 0, .int .i64 0] 30)).heap.size by omega)
  clear hS hB hA hz0
  have hS2 := Kd.S_alloc hS1 (.cells #[.int .i64 q1, .int .i64 q2, .int .i64 q3, .int .i64 q4] 30)
  have hB2 := below_alloc hB1 (.cells #[.int .i64 q1, .int .i64 q2, .int .i64 q3, .int .i64 q4] 30)
  have hX : Boxes (w1.alloc (.cells #[.int .i64 q1, .int .i64 q2, .int .i64 q3, .int .i64 q4] 30)) w.heap.size w1.heap.size q1 q2 q3 q4 :=
   ⟨(Below.heap_alloc _ _ _ (cblk_lt g0)).trans g0, show (w1.heap.push _)[w1.heap.size]? = _ from Array.getElem?_push_size⟩
  obtain ⟨RA, RC, hrv, hrc, hRC⟩ := Kd.S_reads hS1
  subst hrv
  go_wp2_with fail
  generalize w1.alloc (.cells #[.int .i64 q1, .int .i64 q2, .int .i64 q3, .int .i64 q4] 30) = w2 at hS2 hB2 hX ⊢
  generalize w1.heap.size = bf at hX ⊢
  clear hS1 hB1 g0 hRC hK
  go_loopg [6, 19] (rows.length + 1) (fun k vo vi wx => OInv w rows (.slice RA rows.length RC) bf q1 q2 q3 q4 k vo vi wx)
  case atStart => exact ⟨0, by omega, by omega, by simp, rfl, Kd.S_nil _ _ _ _ _, hS2, hX, hB2⟩
  case round =>
   clear hS2 hX hB2
   obtain ⟨x, hx0, hx1, hk, rfl, hO, hI, hX, hB⟩ := hrel
   have HK := Lib.hid hk
   clear hk
   obtain ⟨OA, OC, hov, hoc, _⟩ := Kd.S_reads hO
   by_cases hxl : x < rows.length
   ·have e1 : decide (x < (rows.length : Int)) = true := decide_eq_true hxl
    obtain ⟨c, ad, hc⟩ : ∃ c ad, (Value.slice RA rows.length RC) = .slice (some ad) rows.length RC ∧ c = RC := by
     obtain ⟨g, cap, h, _⟩ := Kd.S_form hI (by omega)
     injection h with h1 h2 h3
     exact ⟨_, _, by rw [h1], rfl⟩
    injection hc.1 with hRA
    subst hRA
    obtain ⟨cs, hcs, hM, hcell⟩ := Kd.S_get hI [] x hx0 (by omega)
    obtain ⟨vr, rfl, hR⟩ := hM
    have hce := hcell 0 vr rfl
    have hrow : rows.getD x.toNat [] ∈ rows := by
     rw [List.getD_eq_getElem?_getD, List.getElem?_eq_getElem (show x.toNat < rows.length by omega)]
     exact List.getElem_mem _
    obtain ⟨row, hrw⟩ : ∃ row, rows.getD x.toNat [] = row := ⟨_, rfl⟩
    rw [hrw] at hR hrow
    have hrl := hb2 row hrow
    have HRW := Lib.hid hrw
    clear hrw hcell hrow hcs
    replace hce : wr.cell? (ad.add x.toNat) = some vr := by
     have h := hce
     rw [show x.toNat * (Kd.slice 57 k57).sz + 0 = x.toNat from (by show x.toNat * 1 + 0 = x.toNat; omega)] at h
     exact h
    obtain ⟨VA, VC, hvr, hvc, _⟩ := Kd.R_reads hR
    subst hvr
    have p1 := eq_true hx0
    have p2 := eq_true hxl
    have p3 := eq_true (show x.toNat < rows.length by omega)
    have q8 : decide (0 ≤ x) = true := decide_eq_true hx0
    subst hov
    have hO' : OutS wr w.heap.size (fun k => k < wr.heap.size) _ _ := Kd.S_mono (Kd.S_bound hO) (fun k hk => hk.2.2.1)
    have hI' : InS wr w.heap.size (fun k => k < wr.heap.size) _ _ := Kd.S_mono (Kd.S_bound hI) (fun k hk => hk.2.2.1)
    have hR' : Kd.R k57 57 wr w.heap.size (fun k => k < wr.heap.size) _ _ := Kd.R_mono (Kd.R_bound hR) (fun k hk => hk.2.2.1)
    have hol : ((rows.take x.toNat).map (·.map S57.f0)).length = x.toNat := by rw [List.length_map, List.length_take]; omega
    have HOL := Lib.hid hol
    generalize hov2 : (rows.take x.toNat).map (·.map S57.f0) = outs at hO hO' HOL ⊢
    have HOV := Lib.hid hov2
    clear hov2 hol hO hI hR
    have hbN := cblk_lt hX.1
    have hfN := cblk_lt hX.2
    obtain ⟨N, hN⟩ : ∃ N, wr.heap.size = N := ⟨_, rfl⟩
    rw [hN] at hbN hfN
    rw [hN] at hO' hI' hR'
    go_wp2_with fail
    go_loopg [9, 25] (row.length + 1) (fun k vl vi wx => NInv w N rows (.slice (some ad) rows.length RC) outs (.slice OA outs.length OC) row (.slice VA row.length VC) bf q1 q2 q3 q4 k vl vi wx)
    case atStart => exact ⟨0, by omega, by omega, by simp, rfl, Kd.R_nil _ _ _ _ _, hO', hI', hR', hX, hB, by omega⟩
    case round =>
     obtain ⟨y, hy0, hy1, hk2, rfl, hL, hO2, hI2, hR2, hX2, hB2, hN2⟩ := hrel
     have HK2 := Lib.hid hk2
     clear hk2 hce
     obtain ⟨LA, LC, hlv, hlc, _⟩ := Kd.R_reads hL
     obtain ⟨nl, hnl⟩ : ∃ nl, ((row.take y.toNat).map S57.f0).length = nl := ⟨_, rfl⟩
     have HNL := Lib.hid hnl
     rw [hnl] at hlv
     subst hlv
     clear hnl hlc
     by_cases hyl : y < row.length
     ·have e2 : decide (y < (row.length : Int)) = true := decide_eq_true hyl
      obtain ⟨ad2, hVA, k0, k1⟩ := at_T57 (Kd.R_reads' hR2).2.2 y hy0 hyl
      subst hVA
      have p4 := eq_true hy0
      have p5 := eq_true hyl
      have p6 := eq_true (show y.toNat < row.length by omega)
      have q9 : decide (0 ≤ y) = true := decide_eq_true hy0
      have hbL := Kd.R_base hL
      have hll : ((row.take y.toNat).map S57.f0).length ≤ 64 := by rw [List.length_map, List.length_take]; omega
      have hLa := Kd.R_alloc hL (.cells #[.string (rd_T57 row y).f0, .int .i64 (rd_T57 row y).f1] 57)
      have hza : (wr.alloc (.cells #[.string (rd_T57 row y).f0, .int .i64 (rd_T57 row y).f1] 57)).heap.size = wr.heap.size + 1 := Array.size_push _
      have hw1 : IntKind.i64.wrap (y + 1) = y + 1 := cwrap _ (by omega) (by omega)
      go_wp2_with (at_builtin; refine Kd.R_append Kd.string (w0 := wr.alloc (.cells #[.string (rd_T57 row y).f0, .int .i64 (rd_T57 row y).f1] 57)) N rfl (.tmp 29) (.tmp 32) 24 9 (.string ⟨#[]⟩) 16 rfl Tryd.underlying24 cinfoT rfl (by decide) (by omega) (.slice LA nl LC) ((row.take y.toNat).map S57.f0) (rd_T57 row y).f0 [.string (rd_T57 row y).f0] (fun _ => True) (fun _ => False) rfl (by first | (go_simp; done) | (go_simp; rfl)) rfl (fun _ hk => hk.elim) (fun _ _ => trivial) hLa (Below.refl _ _) (by omega) (by omega) ?_)
      intro v1 w5 hR5 hb5 hg5 hat5
      have hold : ∀ k, k < N → w5.heap[k]? = wr.heap[k]? := fun k hk => (hb5.block k hk).trans (Below.heap_alloc _ _ _ (by omega))
      have hO5 := Kd.S_step (w1 := w5) hO2 (fun k hk _ => hold k hk)
      have hI5 := Kd.S_step (w1 := w5) hI2 (fun k hk _ => hold k hk)
      have hV5 := Kd.R_step (w1 := w5) hR2 (fun k hk _ => hold k hk)
      have hX5 := hX2.step (w1 := w5) (fun k _ hk => hold k (by rcases hk with rfl | rfl <;> omega))
      have hB5 := (below_alloc hB2 (.cells #[.string (rd_T57 row y).f0, .int .i64 (rd_T57 row y).f1] 57)).trans (hb5.mono (show w.heap.size ≤ N by omega))
      have hN5 : N ≤ w5.heap.size := by have := hb5.size; omega
      clear hO2 hI2 hR2 hX2 hB2 hb5 hg5 hat5 hLa hL hold
      go_wp2_with fail
      have hkk := HK2.out
      obtain ⟨gk2, hgk⟩ : ∃ gk2, row.length - y.toNat + 1 = gk2 + 1 := ⟨_, rfl⟩
      rw [hgk] at hkk
      subst hkk
      go_roundg gk2
      case rel =>
       refine ⟨y + 1, by omega, by omega, by omega, rfl, ?_, hO5, hI5, hV5, hX5, hB5, hN5⟩
       rw [show (y + 1).toNat = y.toNat + 1 by omega, List.take_succ_eq_append_getElem (show y.toNat < row.length by omega), List.map_append]
       have e : (rd_T57 row y).f0 = (row[y.toNat]'(by omega)).f0 := by
        unfold rd_T57
        rw [List.getD_eq_getElem?_getD, List.getElem?_eq_getElem (show y.toNat < row.length by omega)]
        rfl
       rw [e] at hR5
       simp only [List.map_take] at hR5 ⊢
       exact hR5
      case measure => omega
     ·have hye : y = row.length := by omega
      have e2 : decide (y < (row.length : Int)) = false := decide_eq_false (by omega)
      have hlen : ((row.take y.toNat).map S57.f0) = row.map S57.f0 := by rw [List.take_of_length_le (by omega)]
      rw [hlen] at hL
      have hbL := Kd.R_base hL
      have hown : ∀ k, (Value.slice OA outs.length OC).ownBlock = some k → k < N := fun k hk => (Kd.S_R hO2).1 k hk
      have hP : (Kd.slice 9 Kd.string).M wr w.heap.size (fun k => N ≤ k) (row.map S57.f0) [.slice LA nl LC] := ⟨_, rfl, Kd.R_mono (Kd.R_lower (Kd.R_bound hL) (by omega)) (fun k hk => hk.2.1)⟩
      have hO3 : OutS wr w.heap.size (fun k => True ∧ ¬ N ≤ k) (.slice OA outs.length OC) outs := Kd.S_mono hO2 (fun k hk => ⟨trivial, by omega⟩)
      have hnb := Kd.S_ne hO2 hX2.1 (by decide)
      have hnf := Kd.S_ne hO2 hX2.2 (by decide)
      have hw1 : IntKind.i64.wrap (x + 1) = x + 1 := cwrap _ (by omega) (by omega)
      go_wp2_with (at_builtin; refine Kd.S_append (Kd.slice 9 Kd.string) (w0 := wr) w.heap.size rfl (.tmp 35) (.tmp 37) 25 24 (.slice none 0 0) 24 rfl Tryd.underlying25 cinfoTs rfl (by decide) (by omega) (.slice OA outs.length OC) outs (row.map S57.f0) [.slice LA nl LC] (fun _ => True) (fun k => N ≤ k) rfl (by first | (go_simp; done) | (go_simp; rfl)) hP (fun k hk => ⟨trivial, fun e => by have := hown k e.symm; omega⟩) (fun _ _ => trivial) hO3 (Below.refl _ _) (by omega) (by have := HOL.out; omega) ?_)
      intro v2 w6 hS6 hb6 hg6 hat6
      have hI6 : InS w6 w.heap.size (fun _ => True) _ _ := Kd.S_mono (Kd.S_over' hI2 (Kd.S_typed hO2) (by decide) hg6) (fun _ _ => trivial)
      have hX6 := hX2.step (w1 := w6) (fun k hk h => by
       refine hg6.block k hk ?_
       rcases h with rfl | rfl
       ·exact hnb
       ·exact hnf)
      have hB6 := hB2.trans hb6
      clear hO2 hI2 hR2 hX2 hB2 hb6 hg6 hat6 hO3 hP hL
      go_wp2_with fail
      have hkk := HK.out
      obtain ⟨gk3, hgk⟩ : ∃ gk3, rows.length - x.toNat + 1 = gk3 + 1 := ⟨_, rfl⟩
      rw [hgk] at hkk
      subst hkk
      go_roundg gk3
      case rel =>
       refine ⟨x + 1, by omega, by omega, by omega, rfl, ?_, hI6, hX6, hB6⟩
       rw [show (x + 1).toNat = x.toNat + 1 by omega, List.take_succ_eq_append_getElem (show x.toNat < rows.length by omega), List.map_append, HOV.out]
       have e : rows[x.toNat]'(by omega) = row := by
        rw [← HRW.out, List.getD_eq_getElem?_getD, List.getElem?_eq_getElem (show x.toNat < rows.length by omega)]
        rfl
       simp only [List.map_cons, List.map_nil, e]
       exact hS6
      case measure => omega
   ·have hxe : x = rows.length := by omega
    have e1 : decide (x < (rows.length : Int)) = false := decide_eq_false (by omega)
    have k0 : wr.cell? ⟨w.heap.size, 0, none⟩ = some (.int .i64 0) := by rw [cblk_cell hX.1]; rfl
    have k1 : wr.cell? ⟨w.heap.size, 1, none⟩ = some (.int .i64 0) := by rw [cblk_cell hX.1]; rfl
    have k2 : wr.cell? ⟨w.heap.size, 2, none⟩ = some (.int .i64 0) := by rw [cblk_cell hX.1]; rfl
    have k3 : wr.cell? ⟨w.heap.size, 3, none⟩ = some (.int .i64 0) := by rw [cblk_cell hX.1]; rfl
    have n0 := cblk_free hX.1 0
    have n1 := cblk_free hX.1 1
    have n2 := cblk_free hX.1 2
    have n3 := cblk_free hX.1 3
    have m0 : wr.cell? ⟨bf, 0, none⟩ = some (.int .i64 q1) := by rw [cblk_cell hX.2]; rfl
    have m1 : wr.cell? ⟨bf, 1, none⟩ = some (.int .i64 q2) := by rw [cblk_cell hX.2]; rfl
    have m2 : wr.cell? ⟨bf, 2, none⟩ = some (.int .i64 q3) := by rw [cblk_cell hX.2]; rfl
    have m3 : wr.cell? ⟨bf, 3, none⟩ = some (.int .i64 q4) := by rw [cblk_cell hX.2]; rfl
    have ht : (rows.take x.toNat).map (·.map S57.f0) = rows.map (·.map S57.f0) := by rw [List.take_of_length_le (by omega)]
    rw [ht] at hO hov
    subst hov
    have y0 := cblk_set hX.1 0 (.int .i64 q1)
    have y1 := cblk_set y0 1 (.int .i64 q2)
    have y2 := cblk_set y1 2 (.int .i64 q3)
    have y3 := cblk_set y2 3 (.int .i64 q4)
    have s0 := Kd.S_set hO hX.1 (by decide) 0 (.int .i64 q1)
    have s1 := Kd.S_set s0 y0 (by decide) 1 (.int .i64 q2)
    have s2 := Kd.S_set s1 y1 (by decide) 2 (.int .i64 q3)
    have s3 := Kd.S_set s2 y2 (by decide) 3 (.int .i64 q4)
    have b3 := ((((hB.setCell (p := ⟨w.heap.size, 0, none⟩) (Nat.le_refl _) (.int .i64 q1)).setCell (p := ⟨w.heap.size, 1, none⟩) (Nat.le_refl _) (.int .i64 q2)).setCell (p := ⟨w.heap.size, 2, none⟩) (Nat.le_refl _) (.int .i64 q3)).setCell (p := ⟨w.heap.size, 3, none⟩) (Nat.le_refl _) (.int .i64 q4))
    have HH := H.out
    obtain ⟨z1, z2⟩ := Prod.mk.inj HH
    obtain ⟨z2, z3⟩ := Prod.mk.inj z2
    obtain ⟨z3, z4⟩ := Prod.mk.inj z3
    obtain ⟨z4, z5⟩ := Prod.mk.inj z4
    subst z1
    subst z2
    subst z3
    subst z4
    subst z5
    clear H HH hI ht
    go_wp2_with fail
    go_region_with (first | fail)
    all_goals
     go_wp2_with fail
     refine bodyPost_ret (results_list (rs := [.tmp 2, .cell 3 30]) rfl (by simp) (.tmp (.cell w.heap.size 30 #[.int .i64 q1, .int .i64 q2, .int .i64 q3, .int .i64 q4] (0, 0) _ rfl y3 Tryd.underlying30 rfl (by kernel_rfl) .nil))) rfl ?_
     refine ⟨_, rfl, ?_, Below.drew b3⟩
     have s4 := Kd.S_drew s3
     simp only [List.length_map] at s4
     exact s4
 ·rw [if_neg hs] at h
  cases h
end Go.Proofs.YtjmmdphkgioooaaDoor.P
end
section
namespace Go.Proofs.YtjmmdphkgioooaaDoor.P
open Go.RowKit Go.Proofs.YtjmmdphkgioooaaDoorW.PrintWords Go.Proofs.YtjmmdphkgioooaaDoorW.PrintLast Go.Proofs.YtjmmdphkgioooaaDoorW.PrintMore
attribute [local go_sem] max2_int min2_int max_two min_two max_three min_three max_four min_four   -- for this text's walks alone
set_option linter.unusedVariables false
set_option linter.unusedSimpArgs false
/-! ### dragomanlaw14_CprintBack: function 5 -/
def dragomanlaw14_CprintBack.j0 : Nat → List (List ByteArray) → Bool → Option (Bool)
 | 0, _, _ => none
 | k + 1, x0, x13 => if x13 = true then (some true) else ((cprint_Print.f x0).bind fun t265 => ((cread_Rows.f t265).bind fun bt266 => (if bt266.2.1 = 0 then ((dragomanref17_Rows.f k bt266.1 x0).bind fun t274 => (some t274)) else (some false))))
def dragomanlaw14_CprintBack.f (k : Nat) (l0 : List (List ByteArray)) : Option (Bool) := (dragomanlaw14_awake.f).bind fun t262 => (if t262 = true then ((dragomanlaw14_great.f k l0).bind fun t263 => (if t263 = true then (dragomanlaw14_CprintBack.j0 k l0 true) else ((cprint_May.f l0).bind fun t264 => (dragomanlaw14_CprintBack.j0 k l0 (!t264))))) else (some false))
set_option maxHeartbeats 8000000 in
set_option maxRecDepth 100000 in
theorem dragomanlaw14_CprintBack.calls (k : Nat) (A0 : Option Addr) (c0 : Nat) (l0 : List (List ByteArray)) (r : Bool) (w : World) (hr0 : Kd.C (Kd.slice 9 Kd.string) w A0 l0.length l0) (hc0 : l0.length ≤ c0) (h : dragomanlaw14_CprintBack.f k l0 = some r) :
  Calls Tryd.prog 5 #[.slice A0 l0.length c0] w fun e w' => e = .returned (.bool r) ∧ Below w.heap.size w w' := by
 have hu30 := Tryd.underlying30
 have HR0 := Aside0.mk hr0
 have HC0 := Aside0.mk hc0
 clear hr0 hc0
 have HB := Aside0.mk (Below.refl w.heap.size w)
 have H : ((dragomanlaw14_awake.f).bind fun t262 => (if t262 = true then ((dragomanlaw14_great.f k l0).bind fun t263 => (if t263 = true then (dragomanlaw14_CprintBack.j0 k l0 true) else ((cprint_May.f l0).bind fun t264 => (dragomanlaw14_CprintBack.j0 k l0 (!t264))))) else (some false))) = some r := h
 clear h
 replace H := Option.bind_eq_some_iff.mp H
 obtain ⟨t262, A20, H⟩ := H
 replace H : (if t262 = true then ((dragomanlaw14_great.f k l0).bind fun t263 => (if t263 = true then (dragomanlaw14_CprintBack.j0 k l0 true) else ((cprint_May.f l0).bind fun t264 => (dragomanlaw14_CprintBack.j0 k l0 (!t264))))) else (some false)) = some r := H
 have A2 := Aside0.mk A20
 clear A20
 by_cases c3 : t262 = true
 ·subst c3
  have H1 : ((dragomanlaw14_great.f k l0).bind fun t263 => (if t263 = true then (dragomanlaw14_CprintBack.j0 k l0 true) else ((cprint_May.f l0).bind fun t264 => (dragomanlaw14_CprintBack.j0 k l0 (!t264))))) = some r := by rw [if_pos rfl] at H; exact H
  clear H
  have H := H1
  clear H1
  have HC4 := Aside0.mk H
  clear H
  go_enter Tryd.func5, Tryd.ntmps5
  go_upto_region 3 with (first | ((with_reducible refine gate_callee (f := 7) rfl ?_); refine goesL_ (some 5) rfl rfl Tryd.func7 (by kernel_rfl) rfl #[] rfl (by (try simp only [List.map_toArray, List.map_cons, List.map_nil]); first | done | rfl | (simp only [List.length_drop, List.length_take]; rfl)) ?_; (with_reducible refine (dragomanlaw14_awake.calls  true _ A2.out).mono ?_); rintro e w5 ⟨rfl, hb⟩; refine ⟨_, rfl, ?_⟩; have n0_ := Aside0.mk (below_step (by repeat (first | (with_reducible first | exact HB.out | apply below_alloc | apply pw_below_drewN | apply below_drew1) | exact HB.out)) hb); clear HB; have HB := n0_; clear n0_; (try clear hb); (try clear hb2); (try clear hk); (try clear hi)))
  (try simp only [Act.put, List.setIfInBounds_toArray, List.set_cons_zero, List.set_cons_succ])
  go_cut [13] (fun v13 wc => ∃ (kq : Nat) (x13_3 : Bool), v13 = .bool x13_3 ∧ Aside0 (dragomanlaw14_CprintBack.j0 kq l0 x13_3 = some r) ∧ Aside0 (kq ≤ k) ∧ Aside0 (Below w.heap.size w wc))
  case first =>
   have H := HC4.out
   clear HC4
   replace H := Option.bind_eq_some_iff.mp H
   obtain ⟨t263, A60, H⟩ := H
   replace H : (if t263 = true then (dragomanlaw14_CprintBack.j0 k l0 true) else ((cprint_May.f l0).bind fun t264 => (dragomanlaw14_CprintBack.j0 k l0 (!t264)))) = some r := H
   have A6 := Aside0.mk A60
   clear A60
   by_cases c7 : t263 = true
   ·subst c7
    have H1 : (dragomanlaw14_CprintBack.j0 k l0 true) = some r := by rw [if_pos rfl] at H; exact H
    clear H
    have H := H1
    clear H1
    have H' := Aside0.mk H
    clear H
    go_wp2_with (first | ((with_reducible refine gate_callee (f := 11) rfl ?_); refine goesL_ (some 8) rfl rfl Tryd.func11 (by kernel_rfl) rfl #[.slice A0 l0.length c0] rfl (by (try simp only [List.map_toArray, List.map_cons, List.map_nil]); first | done | rfl | (simp only [List.length_drop, List.length_take]; rfl)) ?_; (with_reducible refine (dragomanlaw14_great.calls k _ _ l0 true _ ?side1 ?side2 A6.out).mono ?_); (case side1 => repeat (first | exact (Kd.C_below HR0.out HB.out) | (with_reducible refine Kd.C_alloc ?_ _) | (with_reducible refine Kd.C_drewN ?_ _) | (with_reducible refine Kd.C_drew ?_))); (case side2 => exact HC0.out); rintro e w' ⟨rfl, ⟨nd, rfl⟩⟩; refine ⟨_, rfl, ?_⟩))
    go_meet
    case rel => exact ⟨_, (true), (by first | rfl | (simp; done) | (simp [*]; done)), H', ⟨by first | omega | exact Nat.le_refl _⟩, ⟨by repeat (first | (with_reducible first | exact HB.out | apply below_alloc | apply pw_below_drewN | apply below_drew1) | exact HB.out)⟩⟩
   ·replace c7 := Bool.eq_false_iff.mpr c7
    subst c7
    have H1 : ((cprint_May.f l0).bind fun t264 => (dragomanlaw14_CprintBack.j0 k l0 (!t264))) = some r := by rw [if_neg (show ¬ (false = true) by decide)] at H; exact H
    clear H
    have H := H1
    clear H1
    replace H := Option.bind_eq_some_iff.mp H
    obtain ⟨t264, A80, H⟩ := H
    replace H : (dragomanlaw14_CprintBack.j0 k l0 (!t264)) = some r := H
    have A8 := Aside0.mk A80
    clear A80
    have H' := Aside0.mk H
    clear H
    go_wp2_with (first | ((with_reducible refine gate_callee (f := 11) rfl ?_); refine goesL_ (some 8) rfl rfl Tryd.func11 (by kernel_rfl) rfl #[.slice A0 l0.length c0] rfl (by (try simp only [List.map_toArray, List.map_cons, List.map_nil]); first | done | rfl | (simp only [List.length_drop, List.length_take]; rfl)) ?_; (with_reducible refine (dragomanlaw14_great.calls k _ _ l0 false _ ?side1 ?side2 A6.out).mono ?_); (case side1 => repeat (first | exact (Kd.C_below HR0.out HB.out) | (with_reducible refine Kd.C_alloc ?_ _) | (with_reducible refine Kd.C_drewN ?_ _) | (with_reducible refine Kd.C_drew ?_))); (case side2 => exact HC0.out); rintro e w' ⟨rfl, ⟨nd, rfl⟩⟩; refine ⟨_, rfl, ?_⟩) | (go_at_call 8; (with_reducible refine (cprint_May.calls _ _ l0 t264 _ ?side1 ?side2 A8.out).mono ?_); (case side1 => repeat (first | exact (Kd.C_below HR0.out (by repeat (first | (with_reducible first | exact HB.out | apply below_alloc | apply pw_below_drewN | apply below_drew1) | exact HB.out))) | (with_reducible refine Kd.C_alloc ?_ _) | (with_reducible refine Kd.C_drewN ?_ _) | (with_reducible refine Kd.C_drew ?_))); (case side2 => exact HC0.out); rintro e w9 ⟨rfl, hb⟩; have n0_ := Aside0.mk (below_step (by repeat (first | (with_reducible first | exact HB.out | apply below_alloc | apply pw_below_drewN | apply below_drew1) | exact HB.out)) hb); clear HB; have HB := n0_; clear n0_; (try clear hb); (try clear hb2); (try clear hk); (try clear hi)))
    go_meet
    case rel => exact ⟨_, (!t264), (by first | rfl | (simp; done) | (simp [*]; done)), H', ⟨by first | omega | exact Nat.le_refl _⟩, ⟨by repeat (first | (with_reducible first | exact HB.out | apply below_alloc | apply pw_below_drewN | apply below_drew1) | exact HB.out)⟩⟩
  case rest =>
   clear HC4
   try clear c1
   try clear p2
   try clear c3
   try clear c5
   try clear c7
   obtain ⟨kq, x13_3, rfl, HA, HJ3, HB⟩ := hcut
   cases kq with
   | zero => exact absurd HA.out (by simp [dragomanlaw14_CprintBack.j0])
   | succ kj3 =>
    have H := HA.out
    clear HA
    simp only [dragomanlaw14_CprintBack.j0] at H
    by_cases c10 : x13_3 = true
    ·subst c10
     have H1 : (some true) = some r := by rw [if_pos rfl] at H; exact H
     clear H
     have H := H1
     clear H1
     obtain rfl := Option.some.inj H
     go_wp2
     go_ret
     exact ⟨by first | rfl | (simp [errW_none, errW_some] <;> rfl) | (simp [*, errW_none, errW_some, bne]; done) | (simp [*, errW_none, errW_some] <;> rfl), by repeat (first | (with_reducible first | exact HB.out | apply below_alloc | apply pw_below_drewN | apply below_drew1) | exact HB.out)⟩
    ·replace c10 := Bool.eq_false_iff.mpr c10
     subst c10
     have H1 : ((cprint_Print.f l0).bind fun t265 => ((cread_Rows.f t265).bind fun bt266 => (if bt266.2.1 = 0 then ((dragomanref17_Rows.f kj3 bt266.1 l0).bind fun t274 => (some t274)) else (some false)))) = some r := by rw [if_neg (show ¬ (false = true) by decide)] at H; exact H
     clear H
     have H := H1
     clear H1
     replace H := Option.bind_eq_some_iff.mp H
     obtain ⟨t265, A110, H⟩ := H
     replace H : ((cread_Rows.f t265).bind fun bt266 => (if bt266.2.1 = 0 then ((dragomanref17_Rows.f kj3 bt266.1 l0).bind fun t274 => (some t274)) else (some false))) = some r := H
     have A11 := Aside0.mk A110
     clear A110
     replace H := Option.bind_eq_some_iff.mp H
     obtain ⟨⟨t266, t269, t270, t271, t272⟩, A120, H⟩ := H
     replace H : (if t269 = 0 then ((dragomanref17_Rows.f kj3 t266 l0).bind fun t274 => (some t274)) else (some false)) = some r := H
     have A12 := Aside0.mk A120
     clear A120
     by_cases c13 : t269 = 0
     ·rw [if_pos c13] at H
      have c13b0 : (t269 == 0) = true := beq_iff_eq.mpr c13
      have c13b1 : (t269 != 0) = false := bne_eq_false_iff_eq.mpr c13
      clear c13
      replace H := Option.bind_eq_some_iff.mp H
      obtain ⟨t274, A140, H⟩ := H
      replace H : (some t274) = some r := H
      have A14 := Aside0.mk A140
      clear A140
      obtain rfl := Option.some.inj H
      go_wp2_with (first | ((with_reducible refine gate_callee (f := 9) rfl ?_); refine goesL_ (some 16) rfl rfl Tryd.func9 (by kernel_rfl) rfl #[.slice A0 l0.length c0] rfl (by (try simp only [List.map_toArray, List.map_cons, List.map_nil]); first | done | rfl | (simp only [List.length_drop, List.length_take]; rfl)) ?_; (with_reducible refine (cprint_Print.calls _ _ l0 t265 _ ?side1 ?side2 A11.out).mono ?_); (case side1 => repeat (first | exact (Kd.C_below HR0.out HB.out) | (with_reducible refine Kd.C_alloc ?_ _) | (with_reducible refine Kd.C_drewN ?_ _) | (with_reducible refine Kd.C_drew ?_))); (case side2 => exact HC0.out); rintro e w15 ⟨rfl, hb⟩; refine ⟨_, rfl, ?_⟩; have n0_ := Aside0.mk (below_step (by repeat (first | (with_reducible first | exact HB.out | apply below_alloc | apply pw_below_drewN | apply below_drew1) | exact HB.out)) hb); clear HB; have HB := n0_; clear n0_; (try clear hb); (try clear hb2); (try clear hk); (try clear hi)) | ((with_reducible refine gate_callee (f := 15) rfl ?_); refine goesL_ (some 17) rfl rfl Tryd.func15 (by kernel_rfl) rfl #[.string t265] rfl (by (try simp only [List.map_toArray, List.map_cons, List.map_nil]); first | done | rfl | (simp only [List.length_drop, List.length_take]; rfl)) ?_; (with_reducible refine (cread_Rows.calls t265 t266 t269 t270 t271 t272 _ A12.out).mono ?_); rintro e w16 ⟨v267, rfl, ho0, hb⟩; refine ⟨_, rfl, ?_⟩; have n0_ := Aside0.mk (Kd.S_lower ho0 (below_size (by repeat (first | (with_reducible first | exact HB.out | apply below_alloc | apply pw_below_drewN | apply below_drew1) | exact HB.out)))); have n1_ := Aside0.mk (below_step (by repeat (first | (with_reducible first | exact HB.out | apply below_alloc | apply pw_below_drewN | apply below_drew1) | exact HB.out)) hb); clear HB; have HO268 := n0_; have HB := n1_; clear n0_ n1_; (try clear hb); (try clear hb2); (try clear hk); (try clear hi); (try clear ho0)) | ((with_reducible refine gate_dst (N := 4) rfl ?_); refine box_event ?hg (N := 4) ?hd (cs := #[.int .i64 0, .int .i64 0, .int .i64 0, .int .i64 0]) (t := 30) ?hr ?_; (case hd => rfl); (case hg => rfl); (case hr => first | (go_simp; done) | (go_simp; rfl)); intro gb273 hg w17 hbox hb; have n0_ := Aside0.mk (Kd.S_below (by (with_reducible repeat (first | apply Kd.S_alloc | apply Kd.S_drewN | apply Kd.S_drew)); exact HO268.out) hb); have n1_ := Aside0.mk (below_step (by repeat (first | (with_reducible first | exact HB.out | apply below_alloc | apply pw_below_drewN | apply below_drew1) | exact HB.out)) hb); have n2_ := Aside0.mk (hbox); have n3_ := Aside0.mk ((by rw [hg]; exact (below_size (by repeat (first | (with_reducible first | exact HB.out | apply below_alloc | apply pw_below_drewN | apply below_drew1) | exact HB.out))) : w.heap.size ≤ gb273)); have n4_ := Aside0.mk ((by rw [hg]; exact (below_size (by repeat (first | (with_reducible first | exact HB.out | apply below_alloc | apply pw_below_drewN | apply below_drew1) | exact HB.out))) : w.heap.size ≤ gb273)); clear HO268; clear HB; have HO268 := n0_; have HB := n1_; have BK273 := n2_; have GW273 := n3_; have GE273 := n4_; clear n0_ n1_ n2_ n3_ n4_; clear hb hbox hg; have hcz18_0 : w17.cell? ⟨gb273, 0, none⟩ = some (.int .i64 0) := (blk_cell BK273.out 0).trans rfl; have hcz18_1 : w17.cell? ⟨gb273, 1, none⟩ = some (.int .i64 0) := (blk_cell BK273.out 1).trans rfl; have hcz18_2 : w17.cell? ⟨gb273, 2, none⟩ = some (.int .i64 0) := (blk_cell BK273.out 2).trans rfl; have hcz18_3 : w17.cell? ⟨gb273, 3, none⟩ = some (.int .i64 0) := (blk_cell BK273.out 3).trans rfl; have hfz18_0 := blk_frozen BK273.out 0; have hfz18_1 := blk_frozen BK273.out 1; have hfz18_2 := blk_frozen BK273.out 2; have hfz18_3 := blk_frozen BK273.out 3; obtain ⟨Ao19, co19, eo19⟩ := Kd.S_slice HO268.out; subst eo19) | (go_at_call 16; (with_reducible refine (dragomanref17_Rows.calls kj3 _ _ t266 _ _ l0 t274 _ ?side1 ?side2 ?side3 ?side4 A14.out).mono ?_); (case side1 => refine (Kd.S_reads' (e := 24) (base := w.heap.size) (ok := fun k_ => True) (n := t266.length) (c := co19) ?_).2.2; exact (by (with_reducible repeat (first | apply Kd.S_alloc | apply Kd.S_drewN | apply Kd.S_drew)); exact (Kd.S_mono (Kd.S_far (p := ⟨gb273, 3, none⟩) (Kd.S_far (p := ⟨gb273, 2, none⟩) (Kd.S_far (p := ⟨gb273, 1, none⟩) (Kd.S_far (p := ⟨gb273, 0, none⟩) (Kd.S_types HO268.out BK273.out (by decide)) (fun _ hk => hk.2) (.int .i64 t269)) (fun _ hk => hk.2) (.int .i64 t270)) (fun _ hk => hk.2) (.int .i64 t271)) (fun _ hk => hk.2) (.int .i64 t272)) (fun _ h_ => h_.1)))); (case side2 => exact (Kd.S_reads' HO268.out).2.1); (case side3 => exact Kd.C_below HR0.out (by repeat (first | (with_reducible first | exact HB.out | apply below_alloc | apply pw_below_drewN | apply below_drew1 | refine below_set ?_ GE273.out) | exact HB.out))); (case side4 => exact HC0.out); rintro e w' ⟨rfl, ⟨nd, rfl⟩⟩))
      go_ret
      exact ⟨by first | rfl | (simp [errW_none, errW_some] <;> rfl) | (simp [*, errW_none, errW_some, bne]; done) | (simp [*, errW_none, errW_some] <;> rfl), by repeat (first | (with_reducible first | exact HB.out | apply below_alloc | apply pw_below_drewN | apply below_drew1 | refine below_set ?_ GE273.out) | exact HB.out)⟩
     ·rw [if_neg c13] at H
      have c13b0 : (t269 == 0) = false := beq_eq_false_iff_ne.mpr c13
      have c13b1 : (t269 != 0) = true := bne_iff_ne.mpr c13
      obtain rfl := Option.some.inj H
      go_wp2_with (first | ((with_reducible refine gate_callee (f := 9) rfl ?_); refine goesL_ (some 16) rfl rfl Tryd.func9 (by kernel_rfl) rfl #[.slice A0 l0.length c0] rfl (by (try simp only [List.map_toArray, List.map_cons, List.map_nil]); first | done | rfl | (simp only [List.length_drop, List.length_take]; rfl)) ?_; (with_reducible refine (cprint_Print.calls _ _ l0 t265 _ ?side1 ?side2 A11.out).mono ?_); (case side1 => repeat (first | exact (Kd.C_below HR0.out HB.out) | (with_reducible refine Kd.C_alloc ?_ _) | (with_reducible refine Kd.C_drewN ?_ _) | (with_reducible refine Kd.C_drew ?_))); (case side2 => exact HC0.out); rintro e w20 ⟨rfl, hb⟩; refine ⟨_, rfl, ?_⟩; have n0_ := Aside0.mk (below_step (by repeat (first | (with_reducible first | exact HB.out | apply below_alloc | apply pw_below_drewN | apply below_drew1) | exact HB.out)) hb); clear HB; have HB := n0_; clear n0_; (try clear hb); (try clear hb2); (try clear hk); (try clear hi)) | ((with_reducible refine gate_callee (f := 15) rfl ?_); refine goesL_ (some 17) rfl rfl Tryd.func15 (by kernel_rfl) rfl #[.string t265] rfl (by (try simp only [List.map_toArray, List.map_cons, List.map_nil]); first | done | rfl | (simp only [List.length_drop, List.length_take]; rfl)) ?_; (with_reducible refine (cread_Rows.calls t265 t266 t269 t270 t271 t272 _ A12.out).mono ?_); rintro e w21 ⟨v267, rfl, ho0, hb⟩; refine ⟨_, rfl, ?_⟩; have n0_ := Aside0.mk (Kd.S_lower ho0 (below_size (by repeat (first | (with_reducible first | exact HB.out | apply below_alloc | apply pw_below_drewN | apply below_drew1) | exact HB.out)))); have n1_ := Aside0.mk (below_step (by repeat (first | (with_reducible first | exact HB.out | apply below_alloc | apply pw_below_drewN | apply below_drew1) | exact HB.out)) hb); clear HB; have HO268 := n0_; have HB := n1_; clear n0_ n1_; (try clear hb); (try clear hb2); (try clear hk); (try clear hi); (try clear ho0)) | ((with_reducible refine gate_dst (N := 4) rfl ?_); refine box_event ?hg (N := 4) ?hd (cs := #[.int .i64 0, .int .i64 0, .int .i64 0, .int .i64 0]) (t := 30) ?hr ?_; (case hd => rfl); (case hg => rfl); (case hr => first | (go_simp; done) | (go_simp; rfl)); intro gb273 hg w22 hbox hb; have n0_ := Aside0.mk (Kd.S_below (by (with_reducible repeat (first | apply Kd.S_alloc | apply Kd.S_drewN | apply Kd.S_drew)); exact HO268.out) hb); have n1_ := Aside0.mk (below_step (by repeat (first | (with_reducible first | exact HB.out | apply below_alloc | apply pw_below_drewN | apply below_drew1) | exact HB.out)) hb); have n2_ := Aside0.mk (hbox); have n3_ := Aside0.mk ((by rw [hg]; exact (below_size (by repeat (first | (with_reducible first | exact HB.out | apply below_alloc | apply pw_below_drewN | apply below_drew1) | exact HB.out))) : w.heap.size ≤ gb273)); have n4_ := Aside0.mk ((by rw [hg]; exact (below_size (by repeat (first | (with_reducible first | exact HB.out | apply below_alloc | apply pw_below_drewN | apply below_drew1) | exact HB.out))) : w.heap.size ≤ gb273)); clear HO268; clear HB; have HO268 := n0_; have HB := n1_; have BK273 := n2_; have GW273 := n3_; have GE273 := n4_; clear n0_ n1_ n2_ n3_ n4_; clear hb hbox hg; have hcz23_0 : w22.cell? ⟨gb273, 0, none⟩ = some (.int .i64 0) := (blk_cell BK273.out 0).trans rfl; have hcz23_1 : w22.cell? ⟨gb273, 1, none⟩ = some (.int .i64 0) := (blk_cell BK273.out 1).trans rfl; have hcz23_2 : w22.cell? ⟨gb273, 2, none⟩ = some (.int .i64 0) := (blk_cell BK273.out 2).trans rfl; have hcz23_3 : w22.cell? ⟨gb273, 3, none⟩ = some (.int .i64 0) := (blk_cell BK273.out 3).trans rfl; have hfz23_0 := blk_frozen BK273.out 0; have hfz23_1 := blk_frozen BK273.out 1; have hfz23_2 := blk_frozen BK273.out 2; have hfz23_3 := blk_frozen BK273.out 3))
      go_ret
      exact ⟨by first | rfl | (simp [errW_none, errW_some] <;> rfl) | (simp [*, errW_none, errW_some, bne]; done) | (simp [*, errW_none, errW_some] <;> rfl), by repeat (first | (with_reducible first | exact HB.out | apply below_alloc | apply pw_below_drewN | apply below_drew1 | refine below_set ?_ GE273.out) | exact HB.out)⟩
 ·replace c3 := Bool.eq_false_iff.mpr c3
  subst c3
  have H1 : (some false) = some r := by rw [if_neg (show ¬ (false = true) by decide)] at H; exact H
  clear H
  have H := H1
  clear H1
  obtain rfl := Option.some.inj H
  go_enter Tryd.func5, Tryd.ntmps5
  go_wp2_with (first | ((with_reducible refine gate_callee (f := 7) rfl ?_); refine goesL_ (some 5) rfl rfl Tryd.func7 (by kernel_rfl) rfl #[] rfl (by (try simp only [List.map_toArray, List.map_cons, List.map_nil]); first | done | rfl | (simp only [List.length_drop, List.length_take]; rfl)) ?_; (with_reducible refine (dragomanlaw14_awake.calls  false _ A2.out).mono ?_); rintro e w24 ⟨rfl, hb⟩; refine ⟨_, rfl, ?_⟩; have n0_ := Aside0.mk (below_step (by repeat (first | (with_reducible first | exact HB.out | apply below_alloc | apply pw_below_drewN | apply below_drew1) | exact HB.out)) hb); clear HB; have HB := n0_; clear n0_; (try clear hb); (try clear hb2); (try clear hk); (try clear hi)))
  go_ret
  exact ⟨by first | rfl | (simp [errW_none, errW_some] <;> rfl) | (simp [*, errW_none, errW_some, bne]; done) | (simp [*, errW_none, errW_some] <;> rfl), by repeat (first | (with_reducible first | exact HB.out | apply below_alloc | apply pw_below_drewN | apply below_drew1) | exact HB.out)⟩
end Go.Proofs.YtjmmdphkgioooaaDoor.P
end
section
namespace Go.Proofs.YtjmmdphkgioooaaDoor.La
open Go.RowKit Go.Proofs.YtjmmdphkgioooaaDoor.P Go.Proofs.YtjmmdphkgioooaaDoorW.PrintWords Go.Proofs.YtjmmdphkgioooaaDoorW.PrintLast Go.Proofs.YtjmmdphkgioooaaDoorW.PrintMore
theorem texts_ev (a : List ByteArray) (ha : a.length ≤ 9000000000000) : ∀ (n i : Nat), i ≤ a.length → a.length - i = n → Ev (fun k => dragomanref17_Texts.l0 k a a (i : Int)) true
 | 0, i, hi, hn => Ev.step (fun k => by rw [dragomanref17_Texts.l0, if_neg (show ¬ (i : Int) < (a.length : Int) by omega)]) (Ev.now _)
 | n + 1, i, hi, hn => by
  refine Ev.step (fun k => by rw [dragomanref17_Texts.l0, if_pos (show (i : Int) < (a.length : Int) by omega), if_pos (show (0 : Int) ≤ (i : Int) by omega), if_pos (show (i : Int) < (a.length : Int) by omega), if_pos rfl, wrap_id (show -9223372036854775808 ≤ (i : Int) + 1 by omega) (show (i : Int) + 1 < 9223372036854775808 by omega)]) ?_
  exact texts_ev a ha n (i + 1) (by omega) (by omega)
theorem same_l0 (a : List (List ByteArray)) (ha : a.length ≤ 9000000000000) (hb : ∀ r ∈ a, r.length ≤ 9000000000000) : ∀ (n i : Nat), i ≤ a.length → a.length - i = n → Ev (fun k => dragomanref17_Rows.l0 k a a (i : Int)) true
 | 0, i, hi, hn => Ev.step (fun k => by rw [dragomanref17_Rows.l0, if_neg (show ¬ (i : Int) < (a.length : Int) by omega)]) (Ev.now _)
 | n + 1, i, hi, hn => by
  have hlt : i < a.length := by omega
  have hm : rd_L1 a (i : Int) ∈ a := by
   show a.getD (i : Int).toNat [] ∈ a
   rw [List.getD_eq_getElem?_getD, Int.toNat_natCast, List.getElem?_eq_getElem hlt]
   exact List.getElem_mem _
  refine Ev.step (fun k => by rw [dragomanref17_Rows.l0, if_pos (show (i : Int) < (a.length : Int) by omega), if_pos (show (0 : Int) ≤ (i : Int) by omega), if_pos (show (i : Int) < (a.length : Int) by omega)]) ?_
  refine Ev.bind (Ev.congr (fun k => by rw [dragomanref17_Texts.f, if_pos rfl]; rfl) (texts_ev _ (hb _ hm) _ 0 (Nat.zero_le _) rfl)) ?_
  refine Ev.congr (fun k => by rw [if_pos rfl, wrap_id (show -9223372036854775808 ≤ (i : Int) + 1 by omega) (show (i : Int) + 1 < 9223372036854775808 by omega)]) ?_
  exact same_l0 a ha hb n (i + 1) (by omega) (by omega)
theorem same_ev (a : List (List ByteArray)) (ha : a.length ≤ 9000000000000) (hb : ∀ r ∈ a, r.length ≤ 9000000000000) : Ev (fun k => dragomanref17_Rows.f k a a) true :=
 Ev.congr (fun k => by rw [dragomanref17_Rows.f, if_pos rfl]; rfl) (same_l0 a ha hb _ 0 (Nat.zero_le _) rfl)
end Go.Proofs.YtjmmdphkgioooaaDoor.La
end
section
namespace Go.Proofs.YtjmmdphkgioooaaDoor.La
open Go.RowKit Go.Proofs.YtjmmdphkgioooaaDoor.P Go.Proofs.YtjmmdphkgioooaaDoorW.PrintWords Go.Proofs.YtjmmdphkgioooaaDoorW.PrintLast Go.Proofs.YtjmmdphkgioooaaDoorW.PrintMore
theorem rows_f (s : ByteArray) (hs : s.size ≤ 8796093022208) : cread_Rows.f s = some (readR s) := by
 unfold cread_Rows.f
 rw [if_pos hs]
theorem enc_low {r : Int} (h : r < 128) : enc r = [r] := by unfold enc; rw [if_pos h]
theorem enc_high {r : Int} (h : 128 ≤ r) (hg : good r) : ∀ b ∈ enc r, 128 ≤ b := by
 have hg' := good_iff.1 hg
 unfold enc
 rw [if_neg (by omega)]
 intro b hb
 split at hb
 ·simp at hb; omega
 ·split at hb
  ·simp at hb; omega
  ·simp at hb; omega
/-- A text of letters, cut ahead of a byte below 128 (or at its end): both parts are letters. -/
theorem bad_cut (L : List Int) (hL : Bytes L) (h : bad L = none) : ∀ a b : List Int, L = a ++ b → (∀ c t, b = c :: t → c < 128) → bad a = none ∧ bad b = none := by
 refine text_induction (P := fun L => ∀ a b : List Int, L = a ++ b → (∀ c t, b = c :: t → c < 128) → bad a = none ∧ bad b = none) ?_ ?_ L hL h
 ·intro a b hab _
  obtain ⟨rfl, rfl⟩ := List.append_eq_nil_iff.1 hab.symm
  exact ⟨bad_nil, bad_nil⟩
 ·intro r m hr hm _ ih a b hab hb
  cases a with
  | nil =>
   rw [List.nil_append] at hab
   refine ⟨bad_nil, ?_⟩
   rw [← hab, bad_enc hr, hm]
   rfl
  | cons x a' =>
   by_cases hlen : (enc r).length ≤ (x :: a').length
   ·have e1 : (x :: a').take (enc r).length = enc r := by
     have := congrArg (List.take (enc r).length) hab
     rw [List.take_left, List.take_append_of_le_length hlen] at this
     exact this.symm
    have e2 : m = (x :: a').drop (enc r).length ++ b := by
     have := congrArg (List.drop (enc r).length) hab
     rw [List.drop_left, List.drop_append_of_le_length hlen] at this
     exact this
    obtain ⟨h1, h2⟩ := ih _ _ e2 hb
    refine ⟨?_, h2⟩
    rw [← List.take_append_drop (enc r).length (x :: a'), e1, bad_enc hr, h1]
    rfl
   ·exfalso
    have hl := (enc_len r).2
    have hge : 128 ≤ r := by
     rcases Int.lt_or_le r 128 with h | h
     ·rw [enc_low h] at hlen; simp at hlen
     ·exact h
    have hi : (x :: a').length < (enc r).length := by omega
    have hne : b ≠ [] := by
     intro e
     subst e
     have := congrArg List.length hab
     rw [List.append_nil, List.length_append] at this
     omega
    obtain ⟨c, t, rfl⟩ : ∃ c t, b = c :: t := by cases b with
     | nil => exact absurd rfl hne
     | cons c t => exact ⟨c, t, rfl⟩
    have hc := hb c t rfl
    have e3 : (enc r ++ m)[(x :: a').length]? = some c := by
     rw [hab, List.getElem?_append_right (Nat.le_refl _), Nat.sub_self]
     rfl
    rw [List.getElem?_append_left hi] at e3
    have := enc_high hge hr c (List.mem_of_getElem? e3)
    omega
theorem bad_one {b : Int} (h0 : 0 ≤ b) (h1 : b < 128) (m : List Int) : bad (b :: m) = (bad m).map (· + 1) := by
 have e : enc b = [b] := by unfold enc; rw [if_pos h1]
 have h := bad_enc (r := b) ⟨h0, by omega, .inl (by omega)⟩ m
 rw [e] at h
 exact h
theorem bad_one_none {b : Int} (h0 : 0 ≤ b) (h1 : b < 128) (m : List Int) : bad (b :: m) = none ↔ bad m = none := by
 rw [bad_one h0 h1]
 cases bad m <;> simp
theorem bad_asc {l : List Int} (h : ∀ b ∈ l, 0 ≤ b ∧ b < 128) : bad l = none := by
 induction l with
 | nil => exact bad_nil
 | cons b l ih =>
  have := h b List.mem_cons_self
  exact (bad_one_none this.1 this.2 l).2 (ih (fun x hx => h x (List.mem_cons_of_mem _ hx)))
theorem bad_app {a b : List Int} (ha : Bytes a) (h1 : bad a = none) (h2 : bad b = none) : bad (a ++ b) = none := by
 rw [bad_join ha h1, h2]; rfl
/-- Behind a byte below 128. -/
theorem bad_mid {a b : List Int} {c : Int} (h0 : 0 ≤ c) (h1 : c < 128) (hB : Bytes (a ++ c :: b)) : bad (a ++ c :: b) = none ↔ bad a = none ∧ bad b = none := by
 constructor
 ·intro h
  obtain ⟨h2, h3⟩ := bad_cut _ hB h a (c :: b) rfl (fun x t hx => by rw [← (List.cons.inj hx).1]; exact h1)
  exact ⟨h2, (bad_one_none h0 h1 b).1 h3⟩
 ·rintro ⟨h2, h3⟩
  exact bad_app hB.left h2 ((bad_one_none h0 h1 b).2 h3)
/-- A text of lines, read. -/
theorem read_lines (ls : List Line) (hL : Lines ls) (hv : bad (textOf ls) = none) (hz : (textOf ls).length ≤ 65536) (hn : ls.length ≤ 513) (s : ByteArray) (hs : bytesOf s = textOf ls) :
  match rowsOf [] (ls.map Prod.fst) with
  | none => (readR s).1 = [] ∧ (readR s).2.1 = 7
  | some r => readR s = (r, 0, 0, 0, 0) := by
 have h := whole_lines ls hL 513 [] 0 hn
 rw [← hs] at h hv hz
 rw [size_of] at hz
 unfold readR fieldsR
 rw [if_neg (by omega), hv]
 simp only [List.map_nil] at h
 cases hr : rowsOf [] (ls.map Prod.fst) with
 | none =>
  rw [hr] at h
  obtain ⟨j, hj⟩ := h
  rw [hj]
  exact ⟨rfl, rfl⟩
 | some r =>
  rw [hr] at h
  obtain ⟨rows', hj, rfl⟩ := h
  rw [hj]
  rfl
/-- Rows of one length. -/
theorem rowsOf_same {c : Nat} : ∀ (l : List (List (List Int × List Int))) (rows : List (List ByteArray)), (∀ r ∈ rows, r.length = c) → (∀ f ∈ l, f.length = c) → rowsOf rows l = some (rows ++ l.map (·.map (fun p => strOfNums p.2)))
 | [], rows, _, _ => by simp [rowsOf]
 | f :: t, rows, h1, h2 => by
  have hf := h2 f List.mem_cons_self
  rw [rowsOf, if_neg, rowsOf_same t _ (by
   intro r hr
   rcases List.mem_append.1 hr with hr | hr
   ·exact h1 r hr
   ·rw [List.mem_singleton.1 hr, List.length_map]; exact hf) (fun x hx => h2 x (List.mem_cons_of_mem _ hx))]
  ·simp
  ·rintro ⟨h3, h4⟩
   cases rows with
   | nil => exact h3 rfl
   | cons a b => exact h4 (hf.trans (h1 a List.mem_cons_self).symm)
end Go.Proofs.YtjmmdphkgioooaaDoor.La
end
section
namespace Go.Proofs.YtjmmdphkgioooaaDoor.La
open Go.RowKit Go.Proofs.YtjmmdphkgioooaaDoor.P Go.Proofs.YtjmmdphkgioooaaDoorW.PrintWords Go.Proofs.YtjmmdphkgioooaaDoorW.PrintLast Go.Proofs.YtjmmdphkgioooaaDoorW.PrintMore
theorem rd_get (l : List ByteArray) {j : Nat} (h : j < l.length) : rdOf ByteArray.empty l (j : Int) = l[j] := by
 unfold rdOf
 rw [Int.toNat_natCast, List.getD_eq_getElem?_getD, List.getElem?_eq_getElem h]
 rfl
theorem rd_row (l : List (List ByteArray)) {j : Nat} (h : j < l.length) : rd_L1 l (j : Int) = l[j] := by
 unfold rd_L1
 rw [Int.toNat_natCast, List.getD_eq_getElem?_getD, List.getElem?_eq_getElem h]
 rfl
theorem take_next {α : Type} (l : List α) {j : Nat} (h : j < l.length) : l.take (j + 1) = l.take j ++ [l[j]] := by
 rw [List.take_add_one, List.getElem?_eq_getElem h]
 rfl
/-- Small rows. -/
def smallR (r : List ByteArray) : Prop := r.length ≤ 70 ∧ ∀ s ∈ r, s.size ≤ 5000
def small (l : List (List ByteArray)) : Prop := l.length ≤ 30 ∧ ∀ r ∈ l, smallR r
theorem small_fits {l : List (List ByteArray)} (h : small l) : fits l := by
 obtain ⟨h1, h2⟩ := h
 refine ⟨by omega, fun r hr => ?_⟩
 obtain ⟨h3, h4⟩ := h2 r hr
 exact ⟨by omega, fun s hs => by have := h4 s hs; omega⟩
mutual
theorem great_l1 (l : List (List ByteArray)) (hl : l.length ≤ 30) (d j : Nat) (hj : j < l.length) (hd : l.length - j = d + 1) (hp : ∀ r ∈ l.take j, smallR r) (h70 : l[j].length ≤ 70) :
  ∀ (n i : Nat), i ≤ l[j].length → l[j].length - i = n → (∀ s ∈ l[j].take i, s.size ≤ 5000) → Ev (fun k => dragomanlaw14_great.l1 k l (j : Int) (i : Int)) true ∨ (Ev (fun k => dragomanlaw14_great.l1 k l (j : Int) (i : Int)) false ∧ ∀ r ∈ l, smallR r)
 | 0, i, hi, hn, hs => by
  obtain rfl : i = l[j].length := by omega
  rw [List.take_of_length_le (Nat.le_refl _)] at hs
  have h := great_l0 l hl d (j + 1) (by omega) (by omega) (by
   intro r hr
   rw [take_next l hj] at hr
   rcases List.mem_append.1 hr with hr | hr
   ·exact hp r hr
   ·rw [List.mem_singleton.1 hr]; exact ⟨h70, hs⟩)
  have hst : ∀ b, Ev (fun k => dragomanlaw14_great.l0 k l ((j + 1 : Nat) : Int)) b → Ev (fun k => dragomanlaw14_great.l1 k l (j : Int) (l[j].length : Int)) b := fun b hb =>
   Ev.step (fun k => by rw [dragomanlaw14_great.l1, if_pos (show (0 : Int) ≤ (j : Int) by omega), if_pos (show (j : Int) < (l.length : Int) by omega), rd_row l hj, if_neg (show ¬ (l[j].length : Int) < (l[j].length : Int) by omega), wrap_id (show -9223372036854775808 ≤ (j : Int) + 1 by omega) (show (j : Int) + 1 < 9223372036854775808 by omega)]; rfl) hb
  rcases h with h | h
  ·exact .inl (hst _ h)
  ·exact .inr ⟨hst _ h.1, h.2⟩
 | n + 1, i, hi, hn, hs => by
  have hlt : i < l[j].length := by omega
  by_cases h5 : l[j][i].size ≤ 5000
  ·have h := great_l1 l hl d j hj hd hp h70 n (i + 1) (by omega) (by omega) (by
    intro s hs'
    rw [take_next _ hlt] at hs'
    rcases List.mem_append.1 hs' with hs' | hs'
    ·exact hs s hs'
    ·rw [List.mem_singleton.1 hs']; exact h5)
   have hst : ∀ b, Ev (fun k => dragomanlaw14_great.l1 k l (j : Int) ((i + 1 : Nat) : Int)) b → Ev (fun k => dragomanlaw14_great.l1 k l (j : Int) (i : Int)) b := fun b hb =>
    Ev.step (fun k => by rw [dragomanlaw14_great.l1, if_pos (show (0 : Int) ≤ (j : Int) by omega), if_pos (show (j : Int) < (l.length : Int) by omega), rd_row l hj, if_pos (show (i : Int) < (l[j].length : Int) by omega), if_pos (show (0 : Int) ≤ (i : Int) by omega), rd_get _ hlt, if_neg (show ¬ (l[j][i].size : Int) > 5000 by omega), wrap_id (show -9223372036854775808 ≤ (i : Int) + 1 by omega) (show (i : Int) + 1 < 9223372036854775808 by omega)]; rfl) hb
   rcases h with h | h
   ·exact .inl (hst _ h)
   ·exact .inr ⟨hst _ h.1, h.2⟩
  ·refine .inl (Ev.step (fun k => by rw [dragomanlaw14_great.l1, if_pos (show (0 : Int) ≤ (j : Int) by omega), if_pos (show (j : Int) < (l.length : Int) by omega), rd_row l hj, if_pos (show (i : Int) < (l[j].length : Int) by omega), if_pos (show (0 : Int) ≤ (i : Int) by omega), rd_get _ hlt, if_pos (show (l[j][i].size : Int) > 5000 by omega)]) (Ev.now _))
theorem great_l0 (l : List (List ByteArray)) (hl : l.length ≤ 30) : ∀ (d j : Nat), j ≤ l.length → l.length - j = d → (∀ r ∈ l.take j, smallR r) → Ev (fun k => dragomanlaw14_great.l0 k l (j : Int)) true ∨ (Ev (fun k => dragomanlaw14_great.l0 k l (j : Int)) false ∧ ∀ r ∈ l, smallR r)
 | 0, j, hj, hd, hp => by
  obtain rfl : j = l.length := by omega
  rw [List.take_of_length_le (Nat.le_refl _)] at hp
  exact .inr ⟨Ev.step (fun k => by rw [dragomanlaw14_great.l0, if_neg (show ¬ (l.length : Int) < (l.length : Int) by omega)]) (Ev.now _), hp⟩
 | d + 1, j, hj, hd, hp => by
  have hlt : j < l.length := by omega
  by_cases h70 : l[j].length ≤ 70
  ·have h := great_l1 l hl d j hlt hd hp h70 l[j].length 0 (Nat.zero_le _) rfl (fun s hs => by cases hs)
   have hst : ∀ b, Ev (fun k => dragomanlaw14_great.l1 k l (j : Int) ((0 : Nat) : Int)) b → Ev (fun k => dragomanlaw14_great.l0 k l (j : Int)) b := fun b hb =>
    Ev.step (fun k => by rw [dragomanlaw14_great.l0, if_pos (show (j : Int) < (l.length : Int) by omega), if_pos (show (0 : Int) ≤ (j : Int) by omega), rd_row l hlt, if_neg (show ¬ (l[j].length : Int) > 70 by omega)]; rfl) hb
   rcases h with h | h
   ·exact .inl (hst _ h)
   ·exact .inr ⟨hst _ h.1, h.2⟩
  ·exact .inl (Ev.step (fun k => by rw [dragomanlaw14_great.l0, if_pos (show (j : Int) < (l.length : Int) by omega), if_pos (show (0 : Int) ≤ (j : Int) by omega), rd_row l hlt, if_pos (show (l[j].length : Int) > 70 by omega)]) (Ev.now _))
end
theorem great_ev (l : List (List ByteArray)) : Ev (fun k => dragomanlaw14_great.f k l) true ∨ (Ev (fun k => dragomanlaw14_great.f k l) false ∧ small l) := by
 by_cases h : (l.length : Int) > 30
 ·exact .inl (Ev.congr (fun k => by rw [dragomanlaw14_great.f, if_pos h]) (Ev.now _))
 ·have h0 := great_l0 l (by omega) l.length 0 (Nat.zero_le _) rfl (fun r hr => by cases hr)
  rcases h0 with h0 | h0
  ·exact .inl (Ev.congr (fun k => by rw [dragomanlaw14_great.f, if_neg h]; rfl) h0)
  ·exact .inr ⟨Ev.congr (fun k => by rw [dragomanlaw14_great.f, if_neg h]; rfl) h0.1, by omega, h0.2⟩
end Go.Proofs.YtjmmdphkgioooaaDoor.La
end
section
namespace Go.Proofs.YtjmmdphkgioooaaDoor.La
open Go.RowKit Go.Proofs.YtjmmdphkgioooaaDoor.P Go.Proofs.YtjmmdphkgioooaaDoorW.PrintWords Go.Proofs.YtjmmdphkgioooaaDoorW.PrintLast Go.Proofs.YtjmmdphkgioooaaDoorW.PrintMore
/-- May a row be, if the first has c fields? -/
def okRow (c : Nat) (r : List ByteArray) : Bool := decide (1 ≤ r.length ∧ r.length ≤ 64 ∧ r.length = c) && !r.any oddS
theorem printL_size (l : List (List ByteArray)) : (printW l).size = (printL l).length := by rw [← size_of, printW_bytes]
theorem mayGo_eq (c : Nat) : ∀ (l : List (List ByteArray)) (all : Nat), all ≤ 65536 → mayGo c all l = (l.all (okRow c) && decide (all + (printL l).length ≤ 65536))
 | [], all, h => by rw [mayGo]; simp [printL, h]
 | r :: t, all, h => by
  have e : printL (r :: t) = rowL r ++ printL t := rfl
  have hz : (rowW r).size = (rowL r).length := by rw [← size_of, rowW_bytes]
  rw [mayGo, List.all_cons, e, List.length_append, hz]
  by_cases h1 : r.length < 1
  ·rw [if_pos h1]
   have : okRow c r = false := by unfold okRow; rw [decide_eq_false (by omega)]; rfl
   rw [this]; rfl
  rw [if_neg h1]
  by_cases h2 : 64 < r.length
  ·rw [if_pos h2]
   have : okRow c r = false := by unfold okRow; rw [decide_eq_false (by omega)]; rfl
   rw [this]; rfl
  rw [if_neg h2]
  by_cases h3 : r.length ≠ c
  ·rw [if_pos h3]
   have : okRow c r = false := by unfold okRow; rw [decide_eq_false (by omega)]; rfl
   rw [this]; rfl
  rw [if_neg h3]
  by_cases h4 : r.any oddS = true
  ·rw [if_pos h4]
   have : okRow c r = false := by unfold okRow; rw [h4]; simp
   rw [this]; rfl
  rw [if_neg h4]
  have hok : okRow c r = true := by
   unfold okRow
   rw [decide_eq_true (by omega), show r.any oddS = false from Bool.eq_false_iff.2 h4]
   rfl
  rw [hok, Bool.true_and]
  by_cases h5 : 65536 < all + (rowL r).length
  ·rw [if_pos h5, decide_eq_false (by omega), Bool.and_false]
  ·rw [if_neg h5, mayGo_eq c t (all + (rowL r).length) (by omega)]
   congr 1
   rw [decide_eq_decide]
   omega
end Go.Proofs.YtjmmdphkgioooaaDoor.La
end
section
namespace Go.Proofs.YtjmmdphkgioooaaDoor.La
open Go.RowKit Go.Proofs.YtjmmdphkgioooaaDoor.P Go.Proofs.YtjmmdphkgioooaaDoorW.PrintWords Go.Proofs.YtjmmdphkgioooaaDoorW.PrintLast Go.Proofs.YtjmmdphkgioooaaDoorW.PrintMore
def firstC (l : List (List ByteArray)) : Nat := (l.headD []).length
def mayB (l : List (List ByteArray)) : Bool := l.all (okRow (firstC l)) && decide ((printL l).length ≤ 65536)
theorem mayR_eq (l : List (List ByteArray)) (hl : l.length ≤ 513) : mayR l = mayB l := by
 unfold mayR mayB firstC
 rw [if_neg (by omega), mayGo_eq _ _ _ (Nat.zero_le _), Nat.zero_add]
end Go.Proofs.YtjmmdphkgioooaaDoor.La
end
section
namespace Go.Proofs.YtjmmdphkgioooaaDoor.La
open Go.RowKit Go.Proofs.YtjmmdphkgioooaaDoor.P Go.Proofs.YtjmmdphkgioooaaDoorW.PrintWords Go.Proofs.YtjmmdphkgioooaaDoorW.PrintLast Go.Proofs.YtjmmdphkgioooaaDoorW.PrintMore
theorem bad_dbl : ∀ (n : Nat) (s : List Int), s.length ≤ n → Bytes s → (bad (dbl s) = none ↔ bad s = none) := by
 intro n
 induction n with
 | zero =>
  intro s hs _
  obtain rfl := List.length_eq_zero_iff.1 (Nat.le_zero.1 hs)
  exact Iff.rfl
 | succ n ih =>
  intro s hs hB
  rcases Int.lt_or_le (idx s 34) 0 with h | h
  ·rw [dbl_id (idx_none h)]
  ·obtain ⟨m, _, hm, he, hu⟩ := idx_some h
   obtain ⟨u, hu'⟩ : ∃ u, s.take m = u := ⟨_, rfl⟩
   obtain ⟨v, hv'⟩ : ∃ v, s.drop (m + 1) = v := ⟨_, rfl⟩
   rw [hu', hv'] at he
   rw [hu'] at hu
   have hvl : v.length ≤ n := by rw [← hv', List.length_drop]; omega
   have hBv : Bytes v := by rw [← hv']; exact hB.drop _
   have e : dbl s = u ++ 34 :: 34 :: dbl v := by
    rw [he, dbl_append, dbl_id hu, dbl_cons, if_pos rfl]; rfl
   have hBd : Bytes (u ++ 34 :: 34 :: dbl v) := by rw [← e]; exact dbl_bytes hB
   have hBs : Bytes (u ++ 34 :: v) := by rw [← he]; exact hB
   rw [e, he, bad_mid (by omega) (by omega) hBd, bad_mid (by omega) (by omega) hBs, bad_one_none (by omega) (by omega), ih v hvl hBv]
theorem bad_field {s : List Int} (hB : Bytes s) (h : bad s = none) (al : Bool) : bad (fieldL s al) = none := by
 unfold fieldL
 split
 ·rw [bad_one_none (by omega) (by omega)]
  exact bad_app (dbl_bytes hB) ((bad_dbl _ s (Nat.le_refl _) hB).2 h) (by rw [bad_one_none (by omega) (by omega)]; exact bad_nil)
 ·exact h
theorem bad_joinC : ∀ (l : List (List Int)), (∀ x ∈ l, Bytes x) → (∀ x ∈ l, bad x = none) → bad (joinC l) = none
 | [], _, _ => bad_nil
 | [a], _, h => h a List.mem_cons_self
 | a :: b :: t, hB, h => by
  rw [joinC]
  exact bad_app (hB a List.mem_cons_self) (h a List.mem_cons_self) ((bad_one_none (by omega) (by omega) _).2 (bad_joinC (b :: t) (fun x hx => hB x (List.mem_cons_of_mem _ hx)) (fun x hx => h x (List.mem_cons_of_mem _ hx))))
theorem bad_rowL (r : List ByteArray) (h : ∀ s ∈ r, bad (bytesOf s) = none) : bad (rowL r) = none := by
 unfold rowL
 have hB : ∀ x ∈ r.map (fun s => fieldL (bytesOf s) (r.length == 1)), Bytes x := by
  intro x hx
  obtain ⟨s, _, rfl⟩ := List.mem_map.1 hx
  exact fieldL_bytes (bytes_of s) _
 exact bad_app (joinC_bytes hB) (bad_joinC _ hB (fun x hx => by
  obtain ⟨s, hs, rfl⟩ := List.mem_map.1 hx
  exact bad_field (bytes_of s) (h s hs) _)) (bad_asc (by intro b hb; simp at hb; omega))
theorem bad_printL : ∀ (l : List (List ByteArray)), (∀ r ∈ l, ∀ s ∈ r, bad (bytesOf s) = none) → bad (printL l) = none
 | [], _ => bad_nil
 | r :: t, h => by
  have e : printL (r :: t) = rowL r ++ printL t := rfl
  rw [e]
  exact bad_app (rowL_bytes r) (bad_rowL r (h r List.mem_cons_self)) (bad_printL t (fun x hx => h x (List.mem_cons_of_mem _ hx)))
/-- A row's cells. -/
def cellsR (r : List ByteArray) : List (List Int × List Int) := r.map fun s => (fieldL (bytesOf s) (r.length == 1), bytesOf s)
def lineR (r : List ByteArray) : Line := (cellsR r, [13, 10])
theorem lineR_text (r : List ByteArray) : (lineR r).text = rowL r := by
 unfold Line.text lineR cellsR rowL
 rw [List.map_map]
 rfl
theorem linesR_text (l : List (List ByteArray)) : textOf (l.map lineR) = printL l := by
 induction l with
 | nil => rfl
 | cons r t ih =>
  have e : printL (r :: t) = rowL r ++ printL t := rfl
  rw [e, ← ih, ← lineR_text]
  rfl
theorem wr_field {s : List Int} (hl : s.length ≤ 4096) (al : Bool) : Wr (fieldL s al, s) := by
 unfold fieldL
 split
 ·exact wr_quoted hl
 ·rename_i h
  refine wr_plain (fun b hb => ?_) hl
  cases ho : odd4 b with
  | false => rfl
  | true => exact absurd (.inl (List.any_eq_true.2 ⟨b, hb, ho⟩)) h
theorem odd_false {s : ByteArray} (h : oddS s = false) : bad (bytesOf s) = none ∧ s.size ≤ 4096 := by
 unfold oddS at h
 rw [Bool.or_eq_false_iff] at h
 refine ⟨?_, by have := of_decide_eq_false h.2; omega⟩
 cases hb : bad (bytesOf s) with
 | none => rfl
 | some p => rw [hb] at h; exact absurd h.1 (by simp)
theorem okRow_of {c : Nat} {r : List ByteArray} (h : okRow c r = true) : 1 ≤ r.length ∧ r.length ≤ 64 ∧ r.length = c ∧ ∀ s ∈ r, oddS s = false := by
 unfold okRow at h
 rw [Bool.and_eq_true, decide_eq_true_eq] at h
 refine ⟨h.1.1, h.1.2.1, h.1.2.2, fun s hs => ?_⟩
 have h2 := h.2
 cases ho : oddS s with
 | false => rfl
 | true => rw [List.any_eq_true.2 ⟨s, hs, ho⟩] at h2; cases h2
theorem lineR_good {c : Nat} {r : List ByteArray} (h : okRow c r = true) : (lineR r).good := by
 obtain ⟨h1, h2, _, h4⟩ := okRow_of h
 refine ⟨?_, ?_, .inr rfl, ?_⟩
 ·intro e
  have := congrArg List.length e
  rw [show (lineR r).1 = cellsR r from rfl, cellsR, List.length_map, List.length_nil] at this
  omega
 ·intro p hp
  obtain ⟨s, hs, rfl⟩ := List.mem_map.1 hp
  exact wr_field (by rw [size_of]; exact (odd_false (h4 s hs)).2) _
 ·show (cellsR r).length ≤ 64
  rw [cellsR, List.length_map]
  exact h2
theorem linesR_good {c : Nat} : ∀ (l : List (List ByteArray)), (∀ r ∈ l, okRow c r = true) → Lines (l.map lineR)
 | [], _ => trivial
 | [r], h => .inl (lineR_good (h r List.mem_cons_self))
 | r :: u :: t, h => ⟨lineR_good (h r List.mem_cons_self), linesR_good (u :: t) (fun x hx => h x (List.mem_cons_of_mem _ hx))⟩
/-- Rows that may be are read back. -/
theorem back (l : List (List ByteArray)) (hl : l.length ≤ 513) (h : mayB l = true) : readR (printW l) = (l, 0, 0, 0, 0) := by
 unfold mayB at h
 rw [Bool.and_eq_true, List.all_eq_true, decide_eq_true_eq] at h
 have hb := bad_printL l (fun r hr s hs => (odd_false ((okRow_of (h.1 r hr)).2.2.2 s hs)).1)
 have hr := read_lines (l.map lineR) (linesR_good l h.1) (by rw [linesR_text]; exact hb) (by rw [linesR_text]; exact h.2) (by rw [List.length_map]; exact hl) (printW l) (by rw [linesR_text, printW_bytes])
 rw [rowsOf_same (c := firstC l) _ [] (fun r hr => by cases hr) (fun f hf => by
  rw [List.map_map] at hf
  obtain ⟨r, hr, rfl⟩ := List.mem_map.1 hf
  show (cellsR r).length = _
  rw [cellsR, List.length_map]
  exact (okRow_of (h.1 r hr)).2.2.1)] at hr
 simp only at hr
 rw [hr]
 congr 1
 rw [List.nil_append, List.map_map, List.map_map]
 have : ((fun x : List (List Int × List Int) => x.map fun p => strOfNums p.2) ∘ Prod.fst) ∘ lineR = id := by
  funext r
  show (cellsR r).map (fun p => strOfNums p.2) = r
  rw [cellsR, List.map_map]
  have e : ((fun p : List Int × List Int => strOfNums p.2) ∘ fun s => (fieldL (bytesOf s) (r.length == 1), bytesOf s)) = id := by
   funext s
   exact strOfNums_of s
  rw [e, List.map_id]
 first
  | (rw [this, List.map_id])
  | (rw [← List.map_map, ← List.map_map, List.map_map, List.map_map, this, List.map_id])
end Go.Proofs.YtjmmdphkgioooaaDoor.La
end
section
namespace Go.Proofs.YtjmmdphkgioooaaDoor.Pure
open Go.RowKit Go.Proofs.YtjmmdphkgioooaaDoor.P Go.Proofs.YtjmmdphkgioooaaDoorW.PrintWords Go.Proofs.YtjmmdphkgioooaaDoorW.PrintLast
theorem awake14 : dragomanlaw14_awake.f = some true := by decide +kernel
end Go.Proofs.YtjmmdphkgioooaaDoor.Pure
end
section
namespace Go.Proofs.YtjmmdphkgioooaaDoor.Pure
open Go.RowKit Go.Proofs.YtjmmdphkgioooaaDoor.P Go.Proofs.YtjmmdphkgioooaaDoor.La Go.Proofs.YtjmmdphkgioooaaDoorW.PrintWords Go.Proofs.YtjmmdphkgioooaaDoorW.PrintLast Go.Proofs.YtjmmdphkgioooaaDoorW.PrintMore
theorem print_f {l : List (List ByteArray)} (h : fits l) : cprint_Print.f l = some (printW l) := if_pos h
theorem may_f {l : List (List ByteArray)} (h : fits l) : cprint_May.f l = some (mayR l) := if_pos h
end Go.Proofs.YtjmmdphkgioooaaDoor.Pure
end
section
namespace Go.Proofs.YtjmmdphkgioooaaDoor.Pure
open Go.RowKit Go.Proofs.YtjmmdphkgioooaaDoor.P Go.Proofs.YtjmmdphkgioooaaDoor.La Go.Proofs.YtjmmdphkgioooaaDoorW.PrintWords Go.Proofs.YtjmmdphkgioooaaDoorW.PrintLast Go.Proofs.YtjmmdphkgioooaaDoorW.PrintMore
theorem cb_j0 (l : List (List ByteArray)) : Ev (fun k => dragomanlaw14_CprintBack.j0 k l true) true := Ev.step (fun k => by rw [dragomanlaw14_CprintBack.j0, if_pos rfl]) (Ev.now _)
theorem CprintBack (l : List (List ByteArray)) : ∃ k, dragomanlaw14_CprintBack.f k l = some true := by
 apply Ev.rounds
 refine Ev.congr (fun k => by rw [dragomanlaw14_CprintBack.f, awake14, Option.bind_some, if_pos rfl]) ?_
 rcases great_ev l with h | ⟨h, hs⟩
 ·exact Ev.bind h (Ev.congr (fun k => if_pos rfl) (cb_j0 l))
 ·have hf := small_fits hs
  have h30 := hs.1
  refine Ev.bind h (Ev.congr (fun k => by rw [if_neg Bool.false_ne_true, may_f hf, Option.bind_some]) ?_)
  cases hm : mayR l with
  | false => exact cb_j0 l
  | true =>
   rw [mayR_eq l (by omega)] at hm
   have hb := back l (by omega) hm
   have hz : (printW l).size ≤ 65536 := by
    unfold mayB at hm
    rw [Bool.and_eq_true, decide_eq_true_eq] at hm
    rw [printL_size]
    exact hm.2
   refine Ev.step (fun k => by rw [dragomanlaw14_CprintBack.j0, if_neg (show ¬ (!true) = true by decide), print_f hf, Option.bind_some, rows_f _ (by omega), Option.bind_some, hb, if_pos rfl]) ?_
   exact Ev.bind (same_ev l (by omega) (fun r hr => by have := (hs.2 r hr).1; omega)) (Ev.now _)
end Go.Proofs.YtjmmdphkgioooaaDoor.Pure
end
section
namespace Go.Proofs.YtjmmdphkgioooaaDoor.La
open Go.ChangeShapes Go.WideShapes Go.RowKit Go.Proofs.YtjmmdphkgioooaaDoorW.PrintWords Go.Proofs.YtjmmdphkgioooaaDoorW.PrintLast Go.Proofs.YtjmmdphkgioooaaDoorW.PrintMore
variable {H : Type} {enc : TypeId × Value → H} {P : Program} {w : World} {base : Nat} {held : Bool}
/-- One row. -/
theorem open_strs {t s : TypeId} {fuel : Nat} {cs : List Value} {x : DataW H × List MemPlace} (ht : P.underlying t = some (.slice s)) (hs : P.underlying s = some .string) (hc : P.cellsOf s = 1)
  (h : DataW.trod enc P w base (fun _ => true) held fuel t cs = some x) : ∃ (r : List ByteArray) (A : Option Addr) (c : Nat), cs = [.slice A r.length c] ∧ r.length ≤ c ∧ Kd.C Kd.string w A r.length r := by
 rcases open_strings ht hs hc h with ⟨hcs, _⟩ | ⟨a, len, cap, ss, hcs, _, hl, hm, hz, _, hcell, hwz⟩
 ·exact ⟨[], none, 0, hcs, Nat.le_refl _, Kd.C_nil _ _⟩
 ·have hz' : ss.length = cap := by simpa using hz
  have hlen : (ss.take len).length = len := by rw [List.length_take]; omega
  have hmax : maxLen ≤ 9223372036854775807 := by decide
  refine ⟨ss.take len, some a, cap, by rw [hlen]; exact hcs, by rw [hlen]; exact hl, ?_⟩
  refine Kd.C_of_reads (d := ByteArray.empty) ⟨rfl, by omega, fun _ => ⟨_, rfl, fun j hj => ?_⟩⟩
  rw [hcell j (by omega), List.getD_eq_getElem?_getD, List.getD_eq_getElem?_getD, List.getElem?_take_of_lt (by omega)]
/-- The rows. -/
theorem open_rows {t e s : TypeId} {fuel : Nat} {cs : List Value} {x : DataW H × List MemPlace} (ht : P.underlying t = some (.slice e)) (he : P.underlying e = some (.slice s)) (hs : P.underlying s = some .string) (hce : P.cellsOf e = 1) (hcs1 : P.cellsOf s = 1)
  (h : DataW.trod enc P w base (fun _ => true) held fuel t cs = some x) : ∃ (l : List (List ByteArray)) (A : Option Addr) (c : Nat), cs = [.slice A l.length c] ∧ l.length ≤ c ∧ Kd.C (Kd.slice s Kd.string) w A l.length l := by
 rcases DataW.trod_slice ht h with ⟨rfl, _⟩ | ⟨a, len, cap, elems, rest, n, _, rfl, rfl, hb, hl, hm, hlen, hel, hsp, hns⟩
 ·exact ⟨[], none, 0, rfl, Nat.le_refl _, Kd.C_nil _ _⟩
 ·have each : ∀ i, ∃ r : List ByteArray, i < len → ∃ (A : Option Addr) (c : Nat), w.cell? (a.add i) = some (.slice A r.length c) ∧ r.length ≤ c ∧ Kd.C Kd.string w A r.length r := by
   intro i
   by_cases hi : i < len
   ·obtain ⟨y, hy⟩ : ∃ y, elems[i]? = some y := ⟨elems[i]'(by omega), List.getElem?_eq_getElem (by omega)⟩
    have hb' := hel i hi
    rw [hy, hce, Nat.mul_one, Option.bind_eq_some_iff] at hb'
    obtain ⟨cs', hcs', hy'⟩ := hb'
    obtain ⟨r, A, c, rfl, hrc, hC⟩ := open_strs he hs hcs1 hy'
    exact ⟨r, fun _ => ⟨A, c, cell_of_cells?_one hcs', hrc, hC⟩⟩
   ·exact ⟨[], fun h => absurd h hi⟩
  obtain ⟨f, hf⟩ := Classical.axiomOfChoice each
  have hml : ((List.range len).map f).length = len := by rw [List.length_map, List.length_range]
  have hmax : maxLen ≤ 9223372036854775807 := by decide
  refine ⟨(List.range len).map f, some a, cap, by rw [hml], by rw [hml]; exact hl, rfl, by omega, fun _ => ⟨a, rfl, fun j p hj => ?_⟩⟩
  rw [List.getElem?_map] at hj
  obtain ⟨k, hk, rfl⟩ := Option.map_eq_some_iff.1 hj
  have hjl : j < len := by
   rcases Nat.lt_or_ge j len with h | h
   ·exact h
   ·rw [List.getElem?_eq_none (by rw [List.length_range]; exact h)] at hk; cases hk
  rw [List.getElem?_range hjl] at hk
  obtain rfl := Option.some.inj hk
  obtain ⟨A, c, hcell, hrc, hC⟩ := hf j hjl
  refine ⟨[.slice A (f j).length c], rfl, ⟨A, c, rfl, hrc, hC⟩, fun i u hu => ?_⟩
  match i, hu with
  | 0, hu =>
   obtain rfl := Option.some.inj hu
   show w.cell? (a.add (j * 1 + 0)) = _
   rw [Nat.mul_one, Nat.add_zero]
   exact hcell
end Go.Proofs.YtjmmdphkgioooaaDoor.La
end
