/- The parts of this claim's proof, in one text: what each Go function answers and that its call comes to it; plain facts of lists of numbers. Conditions as each theorem names them. -/
import Derived.ArgAppend
import Derived.Below
import Derived.BigQuiet
import Derived.Deep.AppendLies
import Derived.Deep.CutBlock
import Derived.Deep.DeepCutAuto
import Derived.Deep.Draws
import Derived.Deep.LoopGhost
import Derived.Deep.OwnRows
import Derived.Deep.QuietTactic
import Derived.Deep.RegionHeld3
import Derived.KernelRfl
import Derived.Laws.BitsLemmas
import Derived.Laws.BytesArg
import Derived.Laws.IdiomCopy
import Derived.Laws.MakeOwn
import Derived.Laws.OwnMore
import Derived.Laws.Rows
import Derived.Laws.Slices
import Derived.Lib.AppendStr
import Derived.Lib.Bytealg
import Derived.Lib.Bytes
import Derived.Lib.ConvBytes
import Derived.Lib.Hide
import Derived.Maps.AppendAt
import Derived.OrdersHeld
import Derived.Outline
import Derived.OwnWalk
import Derived.RowKit
import Derived.RowKit3
import Derived.Shelf.Bits.Mul64
import Derived.Shelf.LaysM
import Derived.Shelf.Small.Strs
import Derived.Shelf.Small.Utf8
import Derived.Shelf.Strings.AsciiSet
import Derived.Shelf.Strings.Builder1
import Derived.Shelf.Strings.Builder2
import Derived.Shelf.Strings.BuilderF
import Derived.Shelf.Strings.BuilderK
import Derived.Shelf.Strings.Count
import Derived.Shelf.Strings.IndexAny
import Derived.Shelf.Strings.IndexAnyAll
import Derived.Shelf.Strings.Prefix
import Derived.Shelf.Strings.Repeat
import Derived.Shelf.Strings.Runes
import Derived.Shelf.Strings.Search1
import Derived.Shelf.Strings.Search2
import Derived.Shelf.Strings.Search3
import Derived.Shelf.Strings.Shaped
import Derived.Shelf.Strings.SlTrimAscii
import Derived.Shelf.Strings.Split
import Derived.Shelf.Strings.Trim
import Derived.Shelf.Unicode.DecodeSlow
import Derived.Tactics
import Derived.WalkKit
import Derived.WideLaws
import Derived.Test.YtoanbmggffkmgaaDoorProg
import Derived.Test.YtoanbmggffkmgaaDoorWApart
import Derived.Test.YtoanbmggffkmgaaDoorWArr
import Derived.Test.YtoanbmggffkmgaaDoorWAt
import Derived.Test.YtoanbmggffkmgaaDoorWEqStruct
import Derived.Test.YtoanbmggffkmgaaDoorWFoot
import Derived.Test.YtoanbmggffkmgaaDoorWFootNe
import Derived.Test.YtoanbmggffkmgaaDoorWFour
import Derived.Test.YtoanbmggffkmgaaDoorWGuard
import Derived.Test.YtoanbmggffkmgaaDoorWInv
import Derived.Test.YtoanbmggffkmgaaDoorWInvWords
import Derived.Test.YtoanbmggffkmgaaDoorWKept
import Derived.Test.YtoanbmggffkmgaaDoorWLast
import Derived.Test.YtoanbmggffkmgaaDoorWMake0
import Derived.Test.YtoanbmggffkmgaaDoorWMore
import Derived.Test.YtoanbmggffkmgaaDoorWN
import Derived.Test.YtoanbmggffkmgaaDoorWNEv
import Derived.Test.YtoanbmggffkmgaaDoorWQPut
import Derived.Test.YtoanbmggffkmgaaDoorWRepsOne
import Derived.Test.YtoanbmggffkmgaaDoorWShare
import Derived.Test.YtoanbmggffkmgaaDoorWTab
import Derived.Test.YtoanbmggffkmgaaDoorWWords
import Derived.Test.YtoanbmggffkmgaaDoorWZeros
import Derived.Test.YtoanbmggffkmgaaDoorMEscWrites1
import Derived.Test.YtoanbmggffkmgaaDoorMEscWrites2
section
namespace Go.Proofs.YtoanbmggffkmgaaDoor.La
open Go.RowKit Go.Proofs.YtoanbmggffkmgaaDoor.P Go.Proofs.YtoanbmggffkmgaaDoorW.PrintWords Go.Proofs.YtoanbmggffkmgaaDoorW.PrintLast Go.Proofs.YtoanbmggffkmgaaDoorW.PrintMore
/-- What plain takes: its bytes, and how many stand in the text. -/
def tplain (lines : Bool) (l : List Int) : Option (List Int × Nat) :=
  if (lines = true ∧ (l.getD 0 0 = 10 ∨ l.take 2 = [13, 10])) ∨ l.getD 0 0 = 9 then (if l.getD 0 0 = 13 then some ([13, 10], 2) else some ([l.getD 0 0], 1))
  else if l.getD 0 0 < 32 ∨ l.getD 0 0 = 127 then none
  else if (tk l).2 > 0 then some (enc0 (tk l).1, (tk l).2.toNat) else none
end Go.Proofs.YtoanbmggffkmgaaDoor.La
namespace Go.Proofs.YtoanbmggffkmgaaDoor.P
open Go.RowKit Go.Proofs.YtoanbmggffkmgaaDoor.La Go.Proofs.YtoanbmggffkmgaaDoorW.PrintWords Go.Proofs.YtoanbmggffkmgaaDoorW.PrintLast Go.Proofs.YtoanbmggffkmgaaDoorW.PrintMore
theorem Rdr.row {B : Nat} {w : World} {g : Nat} {text : ByteArray} {at_ : Int} {bs : List Int} (h : Rdr B w g text at_ bs) :
    ∃ A c, w.heap[g]? = some (.cells #[.string text, .int .i64 at_, .slice A bs.length c] 63 (0, 0)) ∧ Kd.R (Kd.int .u8) 5 w B (fun k => k ≠ g) (.slice A bs.length c) bs := by
  obtain ⟨_, bv, hh, hr⟩ := h
  obtain ⟨A, c, rfl, hl, hC⟩ := Kd.R_reads hr
  exact ⟨A, c, hh, hr⟩
/-- A row that has grown is stored, and the place, too. -/
theorem Rdr.grown {B : Nat} {w w1 : World} {g : Nat} {text : ByteArray} {at_ : Int} {bs : List Int} {A : Option Addr} {c : Nat} (hB : B ≤ g) (hh : w.heap[g]? = some (.cells #[.string text, .int .i64 at_, .slice A bs.length c] 63 (0, 0))) (hr : Kd.R (Kd.int .u8) 5 w B (fun k => k ≠ g) (.slice A bs.length c) bs)
    {v1 : Value} {bs1 : List Int} (ho : Kd.R (Kd.int .u8) 5 w1 B (fun k => k ≠ g) v1 bs1) (hg : w.grownBy w1 (.slice A bs.length c : Value).ownBlock) :
    w1.cell? ⟨g, 0, none⟩ = some (.string text) ∧ w1.cell? ⟨g, 1, none⟩ = some (.int .i64 at_) ∧ w1.cell? ⟨g, 2, none⟩ = some (.slice A bs.length c) ∧ w1.frozen? ⟨g, 1, none⟩ = false ∧ w1.frozen? ⟨g, 2, none⟩ = false ∧ g < w1.heap.size ∧
      ∀ at1 : Int, Rdr B ((w1.setCell ⟨g, 2, none⟩ v1).setCell ⟨g, 1, none⟩ (.int .i64 at1)) g text at1 bs1 ∧ ((w1.setCell ⟨g, 2, none⟩ v1).setCell ⟨g, 1, none⟩ (.int .i64 at1)).heap[g]? = some (.cells #[.string text, .int .i64 at1, v1] 63 (0, 0)) ∧ Kd.R (Kd.int .u8) 5 ((w1.setCell ⟨g, 2, none⟩ v1).setCell ⟨g, 1, none⟩ (.int .i64 at1)) B (fun k => k ≠ g) v1 bs1 := by
  have hne : some g ≠ (Value.slice A bs.length c).ownBlock := fun e => hr.1 g e.symm rfl
  have h1 := blk_grown hh hg hne
  exact ⟨by rw [rblk_cell h1]; rfl, by rw [rblk_cell h1]; rfl, by rw [rblk_cell h1]; rfl, rblk_free h1 1, rblk_free h1 2, rblk_lt h1, fun at1 => by
    have a1 := rblk_set (rblk_set h1 2 v1) 1 (.int .i64 at1)
    have a2 : Kd.R (Kd.int .u8) 5 ((w1.setCell ⟨g, 2, none⟩ v1).setCell ⟨g, 1, none⟩ (.int .i64 at1)) B (fun k => k ≠ g) v1 bs1 := Kd.R_move ho (fun k hk => by rw [rblk_far hk, rblk_far hk])
    exact ⟨⟨hB, v1, a1, a2⟩, a1, a2⟩⟩
theorem Rdr.base {B : Nat} {w : World} {g : Nat} {text : ByteArray} {at_ : Int} {bs : List Int} (h : Rdr B w g text at_ bs) : B ≤ g := h.1
theorem Rdr.cells {B : Nat} {w : World} {g : Nat} {text : ByteArray} {at_ : Int} {bs : List Int} (h : Rdr B w g text at_ bs) :
    ∃ A c, w.cell? ⟨g, 0, none⟩ = some (.string text) ∧ w.cell? ⟨g, 1, none⟩ = some (.int .i64 at_) ∧ w.cell? ⟨g, 2, none⟩ = some (.slice A bs.length c) ∧ w.frozen? ⟨g, 1, none⟩ = false ∧ w.frozen? ⟨g, 2, none⟩ = false ∧ g < w.heap.size ∧
      w.heap[g]? = some (.cells #[.string text, .int .i64 at_, .slice A bs.length c] 63 (0, 0)) ∧ Kd.R (Kd.int .u8) 5 w B (fun k => k ≠ g) (.slice A bs.length c) bs := by
  obtain ⟨A, c, hh, hr⟩ := h.row
  exact ⟨A, c, by rw [rblk_cell hh]; rfl, by rw [rblk_cell hh]; rfl, by rw [rblk_cell hh]; rfl, rblk_free hh 1, rblk_free hh 2, rblk_lt hh, hh, hr⟩
set_option maxRecDepth 100000 in
set_option maxHeartbeats 4000000 in
theorem rplain_one {B g : Nat} {text : ByteArray} {i : Nat} {bs : List Int} {w : World} (lines : Bool) (hR : Rdr B w g text (i : Int) bs) (hl : bs.length ≤ 140737488000000) (h1 : i < text.size) (h2 : text.size ≤ 140737488000000) (hc : (lines = true ∧ bt text i = 10) ∨ (lines = false ∧ bt text i = 9)) :
    Calls Tryd.prog 44 #[.pointer (some ⟨g, 0, none⟩), .bool lines] w fun e w' => e = .returned (.bool true) ∧ Rdr B w' g text ((i : Int) + 1) (bs ++ [bt text i]) ∧ Below B w w' := by
  obtain ⟨A, cp, c0, c1, c2, f1, f2, hlt, hh, hr⟩ := hR.cells
  have hlow := hR.low
  have hB := hR.base
  have p1 := eq_true (show (0 : Int) ≤ (i : Int) by omega)
  have qi1 := eq_true (show (i : Int) < (text.size : Int) by omega)
  have q1 := eq_true (show (i : Int).toNat < text.size by omega)
  have q2 := eq_true h1
  have hx1 : ∀ h : i < text.size, ((text[i]'h).toNat : Int) = bt text (i : Int) := fun h => bt_at text (i : Int) (by omega)
  rcases hc with ⟨rfl, hb⟩ | ⟨rfl, hb⟩
  · rw [hb] at hx1 ⊢
    go_enter Tryd.func44, Tryd.ntmps44
    go_wp2_with fail
    go_quiet (fail)
    go_wp2_with ((with_reducible refine gate_builtin (b := .append) (xs := #[.tmp 32, .tmp 34]) rfl ?_); at_builtin; refine Kd.R_append (Kd.int .u8) (w0 := w) B rfl (.tmp 32) (.tmp 34) 46 5 (.int .u8 0) 1 rfl Tryd.underlying46 info5 rfl (by decide) (by omega) (.slice A bs.length cp) bs 10 [.int .u8 10] (fun k => k ≠ g) (fun _ => False) rfl rfl ?aP (fun _ hk => hk.elim) ?aF ?aO ?aB ?aS ?aL ?_; (case aP => exact rfl); (case aB => exact pw_below_drewN (Below.refl _ _) _); (case aF => intro k hk; have hk' : w.heap.size ≤ k := hk; omega); (case aO => exact Kd.R_drewN hr _); (case aS => exact hlow); (case aL => omega); intro v1 w1 ho hbw hg hat; obtain ⟨A1, cp1, rfl, -, -⟩ := Kd.R_reads ho; obtain ⟨k0, k1, k5, k2, k3, k4, hS⟩ := Rdr.grown (w := w.drewN nq) hB hh (Kd.R_drewN hr nq) ho hg; rw [List.length_append, List.length_singleton] at hS)
    go_ret
    exact ⟨rfl, (hS _).1, (hbw.setCell hB _).setCell hB _⟩
  · rw [hb] at hx1 ⊢
    go_enter Tryd.func44, Tryd.ntmps44
    go_wp2_with fail
    go_quiet (fail)
    go_wp2_with ((with_reducible refine gate_builtin (b := .append) (xs := #[.tmp 32, .tmp 34]) rfl ?_); at_builtin; refine Kd.R_append (Kd.int .u8) (w0 := w) B rfl (.tmp 32) (.tmp 34) 46 5 (.int .u8 0) 1 rfl Tryd.underlying46 info5 rfl (by decide) (by omega) (.slice A bs.length cp) bs 9 [.int .u8 9] (fun k => k ≠ g) (fun _ => False) rfl rfl ?aP (fun _ hk => hk.elim) ?aF ?aO ?aB ?aS ?aL ?_; (case aP => exact rfl); (case aB => exact pw_below_drewN (Below.refl _ _) _); (case aF => intro k hk; have hk' : w.heap.size ≤ k := hk; omega); (case aO => exact Kd.R_drewN hr _); (case aS => exact hlow); (case aL => omega); intro v1 w1 ho hbw hg hat; obtain ⟨A1, cp1, rfl, -, -⟩ := Kd.R_reads ho; obtain ⟨k0, k1, k5, k2, k3, k4, hS⟩ := Rdr.grown (w := w.drewN nq) hB hh (Kd.R_drewN hr nq) ho hg; rw [List.length_append, List.length_singleton] at hS)
    go_ret
    exact ⟨rfl, (hS _).1, (hbw.setCell hB _).setCell hB _⟩
set_option maxRecDepth 100000 in
set_option maxHeartbeats 8000000 in
theorem rplain_tab {B g : Nat} {text : ByteArray} {i : Nat} {bs : List Int} {w : World} (hR : Rdr B w g text (i : Int) bs) (hl : bs.length ≤ 140737488000000) (h1 : i < text.size) (h2 : text.size ≤ 140737488000000) (hb : bt text i = 9) (d1 : decide (((bytesOf text).drop i).take (⟨#[13, 10]⟩ : ByteArray).size = bytesOf ⟨#[13, 10]⟩) = false) :
    Calls Tryd.prog 44 #[.pointer (some ⟨g, 0, none⟩), .bool true] w fun e w' => e = .returned (.bool true) ∧ Rdr B w' g text ((i : Int) + 1) (bs ++ [9]) ∧ Below B w w' := by
  obtain ⟨A, cp, c0, c1, c2, f1, f2, hlt, hh, hr⟩ := hR.cells
  have hlow := hR.low
  have hB := hR.base
  have p1 := eq_true (show (0 : Int) ≤ (i : Int) by omega)
  have qi1 := eq_true (show (i : Int) < (text.size : Int) by omega)
  have q1 := eq_true (show (i : Int).toNat < text.size by omega)
  have q2 := eq_true h1
  have hx1 : ∀ h : i < text.size, ((text[i]'h).toNat : Int) = bt text (i : Int) := fun h => bt_at text (i : Int) (by omega)
  rw [hb] at hx1
  go_enter Tryd.func44, Tryd.ntmps44
  go_wp2_with fail
  go_quiet (fail)
  go_wp2_with fail
  refine (rbegins ⟨#[13, 10]⟩ (hR.drewN nq) (by omega) (by omega)).mono ?_
  rintro e w2 ⟨rfl, n2, rfl⟩
  rw [show (i : Int).toNat = i by omega, d1]
  go_wp2_with ((with_reducible refine gate_builtin (b := .append) (xs := #[.tmp 32, .tmp 34]) rfl ?_); at_builtin; refine Kd.R_append (Kd.int .u8) (w0 := w) B rfl (.tmp 32) (.tmp 34) 46 5 (.int .u8 0) 1 rfl Tryd.underlying46 info5 rfl (by decide) (by omega) (.slice A bs.length cp) bs 9 [.int .u8 9] (fun k => k ≠ g) (fun _ => False) rfl rfl ?aP (fun _ hk => hk.elim) ?aF ?aO ?aB ?aS ?aL ?_; (case aP => exact rfl); (case aB => exact pw_below_drewN (Below.refl _ _) _); (case aF => intro k hk; have hk' : w.heap.size ≤ k := hk; omega); (case aO => exact (Kd.R_drewN hr (nq + n2))); (case aS => exact hlow); (case aL => omega); intro v1 w1 ho hbw hg hat; obtain ⟨Av1, cpv1, rfl, -, -⟩ := Kd.R_reads ho; obtain ⟨k0, k1, k5, k2, k3, k4, hS⟩ := Rdr.grown (w := w.drewN (nq + n2)) hB hh (Kd.R_drewN hr (nq + n2)) ho hg; rw [List.length_append, List.length_singleton] at hS)
  go_ret
  exact ⟨rfl, (hS _).1, (hbw.setCell hB _).setCell hB _⟩
set_option maxRecDepth 100000 in
set_option maxHeartbeats 8000000 in
theorem rplain_two {B g : Nat} {text : ByteArray} {i : Nat} {bs : List Int} {w : World} (hR : Rdr B w g text (i : Int) bs) (hl : bs.length ≤ 140737488000000) (h1 : i < text.size) (h2 : text.size ≤ 140737488000000) (hb : bt text i = 13) (d1 : decide (((bytesOf text).drop i).take (⟨#[13, 10]⟩ : ByteArray).size = bytesOf ⟨#[13, 10]⟩) = true) :
    Calls Tryd.prog 44 #[.pointer (some ⟨g, 0, none⟩), .bool true] w fun e w' => e = .returned (.bool true) ∧ Rdr B w' g text ((i : Int) + 2) (bs ++ [13, 10]) ∧ Below B w w' := by
  obtain ⟨A, cp, c0, c1, c2, f1, f2, hlt, hh, hr⟩ := hR.cells
  have hlow := hR.low
  have hB := hR.base
  have p1 := eq_true (show (0 : Int) ≤ (i : Int) by omega)
  have qi1 := eq_true (show (i : Int) < (text.size : Int) by omega)
  have q1 := eq_true (show (i : Int).toNat < text.size by omega)
  have q2 := eq_true h1
  have hx1 : ∀ h : i < text.size, ((text[i]'h).toNat : Int) = bt text (i : Int) := fun h => bt_at text (i : Int) (by omega)
  rw [hb] at hx1
  go_enter Tryd.func44, Tryd.ntmps44
  go_wp2_with fail
  go_quiet (fail)
  go_wp2_with fail
  refine (rbegins ⟨#[13, 10]⟩ (hR.drewN nq) (by omega) (by omega)).mono ?_
  rintro e w2 ⟨rfl, n2, rfl⟩
  rw [show (i : Int).toNat = i by omega, d1]
  go_wp2_with (first | ((with_reducible refine gate_builtin (b := .append) (xs := #[.tmp 32, .tmp 34]) rfl ?_); at_builtin; refine Kd.R_append (Kd.int .u8) (w0 := w) B rfl (.tmp 32) (.tmp 34) 46 5 (.int .u8 0) 1 rfl Tryd.underlying46 info5 rfl (by decide) (by omega) (.slice A bs.length cp) bs 13 [.int .u8 13] (fun k => k ≠ g) (fun _ => False) rfl rfl ?aP (fun _ hk => hk.elim) ?aF ?aO ?aB ?aS ?aL ?_; (case aP => exact rfl); (case aB => exact pw_below_drewN (Below.refl _ _) _); (case aF => intro k hk; have hk' : w.heap.size ≤ k := hk; omega); (case aO => exact (Kd.R_drewN hr (nq + n2))); (case aS => exact hlow); (case aL => omega); intro v1 w1 ho hbw hg hat; obtain ⟨Av1, cpv1, rfl, -, -⟩ := Kd.R_reads ho; obtain ⟨k0, k1, k5, k2, k3, k4, hS⟩ := Rdr.grown (w := w.drewN (nq + n2)) hB hh (Kd.R_drewN hr (nq + n2)) ho hg; obtain ⟨hS1, hh1, hr1⟩ := hS ((i : Int) + 1); have hb1 : Below B w ((w1.setCell ⟨g, 2, none⟩ (.slice Av1 (bs ++ [13]).length cpv1)).setCell ⟨g, 1, none⟩ (.int .i64 ((i : Int) + 1))) := (hbw.setCell hB _).setCell hB _; have hlt1 := rblk_lt hh1; have hlow1 := hS1.low; rw [List.length_append, List.length_singleton] at hh1 hr1 hb1 hlt1 hlow1) | ((with_reducible refine gate_builtin (b := .append) (xs := #[.tmp 51, .tmp 52]) rfl ?_); at_builtin; refine Kd.R_append (Kd.int .u8) (w0 := w) B rfl (.tmp 51) (.tmp 52) 46 5 (.int .u8 0) 1 rfl Tryd.underlying46 info5 rfl (by decide) (by omega) (.slice Av1 (bs.length + 1) cpv1) (bs ++ [13]) 10 [.int .u8 10] (fun k => k ≠ g) (fun _ => False) rfl (by have e_ : ((w1.setCell ⟨g, 2, none⟩ (.slice Av1 (bs.length + 1) cpv1)).setCell ⟨g, 1, none⟩ (.int .i64 ((i : Int) + 1))).heap.size = w1.heap.size := (by simp); rw [e_]; rfl) ?aP (fun _ hk => hk.elim) ?aF ?aO ?aB ?aS ?aL ?_; (case aP => exact rfl); (case aB => exact hb1); (case aF => intro k hk; have hk' : ((w1.setCell ⟨g, 2, none⟩ (.slice Av1 (bs.length + 1) cpv1)).setCell ⟨g, 1, none⟩ (.int .i64 ((i : Int) + 1))).heap.size ≤ k := hk; omega); (case aO => exact hr1); (case aS => exact hlow1); (case aL => simp only [List.length_append, List.length_singleton]; omega); intro v2 w2_ ho2 hbw2 hg2 hat2; obtain ⟨Av2, cpv2, rfl, -, -⟩ := Kd.R_reads ho2; have hh2 : ((w1.setCell ⟨g, 2, none⟩ (.slice Av1 (bs.length + 1) cpv1)).setCell ⟨g, 1, none⟩ (.int .i64 ((i : Int) + 1))).heap[g]? = some (.cells #[.string text, .int .i64 ((i : Int) + 1), .slice Av1 (bs ++ [13]).length cpv1] 63 (0, 0)) := (by rw [List.length_append, List.length_singleton]; exact hh1); have hr2 : Kd.R (Kd.int .u8) 5 ((w1.setCell ⟨g, 2, none⟩ (.slice Av1 (bs.length + 1) cpv1)).setCell ⟨g, 1, none⟩ (.int .i64 ((i : Int) + 1))) B (fun k => k ≠ g) (.slice Av1 (bs ++ [13]).length cpv1) (bs ++ [13]) := (by rw [List.length_append, List.length_singleton]; exact hr1); have hg3 : ((w1.setCell ⟨g, 2, none⟩ (.slice Av1 (bs.length + 1) cpv1)).setCell ⟨g, 1, none⟩ (.int .i64 ((i : Int) + 1))).grownBy w2_ (.slice Av1 (bs ++ [13]).length cpv1 : Value).ownBlock := (by rw [List.length_append, List.length_singleton]; exact hg2); obtain ⟨m0, m1, m5, m2, m3, m4, hS2⟩ := Rdr.grown (w := ((w1.setCell ⟨g, 2, none⟩ (.slice Av1 (bs.length + 1) cpv1)).setCell ⟨g, 1, none⟩ (.int .i64 ((i : Int) + 1)))) hB hh2 hr2 ho2 hg3; simp only [List.length_append, List.length_singleton] at hS2))
  go_ret
  have h9 := (hS2 ((i : Int) + 1 + 1)).1
  exact ⟨rfl, by rw [show (i : Int) + 2 = (i : Int) + 1 + 1 by omega, show bs ++ [13, 10] = bs ++ [13] ++ [10] by simp]; exact h9, (hbw2.setCell hB _).setCell hB _⟩
set_option maxRecDepth 100000 in
set_option maxHeartbeats 8000000 in
theorem rplain_no {B g : Nat} {text : ByteArray} {i : Nat} {bs : List Int} {w : World} (lines : Bool) (hR : Rdr B w g text (i : Int) bs) (h1 : i < text.size) (hc : lines = false ∨ (lines = true ∧ bt text i ≠ 10 ∧ decide (((bytesOf text).drop i).take (⟨#[13, 10]⟩ : ByteArray).size = bytesOf ⟨#[13, 10]⟩) = false)) (h9 : bt text i ≠ 9) (hn : bt text i < 32 ∨ bt text i = 127) :
    Calls Tryd.prog 44 #[.pointer (some ⟨g, 0, none⟩), .bool lines] w fun e w' => e = .returned (.bool false) ∧ Rdr B w' g text (i : Int) bs ∧ Below B w w' := by
  obtain ⟨A, cp, c0, c1, c2, f1, f2, hlt, hh, hr⟩ := hR.cells
  have hlow := hR.low
  have hB := hR.base
  have p1 := eq_true (show (0 : Int) ≤ (i : Int) by omega)
  have qi1 := eq_true (show (i : Int) < (text.size : Int) by omega)
  have q1 := eq_true (show (i : Int).toNat < text.size by omega)
  have q2 := eq_true h1
  have hx1 : ∀ h : i < text.size, ((text[i]'h).toNat : Int) = bt text (i : Int) := fun h => bt_at text (i : Int) (by omega)
  have t9 : (bt text (i : Int) == 9) = false := beq_eq_false_iff_ne.2 h9
  have hbr := bt_range text (i : Int)
  rcases hc with rfl | ⟨rfl, h10, d1⟩
  · clear hr hh
    generalize bt text (i : Int) = b at hx1 t9 hn hbr
    clear h9
    rcases hn with hn | rfl
    all_goals
      go_enter Tryd.func44, Tryd.ntmps44
      go_wp2_with fail
      go_quiet (fail)
      go_wp2
      go_ret
      exact ⟨rfl, hR.drewN _, pw_below_drewN (Below.refl _ _) _⟩
  · clear hr hh
    have t10 : (bt text (i : Int) == 10) = false := beq_eq_false_iff_ne.2 h10
    generalize bt text (i : Int) = b at hx1 t9 t10 hn hbr
    clear h9 h10
    rcases hn with hn | rfl
    all_goals
      go_enter Tryd.func44, Tryd.ntmps44
      go_wp2_with fail
      go_quiet (fail)
      go_wp2_with fail
      refine (rbegins ⟨#[13, 10]⟩ (hR.drewN nq) (by omega) (by omega)).mono ?_
      rintro e w2 ⟨rfl, n2, rfl⟩
      rw [show (i : Int).toNat = i by omega, d1]
      go_wp2
      go_ret
      exact ⟨rfl, hR.drewN _, pw_below_drewN (Below.refl _ _) _⟩
set_option maxRecDepth 100000 in
set_option maxHeartbeats 8000000 in
theorem rplain_letter {B g : Nat} {text : ByteArray} {i : Nat} {bs : List Int} {w : World} (lines : Bool) (hR : Rdr B w g text (i : Int) bs) (hl : bs.length ≤ 140737488000000) (h1 : i < text.size) (h2 : text.size ≤ 140737488000000) (hc : lines = false ∨ (lines = true ∧ bt text i ≠ 10 ∧ decide (((bytesOf text).drop i).take (⟨#[13, 10]⟩ : ByteArray).size = bytesOf ⟨#[13, 10]⟩) = false)) (h9 : bt text i ≠ 9) (hn : 32 ≤ bt text i ∧ bt text i ≠ 127) :
    Calls Tryd.prog 44 #[.pointer (some ⟨g, 0, none⟩), .bool lines] w fun e w' => e = .returned (.bool (decide ((tk ((bytesOf text).drop i)).2 > 0))) ∧ Rdr B w' g text ((i : Int) + (tk ((bytesOf text).drop i)).2) (bs ++ enc0 (tk ((bytesOf text).drop i)).1) ∧ Below B w w' := by
  obtain ⟨A, cp, c0, c1, c2, f1, f2, hlt, hh, hr⟩ := hR.cells
  have hlow := hR.low
  have hB := hR.base
  have p1 := eq_true (show (0 : Int) ≤ (i : Int) by omega)
  have qi1 := eq_true (show (i : Int) < (text.size : Int) by omega)
  have q1 := eq_true (show (i : Int).toNat < text.size by omega)
  have q2 := eq_true h1
  have hx1 : ∀ h : i < text.size, ((text[i]'h).toNat : Int) = bt text (i : Int) := fun h => bt_at text (i : Int) (by omega)
  have t9 : (bt text (i : Int) == 9) = false := beq_eq_false_iff_ne.2 h9
  have hbr := bt_range text (i : Int)
  have t127 : (bt text (i : Int) == 127) = false := beq_eq_false_iff_ne.2 hn.2
  have t32 : decide (bt text (i : Int) < 32) = false := decide_eq_false (by omega)
  rcases hc with rfl | ⟨rfl, h10, d1⟩
  · clear hr hh
    generalize bt text (i : Int) = b at hx1 t9 hbr t127 t32
    clear h9 hn
    go_enter Tryd.func44, Tryd.ntmps44
    go_wp2_with fail
    go_quiet (fail)
    go_wp2_with fail
    refine (rletter (hR.drewN nq) hl (by omega) (by omega) h2).mono ?_
    rintro e w5 ⟨rfl, hR5, hB5⟩
    rw [show (i : Int).toNat = i by omega] at hR5
    rw [show (i : Int).toNat = i by omega]
    go_wp2
    go_ret
    exact ⟨rfl, hR5, (pw_below_drewN (Below.refl _ _) nq).trans hB5⟩
  · clear hr hh
    have t10 : (bt text (i : Int) == 10) = false := beq_eq_false_iff_ne.2 h10
    generalize bt text (i : Int) = b at hx1 t9 t10 hbr t127 t32
    clear h9 h10 hn
    go_enter Tryd.func44, Tryd.ntmps44
    go_wp2_with fail
    go_quiet (fail)
    go_wp2_with fail
    refine (rbegins ⟨#[13, 10]⟩ (hR.drewN nq) (by omega) (by omega)).mono ?_
    rintro e w2 ⟨rfl, n2, rfl⟩
    rw [show (i : Int).toNat = i by omega, d1]
    go_wp2_with fail
    refine (rletter (hR.drewN (nq + n2)) hl (by omega) (by omega) h2).mono ?_
    rintro e w5 ⟨rfl, hR5, hB5⟩
    rw [show (i : Int).toNat = i by omega] at hR5
    rw [show (i : Int).toNat = i by omega]
    go_wp2
    go_ret
    exact ⟨rfl, hR5, (pw_below_drewN (Below.refl _ _) (nq + n2)).trans hB5⟩
theorem two_take {text : ByteArray} {i : Nat} (h1 : i < text.size) : (decide (((bytesOf text).drop i).take (⟨#[13, 10]⟩ : ByteArray).size = bytesOf ⟨#[13, 10]⟩) = true ↔ ((bytesOf text).drop i).take 2 = [13, 10]) ∧ (((bytesOf text).drop i).take 2 = [13, 10] → bt text i = 13) ∧ ((bytesOf text).drop i).getD 0 0 = bt text i := by
  have hg : ((bytesOf text).drop i).getD 0 0 = bt text i := by
    rw [bt_get]
    simp [List.getD_eq_getElem?_getD, List.getElem?_drop]
  refine ⟨decide_eq_true_iff, fun h => ?_, hg⟩
  rw [← hg]
  have hlt : i < (bytesOf text).length := by rw [size_of]; exact h1
  rw [List.drop_eq_getElem_cons hlt, List.take_succ_cons] at h
  injection h with h _
  rw [List.drop_eq_getElem_cons hlt, h]
  rfl
/-- What plain does. -/
theorem rplain {B g : Nat} {text : ByteArray} {i : Nat} {bs : List Int} {w : World} (lines : Bool) (hR : Rdr B w g text (i : Int) bs) (hl : bs.length ≤ 140737488000000) (h1 : i < text.size) (h2 : text.size ≤ 140737488000000) :
    Calls Tryd.prog 44 #[.pointer (some ⟨g, 0, none⟩), .bool lines] w fun e w' => e = .returned (.bool (tplain lines ((bytesOf text).drop i)).isSome) ∧
      (match tplain lines ((bytesOf text).drop i) with | none => ∃ bs', Rdr B w' g text (i : Int) bs' | some p => Rdr B w' g text ((i : Int) + p.2) (bs ++ p.1)) ∧ Below B w w' := by
  obtain ⟨k1, k2, k3⟩ := two_take (text := text) (i := i) h1
  unfold tplain
  rw [k3]
  have letter : (lines = false ∨ (lines = true ∧ bt text i ≠ 10 ∧ decide (((bytesOf text).drop i).take (⟨#[13, 10]⟩ : ByteArray).size = bytesOf ⟨#[13, 10]⟩) = false)) → bt text i ≠ 9 →
      Calls Tryd.prog 44 #[.pointer (some ⟨g, 0, none⟩), .bool lines] w fun e w' => e = .returned (.bool (if bt text i < 32 ∨ bt text i = 127 then none else if (tk ((bytesOf text).drop i)).2 > 0 then some (enc0 (tk ((bytesOf text).drop i)).1, (tk ((bytesOf text).drop i)).2.toNat) else none).isSome) ∧
      (match (if bt text i < 32 ∨ bt text i = 127 then none else if (tk ((bytesOf text).drop i)).2 > 0 then some (enc0 (tk ((bytesOf text).drop i)).1, (tk ((bytesOf text).drop i)).2.toNat) else none) with | none => ∃ bs', Rdr B w' g text (i : Int) bs' | some p => Rdr B w' g text ((i : Int) + p.2) (bs ++ p.1)) ∧ Below B w w' := by
    intro hc h9
    by_cases hn : bt text i < 32 ∨ bt text i = 127
    · rw [if_pos hn]
      refine (rplain_no lines hR h1 hc h9 hn).mono ?_
      rintro e w' ⟨rfl, hR', hB'⟩
      exact ⟨rfl, ⟨_, hR'⟩, hB'⟩
    · rw [if_neg hn]
      refine (rplain_letter lines hR hl h1 h2 hc h9 (by omega)).mono ?_
      rintro e w' ⟨rfl, hR', hB'⟩
      have hb := tk_bound ((bytesOf text).drop i) (fun x hx => bytes_of text x (List.mem_of_mem_drop hx))
      by_cases hq : (tk ((bytesOf text).drop i)).2 > 0
      · rw [if_pos hq, decide_eq_true hq]
        refine ⟨rfl, ?_, hB'⟩
        show Rdr B w' g text ((i : Int) + ((tk ((bytesOf text).drop i)).2.toNat : Int)) _
        rw [show ((tk ((bytesOf text).drop i)).2.toNat : Int) = (tk ((bytesOf text).drop i)).2 by omega]
        exact hR'
      · rw [if_neg hq, decide_eq_false hq]
        rw [show (tk ((bytesOf text).drop i)).2 = 0 by omega, Int.add_zero] at hR'
        exact ⟨rfl, ⟨_, hR'⟩, hB'⟩
  cases lines with
  | false =>
    by_cases h9 : bt text i = 9
    · rw [if_pos (.inr h9), if_neg (by omega)]
      refine (rplain_one false hR hl h1 h2 (.inr ⟨rfl, h9⟩)).mono ?_
      rintro e w' ⟨rfl, hR', hB'⟩
      exact ⟨rfl, hR', hB'⟩
    · rw [if_neg (by rintro (⟨h, _⟩ | h); cases h; exact h9 h)]
      exact letter (.inl rfl) h9
  | true =>
    by_cases h10 : bt text i = 10
    · rw [if_pos (.inl ⟨rfl, .inl h10⟩), if_neg (by omega)]
      refine (rplain_one true hR hl h1 h2 (.inl ⟨rfl, h10⟩)).mono ?_
      rintro e w' ⟨rfl, hR', hB'⟩
      exact ⟨rfl, hR', hB'⟩
    · by_cases hd : ((bytesOf text).drop i).take 2 = [13, 10]
      · have h13 := k2 hd
        rw [if_pos (.inl ⟨rfl, .inr hd⟩), if_pos h13]
        refine (rplain_two hR hl h1 h2 h13 (k1.2 hd)).mono ?_
        rintro e w' ⟨rfl, hR', hB'⟩
        exact ⟨rfl, hR', hB'⟩
      · have d1 : decide (((bytesOf text).drop i).take (⟨#[13, 10]⟩ : ByteArray).size = bytesOf ⟨#[13, 10]⟩) = false := Bool.eq_false_iff.2 (fun e => hd (k1.1 e))
        by_cases h9 : bt text i = 9
        · rw [if_pos (.inr h9), if_neg (by omega), h9]
          refine (rplain_tab hR hl h1 h2 h9 d1).mono ?_
          rintro e w' ⟨rfl, hR', hB'⟩
          exact ⟨rfl, hR', hB'⟩
        · rw [if_neg (by rintro (⟨_, h | h⟩ | h); exact h10 h; exact hd h; exact h9 h)]
          exact letter (.inr ⟨rfl, h10, d1⟩) h9
end Go.Proofs.YtoanbmggffkmgaaDoor.P
end
section
namespace Go.Proofs.YtoanbmggffkmgaaDoor.La
open Go.RowKit Go.Proofs.YtoanbmggffkmgaaDoorW.PrintWords Go.Proofs.YtoanbmggffkmgaaDoorW.PrintLast Go.Proofs.YtoanbmggffkmgaaDoorW.PrintMore
def inSet (cs : List Int) (b : Int) : Bool := cs.any (fun c => c == b)
def trimL (cs l : List Int) : List Int := l.dropWhile (inSet cs)
def ascii (l : List Int) : Bool := l.all (fun b => decide (b < 128))
def toI (l : List UInt8) : List Int := l.map fun b => (b.toNat : Int)
theorem inSet_of (cs : List UInt8) (b : UInt8) : cs.contains b = inSet (toI cs) (b.toNat : Int) := by
  unfold toI inSet
  induction cs with
  | nil => rfl
  | cons c cs ih =>
    rw [List.contains_cons, List.map_cons, List.any_cons, ih]
    congr 1
    rw [Bool.eq_iff_iff]
    simp [← UInt8.toNat_inj]
    omega
theorem dropWhile_of (cs l : List UInt8) : toI (l.dropWhile (cs.contains ·)) = (toI l).dropWhile (inSet (toI cs)) := by
  induction l with
  | nil => rfl
  | cons b l ih =>
    have h := inSet_of cs b
    simp only [List.dropWhile_cons, toI, List.map_cons] at ih ⊢
    simp only [toI] at h
    rw [h]
    split
    · exact ih
    · rfl
theorem trimL_of (l cs : List UInt8) : toI (Lib.trimLeftS l cs) = trimL (toI cs) (toI l) := dropWhile_of cs l
theorem ascii_of {s : ByteArray} (h : ascii (bytesOf s) = true) : ∀ (j : Nat) b, s.data.toList[j]? = some b → b.toNat < 128 := by
  intro j b hb
  unfold ascii at h
  rw [List.all_eq_true] at h
  have := h (b.toNat : Int) (by rw [bytesOf_data]; exact List.mem_map.2 ⟨b, List.mem_of_getElem? hb, rfl⟩)
  have := of_decide_eq_true this
  omega
theorem mk_of (l : List UInt8) : (⟨l.toArray⟩ : ByteArray) = strOfNums (toI l) := by
  have hB : Bytes (toI l) := by
    intro x hx
    obtain ⟨b, _, rfl⟩ := List.mem_map.1 hx
    have := b.toNat_lt
    omega
  apply bytesOf_inj
  rw [strOfNums_bytes hB]
  rfl
theorem mem_dropWhile {α : Type} {p : α → Bool} {l : List α} {x : α} (h : x ∈ l.dropWhile p) : x ∈ l := (List.dropWhile_suffix p).mem h
theorem trimL_bytes {cs l : List Int} (h : Bytes l) : Bytes (trimL cs l) := fun x hx => h x (mem_dropWhile hx)
end Go.Proofs.YtoanbmggffkmgaaDoor.La
namespace Go.Proofs.YtoanbmggffkmgaaDoor.P
open Go.RowKit Go.Proofs.YtoanbmggffkmgaaDoor.La Go.Proofs.YtoanbmggffkmgaaDoorW.PrintWords Go.Proofs.YtoanbmggffkmgaaDoorW.PrintLast Go.Proofs.YtoanbmggffkmgaaDoorW.PrintMore
def strings_TrimLeft.f (a0 a1 : ByteArray) : Option ByteArray := if a1.size < 4294967281 ∧ ascii (bytesOf a1) = true then some (strOfNums (trimL (bytesOf a1) (bytesOf a0))) else none
theorem strings_TrimLeft.calls (a0 a1 : ByteArray) (r : ByteArray) (w : World) (h : strings_TrimLeft.f a0 a1 = some r) :
    Calls Tryd.prog 55 #[.string a0, .string a1] w fun e w' => e = .returned (.string r) ∧ Below w.heap.size w w' := by
  unfold strings_TrimLeft.f at h
  split at h
  · rename_i hc
    obtain rfl := Option.some.inj h
    refine (Any.strings_TrimLeft_laid Tryd.lays161 (by kernel_rfl) a0 a1 w hc.1 (ascii_of hc.2)).mono fun e w' he => ?_
    obtain ⟨rfl, hb⟩ := he
    refine ⟨?_, hb⟩
    rw [mk_of, trimL_of]
    rfl
  · cases h
end Go.Proofs.YtoanbmggffkmgaaDoor.P
end
section
namespace Go.Proofs.YtoanbmggffkmgaaDoor.La
open Go.RowKit Go.Proofs.YtoanbmggffkmgaaDoor.P Go.Proofs.YtoanbmggffkmgaaDoorW.PrintWords Go.Proofs.YtoanbmggffkmgaaDoorW.PrintLast Go.Proofs.YtoanbmggffkmgaaDoorW.PrintMore
/-- How long a line's end with a stroke ahead is, blanks and all. -/
def tfold (l : List Int) : Option Nat :=
  if (trimL [32, 9] (l.drop 1)).take 1 = [10] ∨ (trimL [32, 9] (l.drop 1)).take 2 = [13, 10] then some (l.length - (trimL [32, 9, 10, 13] (l.drop 1)).length) else none
end Go.Proofs.YtoanbmggffkmgaaDoor.La
namespace Go.Proofs.YtoanbmggffkmgaaDoor.P
open Go.RowKit Go.Proofs.YtoanbmggffkmgaaDoor.La Go.Proofs.YtoanbmggffkmgaaDoorW.PrintWords Go.Proofs.YtoanbmggffkmgaaDoorW.PrintLast Go.Proofs.YtoanbmggffkmgaaDoorW.PrintMore
theorem trim2 (s : ByteArray) : strings_TrimLeft.f s (⟨#[32, 9]⟩ : ByteArray) = some (strOfNums (trimL [32, 9] (bytesOf s))) := by
  unfold strings_TrimLeft.f
  have h1 : (⟨#[32, 9]⟩ : ByteArray).size < 4294967281 := by
    have h : (⟨#[32, 9]⟩ : ByteArray).size = 2 := rfl
    rw [h]; omega
  have h2 : ascii (bytesOf (⟨#[32, 9]⟩ : ByteArray)) = true := by decide
  rw [if_pos (And.intro h1 h2)]
  rfl
theorem trim4 (s : ByteArray) : strings_TrimLeft.f s (⟨#[32, 9, 10, 13]⟩ : ByteArray) = some (strOfNums (trimL [32, 9, 10, 13] (bytesOf s))) := by
  unfold strings_TrimLeft.f
  have h1 : (⟨#[32, 9, 10, 13]⟩ : ByteArray).size < 4294967281 := by
    have h : (⟨#[32, 9, 10, 13]⟩ : ByteArray).size = 4 := rfl
    rw [h]; omega
  have h2 : ascii (bytesOf (⟨#[32, 9, 10, 13]⟩ : ByteArray)) = true := by decide
  rw [if_pos (And.intro h1 h2)]
  rfl
set_option maxRecDepth 100000 in
set_option maxHeartbeats 8000000 in
theorem rfold {B g : Nat} {text : ByteArray} {i : Nat} {bs : List Int} {w : World} (hR : Rdr B w g text (i : Int) bs) (h1 : i < text.size) (h2 : text.size ≤ 140737488000000) :
    Calls Tryd.prog 73 #[.pointer (some ⟨g, 0, none⟩)] w fun e w' => e = .returned (.bool (tfold ((bytesOf text).drop i)).isSome) ∧
      Rdr B w' g text ((i : Int) + ((tfold ((bytesOf text).drop i)).getD 0 : Nat)) bs ∧ Below B w w' := by
  obtain ⟨A, c, c0, c1, c2, f1, f2, hlt, hc, hC⟩ := hR.open_
  have hlow := hR.low
  have p1 := eq_true (show (0 : Int) ≤ (i : Int) + 1 by omega)
  have p2 := eq_true (show (i : Int) + 1 ≤ (text.size : Int) by omega)
  have hy : bytesOf (text.extract (i + 1) text.size) = (bytesOf text).drop (i + 1) := bytesOf_drop _ _
  have ht2 := trim2 (text.extract (i + 1) text.size)
  have ht4 := trim4 (text.extract (i + 1) text.size)
  rw [hy] at ht2 ht4
  generalize hln : strOfNums (trimL [32, 9] ((bytesOf text).drop (i + 1))) = ln at ht2
  have hlnb : bytesOf ln = trimL [32, 9] ((bytesOf text).drop (i + 1)) := by rw [← hln]; exact strOfNums_bytes (trimL_bytes ((bytes_of text).drop _))
  have hp1 := hasPrefix_eq ln ⟨#[10]⟩
  have hp2 := hasPrefix_eq ln ⟨#[13, 10]⟩
  have d1 : decide ((bytesOf ln).take (⟨#[10]⟩ : ByteArray).size = bytesOf ⟨#[10]⟩) = decide ((trimL [32, 9] ((bytesOf text).drop (i + 1))).take 1 = [10]) := by rw [hlnb]; rfl
  have d2 : decide ((bytesOf ln).take (⟨#[13, 10]⟩ : ByteArray).size = bytesOf ⟨#[13, 10]⟩) = decide ((trimL [32, 9] ((bytesOf text).drop (i + 1))).take 2 = [13, 10]) := by rw [hlnb]; rfl
  rw [d1] at hp1
  rw [d2] at hp2
  have hd1 : ((bytesOf text).drop i).drop 1 = (bytesOf text).drop (i + 1) := by rw [List.drop_drop]
  have hF : tfold ((bytesOf text).drop i) = if (trimL [32, 9] ((bytesOf text).drop (i + 1))).take 1 = [10] ∨ (trimL [32, 9] ((bytesOf text).drop (i + 1))).take 2 = [13, 10] then some (text.size - i - (trimL [32, 9, 10, 13] ((bytesOf text).drop (i + 1))).length) else none := by
    unfold tfold
    rw [hd1, List.length_drop, size_of]
  have hz4 : (strOfNums (trimL [32, 9, 10, 13] ((bytesOf text).drop (i + 1)))).size = (trimL [32, 9, 10, 13] ((bytesOf text).drop (i + 1))).length := size_strOfNums (trimL_bytes ((bytes_of text).drop _))
  have hl4 : (trimL [32, 9, 10, 13] ((bytesOf text).drop (i + 1))).length ≤ text.size - (i + 1) := by
    have := (List.dropWhile_suffix (inSet [32, 9, 10, 13]) (l := (bytesOf text).drop (i + 1))).length_le
    rw [List.length_drop, size_of] at this
    exact this
  generalize strOfNums (trimL [32, 9, 10, 13] ((bytesOf text).drop (i + 1))) = r4 at ht4 hz4
  generalize (trimL [32, 9, 10, 13] ((bytesOf text).drop (i + 1))).length = n4 at hF hz4 hl4
  have hd1' : ∀ P : Prop, [Decidable P] → decide P = true ∨ decide P = false := fun P _ => by cases decide P <;> simp
  clear hy hln hlnb d1 d2
  have HF := Lib.hid hF
  clear hF hd1
  have HT2 := Lib.hid ht2
  have HT4 := Lib.hid ht4
  clear ht2 ht4
  by_cases b1 : (trimL [32, 9] ((bytesOf text).drop (i + 1))).take 1 = [10]
  · rw [decide_eq_true b1] at hp1
    have HN := Lib.hid (HF.out.trans (if_pos (.inl b1)))
    have HP1 := Lib.hid hp1
    clear hp1 hp2 HF b1
    go_enter Tryd.func73, Tryd.ntmps73
    go_wp2_with fail
    go_quiet (fail)
    go_wp2_with fail
    refine (strings_TrimLeft.calls _ _ _ _ HT2.out).mono ?_
    rintro e w1 ⟨rfl, hb1⟩
    have hR1 := (hR.drewN nq).below hb1
    have hB1 := (pw_below_drewN (Below.refl B w) nq).trans (hb1.mono hlow)
    go_wp2_with fail
    refine (strings_HasPrefix.calls _ _ _ _ HP1.out).mono ?_
    rintro e w2 ⟨rfl, n2, rfl⟩
    have hR2 := hR1.drewN n2
    have hB2 := pw_below_drewN hB1 n2
    generalize w1.drewN n2 = w3 at hR2 hB2
    clear c0 c1 c2 f1 f2 hC hR
    obtain ⟨A2, cc2, c0, c1, c2, f1, f2, hlt2, hc2, hC2⟩ := hR2.open_
    have hlow3 := hR2.low
    go_wp2_with fail
    go_region_held3 (fun w' => w'.cell? ⟨g, 0, none⟩ = some (.string text)) (first | go_keep | (simp [*]; done) | (go_simp; done)) (first | (go_at_call 55; refine (strings_TrimLeft.calls _ _ _ _ HT4.out).mono ?_; rintro e w5 ⟨rfl, hb5⟩; have hR5 := (hR2.drewN _).below hb5; have hB5 := (pw_below_drewN hB2 _).trans (hb5.mono hlow3); obtain ⟨_, _, e0, e1, e2, g1, g2, _, _, _⟩ := hR5.open_))
    all_goals
      have hM := hR5.moved (IntKind.i64.wrap ((text.size : Int) - (n4 : Int)))
      have hB6 := hB5.trans hM.2
      go_wp2
      go_ret
      exact ⟨by rw [HN.out]; rfl, by rw [HN.out]; show Rdr B _ g text ((i : Int) + ((text.size - i - n4 : Nat) : Int)) bs; rw [show (i : Int) + ((text.size - i - n4 : Nat) : Int) = IntKind.i64.wrap ((text.size : Int) - (n4 : Int)) by rw [wraps_i64 _ (by omega) (by omega)]; omega]; first | exact hM.1 | exact hM.1.drewN _, by first | exact hB6 | exact pw_below_drewN hB6 _⟩
  · by_cases b2 : (trimL [32, 9] ((bytesOf text).drop (i + 1))).take 2 = [13, 10]
    · rw [decide_eq_false b1] at hp1
      rw [decide_eq_true b2] at hp2
      have HN := Lib.hid (HF.out.trans (if_pos (.inr b2)))
      have HP1 := Lib.hid hp1
      have HP2 := Lib.hid hp2
      clear hp1 hp2 HF b1 b2
      go_enter Tryd.func73, Tryd.ntmps73
      go_wp2_with fail
      go_quiet (fail)
      go_wp2_with fail
      refine (strings_TrimLeft.calls _ _ _ _ HT2.out).mono ?_
      rintro e w1 ⟨rfl, hb1⟩
      have hR1 := (hR.drewN nq).below hb1
      have hB1 := (pw_below_drewN (Below.refl B w) nq).trans (hb1.mono hlow)
      go_wp2_with fail
      refine (strings_HasPrefix.calls _ _ _ _ HP1.out).mono ?_
      rintro e w2 ⟨rfl, n2, rfl⟩
      have hR2 := hR1.drewN n2
      have hB2 := pw_below_drewN hB1 n2
      generalize w1.drewN n2 = w3 at hR2 hB2
      clear hR1 hB1
      go_wp2_with fail
      refine (strings_HasPrefix.calls _ _ _ _ HP2.out).mono ?_
      rintro e w4 ⟨rfl, n4', rfl⟩
      replace hR2 := hR2.drewN n4'
      replace hB2 := pw_below_drewN hB2 n4'
      generalize w3.drewN n4' = w3 at hR2 hB2
      clear c0 c1 c2 f1 f2 hC hR
      obtain ⟨A2, cc2, c0, c1, c2, f1, f2, hlt2, hc2, hC2⟩ := hR2.open_
      have hlow3 := hR2.low
      go_wp2_with fail
      go_region_held3 (fun w' => w'.cell? ⟨g, 0, none⟩ = some (.string text)) (first | go_keep | (simp [*]; done) | (go_simp; done)) (first | (go_at_call 55; refine (strings_TrimLeft.calls _ _ _ _ HT4.out).mono ?_; rintro e w5 ⟨rfl, hb5⟩; have hR5 := (hR2.drewN _).below hb5; have hB5 := (pw_below_drewN hB2 _).trans (hb5.mono hlow3); obtain ⟨_, _, e0, e1, e2, g1, g2, _, _, _⟩ := hR5.open_))
      all_goals
        have hM := hR5.moved (IntKind.i64.wrap ((text.size : Int) - (n4 : Int)))
        have hB6 := hB5.trans hM.2
        go_wp2
        go_ret
        exact ⟨by rw [HN.out]; rfl, by rw [HN.out]; show Rdr B _ g text ((i : Int) + ((text.size - i - n4 : Nat) : Int)) bs; rw [show (i : Int) + ((text.size - i - n4 : Nat) : Int) = IntKind.i64.wrap ((text.size : Int) - (n4 : Int)) by rw [wraps_i64 _ (by omega) (by omega)]; omega]; first | exact hM.1 | exact hM.1.drewN _, by first | exact hB6 | exact pw_below_drewN hB6 _⟩
    · rw [decide_eq_false b1] at hp1
      rw [decide_eq_false b2] at hp2
      have HN := Lib.hid (HF.out.trans (if_neg (by rintro (h | h); exact b1 h; exact b2 h)))
      have HP1 := Lib.hid hp1
      have HP2 := Lib.hid hp2
      clear hp1 hp2 HF b1 b2
      go_enter Tryd.func73, Tryd.ntmps73
      go_wp2_with fail
      go_quiet (fail)
      go_wp2_with fail
      refine (strings_TrimLeft.calls _ _ _ _ HT2.out).mono ?_
      rintro e w1 ⟨rfl, hb1⟩
      have hR1 := (hR.drewN nq).below hb1
      have hB1 := (pw_below_drewN (Below.refl B w) nq).trans (hb1.mono hlow)
      go_wp2_with fail
      refine (strings_HasPrefix.calls _ _ _ _ HP1.out).mono ?_
      rintro e w2 ⟨rfl, n2, rfl⟩
      have hR2 := hR1.drewN n2
      have hB2 := pw_below_drewN hB1 n2
      generalize w1.drewN n2 = w3 at hR2 hB2
      clear hR1 hB1
      go_wp2_with fail
      refine (strings_HasPrefix.calls _ _ _ _ HP2.out).mono ?_
      rintro e w4 ⟨rfl, n4', rfl⟩
      replace hR2 := hR2.drewN n4'
      replace hB2 := pw_below_drewN hB2 n4'
      generalize w3.drewN n4' = w3 at hR2 hB2
      go_wp2
      go_ret
      exact ⟨by rw [HN.out]; rfl, by rw [HN.out]; show Rdr B _ g text ((i : Int) + ((0 : Nat) : Int)) bs; rw [show (i : Int) + ((0 : Nat) : Int) = (i : Int) by omega]; first | exact hR2 | exact hR2.drewN _, by first | exact hB2 | exact pw_below_drewN hB2 _⟩
end Go.Proofs.YtoanbmggffkmgaaDoor.P
end
section
namespace Go.Proofs.YtoanbmggffkmgaaDoor.La
open Go.RowKit Go.Proofs.YtoanbmggffkmgaaDoor.P Go.Proofs.YtoanbmggffkmgaaDoorW.PrintWords Go.Proofs.YtoanbmggffkmgaaDoorW.PrintLast Go.Proofs.YtoanbmggffkmgaaDoorW.PrintMore
/-- The letter of a short escape of TOML. -/
def shortT (c : Int) : Option Int := if c = 34 then some 34 else if c = 92 then some 92 else if c = 98 then some 8 else if c = 102 then some 12 else if c = 110 then some 10 else if c = 114 then some 13 else if c = 116 then some 9 else if c = 101 then some 27 else none
theorem shortT_fin : ∀ b : Fin 256, esc_short.f 3 (b.val : Int) true = some ((shortT b.val).getD 0, (shortT b.val).isSome) := by decide +kernel
theorem shortT_eq {c : Int} (h0 : 0 ≤ c) (h1 : c < 256) : esc_short.f 3 c true = some ((shortT c).getD 0, (shortT c).isSome) := by
  obtain ⟨n, rfl⟩ := Int.eq_ofNat_of_zero_le h0
  exact shortT_fin ⟨n, by omega⟩
theorem shortT_good {c x : Int} (h : shortT c = some x) : good x := by
  unfold shortT at h
  (repeat' split at h) <;> first | (cases h; done) | (obtain rfl := Option.some.inj h; exact good_iff.2 (by omega))
/-- What so many digits behind an escape say. -/
def tdig (l : List Int) (n : Nat) : Option (List Int × Nat) := (digsAt l 2 n).bind fun x => if good x then some (enc x, 2 + n) else none
/-- What an escape of TOML says, a line's end aside. -/
def tesc0 (l : List Int) : Option (List Int × Nat) :=
  if l.length ≤ 1 then none
  else if (shortT (l.getD 1 0)).isSome = true then some (enc ((shortT (l.getD 1 0)).getD 0), 2)
  else if l.getD 1 0 = 117 then tdig l 4
  else if l.getD 1 0 = 85 then tdig l 8
  else none
def tesc (lines : Bool) (l : List Int) : Option (List Int × Nat) := if lines = true ∧ (tfold l).isSome = true then some ([], (tfold l).getD 0) else tesc0 l
end Go.Proofs.YtoanbmggffkmgaaDoor.La
namespace Go.Proofs.YtoanbmggffkmgaaDoor.P
open Go.RowKit Go.Proofs.YtoanbmggffkmgaaDoor.La Go.Proofs.YtoanbmggffkmgaaDoorW.PrintWords Go.Proofs.YtoanbmggffkmgaaDoorW.PrintLast Go.Proofs.YtoanbmggffkmgaaDoorW.PrintMore
/-- What tomlEscape leaves. -/
def TPost (B g : Nat) (text : ByteArray) (i : Nat) (bs : List Int) (w : World) (o : Option (List Int × Nat)) (e : Ending) (w' : World) : Prop :=
  e = .returned (.bool o.isSome) ∧ Rdr B w' g text (match o with | none => (i : Int) | some p => (i : Int) + p.2) (match o with | none => bs | some p => bs ++ p.1) ∧ Below B w w'
set_option maxRecDepth 100000 in
set_option maxHeartbeats 16000000 in
theorem rtesc_fold {B g : Nat} {text : ByteArray} {i : Nat} {bs : List Int} {w : World} (hR : Rdr B w g text (i : Int) bs) (h1 : i < text.size) (h2 : text.size ≤ 140737488000000) {n : Nat} (hf : tfold ((bytesOf text).drop i) = some n) :
    Calls Tryd.prog 43 #[.pointer (some ⟨g, 0, none⟩), .bool true] w (TPost B g text i bs w (some ([], n))) := by
  obtain ⟨A, c, c0, c1, c2, f1, f2, hlt, hc, hC⟩ := hR.open_
  have HFo := Lib.hid hf
  clear hf
  go_enter Tryd.func43, Tryd.ntmps43
  go_wp2_with fail
  refine (rfold hR h1 h2).mono ?_
  rintro e w0 ⟨rfl, hR0, hB0⟩
  rw [HFo.out] at hR0
  rw [HFo.out]
  go_wp2
  go_ret
  exact ⟨rfl, by show Rdr B _ g text ((i : Int) + (n : Int)) (bs ++ []); rw [List.append_nil]; first | exact hR0 | exact hR0.drewN _, by first | exact hB0 | exact pw_below_drewN hB0 _⟩
set_option maxRecDepth 100000 in
set_option maxHeartbeats 16000000 in
theorem rtesc_end {B g : Nat} {text : ByteArray} {i : Nat} {bs : List Int} {w : World} (lines : Bool) (hR : Rdr B w g text (i : Int) bs) (h1 : i < text.size) (h2 : text.size ≤ 140737488000000) (hin : lines = false ∨ (lines = true ∧ tfold ((bytesOf text).drop i) = none)) (hj : i + 1 = text.size) :
    Calls Tryd.prog 43 #[.pointer (some ⟨g, 0, none⟩), .bool lines] w (TPost B g text i bs w (tesc0 ((bytesOf text).drop i))) := by
  have hlen : ((bytesOf text).drop i).length = text.size - i := by rw [List.length_drop, size_of]
  have HJ := Lib.hid (show tesc0 ((bytesOf text).drop i) = none from if_pos (by omega))
  have e1 : ((i : Int) + 1 == (text.size : Int)) = true := beq_iff_eq.2 (by omega)
  clear hlen hj
  rcases hin with rfl | ⟨rfl, hf⟩
  · have hR0 := hR
    have hB0 := Below.refl B w
    obtain ⟨A, c, c0, c1, c2, f1, f2, hlt, hc, hC⟩ := hR0.open_
    go_enter Tryd.func43, Tryd.ntmps43
    go_wp2_with fail
    go_quiet (fail)
    go_wp2
    go_ret
    exact ⟨by rw [HJ.out]; rfl, by rw [HJ.out]; first | exact hR0.drewN _ | exact hR0, by first | exact pw_below_drewN hB0 _ | exact hB0⟩
  · have HFo := Lib.hid hf
    clear hf
    obtain ⟨A0, c_, a0, a1, a2, b1, b2, hlt0, hc0, hC0⟩ := hR.open_
    go_enter Tryd.func43, Tryd.ntmps43
    go_wp2_with fail
    refine (rfold hR h1 h2).mono ?_
    rintro e w0 ⟨rfl, hR0, hB0⟩
    rw [HFo.out] at hR0
    rw [HFo.out]
    rw [show (i : Int) + (((none : Option Nat).getD 0 : Nat) : Int) = (i : Int) by simp] at hR0
    clear a0 a1 a2 b1 b2 hC0
    obtain ⟨A, c, c0, c1, c2, f1, f2, hlt, hc, hC⟩ := hR0.open_
    go_wp2_with fail
    go_quiet (fail)
    go_wp2
    go_ret
    exact ⟨by rw [HJ.out]; rfl, by rw [HJ.out]; first | exact hR0.drewN _ | exact hR0, by first | exact pw_below_drewN hB0 _ | exact hB0⟩
set_option maxRecDepth 100000 in
set_option maxHeartbeats 16000000 in
theorem rtesc_short {B g : Nat} {text : ByteArray} {i : Nat} {bs : List Int} {w : World} (lines : Bool) (hR : Rdr B w g text (i : Int) bs) (hl : bs.length ≤ 140737488000000) (h1 : i < text.size) (h2 : text.size ≤ 140737488000000) (hin : lines = false ∨ (lines = true ∧ tfold ((bytesOf text).drop i) = none)) (hj : i + 1 < text.size) {x : Int} (hx : shortT (bt text (i + 1)) = some x) :
    Calls Tryd.prog 43 #[.pointer (some ⟨g, 0, none⟩), .bool lines] w (TPost B g text i bs w (tesc0 ((bytesOf text).drop i))) := by
  have e1 : ((i : Int) + 1 == (text.size : Int)) = false := beq_eq_false_iff_ne.2 (by omega)
  have hbt : bt text ((i : Int) + 1) = ((bytesOf text).drop i).getD 1 0 := by rw [bt_get, getD_drop]; congr 1
  have hbr := bt_range text ((i : Int) + 1)
  have hlen : ((bytesOf text).drop i).length = text.size - i := by rw [List.length_drop, size_of]
  have HS := Lib.hid (show esc_short.f 3 (bt text ((i : Int) + 1)) true = some (x, true) by rw [shortT_eq (by omega) (by omega), hx]; rfl)
  have hg := shortT_good hx
  have HJ := Lib.hid (show tesc0 ((bytesOf text).drop i) = some (enc x, 2) by unfold tesc0; rw [if_neg (by omega), ← hbt, hx]; rfl)
  clear hlen hx hbt
  have p1 := eq_true (show (0 : Int) ≤ (i : Int) + 1 by omega)
  have qi1 := eq_true (show (i : Int) + 1 < (text.size : Int) by omega)
  have q1 := eq_true (show ((i : Int) + 1).toNat < text.size by omega)
  have q2 := eq_true hj
  have hx1 : ∀ h : i + 1 < text.size, ((text[i + 1]'h).toNat : Int) = bt text ((i : Int) + 1) := fun h => bt_at text ((i : Int) + 1) (by omega)
  rcases hin with rfl | ⟨rfl, hf⟩
  · have hR0 := hR
    have hB0 := Below.refl B w
    obtain ⟨A, c, c0, c1, c2, f1, f2, hlt, hc, hC⟩ := hR0.open_
    go_enter Tryd.func43, Tryd.ntmps43
    go_wp2_with fail
    go_quiet (fail)
    go_wp2_with fail
    go_quiet (fail)
    go_wp2_with fail
    refine (esc_short.calls 3 _ _ _ _ _ HS.out).mono ?_
    rintro e w1 ⟨rfl, n1, rfl⟩
    go_wp2_with fail
    refine (rput_good 2 hg (hR0.drewN _) hl (by omega) (by omega) (by decide) (by decide)).mono ?_
    rintro e w2 ⟨rfl, hR2, hB2⟩
    clear c0 c1 c2 f1 f2
    go_wp2
    go_ret
    exact ⟨by rw [HJ.out]; rfl, by rw [HJ.out]; exact hR2, (pw_below_drewN hB0 _).trans hB2⟩
  · have HFo := Lib.hid hf
    clear hf
    obtain ⟨A0, c_, a0, a1, a2, b1, b2, hlt0, hc0, hC0⟩ := hR.open_
    go_enter Tryd.func43, Tryd.ntmps43
    go_wp2_with fail
    refine (rfold hR h1 h2).mono ?_
    rintro e w0 ⟨rfl, hR0, hB0⟩
    rw [HFo.out] at hR0
    rw [HFo.out]
    rw [show (i : Int) + (((none : Option Nat).getD 0 : Nat) : Int) = (i : Int) by simp] at hR0
    clear a0 a1 a2 b1 b2 hC0
    obtain ⟨A, c, c0, c1, c2, f1, f2, hlt, hc, hC⟩ := hR0.open_
    go_wp2_with fail
    go_quiet (fail)
    go_wp2_with fail
    go_quiet (fail)
    go_wp2_with fail
    refine (esc_short.calls 3 _ _ _ _ _ HS.out).mono ?_
    rintro e w1 ⟨rfl, n1, rfl⟩
    go_wp2_with fail
    refine (rput_good 2 hg (hR0.drewN _) hl (by omega) (by omega) (by decide) (by decide)).mono ?_
    rintro e w2 ⟨rfl, hR2, hB2⟩
    clear c0 c1 c2 f1 f2
    go_wp2
    go_ret
    exact ⟨by rw [HJ.out]; rfl, by rw [HJ.out]; exact hR2, (pw_below_drewN hB0 _).trans hB2⟩
set_option maxRecDepth 100000 in
set_option maxHeartbeats 16000000 in
theorem rtesc_no {B g : Nat} {text : ByteArray} {i : Nat} {bs : List Int} {w : World} (lines : Bool) (hR : Rdr B w g text (i : Int) bs) (h1 : i < text.size) (h2 : text.size ≤ 140737488000000) (hin : lines = false ∨ (lines = true ∧ tfold ((bytesOf text).drop i) = none)) (hj : i + 1 < text.size) (hx : shortT (bt text (i + 1)) = none) (h117 : bt text (i + 1) ≠ 117) (h85 : bt text (i + 1) ≠ 85) :
    Calls Tryd.prog 43 #[.pointer (some ⟨g, 0, none⟩), .bool lines] w (TPost B g text i bs w (tesc0 ((bytesOf text).drop i))) := by
  have e1 : ((i : Int) + 1 == (text.size : Int)) = false := beq_eq_false_iff_ne.2 (by omega)
  have hbt : bt text ((i : Int) + 1) = ((bytesOf text).drop i).getD 1 0 := by rw [bt_get, getD_drop]; congr 1
  have hbr := bt_range text ((i : Int) + 1)
  have hlen : ((bytesOf text).drop i).length = text.size - i := by rw [List.length_drop, size_of]
  have HS := Lib.hid (show esc_short.f 3 (bt text ((i : Int) + 1)) true = some (0, false) by rw [shortT_eq (by omega) (by omega), hx]; rfl)
  have HJ := Lib.hid (show tesc0 ((bytesOf text).drop i) = none by unfold tesc0; rw [if_neg (by omega), ← hbt, hx, if_neg (by decide), if_neg h117, if_neg h85])
  have e117 : (bt text ((i : Int) + 1) == 117) = false := beq_eq_false_iff_ne.2 h117
  have e85 : (bt text ((i : Int) + 1) == 85) = false := beq_eq_false_iff_ne.2 h85
  clear hlen hx hbt
  have p1 := eq_true (show (0 : Int) ≤ (i : Int) + 1 by omega)
  have qi1 := eq_true (show (i : Int) + 1 < (text.size : Int) by omega)
  have q1 := eq_true (show ((i : Int) + 1).toNat < text.size by omega)
  have q2 := eq_true hj
  have hx1 : ∀ h : i + 1 < text.size, ((text[i + 1]'h).toNat : Int) = bt text ((i : Int) + 1) := fun h => bt_at text ((i : Int) + 1) (by omega)
  generalize bt text ((i : Int) + 1) = b at HS hbr hx1 e117 e85
  clear h117 h85
  rcases hin with rfl | ⟨rfl, hf⟩
  · have hR0 := hR
    have hB0 := Below.refl B w
    obtain ⟨A, c, c0, c1, c2, f1, f2, hlt, hc, hC⟩ := hR0.open_
    go_enter Tryd.func43, Tryd.ntmps43
    go_wp2_with fail
    go_quiet (fail)
    go_wp2_with fail
    go_quiet (fail)
    go_wp2_with fail
    refine (esc_short.calls 3 _ _ _ _ _ HS.out).mono ?_
    rintro e w1 ⟨rfl, n1, rfl⟩
    go_wp2
    go_ret
    exact ⟨by rw [HJ.out]; rfl, by rw [HJ.out]; exact hR0.drewN _, pw_below_drewN hB0 _⟩
  · have HFo := Lib.hid hf
    clear hf
    obtain ⟨A0, c_, a0, a1, a2, b1, b2, hlt0, hc0, hC0⟩ := hR.open_
    go_enter Tryd.func43, Tryd.ntmps43
    go_wp2_with fail
    refine (rfold hR h1 h2).mono ?_
    rintro e w0 ⟨rfl, hR0, hB0⟩
    rw [HFo.out] at hR0
    rw [HFo.out]
    rw [show (i : Int) + (((none : Option Nat).getD 0 : Nat) : Int) = (i : Int) by simp] at hR0
    clear a0 a1 a2 b1 b2 hC0
    obtain ⟨A, c, c0, c1, c2, f1, f2, hlt, hc, hC⟩ := hR0.open_
    go_wp2_with fail
    go_quiet (fail)
    go_wp2_with fail
    go_quiet (fail)
    go_wp2_with fail
    refine (esc_short.calls 3 _ _ _ _ _ HS.out).mono ?_
    rintro e w1 ⟨rfl, n1, rfl⟩
    go_wp2
    go_ret
    exact ⟨by rw [HJ.out]; rfl, by rw [HJ.out]; exact hR0.drewN _, pw_below_drewN hB0 _⟩
set_option maxRecDepth 100000 in
set_option maxHeartbeats 16000000 in
theorem rtesc_dig4 {B g : Nat} {text : ByteArray} {i : Nat} {bs : List Int} {w : World} (lines : Bool) (hR : Rdr B w g text (i : Int) bs) (hl : bs.length ≤ 140737488000000) (h1 : i < text.size) (h2 : text.size ≤ 140737488000000) (hin : lines = false ∨ (lines = true ∧ tfold ((bytesOf text).drop i) = none)) (hj : i + 1 < text.size) (hx : shortT (bt text (i + 1)) = none) (hb : bt text (i + 1) = 117) :
    Calls Tryd.prog 43 #[.pointer (some ⟨g, 0, none⟩), .bool lines] w (TPost B g text i bs w (tesc0 ((bytesOf text).drop i))) := by
  have e1 : ((i : Int) + 1 == (text.size : Int)) = false := beq_eq_false_iff_ne.2 (by omega)
  have hbt : bt text ((i : Int) + 1) = ((bytesOf text).drop i).getD 1 0 := by rw [bt_get, getD_drop]; congr 1
  have hbr := bt_range text ((i : Int) + 1)
  have hlen : ((bytesOf text).drop i).length = text.size - i := by rw [List.length_drop, size_of]
  have HS := Lib.hid (show esc_short.f 3 (bt text ((i : Int) + 1)) true = some (0, false) by rw [shortT_eq (by omega) (by omega), hx]; rfl)
  have hd2 : digsAt ((bytesOf text).drop i) 2 4 = digsAt (bytesOf text) (i + 2) 4 := digsAt_drop _ (by rw [size_of]; omega) _ _
  have hJ : tesc0 ((bytesOf text).drop i) = (digsAt (bytesOf text) (i + 2) 4).bind fun x => if good x then some (enc x, 2 + 4) else none := by
    unfold tesc0
    rw [if_neg (by omega), ← hbt, hx, if_neg (by decide), if_pos hb, ← hd2]
    rfl
  clear hlen hx hbt hd2
  have p1 := eq_true (show (0 : Int) ≤ (i : Int) + 1 by omega)
  have qi1 := eq_true (show (i : Int) + 1 < (text.size : Int) by omega)
  have q1 := eq_true (show ((i : Int) + 1).toNat < text.size by omega)
  have q2 := eq_true hj
  have hx1 : ∀ h : i + 1 < text.size, ((text[i + 1]'h).toNat : Int) = bt text ((i : Int) + 1) := fun h => bt_at text ((i : Int) + 1) (by omega)
  have HD := Lib.hid (fun (w : World) (h : Rdr B w g text (i : Int) bs) => rdigits_at ((i : Int) + 2) 4 (i + 2) 4 (by omega) (by omega) (by decide) (by decide) h h2 (by omega))
  have hx4 : ∀ v, digsAt (bytesOf text) (i + 2) 4 = some v → (digsAt (bytesOf text) (i + 2) 4).getD 0 = v := fun v h => by rw [h]; rfl
  have HJ0 : (digsAt (bytesOf text) (i + 2) 4).isSome = false → tesc0 ((bytesOf text).drop i) = none := by
    intro h
    rw [hJ]
    cases hd : digsAt (bytesOf text) (i + 2) 4 with
    | none => rfl
    | some v => rw [hd] at h; cases h
  have HJ1 : (digsAt (bytesOf text) (i + 2) 4).isSome = true → good ((digsAt (bytesOf text) (i + 2) 4).getD 0) → tesc0 ((bytesOf text).drop i) = some (enc ((digsAt (bytesOf text) (i + 2) 4).getD 0), 2 + 4) := by
    intro h hg
    rw [hJ]
    obtain ⟨v, hv⟩ := Option.isSome_iff_exists.1 h
    rw [hv] at hg ⊢
    exact if_pos hg
  have HJ2 : (digsAt (bytesOf text) (i + 2) 4).isSome = true → ¬ good ((digsAt (bytesOf text) (i + 2) 4).getD 0) → tesc0 ((bytesOf text).drop i) = none := by
    intro h hg
    rw [hJ]
    obtain ⟨v, hv⟩ := Option.isSome_iff_exists.1 h
    rw [hv] at hg ⊢
    exact if_neg hg
  clear hJ hx4
  rw [hb] at HS hx1
  clear hb hbr
  generalize (digsAt (bytesOf text) (i + 2) 4).isSome = ok at HD HJ0 HJ1 HJ2
  generalize (digsAt (bytesOf text) (i + 2) 4).getD 0 = x at HD HJ1 HJ2
  have HJ0 := Lib.hid HJ0
  have HJ1 := Lib.hid HJ1
  have HJ2 := Lib.hid HJ2
  rcases hin with rfl | ⟨rfl, hf⟩
  · have hR0 := hR
    have hB0 := Below.refl B w
    obtain ⟨A, c, c0, c1, c2, f1, f2, hlt, hc, hC⟩ := hR0.open_
    go_enter Tryd.func43, Tryd.ntmps43
    go_wp2_with fail
    go_quiet (fail)
    go_wp2_with fail
    go_quiet (fail)
    go_wp2_with fail
    refine (esc_short.calls 3 _ _ _ _ _ HS.out).mono ?_
    rintro e w1 ⟨rfl, n1, rfl⟩
    go_wp2_with fail
    refine (HD.out _ (hR0.drewN _)).mono ?_
    rintro e w2 ⟨rfl, hR2, hB2⟩
    have hB3 := (pw_below_drewN hB0 _).trans hB2
    clear c0 c1 c2 f1 f2
    cases ok
    · have HN := Lib.hid (HJ0.out rfl)
      go_wp2
      go_ret
      exact ⟨by rw [HN.out]; rfl, by rw [HN.out]; exact hR2, hB3⟩
    · by_cases hg : good x
      · have HN := Lib.hid (HJ1.out rfl hg)
        go_wp2_with fail
        refine (rput_good 6 hg hR2 hl (by omega) (by omega) (by decide) (by decide)).mono ?_
        rintro e w3 ⟨rfl, hR3, hB4⟩
        go_wp2
        go_ret
        exact ⟨by rw [HN.out]; rfl, by rw [HN.out]; exact hR3, hB3.trans hB4⟩
      · have HN := Lib.hid (HJ2.out rfl hg)
        go_wp2_with fail
        refine (rput_bad 6 hg hR2 hl (by omega) (by omega) (by decide) (by decide)).mono ?_
        rintro e w3 ⟨rfl, hR3, hB4⟩
        go_wp2
        go_ret
        exact ⟨by rw [HN.out]; rfl, by rw [HN.out]; exact hR3, hB3.trans hB4⟩
  · have HFo := Lib.hid hf
    clear hf
    obtain ⟨A0, c_, a0, a1, a2, b1, b2, hlt0, hc0, hC0⟩ := hR.open_
    go_enter Tryd.func43, Tryd.ntmps43
    go_wp2_with fail
    refine (rfold hR h1 h2).mono ?_
    rintro e w0 ⟨rfl, hR0, hB0⟩
    rw [HFo.out] at hR0
    rw [HFo.out]
    rw [show (i : Int) + (((none : Option Nat).getD 0 : Nat) : Int) = (i : Int) by simp] at hR0
    clear a0 a1 a2 b1 b2 hC0
    obtain ⟨A, c, c0, c1, c2, f1, f2, hlt, hc, hC⟩ := hR0.open_
    go_wp2_with fail
    go_quiet (fail)
    go_wp2_with fail
    go_quiet (fail)
    go_wp2_with fail
    refine (esc_short.calls 3 _ _ _ _ _ HS.out).mono ?_
    rintro e w1 ⟨rfl, n1, rfl⟩
    go_wp2_with fail
    refine (HD.out _ (hR0.drewN _)).mono ?_
    rintro e w2 ⟨rfl, hR2, hB2⟩
    have hB3 := (pw_below_drewN hB0 _).trans hB2
    clear c0 c1 c2 f1 f2
    cases ok
    · have HN := Lib.hid (HJ0.out rfl)
      go_wp2
      go_ret
      exact ⟨by rw [HN.out]; rfl, by rw [HN.out]; exact hR2, hB3⟩
    · by_cases hg : good x
      · have HN := Lib.hid (HJ1.out rfl hg)
        go_wp2_with fail
        refine (rput_good 6 hg hR2 hl (by omega) (by omega) (by decide) (by decide)).mono ?_
        rintro e w3 ⟨rfl, hR3, hB4⟩
        go_wp2
        go_ret
        exact ⟨by rw [HN.out]; rfl, by rw [HN.out]; exact hR3, hB3.trans hB4⟩
      · have HN := Lib.hid (HJ2.out rfl hg)
        go_wp2_with fail
        refine (rput_bad 6 hg hR2 hl (by omega) (by omega) (by decide) (by decide)).mono ?_
        rintro e w3 ⟨rfl, hR3, hB4⟩
        go_wp2
        go_ret
        exact ⟨by rw [HN.out]; rfl, by rw [HN.out]; exact hR3, hB3.trans hB4⟩
set_option maxRecDepth 100000 in
set_option maxHeartbeats 16000000 in
theorem rtesc_dig8 {B g : Nat} {text : ByteArray} {i : Nat} {bs : List Int} {w : World} (lines : Bool) (hR : Rdr B w g text (i : Int) bs) (hl : bs.length ≤ 140737488000000) (h1 : i < text.size) (h2 : text.size ≤ 140737488000000) (hin : lines = false ∨ (lines = true ∧ tfold ((bytesOf text).drop i) = none)) (hj : i + 1 < text.size) (hx : shortT (bt text (i + 1)) = none) (hb : bt text (i + 1) = 85) :
    Calls Tryd.prog 43 #[.pointer (some ⟨g, 0, none⟩), .bool lines] w (TPost B g text i bs w (tesc0 ((bytesOf text).drop i))) := by
  have e1 : ((i : Int) + 1 == (text.size : Int)) = false := beq_eq_false_iff_ne.2 (by omega)
  have hbt : bt text ((i : Int) + 1) = ((bytesOf text).drop i).getD 1 0 := by rw [bt_get, getD_drop]; congr 1
  have hbr := bt_range text ((i : Int) + 1)
  have hlen : ((bytesOf text).drop i).length = text.size - i := by rw [List.length_drop, size_of]
  have HS := Lib.hid (show esc_short.f 3 (bt text ((i : Int) + 1)) true = some (0, false) by rw [shortT_eq (by omega) (by omega), hx]; rfl)
  have hd2 : digsAt ((bytesOf text).drop i) 2 8 = digsAt (bytesOf text) (i + 2) 8 := digsAt_drop _ (by rw [size_of]; omega) _ _
  have hJ : tesc0 ((bytesOf text).drop i) = (digsAt (bytesOf text) (i + 2) 8).bind fun x => if good x then some (enc x, 2 + 8) else none := by
    unfold tesc0
    rw [if_neg (by omega), ← hbt, hx, if_neg (by decide), if_neg (by omega), if_pos hb, ← hd2]
    rfl
  clear hlen hx hbt hd2
  have p1 := eq_true (show (0 : Int) ≤ (i : Int) + 1 by omega)
  have qi1 := eq_true (show (i : Int) + 1 < (text.size : Int) by omega)
  have q1 := eq_true (show ((i : Int) + 1).toNat < text.size by omega)
  have q2 := eq_true hj
  have hx1 : ∀ h : i + 1 < text.size, ((text[i + 1]'h).toNat : Int) = bt text ((i : Int) + 1) := fun h => bt_at text ((i : Int) + 1) (by omega)
  have HD := Lib.hid (fun (w : World) (h : Rdr B w g text (i : Int) bs) => rdigits_at ((i : Int) + 2) 8 (i + 2) 8 (by omega) (by omega) (by decide) (by decide) h h2 (by omega))
  have hx4 : ∀ v, digsAt (bytesOf text) (i + 2) 8 = some v → (digsAt (bytesOf text) (i + 2) 8).getD 0 = v := fun v h => by rw [h]; rfl
  have HJ0 : (digsAt (bytesOf text) (i + 2) 8).isSome = false → tesc0 ((bytesOf text).drop i) = none := by
    intro h
    rw [hJ]
    cases hd : digsAt (bytesOf text) (i + 2) 8 with
    | none => rfl
    | some v => rw [hd] at h; cases h
  have HJ1 : (digsAt (bytesOf text) (i + 2) 8).isSome = true → good ((digsAt (bytesOf text) (i + 2) 8).getD 0) → tesc0 ((bytesOf text).drop i) = some (enc ((digsAt (bytesOf text) (i + 2) 8).getD 0), 2 + 8) := by
    intro h hg
    rw [hJ]
    obtain ⟨v, hv⟩ := Option.isSome_iff_exists.1 h
    rw [hv] at hg ⊢
    exact if_pos hg
  have HJ2 : (digsAt (bytesOf text) (i + 2) 8).isSome = true → ¬ good ((digsAt (bytesOf text) (i + 2) 8).getD 0) → tesc0 ((bytesOf text).drop i) = none := by
    intro h hg
    rw [hJ]
    obtain ⟨v, hv⟩ := Option.isSome_iff_exists.1 h
    rw [hv] at hg ⊢
    exact if_neg hg
  clear hJ hx4
  rw [hb] at HS hx1
  clear hb hbr
  generalize (digsAt (bytesOf text) (i + 2) 8).isSome = ok at HD HJ0 HJ1 HJ2
  generalize (digsAt (bytesOf text) (i + 2) 8).getD 0 = x at HD HJ1 HJ2
  have HJ0 := Lib.hid HJ0
  have HJ1 := Lib.hid HJ1
  have HJ2 := Lib.hid HJ2
  rcases hin with rfl | ⟨rfl, hf⟩
  · have hR0 := hR
    have hB0 := Below.refl B w
    obtain ⟨A, c, c0, c1, c2, f1, f2, hlt, hc, hC⟩ := hR0.open_
    go_enter Tryd.func43, Tryd.ntmps43
    go_wp2_with fail
    go_quiet (fail)
    go_wp2_with fail
    go_quiet (fail)
    go_wp2_with fail
    refine (esc_short.calls 3 _ _ _ _ _ HS.out).mono ?_
    rintro e w1 ⟨rfl, n1, rfl⟩
    go_wp2_with fail
    refine (HD.out _ (hR0.drewN _)).mono ?_
    rintro e w2 ⟨rfl, hR2, hB2⟩
    have hB3 := (pw_below_drewN hB0 _).trans hB2
    clear c0 c1 c2 f1 f2
    cases ok
    · have HN := Lib.hid (HJ0.out rfl)
      go_wp2
      go_ret
      exact ⟨by rw [HN.out]; rfl, by rw [HN.out]; exact hR2, hB3⟩
    · by_cases hg : good x
      · have HN := Lib.hid (HJ1.out rfl hg)
        go_wp2_with fail
        refine (rput_good 10 hg hR2 hl (by omega) (by omega) (by decide) (by decide)).mono ?_
        rintro e w3 ⟨rfl, hR3, hB4⟩
        go_wp2
        go_ret
        exact ⟨by rw [HN.out]; rfl, by rw [HN.out]; exact hR3, hB3.trans hB4⟩
      · have HN := Lib.hid (HJ2.out rfl hg)
        go_wp2_with fail
        refine (rput_bad 10 hg hR2 hl (by omega) (by omega) (by decide) (by decide)).mono ?_
        rintro e w3 ⟨rfl, hR3, hB4⟩
        go_wp2
        go_ret
        exact ⟨by rw [HN.out]; rfl, by rw [HN.out]; exact hR3, hB3.trans hB4⟩
  · have HFo := Lib.hid hf
    clear hf
    obtain ⟨A0, c_, a0, a1, a2, b1, b2, hlt0, hc0, hC0⟩ := hR.open_
    go_enter Tryd.func43, Tryd.ntmps43
    go_wp2_with fail
    refine (rfold hR h1 h2).mono ?_
    rintro e w0 ⟨rfl, hR0, hB0⟩
    rw [HFo.out] at hR0
    rw [HFo.out]
    rw [show (i : Int) + (((none : Option Nat).getD 0 : Nat) : Int) = (i : Int) by simp] at hR0
    clear a0 a1 a2 b1 b2 hC0
    obtain ⟨A, c, c0, c1, c2, f1, f2, hlt, hc, hC⟩ := hR0.open_
    go_wp2_with fail
    go_quiet (fail)
    go_wp2_with fail
    go_quiet (fail)
    go_wp2_with fail
    refine (esc_short.calls 3 _ _ _ _ _ HS.out).mono ?_
    rintro e w1 ⟨rfl, n1, rfl⟩
    go_wp2_with fail
    refine (HD.out _ (hR0.drewN _)).mono ?_
    rintro e w2 ⟨rfl, hR2, hB2⟩
    have hB3 := (pw_below_drewN hB0 _).trans hB2
    clear c0 c1 c2 f1 f2
    cases ok
    · have HN := Lib.hid (HJ0.out rfl)
      go_wp2
      go_ret
      exact ⟨by rw [HN.out]; rfl, by rw [HN.out]; exact hR2, hB3⟩
    · by_cases hg : good x
      · have HN := Lib.hid (HJ1.out rfl hg)
        go_wp2_with fail
        refine (rput_good 10 hg hR2 hl (by omega) (by omega) (by decide) (by decide)).mono ?_
        rintro e w3 ⟨rfl, hR3, hB4⟩
        go_wp2
        go_ret
        exact ⟨by rw [HN.out]; rfl, by rw [HN.out]; exact hR3, hB3.trans hB4⟩
      · have HN := Lib.hid (HJ2.out rfl hg)
        go_wp2_with fail
        refine (rput_bad 10 hg hR2 hl (by omega) (by omega) (by decide) (by decide)).mono ?_
        rintro e w3 ⟨rfl, hR3, hB4⟩
        go_wp2
        go_ret
        exact ⟨by rw [HN.out]; rfl, by rw [HN.out]; exact hR3, hB3.trans hB4⟩
/-- What tomlEscape does. -/
theorem rtesc {B g : Nat} {text : ByteArray} {i : Nat} {bs : List Int} {w : World} (lines : Bool) (hR : Rdr B w g text (i : Int) bs) (hl : bs.length ≤ 140737488000000) (h1 : i < text.size) (h2 : text.size ≤ 140737488000000) :
    Calls Tryd.prog 43 #[.pointer (some ⟨g, 0, none⟩), .bool lines] w (TPost B g text i bs w (tesc lines ((bytesOf text).drop i))) := by
  have rest : (lines = false ∨ (lines = true ∧ tfold ((bytesOf text).drop i) = none)) → Calls Tryd.prog 43 #[.pointer (some ⟨g, 0, none⟩), .bool lines] w (TPost B g text i bs w (tesc0 ((bytesOf text).drop i))) := by
    intro hin
    by_cases hj : i + 1 = text.size
    · exact rtesc_end lines hR h1 h2 hin hj
    · have hj' : i + 1 < text.size := by omega
      cases hs : shortT (bt text (i + 1)) with
      | some x => exact rtesc_short lines hR hl h1 h2 hin hj' hs
      | none =>
        by_cases h117 : bt text (i + 1) = 117
        · exact rtesc_dig4 lines hR hl h1 h2 hin hj' hs h117
        · by_cases h85 : bt text (i + 1) = 85
          · exact rtesc_dig8 lines hR hl h1 h2 hin hj' hs h85
          · exact rtesc_no lines hR h1 h2 hin hj' hs h117 h85
  unfold tesc
  cases lines with
  | false => rw [if_neg (by simp)]; exact rest (.inl rfl)
  | true =>
    cases hf : tfold ((bytesOf text).drop i) with
    | none => rw [if_neg (by simp)]; exact rest (.inr ⟨rfl, hf⟩)
    | some n => rw [if_pos (by simp)]; exact rtesc_fold hR h1 h2 hf
end Go.Proofs.YtoanbmggffkmgaaDoor.P
end
section
namespace Go.Proofs
open Go.Shelf
def Tryd.lays105_ren : Go.Shelf.Ren := ⟨fun | 105 => 41 | 212 => 68 | 99 => 62 | 165 => 69 | 166 => 70 | 170 => 71 | 169 => 72 | 263 => 90 | 264 => 91 | 206 => 86 | 240 => 92 | 241 => 93 | 276 => 107 | 277 => 108 | n => n, fun | 9 => 9 | 3 => 3 | 4 => 4 | 20 => 20 | 0 => 0 | 46 => 67 | 109 => 84 | 5 => 5 | 72 => 88 | 76 => 92 | 51 => 107 | 146 => 108 | 53 => 110 | 148 => 111 | 70 => 86 | 37 => 46 | 75 => 91 | 127 => 113 | 164 => 124 | 80 => 95 | n => n, fun | n => n⟩
theorem Tryd.lays105 : Go.Proofs.Lays.n105 Tryd.prog Tryd.lays105_ren := {
  mixed := by kernel_rfl
  f99 := Tryd.func62.trans (congrArg some (by kernel_rfl))
  f105 := Tryd.func41.trans (congrArg some (by kernel_rfl))
  f165 := Tryd.func69.trans (congrArg some (by kernel_rfl))
  f166 := Tryd.func70.trans (congrArg some (by kernel_rfl))
  f169 := Tryd.func72.trans (congrArg some (by kernel_rfl))
  f170 := Tryd.func71.trans (congrArg some (by kernel_rfl))
  f206 := Tryd.func86.trans (congrArg some (by kernel_rfl))
  f212 := Tryd.func68.trans (congrArg some (by kernel_rfl))
  f240 := Tryd.func92.trans (congrArg some (by kernel_rfl))
  f241 := Tryd.func93.trans (congrArg some (by kernel_rfl))
  f263 := Tryd.func90.trans (congrArg some (by kernel_rfl))
  f264 := Tryd.func91.trans (congrArg some (by kernel_rfl))
  f276 := Tryd.func107.trans (congrArg some (by kernel_rfl))
  f277 := Tryd.func108.trans (congrArg some (by kernel_rfl))
  t0 := Tryd.underlying0
  a0 := Tryd.isAgg0
  z0 := Tryd.sizeOf0
  v0 := Tryd.zeroValue0
  t3 := Tryd.underlying3
  a3 := Tryd.isAgg3
  z3 := Tryd.sizeOf3
  v3 := Tryd.zeroValue3
  t4 := Tryd.underlying4
  a4 := Tryd.isAgg4
  z4 := Tryd.sizeOf4
  v4 := Tryd.zeroValue4
  t5 := Tryd.underlying5
  a5 := Tryd.isAgg5
  z5 := Tryd.sizeOf5
  v5 := Tryd.zeroValue5
  t9 := Tryd.underlying9
  a9 := Tryd.isAgg9
  z9 := Tryd.sizeOf9
  v9 := Tryd.zeroValue9
  t20 := Tryd.underlying20
  a20 := Tryd.isAgg20
  z20 := Tryd.sizeOf20
  v20 := Tryd.zeroValue20
  t37 := Tryd.underlying46
  a37 := Tryd.isAgg46
  z37 := Tryd.sizeOf46
  v37 := Tryd.zeroValue46
  t46 := Tryd.underlying67
  a46 := Tryd.isAgg67
  z46 := Tryd.sizeOf67
  v46 := Tryd.zeroValue67
  t51 := Tryd.underlying107
  a51 := Tryd.isAgg107
  z51 := Tryd.sizeOf107
  v51 := Tryd.zeroValue107
  t53 := Tryd.underlying110
  a53 := Tryd.isAgg110
  z53 := Tryd.sizeOf110
  v53 := Tryd.zeroValue110
  t70 := Tryd.underlying86
  a70 := Tryd.isAgg86
  z70 := Tryd.sizeOf86
  v70 := Tryd.zeroValue86
  t72 := Tryd.underlying88
  a72 := Tryd.isAgg88
  z72 := Tryd.sizeOf88
  v72 := Tryd.zeroValue88
  t75 := Tryd.underlying91
  a75 := Tryd.isAgg91
  z75 := Tryd.sizeOf91
  v75 := Tryd.zeroValue91
  t76 := Tryd.underlying92
  a76 := Tryd.isAgg92
  z76 := Tryd.sizeOf92
  v76 := Tryd.zeroValue92
  t109 := Tryd.underlying84
  a109 := Tryd.isAgg84
  z109 := Tryd.sizeOf84
  v109 := Tryd.zeroValue84
  t127 := Tryd.underlying113
  a127 := Tryd.isAgg113
  z127 := Tryd.sizeOf113
  v127 := Tryd.zeroValue113
  t146 := Tryd.underlying108
  a146 := Tryd.isAgg108
  z146 := Tryd.sizeOf108
  v146 := Tryd.zeroValue108
  t148 := Tryd.underlying111
  a148 := Tryd.isAgg111
  z148 := Tryd.sizeOf111
  v148 := Tryd.zeroValue111
  t164 := Tryd.underlying124
  a164 := Tryd.isAgg124
  z164 := Tryd.sizeOf124
  v164 := Tryd.zeroValue124 }
end Go.Proofs
end
section
namespace Go.Proofs.YtoanbmggffkmgaaDoor.P
open Go.RowKit Go.Proofs.YtoanbmggffkmgaaDoor.La Go.Proofs.YtoanbmggffkmgaaDoorW.PrintWords Go.Proofs.YtoanbmggffkmgaaDoorW.PrintLast Go.Proofs.YtoanbmggffkmgaaDoorW.PrintMore
theorem repX : Builder.Extra Tryd.prog Tryd.lays105_ren := by
  constructor
  · constructor
    all_goals first | kernel_rfl | (intro w; kernel_rfl) | decide
  all_goals first | kernel_rfl | (intro w; kernel_rfl) | decide
/-- A text of one byte. -/
def one (q : UInt8) : ByteArray := ⟨#[q]⟩
theorem one_bytes (q : UInt8) : bytesOf (one q) = [(q.toNat : Int)] := rfl
theorem repeat3 (q : UInt8) (w : World) : Calls Tryd.prog 41 #[.string (one q), .int .i64 3] w fun e w' => e = .returned (.string ⟨#[q, q, q]⟩) ∧ Below w.heap.size w w' :=
  (Any.strings_Repeat_main Tryd.lays105 repX (one q) 3 w (by decide) (by decide) (show 1 * 3 ≤ 140737488355328 by decide) (show 0 < 1 by decide)).mono fun _ _ h => h
theorem repeat4 (q : UInt8) (w : World) : Calls Tryd.prog 41 #[.string (one q), .int .i64 4] w fun e w' => e = .returned (.string ⟨#[q, q, q, q]⟩) ∧ Below w.heap.size w w' :=
  (Any.strings_Repeat_main Tryd.lays105 repX (one q) 4 w (by decide) (by decide) (show 1 * 4 ≤ 140737488355328 by decide) (show 0 < 1 by decide)).mono fun _ _ h => h
end Go.Proofs.YtoanbmggffkmgaaDoor.P
end
section
namespace Go.Proofs.YtoanbmggffkmgaaDoor.La
open Go.RowKit Go.Proofs.YtoanbmggffkmgaaDoor.P Go.Proofs.YtoanbmggffkmgaaDoorW.PrintWords Go.Proofs.YtoanbmggffkmgaaDoorW.PrintLast Go.Proofs.YtoanbmggffkmgaaDoorW.PrintMore
/-- How many of one byte a list begins with. -/
def lead (q : Int) : List Int → Nat
  | [] => 0
  | b :: l => if b = q then lead q l + 1 else 0
theorem lead_le (q : Int) (l : List Int) : lead q l ≤ l.length := by
  induction l with
  | nil => simp [lead]
  | cons b l ih => simp only [lead, List.length_cons]; split <;> omega
theorem lead_take (q : Int) (l : List Int) (n : Nat) : l.take n = List.replicate n q ↔ n ≤ lead q l := by
  induction n generalizing l with
  | zero => simp
  | succ n ih =>
    cases l with
    | nil => simp [lead, List.replicate_succ]
    | cons b l =>
      rw [List.take_succ_cons, List.replicate_succ]
      simp only [lead]
      by_cases h : b = q
      · rw [if_pos h]
        constructor
        · intro e; injection e with _ e; have := (ih l).1 e; omega
        · intro e; rw [h, (ih l).2 (by omega)]
      · rw [if_neg h]
        constructor
        · intro e; injection e with e _; exact absurd e h
        · intro e; omega
theorem lead_drop {q : Int} {l : List Int} {k : Nat} (h : k ≤ lead q l) : lead q (l.drop k) = lead q l - k := by
  induction l generalizing k with
  | nil => simp [lead]
  | cons b l ih =>
    cases k with
    | zero => simp
    | succ k =>
      simp only [lead] at h ⊢
      split at h
      · rename_i hb
        rw [if_pos hb, List.drop_succ_cons, ih (by omega)]
        omega
      · omega
/-- What stands at a string's end: what it adds to the string, and how many bytes it has. -/
def tend (lines : Bool) (q : Int) (l : List Int) : Option (List Int × Nat) :=
  if lines = true then (if lead q l < 3 then none else some (List.replicate (min (lead q l - 3) 2) q, min (lead q l - 3) 2 + 3))
  else (if lead q l = 0 then none else some ([], 1))
end Go.Proofs.YtoanbmggffkmgaaDoor.La
namespace Go.Proofs.YtoanbmggffkmgaaDoor.P
open Go.RowKit Go.Proofs.YtoanbmggffkmgaaDoor.La Go.Proofs.YtoanbmggffkmgaaDoorW.PrintWords Go.Proofs.YtoanbmggffkmgaaDoorW.PrintLast Go.Proofs.YtoanbmggffkmgaaDoorW.PrintMore
theorem rep_bytes1 (q : UInt8) : bytesOf (one q) = List.replicate 1 (q.toNat : Int) := rfl
theorem rep_bytes3 (q : UInt8) : bytesOf (⟨#[q, q, q]⟩ : ByteArray) = List.replicate 3 (q.toNat : Int) := rfl
theorem rep_bytes4 (q : UInt8) : bytesOf (⟨#[q, q, q, q]⟩ : ByteArray) = List.replicate 4 (q.toNat : Int) := rfl
/-- A row that has grown, of no known place, is stored. -/
theorem Rdr.grownT {B : Nat} {w w1 : World} {g : Nat} {text : ByteArray} {at_ : Int} {bs : List Int} {A : Option Addr} {c : Nat} (hB : B ≤ g) (hh : w.heap[g]? = some (.cells #[.string text, .int .i64 at_, .slice A bs.length c] 63 (0, 0))) (hr : Kd.R (Kd.int .u8) 5 w B (fun k => k ≠ g) (.slice A bs.length c) bs)
    {v1 : Value} {bs1 : List Int} (ho : Kd.R (Kd.int .u8) 5 w1 B (fun _ => True) v1 bs1) (hg : w.grownBy w1 (.slice A bs.length c : Value).ownBlock) :
    w1.cell? ⟨g, 0, none⟩ = some (.string text) ∧ w1.cell? ⟨g, 1, none⟩ = some (.int .i64 at_) ∧ w1.cell? ⟨g, 2, none⟩ = some (.slice A bs.length c) ∧ w1.frozen? ⟨g, 1, none⟩ = false ∧ w1.frozen? ⟨g, 2, none⟩ = false ∧ g < w1.heap.size ∧
      ∀ at1 : Int, Rdr B ((w1.setCell ⟨g, 2, none⟩ v1).setCell ⟨g, 1, none⟩ (.int .i64 at1)) g text at1 bs1 := by
  have hne : some g ≠ (Value.slice A bs.length c).ownBlock := fun e => hr.1 g e.symm rfl
  have h1 := blk_grown hh hg hne
  have hne1 : some g ≠ v1.ownBlock := Kd.R_ne ho h1 (by decide)
  have ho' : Kd.R (Kd.int .u8) 5 w1 B (fun k => k ≠ g) v1 bs1 := Kd.R_of_own (Kd.own_of_R ho) (fun k hk e => hne1 (by rw [← e]; exact hk.symm))
  obtain ⟨a1, a2, a3, a4, a5, a6, a7⟩ := Rdr.grown hB hh hr ho' hg
  exact ⟨a1, a2, a3, a4, a5, a6, fun at1 => (a7 at1).1⟩
def EndPost (B g : Nat) (text : ByteArray) (i : Nat) (bs : List Int) (w : World) (o : Option (List Int × Nat)) (e : Ending) (w' : World) : Prop :=
  e = .returned (.bool o.isSome) ∧ Rdr B w' g text (match o with | none => (i : Int) | some p => (i : Int) + p.2) (match o with | none => bs | some p => bs ++ p.1) ∧ Below B w w'
set_option maxRecDepth 100000 in
set_option maxHeartbeats 8000000 in
theorem rended_plain {B g : Nat} {text : ByteArray} {i : Nat} {bs : List Int} {w : World} (q : UInt8) (hR : Rdr B w g text (i : Int) bs) (h1 : i < text.size) (h2 : text.size ≤ 140737488000000) :
    Calls Tryd.prog 42 #[.pointer (some ⟨g, 0, none⟩), .string (one q), .bool false] w (EndPost B g text i bs w (tend false (q.toNat : Int) ((bytesOf text).drop i))) := by
  have hT := lead_take (q.toNat : Int) ((bytesOf text).drop i) 1
  have d1 : decide (((bytesOf text).drop i).take (one q).size = bytesOf (one q)) = decide (1 ≤ lead (q.toNat : Int) ((bytesOf text).drop i)) := by
    rw [rep_bytes1, decide_eq_decide]
    exact hT
  unfold tend
  rw [if_neg (by decide)]
  by_cases hn : lead (q.toNat : Int) ((bytesOf text).drop i) = 0
  · rw [if_pos hn]
    rw [decide_eq_false (show ¬ 1 ≤ lead (q.toNat : Int) ((bytesOf text).drop i) by omega)] at d1
    clear hT hn
    go_enter Tryd.func42, Tryd.ntmps42
    go_wp2_with fail
    refine (rbegins (one q) hR (by omega) (by omega)).mono ?_
    rintro e w2 ⟨rfl, n2, rfl⟩
    rw [show (i : Int).toNat = i by omega, d1]
    go_wp2
    go_ret
    exact ⟨rfl, hR.drewN _, pw_below_drewN (Below.refl _ _) _⟩
  · rw [if_neg hn]
    rw [decide_eq_true (show 1 ≤ lead (q.toNat : Int) ((bytesOf text).drop i) by omega)] at d1
    clear hT hn
    go_enter Tryd.func42, Tryd.ntmps42
    go_wp2_with fail
    refine (rbegins (one q) hR (by omega) (by omega)).mono ?_
    rintro e w2 ⟨rfl, n2, rfl⟩
    rw [show (i : Int).toNat = i by omega, d1]
    have hR2 := hR.drewN n2
    have hB2 := pw_below_drewN (Below.refl B w) n2
    generalize w.drewN n2 = w3 at hR2 hB2
    obtain ⟨A, c, c0, c1, c2, f1, f2, hlt, hc, hC⟩ := hR2.open_
    have hM := hR2.moved ((i : Int) + 1)
    go_wp2
    go_ret
    exact ⟨rfl, by show Rdr B _ g text ((i : Int) + ((1 : Nat) : Int)) (bs ++ []); rw [List.append_nil]; exact hM.1, hB2.trans hM.2⟩
/-- The state between two turns. -/
def EndRel (B g : Nat) (text : ByteArray) (i : Nat) (bs : List Int) (w : World) (q : Int) (kq : Nat) (v : Value) (wr : World) : Prop :=
  ∃ k : Nat, v = .int .i64 k ∧ k + kq = 3 ∧ k ≤ 2 ∧ k + 3 ≤ lead q ((bytesOf text).drop i) ∧ Rdr B wr g text ((i + k : Nat) : Int) (bs ++ List.replicate k q) ∧ Below B w wr
set_option maxRecDepth 100000 in
set_option maxHeartbeats 16000000 in
theorem rended_lines {B g : Nat} {text : ByteArray} {i : Nat} {bs : List Int} {w : World} (q : UInt8) (hR : Rdr B w g text (i : Int) bs) (hl : bs.length ≤ 140737480000000) (h1 : i < text.size) (h2 : text.size ≤ 140737488000000) :
    Calls Tryd.prog 42 #[.pointer (some ⟨g, 0, none⟩), .string (one q), .bool true] w (EndPost B g text i bs w (tend true (q.toNat : Int) ((bytesOf text).drop i))) := by
  have hlow := hR.low
  have hT := lead_take (q.toNat : Int) ((bytesOf text).drop i) 3
  have d1 : decide (((bytesOf text).drop i).take (⟨#[q, q, q]⟩ : ByteArray).size = bytesOf (⟨#[q, q, q]⟩ : ByteArray)) = decide (3 ≤ lead (q.toNat : Int) ((bytesOf text).drop i)) := by
    rw [rep_bytes3, decide_eq_decide]
    exact hT
  have hll := lead_le (q.toNat : Int) ((bytesOf text).drop i)
  rw [List.length_drop, size_of] at hll
  have D4 : ∀ k, k + 3 ≤ lead (q.toNat : Int) ((bytesOf text).drop i) → decide (((bytesOf text).drop (((i + k : Nat) : Int)).toNat).take (⟨#[q, q, q, q]⟩ : ByteArray).size = bytesOf (⟨#[q, q, q, q]⟩ : ByteArray)) = decide (k + 4 ≤ lead (q.toNat : Int) ((bytesOf text).drop i)) := by
    intro k hk
    rw [Int.toNat_natCast, rep_bytes4, decide_eq_decide, ← List.drop_drop]
    have := lead_take (q.toNat : Int) (((bytesOf text).drop i).drop k) 4
    rw [lead_drop (by omega)] at this
    rw [show (⟨#[q, q, q, q]⟩ : ByteArray).size = 4 from rfl, this]
    omega
  have hE : tend true (q.toNat : Int) ((bytesOf text).drop i) = if lead (q.toNat : Int) ((bytesOf text).drop i) < 3 then none else some (List.replicate (min (lead (q.toNat : Int) ((bytesOf text).drop i) - 3) 2) (q.toNat : Int), min (lead (q.toNat : Int) ((bytesOf text).drop i) - 3) 2 + 3) := if_pos rfl
  rw [hE]
  clear hE hT
  generalize hN : lead (q.toNat : Int) ((bytesOf text).drop i) = n at d1 hll D4
  by_cases hn : n < 3
  · rw [if_pos hn]
    rw [decide_eq_false (show ¬ 3 ≤ n by omega)] at d1
    go_enter Tryd.func42, Tryd.ntmps42
    go_wp2_with fail
    refine (repeat3 q w).mono ?_
    rintro e w1 ⟨rfl, hb1⟩
    have hR1 := hR.below hb1
    go_wp2_with fail
    refine (rbegins ⟨#[q, q, q]⟩ hR1 (by omega) (by omega)).mono ?_
    rintro e w2 ⟨rfl, n2, rfl⟩
    rw [show (i : Int).toNat = i by omega, d1]
    go_wp2
    go_ret
    exact ⟨rfl, hR1.drewN _, pw_below_drewN (hb1.mono hlow) _⟩
  · rw [if_neg hn]
    rw [decide_eq_true (show 3 ≤ n by omega)] at d1
    have D4h := Lib.hid D4
    clear D4
    go_enter Tryd.func42, Tryd.ntmps42
    go_wp2_with fail
    refine (repeat3 q w).mono ?_
    rintro e w1 ⟨rfl, hb1⟩
    have hR1 := hR.below hb1
    go_wp2_with fail
    refine (rbegins ⟨#[q, q, q]⟩ hR1 (by omega) (by omega)).mono ?_
    rintro e w2 ⟨rfl, n2, rfl⟩
    rw [show (i : Int).toNat = i by omega, d1]
    have hR2 := hR1.drewN n2
    have hB2 := pw_below_drewN (hb1.mono hlow) n2
    generalize w1.drewN n2 = w3 at hR2 hB2
    clear hR1 hb1 d1 hR
    go_wp2_with fail
    go_loopg [7] 3 (fun kq v wr => EndRel B g text i bs w (q.toNat : Int) kq v wr)
    case atStart => exact ⟨0, rfl, rfl, by omega, by rw [hN]; omega, by rw [Nat.add_zero]; simp; exact hR2, hB2⟩
    case round =>
      clear hR2 hB2
      obtain ⟨k, rfl, hkq, hk2, hk3, hR3, hB3⟩ := hrel
      rw [hN] at hk3
      have hlow3 := hR3.low
      obtain ⟨Af, cf, m0, m1, m2, n1, n2, hltf, _, _⟩ := hR3.open_
      by_cases hk : k = 2
      · subst hk
        have hM := hR3.moved ((i : Int) + 2 + 3)
        have hmin : min (n - 3) 2 = 2 := by omega
        go_wp2
        go_ret
        refine ⟨rfl, ?_, hB3.trans hM.2⟩
        rw [hmin]
        show Rdr B _ g text ((i : Int) + ((2 + 3 : Nat) : Int)) (bs ++ List.replicate 2 (q.toNat : Int))
        rw [show (i : Int) + ((2 + 3 : Nat) : Int) = (i : Int) + 2 + 3 by omega]
        exact hM.1
      · obtain ⟨kk, rfl⟩ : ∃ kk, gk = kk + 1 := ⟨gk - 1, by omega⟩
        have hk1 : (k : Int) < 2 := by omega
        have hk1b : decide ((k : Int) < 2) = true := decide_eq_true hk1
        go_wp2_with fail
        refine (repeat4 q _).mono ?_
        rintro e w5 ⟨rfl, hb5⟩
        have hR5 := hR3.below hb5
        have hB5 := hB3.trans (hb5.mono hlow3)
        clear m0 m1 m2 n1 n2 hR3 hB3 hb5
        go_wp2_with fail
        refine (rbegins ⟨#[q, q, q, q]⟩ hR5 (by omega) (by omega)).mono ?_
        rintro e w6 ⟨rfl, n6, rfl⟩
        rw [D4h.out k hk3]
        have hR7 := hR5.drewN n6
        have hB7 := pw_below_drewN hB5 n6
        generalize w5.drewN n6 = w7 at hR7 hB7
        clear hR5 hB5
        obtain ⟨Ar, cr, c0, c1, c2, f1, f2, hlt, hh, hrr⟩ := hR7.cells
        have hlow7 := hR7.low
        have hB := hR7.base
        have hrs := hrr
        rw [List.length_append, List.length_replicate] at c2 hrs
        by_cases hc : k + 4 ≤ n
        · rw [decide_eq_true hc]
          have hlb : (bs ++ List.replicate k (q.toNat : Int)).length = bs.length + k := by rw [List.length_append, List.length_replicate]
          have HLB := Lib.hid hlb
          clear hlb
          go_wp2_with ((with_reducible refine gate_builtin (b := .append) (xs := #[.tmp 40, .tmp 41]) rfl ?_); at_builtin; refine print_append_str (w0 := w) B rfl (.tmp 40) (.tmp 41) 46 9 5 rfl Tryd.underlying46 Tryd.underlying9 info5 (.slice Ar (bs.length + k) cr) (bs ++ List.replicate k (q.toNat : Int)) (one q) rfl rfl (Kd.own_of_R hrs) hB7 hlow7 (by rw [HLB.out]; show bs.length + k + 1 ≤ _; omega) ?_; intro v1 w8 ho8 hb8 hg8; have ho9 : Kd.R (Kd.int .u8) 5 w8 B (fun _ => True) v1 ((bs ++ List.replicate k (q.toNat : Int)) ++ bytesOf (one q)) := Kd.R_of_own ho8 (fun _ _ => trivial); obtain ⟨Av, cpv, rfl, -, -⟩ := Kd.R_reads ho9; have hg9 : w7.grownBy w8 (.slice Ar (bs ++ List.replicate k (q.toNat : Int)).length cr : Value).ownBlock := (by rw [HLB.out]; exact hg8); obtain ⟨k0, k1, k5, k2, k3, k4, hS⟩ := Rdr.grownT hB hh hrr ho9 hg9; rw [List.length_append, HLB.out] at hS; rw [HLB.out] at k5)
          simp only [Nat.add_assoc] at hS
          have h9 := hS ((i : Int) + k + 1)
          rw [show ((i : Int) + k + 1) = ((i + (k + 1) : Nat) : Int) by omega, show (bs ++ List.replicate k (q.toNat : Int)) ++ bytesOf (one q) = bs ++ List.replicate (k + 1) (q.toNat : Int) by rw [one_bytes, List.append_assoc, ← List.replicate_succ']] at h9
          go_roundg kk
          case rel => exact ⟨k + 1, by go_num, by omega, by omega, by rw [hN]; omega, by rw [show ((i : Int) + k + 1) = ((i + (k + 1) : Nat) : Int) by omega]; exact h9, (hb8.setCell hB _).setCell hB _⟩
          case measure => omega
        · rw [decide_eq_false hc]
          have hM := hR7.moved ((i : Int) + k + 3)
          have hmin : min (n - 3) 2 = k := by omega
          go_wp2
          go_ret
          refine ⟨rfl, ?_, hB7.trans hM.2⟩
          rw [hmin]
          show Rdr B _ g text ((i : Int) + ((k + 3 : Nat) : Int)) (bs ++ List.replicate k (q.toNat : Int))
          rw [show (i : Int) + ((k + 3 : Nat) : Int) = (i : Int) + k + 3 by omega]
          exact hM.1
end Go.Proofs.YtoanbmggffkmgaaDoor.P
end
section
namespace Go.Proofs.YtoanbmggffkmgaaDoor.La
open Go.RowKit Go.Proofs.YtoanbmggffkmgaaDoor.P Go.Proofs.YtoanbmggffkmgaaDoorW.PrintWords Go.Proofs.YtoanbmggffkmgaaDoorW.PrintLast Go.Proofs.YtoanbmggffkmgaaDoorW.PrintMore
/-- What stands at a place of a TOML string, its end aside: what it says, and how many bytes it has. -/
def titem (lines : Bool) (q : Int) (l : List Int) : Option (List Int × Nat) := if l.getD 0 0 = 92 ∧ q = 34 then tesc lines l else tplain lines l
/-- What a TOML string says from byte i on, acc being read: is it whole, its bytes, and where it ends or is wrong. -/
def tbody (L : List Int) (q : Int) (lines : Bool) : Nat → Nat → List Int → Bool × List Int × Nat
  | 0, i, _ => (false, [], i)
  | k + 1, i, acc =>
    if L.length ≤ i then (false, [], L.length)
    else match tend lines q (L.drop i) with
      | some p => (true, acc ++ p.1, i + p.2)
      | none => match titem lines q (L.drop i) with
        | none => (false, [], i)
        | some p => tbody L q lines k (i + p.2) (acc ++ p.1)
/-- A line's end behind three quotes. -/
def tskip (l : List Int) : Nat := if l.take 2 = [13, 10] then 2 else if l.take 1 = [10] then 1 else 0
/-- What a TOML string says. -/
def tstr (L : List Int) (i : Nat) : Bool × List Int × Nat :=
  if 3 ≤ lead (L.getD i 0) (L.drop i) then tbody L (L.getD i 0) true (L.length + 1) (i + 3 + tskip (L.drop (i + 3))) []
  else tbody L (L.getD i 0) false (L.length + 1) (i + 1) []
theorem tfold_len {l : List Int} {n : Nat} (hl : 0 < l.length) (h : tfold l = some n) : 1 ≤ n ∧ n ≤ l.length := by
  unfold tfold at h
  split at h
  · obtain rfl := Option.some.inj h
    have := (List.dropWhile_suffix (inSet [32, 9, 10, 13]) (l := l.drop 1)).length_le
    rw [List.length_drop] at this
    unfold trimL
    omega
  · cases h
theorem tdig_len {l : List Int} {n : Nat} {p : List Int × Nat} (h : tdig l n = some p) : p.2 = 2 + n ∧ 2 + n ≤ l.length ∧ p.1.length ≤ 4 := by
  unfold tdig at h
  obtain ⟨x, hx, h⟩ := Option.bind_eq_some_iff.1 h
  have hd := digsAt_len (l := l) (i := 2) (n := n) (by rw [hx]; rfl)
  split at h
  · obtain rfl := Option.some.inj h
    exact ⟨rfl, hd, (enc_len x).2⟩
  · cases h
theorem tesc_len {lines : Bool} {l : List Int} {p : List Int × Nat} (hl : 0 < l.length) (h : tesc lines l = some p) : 1 ≤ p.2 ∧ p.2 ≤ l.length ∧ p.1.length ≤ 4 := by
  unfold tesc at h
  split at h
  · rename_i hf
    obtain ⟨n, hn⟩ := Option.isSome_iff_exists.1 hf.2
    obtain rfl := Option.some.inj h
    have := tfold_len hl hn
    rw [hn]
    exact ⟨this.1, this.2, by simp⟩
  · unfold tesc0 at h
    split at h
    · cases h
    · split at h
      · obtain rfl := Option.some.inj h
        exact ⟨by show 1 ≤ 2; omega, by show 2 ≤ _; omega, (enc_len _).2⟩
      · split at h
        · have := tdig_len h; omega
        · split at h
          · have := tdig_len h; omega
          · cases h
theorem enc0_len (r : Int) : (enc0 r).length ≤ 4 := by
  unfold enc0
  split
  · exact (enc_len r).2
  · simp
theorem tplain_len {lines : Bool} {l : List Int} {p : List Int × Nat} (hb : Bytes l) (hl : 0 < l.length) (h : tplain lines l = some p) : 1 ≤ p.2 ∧ p.2 ≤ l.length ∧ p.1.length ≤ 4 := by
  unfold tplain at h
  split at h
  · rename_i hc
    split at h
    · rename_i h13
      obtain rfl := Option.some.inj h
      have h2 : l.take 2 = [13, 10] := by
        rcases hc with ⟨_, h | h⟩ | h
        · omega
        · exact h
        · omega
      have := congrArg List.length h2
      rw [List.length_take] at this
      exact ⟨by show 1 ≤ 2; omega, by show 2 ≤ _; simp at this; omega, by simp⟩
    · obtain rfl := Option.some.inj h
      exact ⟨Nat.le_refl _, hl, by simp⟩
  · split at h
    · cases h
    · split at h
      · obtain rfl := Option.some.inj h
        have hbd := tk_bound l hb
        exact ⟨by show 1 ≤ (tk l).2.toNat; omega, by show (tk l).2.toNat ≤ _; omega, enc0_len _⟩
      · cases h
end Go.Proofs.YtoanbmggffkmgaaDoor.La
namespace Go.Proofs.YtoanbmggffkmgaaDoor.P
open Go.RowKit Go.Proofs.YtoanbmggffkmgaaDoor.La Go.Proofs.YtoanbmggffkmgaaDoorW.PrintWords Go.Proofs.YtoanbmggffkmgaaDoorW.PrintLast Go.Proofs.YtoanbmggffkmgaaDoorW.PrintMore
theorem rended {B g : Nat} {text : ByteArray} {i : Nat} {bs : List Int} {w : World} (lines : Bool) (q : UInt8) (hR : Rdr B w g text (i : Int) bs) (hl : bs.length ≤ 140737480000000) (h1 : i < text.size) (h2 : text.size ≤ 140737488000000) :
    Calls Tryd.prog 42 #[.pointer (some ⟨g, 0, none⟩), .string (one q), .bool lines] w (EndPost B g text i bs w (tend lines (q.toNat : Int) ((bytesOf text).drop i))) := by
  cases lines
  · exact rended_plain q hR h1 h2
  · exact rended_lines q hR hl h1 h2
/-- The loop's state. -/
def TInv (w : World) (text : ByteArray) (g : Nat) (F : Nat → Nat → List Int → Bool × List Int × Nat) (res : Bool × List Int × Nat) (k : Nat) (wr : World) : Prop :=
  ∃ (i : Nat) (bs : List Int), Rdr w.heap.size wr g text (i : Int) bs ∧ Below w.heap.size w wr ∧ F k i bs = res ∧ i ≤ text.size ∧ text.size - i < k ∧ bs.length ≤ 4 * i
set_option maxRecDepth 100000 in
set_option maxHeartbeats 64000000 in
theorem tunq_A (text : ByteArray) (at_ : Nat) (q : UInt8) (b34 : Bool) (hq34 : b34 = decide ((q.toNat : Int) = 34)) (hs : text.size ≤ 17592186044416) (hq : (bytesOf text).getD at_ 0 = (q.toNat : Int)) (_hqq : (q.toNat : Int) = 34 ∨ (q.toNat : Int) = 39) (hlt : at_ < text.size) (hq34' : (q.toNat : Int) = 34) (hln : ¬ 3 ≤ lead (q.toNat : Int) ((bytesOf text).drop at_)) (w : World) :
    Calls Tryd.prog 17 #[.string text, .int .i64 at_] w fun e w' => e = .returned (unqRes (tstr (bytesOf text) at_)) ∧ Below w.heap.size w w' := by
  generalize hres : tstr (bytesOf text) at_ = res
  have g1 : decide ((at_ : Int) < 0) = false := decide_eq_false (by omega)
  have htk1 : ∀ c : Int, ((bytesOf text).drop at_).take 1 = [c] ↔ (q.toNat : Int) = c := by
    intro c
    rw [take_one_drop (by rw [size_of]; exact hlt), hq]
    constructor
    · intro h; exact (List.cons.inj h).1
    · intro h; rw [h]
  have dA : decide (((bytesOf text).drop at_).take (⟨#[34]⟩ : ByteArray).size = bytesOf ⟨#[34]⟩) = b34 := by rw [hq34, decide_eq_decide]; exact htk1 34
  have dB : b34 = false → decide (((bytesOf text).drop at_).take (⟨#[39]⟩ : ByteArray).size = bytesOf ⟨#[39]⟩) = true := by
    intro h
    rw [decide_eq_true_eq]
    refine (htk1 39).2 ?_
    rw [hq34, decide_eq_false_iff_not] at h
    omega
  have hquote : text.extract at_ (at_ + 1) = one q := by
    apply bytesOf_inj
    rw [bytesOf_extract, List.drop_take, show at_ + 1 - at_ = 1 by omega, (htk1 _).2 rfl]
    rfl
  have hq1 : ((one q).toList == ([34] : List UInt8)) = b34 := by
    rw [hq34, Bool.eq_iff_iff, beq_iff_eq, decide_eq_true_eq]
    have := toList_eq_iff (one q) ⟨#[34]⟩
    rw [toList_data' ⟨#[34]⟩] at this
    rw [this, one_bytes]
    constructor
    · intro h; exact (List.cons.inj h).1
    · intro h; rw [h]; rfl
  obtain ⟨lines, hlines⟩ : ∃ lines, lines = decide (3 ≤ lead (q.toNat : Int) ((bytesOf text).drop at_)) := ⟨_, rfl⟩
  have d3 : decide (((bytesOf text).drop at_).take (⟨#[q, q, q]⟩ : ByteArray).size = bytesOf (⟨#[q, q, q]⟩ : ByteArray)) = lines := by
    rw [hlines, rep_bytes3, decide_eq_decide]
    exact lead_take _ _ 3
  have hT : tstr (bytesOf text) at_ = if lines = true then tbody (bytesOf text) (q.toNat : Int) true (text.size + 1) (at_ + 3 + tskip ((bytesOf text).drop (at_ + 3))) [] else tbody (bytesOf text) (q.toNat : Int) false (text.size + 1) (at_ + 1) [] := by
    unfold tstr
    rw [hq, hlines, size_of]
    simp only [decide_eq_true_eq]
  have hl3 : lines = true → at_ + 3 ≤ text.size := by
    intro h
    rw [hlines, decide_eq_true_eq] at h
    have := lead_le (q.toNat : Int) ((bytesOf text).drop at_)
    rw [List.length_drop, size_of] at this
    omega
  rw [hT] at hres
  have hLN : lines = false := by rw [hlines]; exact decide_eq_false hln
  clear hT htk1 hlines
  have HRES := Lib.hid hres
  clear hres
  have p0 := eq_true (show (0 : Int) ≤ (at_ : Int) by omega)
  have p1 := eq_true (show (at_ : Int) ≤ (at_ : Int) + 1 by omega)
  have p2 := eq_true (show (at_ : Int) + 1 ≤ (text.size : Int) by omega)
  go_enter Tryd.func17, Tryd.ntmps17
  go_wp2_with fail
  refine (rstart text at_ w).mono ?_
  rintro e w1 ⟨g, rfl, hR, hB⟩
  rw [show mn (mx (at_ : Int) 0) (text.size : Int) = (at_ : Int) by unfold mn mx; (repeat' split) <;> omega] at hR
  go_wp2_with fail
  refine (rbegins ⟨#[34]⟩ hR (by omega) (by omega)).mono ?_
  rintro e w2 ⟨rfl, n2, rfl⟩
  rw [show (at_ : Int).toNat = at_ by omega, dA]
  replace hR := hR.drewN n2
  replace hB := pw_below_drewN hB n2
  generalize w1.drewN n2 = w1 at hR hB
  have H34 : (q.toNat : Int) = 34 := hq34'
  obtain rfl : b34 = true := by rw [hq34, decide_eq_true hq34']
  clear dB dA hq34
  subst hLN
  have hsl : ∀ W : World, (Instr.slice 9 (.string text) (some (.int .i64 (at_ : Int))) (some (.int .i64 ((at_ : Int) + 1))) none).run Tryd.prog W = .ok (.string (one q)) W := by
    intro W
    have := run_slice_string (P := Tryd.prog) W 9 text .i64 .i64 (at_ : Int) ((at_ : Int) + 1) Tryd.underlying9 (by omega) (by omega) (by omega)
    rw [this, ← hquote]
    rfl
  go_wp2_with fail
  refine (repeat3 q _).mono ?_
  rintro e w2 ⟨rfl, hb2⟩
  replace hR := hR.below hb2
  have hlw := hB.size
  replace hB := hB.trans (hb2.mono hlw)
  clear hb2 hlw hsl hquote
  generalize w2 = w1 at hR hB
  go_wp2_with fail
  refine (rbegins ⟨#[q, q, q]⟩ hR (by omega) (by omega)).mono ?_
  rintro e w2 ⟨rfl, n2, rfl⟩
  rw [show (at_ : Int).toNat = at_ by omega, d3]
  replace hR := hR.drewN n2
  replace hB := pw_below_drewN hB n2
  generalize w1.drewN n2 = w1 at hR hB
  have HRES0 := HRES.out
  clear HRES
  rw [if_neg (by decide)] at HRES0
  obtain ⟨F, hF⟩ : ∃ F, F = tbody (bytesOf text) (q.toNat : Int) false := ⟨_, rfl⟩
  rw [← hF] at HRES0
  have HRES := Lib.hid HRES0
  clear HRES0
  obtain ⟨A, c, c0, c1, c2, f1, f2, hlt2, hc, hC⟩ := hR.open_
  have hlow := hR.low
  have hM := hR.moved ((at_ : Int) + 1)
  go_wp2_with fail
  generalize w1.setCell ⟨g, 1, none⟩ (.int .i64 ((at_ : Int) + 1)) = w4 at hM
  clear c0 c1 c2 f1 f2 hC hR
  obtain ⟨hR, hB4⟩ := hM
  replace hB := hB.trans hB4
  clear hB4
  generalize w4 = w1 at hR hB
  rw [show (at_ : Int) + 1 = ((at_ + 1 : Nat) : Int) by omega] at hR
  go_loopg [] (text.size + 1) (fun k wr => TInv w text g F res k wr)
  case atStart => exact ⟨_, [], hR, hB, HRES.out, by omega, by omega, by simp⟩
  case round =>
    clear hR hB HRES hl3 d3
    obtain ⟨i, bs, hR, hB, hj, hi, hk, hl⟩ := hrel
    cases gk with
    | zero => omega
    | succ k =>
      have hlow := hR.low
      obtain ⟨A, c, c0, c1, c2, f1, f2, hlt2, hc, hC⟩ := hR.open_
      rw [hF, tbody, ← hF] at hj
      by_cases hlt : i < text.size
      · rw [if_neg (by rw [size_of]; omega)] at hj
        have hdl : ((bytesOf text).drop i).length = text.size - i := by rw [List.length_drop, size_of]
        have e1 : decide ((i : Int) < (text.size : Int)) = true := decide_eq_true (by omega)
        go_wp2_with fail
        refine (rended _ q hR (by omega) hlt (by omega)).mono ?_
        rintro e w5 ⟨rfl, hR5, hB5⟩
        have hB6 := hB.trans hB5
        clear c0 c1 c2 f1 f2 hC hB hB5
        cases htend : tend false (q.toNat : Int) ((bytesOf text).drop i) with
        | some p =>
          rw [htend] at hj hR5
          have hr := Lib.hid hj
          clear hj
          replace hR5 : Rdr w.heap.size w5 g text ((i : Int) + p.2) (bs ++ p.1) := hR5
          obtain ⟨A5, c5, d0, d1, d2, e1', e2, _, _, hC5⟩ := hR5.open_
          have kc := fun n => Kd.C_string (P := Tryd.prog) (w := w5.drewN n) (c := c5) Tryd.underlying46 Tryd.underlying5 Tryd.underlying9 hC5
          have kc0 := Kd.C_string (P := Tryd.prog) (w := w5) (c := c5) Tryd.underlying46 Tryd.underlying5 Tryd.underlying9 hC5
          rw [List.length_append] at kc0 d2
          simp only [List.length_append] at kc
          go_wp2
          repeat (go_quiet (fail); try go_wp2)
          go_ret3
          exact ⟨by rw [← hr.out]; first | rfl | (unfold unqRes; simp), by first | exact hB6 | exact pw_below_drewN hB6 _⟩
        | none =>
          rw [htend] at hj hR5
          replace hR5 : Rdr w.heap.size w5 g text (i : Int) bs := hR5
          have hlow5 := hR5.low
          obtain ⟨A5, c5, d0, d1, d2, e1', e2, hlt5, _, hC5⟩ := hR5.open_
          have p1 := eq_true (show (0 : Int) ≤ (i : Int) by omega)
          have q1 := eq_true (show (i : Int) < (text.size : Int) by omega)
          have q2 := eq_true (show (i : Int).toNat < text.size by omega)
          have q3 := eq_true hlt
          have hx1 : ∀ h : i < text.size, ((text[i]'h).toNat : Int) = bt text (i : Int) := fun h => bt_at text (i : Int) (by omega)
          have hbt : ((bytesOf text).drop i).getD 0 0 = bt text (i : Int) := by
            rw [bt_get]
            simp [List.getD_eq_getElem?_getD, List.getElem?_drop]
          unfold titem at hj
          rw [hbt] at hj
          have hpl := fun p h => tplain_len (lines := false) (p := p) ((bytes_of text).drop i) (by omega) h
          have htl := fun p h => tesc_len (lines := false) (l := (bytesOf text).drop i) (p := p) (by omega) h
          rw [hdl] at hpl htl
          clear hbt hdl htend
          generalize bt text (i : Int) = b at hj hx1
          have HJ := Lib.hid hj
          clear hj
          have HPL := Lib.hid hpl
          have HTL := Lib.hid htl
          clear hpl htl
          by_cases h92 : b = 92
          · have HJ := Lib.hid (show _ from (by have h := HJ.out; rw [if_pos (show b = 92 ∧ (q.toNat : Int) = 34 from ⟨h92, H34⟩)] at h; exact h))
            have t92 : (b == 92) = true := beq_iff_eq.2 h92
            clear h92
            go_wp2_with fail
            refine (rtesc false hR5 (by omega) hlt (by omega)).mono ?_
            rintro e w7 ⟨rfl, hR7, hB7⟩
            have hB8 := hB6.trans hB7
            clear d0 d1 d2 e1' e2 hC5 hR5 hB6 hB7
            cases hp : tesc false ((bytesOf text).drop i) with
            | none =>
              rw [hp] at hR7 HJ
              have hr := Lib.hid HJ.out
              clear HJ
              replace hR7 : Rdr w.heap.size w7 g text (i : Int) bs := hR7
              obtain ⟨A7, c7, m0, m1, m2, m3, m4, _, _, _⟩ := hR7.open_
              go_wp2
              repeat (go_quiet (fail); try go_wp2)
              go_ret3
              exact ⟨by rw [← hr.out]; rfl, by first | exact hB8 | exact pw_below_drewN hB8 _⟩
            | some pp =>
              rw [hp] at hR7 HJ
              have hr := Lib.hid HJ.out
              clear HJ
              have hR8 : Rdr w.heap.size w7 g text ((i : Int) + pp.2) (bs ++ pp.1) := hR7
              have hpp := HTL.out pp hp
              clear HPL HTL hp hR7
              go_wp2
              go_roundg k
              case rel => exact ⟨i + pp.2, bs ++ pp.1, by rw [Int.natCast_add]; exact hR8, hB8, hr.out, by omega, by omega, by rw [List.length_append]; omega⟩
              case measure => omega
          · have HJ := Lib.hid (show _ from (by have h := HJ.out; rw [if_neg (show ¬ (b = 92 ∧ (q.toNat : Int) = 34) from fun h => h92 h.1)] at h; exact h))
            have t92 : (b == 92) = false := beq_eq_false_iff_ne.2 h92
            clear h92
            go_wp2_with fail
            refine (rplain false hR5 (by omega) hlt (by omega)).mono ?_
            rintro e w7 ⟨rfl, hR7, hB7⟩
            have hB8 := hB6.trans hB7
            clear d0 d1 d2 e1' e2 hC5 hR5 hB6 hB7
            cases hp : tplain false ((bytesOf text).drop i) with
            | none =>
              rw [hp] at hR7 HJ
              have hr := Lib.hid HJ.out
              clear HJ
              obtain ⟨bs7, hR7⟩ := hR7
              obtain ⟨A7, c7, m0, m1, m2, m3, m4, _, _, _⟩ := hR7.open_
              go_wp2
              repeat (go_quiet (fail); try go_wp2)
              go_ret3
              exact ⟨by rw [← hr.out]; rfl, by first | exact hB8 | exact pw_below_drewN hB8 _⟩
            | some pp =>
              rw [hp] at hR7 HJ
              have hr := Lib.hid HJ.out
              clear HJ
              have hR8 : Rdr w.heap.size w7 g text ((i : Int) + pp.2) (bs ++ pp.1) := hR7
              have hpp := HPL.out pp hp
              clear HPL HTL hp hR7
              go_wp2
              go_roundg k
              case rel => exact ⟨i + pp.2, bs ++ pp.1, by rw [Int.natCast_add]; exact hR8, hB8, hr.out, by omega, by omega, by rw [List.length_append]; omega⟩
              case measure => omega
      · obtain rfl : i = text.size := by omega
        rw [if_pos (by rw [size_of]; omega), size_of] at hj
        obtain rfl := hj
        have e1 : decide ((text.size : Int) < (text.size : Int)) = false := decide_eq_false (by omega)
        go_wp2
        repeat (go_quiet (fail); try go_wp2)
        go_ret3
        exact ⟨rfl, hB⟩
set_option maxRecDepth 100000 in
set_option maxHeartbeats 64000000 in
theorem tunq_B (text : ByteArray) (at_ : Nat) (q : UInt8) (b34 : Bool) (hq34 : b34 = decide ((q.toNat : Int) = 34)) (hs : text.size ≤ 17592186044416) (hq : (bytesOf text).getD at_ 0 = (q.toNat : Int)) (_hqq : (q.toNat : Int) = 34 ∨ (q.toNat : Int) = 39) (hlt : at_ < text.size) (hq34' : (q.toNat : Int) = 34) (hln : 3 ≤ lead (q.toNat : Int) ((bytesOf text).drop at_)) (hcr : ¬ ((bytesOf text).drop (at_ + 3)).take 2 = [13, 10]) (hcn : ¬ ((bytesOf text).drop (at_ + 3)).take 1 = [10]) (w : World) :
    Calls Tryd.prog 17 #[.string text, .int .i64 at_] w fun e w' => e = .returned (unqRes (tstr (bytesOf text) at_)) ∧ Below w.heap.size w w' := by
  generalize hres : tstr (bytesOf text) at_ = res
  have g1 : decide ((at_ : Int) < 0) = false := decide_eq_false (by omega)
  have htk1 : ∀ c : Int, ((bytesOf text).drop at_).take 1 = [c] ↔ (q.toNat : Int) = c := by
    intro c
    rw [take_one_drop (by rw [size_of]; exact hlt), hq]
    constructor
    · intro h; exact (List.cons.inj h).1
    · intro h; rw [h]
  have dA : decide (((bytesOf text).drop at_).take (⟨#[34]⟩ : ByteArray).size = bytesOf ⟨#[34]⟩) = b34 := by rw [hq34, decide_eq_decide]; exact htk1 34
  have dB : b34 = false → decide (((bytesOf text).drop at_).take (⟨#[39]⟩ : ByteArray).size = bytesOf ⟨#[39]⟩) = true := by
    intro h
    rw [decide_eq_true_eq]
    refine (htk1 39).2 ?_
    rw [hq34, decide_eq_false_iff_not] at h
    omega
  have hquote : text.extract at_ (at_ + 1) = one q := by
    apply bytesOf_inj
    rw [bytesOf_extract, List.drop_take, show at_ + 1 - at_ = 1 by omega, (htk1 _).2 rfl]
    rfl
  have hq1 : ((one q).toList == ([34] : List UInt8)) = b34 := by
    rw [hq34, Bool.eq_iff_iff, beq_iff_eq, decide_eq_true_eq]
    have := toList_eq_iff (one q) ⟨#[34]⟩
    rw [toList_data' ⟨#[34]⟩] at this
    rw [this, one_bytes]
    constructor
    · intro h; exact (List.cons.inj h).1
    · intro h; rw [h]; rfl
  obtain ⟨lines, hlines⟩ : ∃ lines, lines = decide (3 ≤ lead (q.toNat : Int) ((bytesOf text).drop at_)) := ⟨_, rfl⟩
  have d3 : decide (((bytesOf text).drop at_).take (⟨#[q, q, q]⟩ : ByteArray).size = bytesOf (⟨#[q, q, q]⟩ : ByteArray)) = lines := by
    rw [hlines, rep_bytes3, decide_eq_decide]
    exact lead_take _ _ 3
  have hT : tstr (bytesOf text) at_ = if lines = true then tbody (bytesOf text) (q.toNat : Int) true (text.size + 1) (at_ + 3 + tskip ((bytesOf text).drop (at_ + 3))) [] else tbody (bytesOf text) (q.toNat : Int) false (text.size + 1) (at_ + 1) [] := by
    unfold tstr
    rw [hq, hlines, size_of]
    simp only [decide_eq_true_eq]
  have hl3 : lines = true → at_ + 3 ≤ text.size := by
    intro h
    rw [hlines, decide_eq_true_eq] at h
    have := lead_le (q.toNat : Int) ((bytesOf text).drop at_)
    rw [List.length_drop, size_of] at this
    omega
  rw [hT] at hres
  have hLN : lines = true := by rw [hlines]; exact decide_eq_true hln
  clear hT htk1 hlines
  have HRES := Lib.hid hres
  clear hres
  have p0 := eq_true (show (0 : Int) ≤ (at_ : Int) by omega)
  have p1 := eq_true (show (at_ : Int) ≤ (at_ : Int) + 1 by omega)
  have p2 := eq_true (show (at_ : Int) + 1 ≤ (text.size : Int) by omega)
  go_enter Tryd.func17, Tryd.ntmps17
  go_wp2_with fail
  refine (rstart text at_ w).mono ?_
  rintro e w1 ⟨g, rfl, hR, hB⟩
  rw [show mn (mx (at_ : Int) 0) (text.size : Int) = (at_ : Int) by unfold mn mx; (repeat' split) <;> omega] at hR
  go_wp2_with fail
  refine (rbegins ⟨#[34]⟩ hR (by omega) (by omega)).mono ?_
  rintro e w2 ⟨rfl, n2, rfl⟩
  rw [show (at_ : Int).toNat = at_ by omega, dA]
  replace hR := hR.drewN n2
  replace hB := pw_below_drewN hB n2
  generalize w1.drewN n2 = w1 at hR hB
  have H34 : (q.toNat : Int) = 34 := hq34'
  obtain rfl : b34 = true := by rw [hq34, decide_eq_true hq34']
  clear dB dA hq34
  subst hLN
  have hsl : ∀ W : World, (Instr.slice 9 (.string text) (some (.int .i64 (at_ : Int))) (some (.int .i64 ((at_ : Int) + 1))) none).run Tryd.prog W = .ok (.string (one q)) W := by
    intro W
    have := run_slice_string (P := Tryd.prog) W 9 text .i64 .i64 (at_ : Int) ((at_ : Int) + 1) Tryd.underlying9 (by omega) (by omega) (by omega)
    rw [this, ← hquote]
    rfl
  go_wp2_with fail
  refine (repeat3 q _).mono ?_
  rintro e w2 ⟨rfl, hb2⟩
  replace hR := hR.below hb2
  have hlw := hB.size
  replace hB := hB.trans (hb2.mono hlw)
  clear hb2 hlw hsl hquote
  generalize w2 = w1 at hR hB
  go_wp2_with fail
  refine (rbegins ⟨#[q, q, q]⟩ hR (by omega) (by omega)).mono ?_
  rintro e w2 ⟨rfl, n2, rfl⟩
  rw [show (at_ : Int).toNat = at_ by omega, d3]
  replace hR := hR.drewN n2
  replace hB := pw_below_drewN hB n2
  generalize w1.drewN n2 = w1 at hR hB
  have HRES0 := HRES.out
  clear HRES
  rw [if_pos trivial] at HRES0
  have hl4 := hl3 trivial
  obtain ⟨F, hF⟩ : ∃ F, F = tbody (bytesOf text) (q.toNat : Int) true := ⟨_, rfl⟩
  rw [← hF] at HRES0
  have HRES := Lib.hid HRES0
  clear HRES0
  obtain ⟨A, c, c0, c1, c2, f1, f2, hlt2, hc, hC⟩ := hR.open_
  have hlow := hR.low
  have hM := hR.moved ((at_ : Int) + 1)
  go_wp2_with fail
  generalize w1.setCell ⟨g, 1, none⟩ (.int .i64 ((at_ : Int) + 1)) = w4 at hM
  clear c0 c1 c2 f1 f2 hC hR
  obtain ⟨hR, hB4⟩ := hM
  replace hB := hB.trans hB4
  clear hB4
  generalize w4 = w1 at hR hB
  obtain ⟨A, c, c0, c1, c2, f1, f2, hlt2, hc, hC⟩ := hR.open_
  have hlow := hR.low
  have hM := hR.moved ((at_ : Int) + 1 + 2)
  go_wp2_with fail
  generalize w1.setCell ⟨g, 1, none⟩ (.int .i64 ((at_ : Int) + 1 + 2)) = w4 at hM
  clear c0 c1 c2 f1 f2 hC hR
  obtain ⟨hR, hB4⟩ := hM
  replace hB := hB.trans hB4
  clear hB4
  generalize w4 = w1 at hR hB
  rw [show (at_ : Int) + 1 + 2 = ((at_ + 3 : Nat) : Int) by omega] at hR
  unfold tskip at HRES
  have dc : decide (((bytesOf text).drop (at_ + 3)).take (⟨#[13, 10]⟩ : ByteArray).size = bytesOf ⟨#[13, 10]⟩) = false := decide_eq_false hcr
  rw [if_neg hcr] at HRES
  go_wp2_with fail
  refine (rbegins ⟨#[13, 10]⟩ hR (by omega) (by omega)).mono ?_
  rintro e w2 ⟨rfl, n2, rfl⟩
  rw [show (((at_ + 3 : Nat) : Int)).toNat = at_ + 3 by omega, dc]
  replace hR := hR.drewN n2
  replace hB := pw_below_drewN hB n2
  generalize w1.drewN n2 = w1 at hR hB
  have dn : decide (((bytesOf text).drop (at_ + 3)).take (⟨#[10]⟩ : ByteArray).size = bytesOf ⟨#[10]⟩) = false := decide_eq_false hcn
  rw [if_neg hcn] at HRES
  go_wp2_with fail
  refine (rbegins ⟨#[10]⟩ hR (by omega) (by omega)).mono ?_
  rintro e w2 ⟨rfl, n2, rfl⟩
  rw [show (((at_ + 3 : Nat) : Int)).toNat = at_ + 3 by omega, dn]
  replace hR := hR.drewN n2
  replace hB := pw_below_drewN hB n2
  generalize w1.drewN n2 = w1 at hR hB
  go_wp2_with fail
  go_loopg [] (text.size + 1) (fun k wr => TInv w text g F res k wr)
  case atStart => exact ⟨_, [], hR, hB, HRES.out, by omega, by omega, by simp⟩
  case round =>
    clear hR hB HRES hl3 d3
    obtain ⟨i, bs, hR, hB, hj, hi, hk, hl⟩ := hrel
    cases gk with
    | zero => omega
    | succ k =>
      have hlow := hR.low
      obtain ⟨A, c, c0, c1, c2, f1, f2, hlt2, hc, hC⟩ := hR.open_
      rw [hF, tbody, ← hF] at hj
      by_cases hlt : i < text.size
      · rw [if_neg (by rw [size_of]; omega)] at hj
        have hdl : ((bytesOf text).drop i).length = text.size - i := by rw [List.length_drop, size_of]
        have e1 : decide ((i : Int) < (text.size : Int)) = true := decide_eq_true (by omega)
        go_wp2_with fail
        refine (rended _ q hR (by omega) hlt (by omega)).mono ?_
        rintro e w5 ⟨rfl, hR5, hB5⟩
        have hB6 := hB.trans hB5
        clear c0 c1 c2 f1 f2 hC hB hB5
        cases htend : tend true (q.toNat : Int) ((bytesOf text).drop i) with
        | some p =>
          rw [htend] at hj hR5
          have hr := Lib.hid hj
          clear hj
          replace hR5 : Rdr w.heap.size w5 g text ((i : Int) + p.2) (bs ++ p.1) := hR5
          obtain ⟨A5, c5, d0, d1, d2, e1', e2, _, _, hC5⟩ := hR5.open_
          have kc := fun n => Kd.C_string (P := Tryd.prog) (w := w5.drewN n) (c := c5) Tryd.underlying46 Tryd.underlying5 Tryd.underlying9 hC5
          have kc0 := Kd.C_string (P := Tryd.prog) (w := w5) (c := c5) Tryd.underlying46 Tryd.underlying5 Tryd.underlying9 hC5
          rw [List.length_append] at kc0 d2
          simp only [List.length_append] at kc
          go_wp2
          repeat (go_quiet (fail); try go_wp2)
          go_ret3
          exact ⟨by rw [← hr.out]; first | rfl | (unfold unqRes; simp), by first | exact hB6 | exact pw_below_drewN hB6 _⟩
        | none =>
          rw [htend] at hj hR5
          replace hR5 : Rdr w.heap.size w5 g text (i : Int) bs := hR5
          have hlow5 := hR5.low
          obtain ⟨A5, c5, d0, d1, d2, e1', e2, hlt5, _, hC5⟩ := hR5.open_
          have p1 := eq_true (show (0 : Int) ≤ (i : Int) by omega)
          have q1 := eq_true (show (i : Int) < (text.size : Int) by omega)
          have q2 := eq_true (show (i : Int).toNat < text.size by omega)
          have q3 := eq_true hlt
          have hx1 : ∀ h : i < text.size, ((text[i]'h).toNat : Int) = bt text (i : Int) := fun h => bt_at text (i : Int) (by omega)
          have hbt : ((bytesOf text).drop i).getD 0 0 = bt text (i : Int) := by
            rw [bt_get]
            simp [List.getD_eq_getElem?_getD, List.getElem?_drop]
          unfold titem at hj
          rw [hbt] at hj
          have hpl := fun p h => tplain_len (lines := true) (p := p) ((bytes_of text).drop i) (by omega) h
          have htl := fun p h => tesc_len (lines := true) (l := (bytesOf text).drop i) (p := p) (by omega) h
          rw [hdl] at hpl htl
          clear hbt hdl htend
          generalize bt text (i : Int) = b at hj hx1
          have HJ := Lib.hid hj
          clear hj
          have HPL := Lib.hid hpl
          have HTL := Lib.hid htl
          clear hpl htl
          by_cases h92 : b = 92
          · have HJ := Lib.hid (show _ from (by have h := HJ.out; rw [if_pos (show b = 92 ∧ (q.toNat : Int) = 34 from ⟨h92, H34⟩)] at h; exact h))
            have t92 : (b == 92) = true := beq_iff_eq.2 h92
            clear h92
            go_wp2_with fail
            refine (rtesc true hR5 (by omega) hlt (by omega)).mono ?_
            rintro e w7 ⟨rfl, hR7, hB7⟩
            have hB8 := hB6.trans hB7
            clear d0 d1 d2 e1' e2 hC5 hR5 hB6 hB7
            cases hp : tesc true ((bytesOf text).drop i) with
            | none =>
              rw [hp] at hR7 HJ
              have hr := Lib.hid HJ.out
              clear HJ
              replace hR7 : Rdr w.heap.size w7 g text (i : Int) bs := hR7
              obtain ⟨A7, c7, m0, m1, m2, m3, m4, _, _, _⟩ := hR7.open_
              go_wp2
              repeat (go_quiet (fail); try go_wp2)
              go_ret3
              exact ⟨by rw [← hr.out]; rfl, by first | exact hB8 | exact pw_below_drewN hB8 _⟩
            | some pp =>
              rw [hp] at hR7 HJ
              have hr := Lib.hid HJ.out
              clear HJ
              have hR8 : Rdr w.heap.size w7 g text ((i : Int) + pp.2) (bs ++ pp.1) := hR7
              have hpp := HTL.out pp hp
              clear HPL HTL hp hR7
              go_wp2
              go_roundg k
              case rel => exact ⟨i + pp.2, bs ++ pp.1, by rw [Int.natCast_add]; exact hR8, hB8, hr.out, by omega, by omega, by rw [List.length_append]; omega⟩
              case measure => omega
          · have HJ := Lib.hid (show _ from (by have h := HJ.out; rw [if_neg (show ¬ (b = 92 ∧ (q.toNat : Int) = 34) from fun h => h92 h.1)] at h; exact h))
            have t92 : (b == 92) = false := beq_eq_false_iff_ne.2 h92
            clear h92
            go_wp2_with fail
            refine (rplain true hR5 (by omega) hlt (by omega)).mono ?_
            rintro e w7 ⟨rfl, hR7, hB7⟩
            have hB8 := hB6.trans hB7
            clear d0 d1 d2 e1' e2 hC5 hR5 hB6 hB7
            cases hp : tplain true ((bytesOf text).drop i) with
            | none =>
              rw [hp] at hR7 HJ
              have hr := Lib.hid HJ.out
              clear HJ
              obtain ⟨bs7, hR7⟩ := hR7
              obtain ⟨A7, c7, m0, m1, m2, m3, m4, _, _, _⟩ := hR7.open_
              go_wp2
              repeat (go_quiet (fail); try go_wp2)
              go_ret3
              exact ⟨by rw [← hr.out]; rfl, by first | exact hB8 | exact pw_below_drewN hB8 _⟩
            | some pp =>
              rw [hp] at hR7 HJ
              have hr := Lib.hid HJ.out
              clear HJ
              have hR8 : Rdr w.heap.size w7 g text ((i : Int) + pp.2) (bs ++ pp.1) := hR7
              have hpp := HPL.out pp hp
              clear HPL HTL hp hR7
              go_wp2
              go_roundg k
              case rel => exact ⟨i + pp.2, bs ++ pp.1, by rw [Int.natCast_add]; exact hR8, hB8, hr.out, by omega, by omega, by rw [List.length_append]; omega⟩
              case measure => omega
      · obtain rfl : i = text.size := by omega
        rw [if_pos (by rw [size_of]; omega), size_of] at hj
        obtain rfl := hj
        have e1 : decide ((text.size : Int) < (text.size : Int)) = false := decide_eq_false (by omega)
        go_wp2
        repeat (go_quiet (fail); try go_wp2)
        go_ret3
        exact ⟨rfl, hB⟩
set_option maxRecDepth 100000 in
set_option maxHeartbeats 64000000 in
theorem tunq_C (text : ByteArray) (at_ : Nat) (q : UInt8) (b34 : Bool) (hq34 : b34 = decide ((q.toNat : Int) = 34)) (hs : text.size ≤ 17592186044416) (hq : (bytesOf text).getD at_ 0 = (q.toNat : Int)) (_hqq : (q.toNat : Int) = 34 ∨ (q.toNat : Int) = 39) (hlt : at_ < text.size) (hq34' : ¬ (q.toNat : Int) = 34) (hln : 3 ≤ lead (q.toNat : Int) ((bytesOf text).drop at_)) (hcr : ¬ ((bytesOf text).drop (at_ + 3)).take 2 = [13, 10]) (hcn : ((bytesOf text).drop (at_ + 3)).take 1 = [10]) (w : World) :
    Calls Tryd.prog 17 #[.string text, .int .i64 at_] w fun e w' => e = .returned (unqRes (tstr (bytesOf text) at_)) ∧ Below w.heap.size w w' := by
  generalize hres : tstr (bytesOf text) at_ = res
  have g1 : decide ((at_ : Int) < 0) = false := decide_eq_false (by omega)
  have htk1 : ∀ c : Int, ((bytesOf text).drop at_).take 1 = [c] ↔ (q.toNat : Int) = c := by
    intro c
    rw [take_one_drop (by rw [size_of]; exact hlt), hq]
    constructor
    · intro h; exact (List.cons.inj h).1
    · intro h; rw [h]
  have dA : decide (((bytesOf text).drop at_).take (⟨#[34]⟩ : ByteArray).size = bytesOf ⟨#[34]⟩) = b34 := by rw [hq34, decide_eq_decide]; exact htk1 34
  have dB : b34 = false → decide (((bytesOf text).drop at_).take (⟨#[39]⟩ : ByteArray).size = bytesOf ⟨#[39]⟩) = true := by
    intro h
    rw [decide_eq_true_eq]
    refine (htk1 39).2 ?_
    rw [hq34, decide_eq_false_iff_not] at h
    omega
  have hquote : text.extract at_ (at_ + 1) = one q := by
    apply bytesOf_inj
    rw [bytesOf_extract, List.drop_take, show at_ + 1 - at_ = 1 by omega, (htk1 _).2 rfl]
    rfl
  have hq1 : ((one q).toList == ([34] : List UInt8)) = b34 := by
    rw [hq34, Bool.eq_iff_iff, beq_iff_eq, decide_eq_true_eq]
    have := toList_eq_iff (one q) ⟨#[34]⟩
    rw [toList_data' ⟨#[34]⟩] at this
    rw [this, one_bytes]
    constructor
    · intro h; exact (List.cons.inj h).1
    · intro h; rw [h]; rfl
  obtain ⟨lines, hlines⟩ : ∃ lines, lines = decide (3 ≤ lead (q.toNat : Int) ((bytesOf text).drop at_)) := ⟨_, rfl⟩
  have d3 : decide (((bytesOf text).drop at_).take (⟨#[q, q, q]⟩ : ByteArray).size = bytesOf (⟨#[q, q, q]⟩ : ByteArray)) = lines := by
    rw [hlines, rep_bytes3, decide_eq_decide]
    exact lead_take _ _ 3
  have hT : tstr (bytesOf text) at_ = if lines = true then tbody (bytesOf text) (q.toNat : Int) true (text.size + 1) (at_ + 3 + tskip ((bytesOf text).drop (at_ + 3))) [] else tbody (bytesOf text) (q.toNat : Int) false (text.size + 1) (at_ + 1) [] := by
    unfold tstr
    rw [hq, hlines, size_of]
    simp only [decide_eq_true_eq]
  have hl3 : lines = true → at_ + 3 ≤ text.size := by
    intro h
    rw [hlines, decide_eq_true_eq] at h
    have := lead_le (q.toNat : Int) ((bytesOf text).drop at_)
    rw [List.length_drop, size_of] at this
    omega
  rw [hT] at hres
  have hLN : lines = true := by rw [hlines]; exact decide_eq_true hln
  clear hT htk1 hlines
  have HRES := Lib.hid hres
  clear hres
  have p0 := eq_true (show (0 : Int) ≤ (at_ : Int) by omega)
  have p1 := eq_true (show (at_ : Int) ≤ (at_ : Int) + 1 by omega)
  have p2 := eq_true (show (at_ : Int) + 1 ≤ (text.size : Int) by omega)
  go_enter Tryd.func17, Tryd.ntmps17
  go_wp2_with fail
  refine (rstart text at_ w).mono ?_
  rintro e w1 ⟨g, rfl, hR, hB⟩
  rw [show mn (mx (at_ : Int) 0) (text.size : Int) = (at_ : Int) by unfold mn mx; (repeat' split) <;> omega] at hR
  go_wp2_with fail
  refine (rbegins ⟨#[34]⟩ hR (by omega) (by omega)).mono ?_
  rintro e w2 ⟨rfl, n2, rfl⟩
  rw [show (at_ : Int).toNat = at_ by omega, dA]
  replace hR := hR.drewN n2
  replace hB := pw_below_drewN hB n2
  generalize w1.drewN n2 = w1 at hR hB
  have H34 : ¬ (q.toNat : Int) = 34 := hq34'
  obtain rfl : b34 = false := by rw [hq34, decide_eq_false hq34']
  have dB' := dB rfl
  clear dB dA hq34
  go_wp2_with fail
  refine (rbegins ⟨#[39]⟩ hR (by omega) (by omega)).mono ?_
  rintro e w2 ⟨rfl, n2, rfl⟩
  rw [show (at_ : Int).toNat = at_ by omega, dB']
  replace hR := hR.drewN n2
  replace hB := pw_below_drewN hB n2
  generalize w1.drewN n2 = w1 at hR hB
  clear dB'
  subst hLN
  have hsl : ∀ W : World, (Instr.slice 9 (.string text) (some (.int .i64 (at_ : Int))) (some (.int .i64 ((at_ : Int) + 1))) none).run Tryd.prog W = .ok (.string (one q)) W := by
    intro W
    have := run_slice_string (P := Tryd.prog) W 9 text .i64 .i64 (at_ : Int) ((at_ : Int) + 1) Tryd.underlying9 (by omega) (by omega) (by omega)
    rw [this, ← hquote]
    rfl
  go_wp2_with fail
  refine (repeat3 q _).mono ?_
  rintro e w2 ⟨rfl, hb2⟩
  replace hR := hR.below hb2
  have hlw := hB.size
  replace hB := hB.trans (hb2.mono hlw)
  clear hb2 hlw hsl hquote
  generalize w2 = w1 at hR hB
  go_wp2_with fail
  refine (rbegins ⟨#[q, q, q]⟩ hR (by omega) (by omega)).mono ?_
  rintro e w2 ⟨rfl, n2, rfl⟩
  rw [show (at_ : Int).toNat = at_ by omega, d3]
  replace hR := hR.drewN n2
  replace hB := pw_below_drewN hB n2
  generalize w1.drewN n2 = w1 at hR hB
  have HRES0 := HRES.out
  clear HRES
  rw [if_pos trivial] at HRES0
  have hl4 := hl3 trivial
  obtain ⟨F, hF⟩ : ∃ F, F = tbody (bytesOf text) (q.toNat : Int) true := ⟨_, rfl⟩
  rw [← hF] at HRES0
  have HRES := Lib.hid HRES0
  clear HRES0
  obtain ⟨A, c, c0, c1, c2, f1, f2, hlt2, hc, hC⟩ := hR.open_
  have hlow := hR.low
  have hM := hR.moved ((at_ : Int) + 1)
  go_wp2_with fail
  generalize w1.setCell ⟨g, 1, none⟩ (.int .i64 ((at_ : Int) + 1)) = w4 at hM
  clear c0 c1 c2 f1 f2 hC hR
  obtain ⟨hR, hB4⟩ := hM
  replace hB := hB.trans hB4
  clear hB4
  generalize w4 = w1 at hR hB
  obtain ⟨A, c, c0, c1, c2, f1, f2, hlt2, hc, hC⟩ := hR.open_
  have hlow := hR.low
  have hM := hR.moved ((at_ : Int) + 1 + 2)
  go_wp2_with fail
  generalize w1.setCell ⟨g, 1, none⟩ (.int .i64 ((at_ : Int) + 1 + 2)) = w4 at hM
  clear c0 c1 c2 f1 f2 hC hR
  obtain ⟨hR, hB4⟩ := hM
  replace hB := hB.trans hB4
  clear hB4
  generalize w4 = w1 at hR hB
  rw [show (at_ : Int) + 1 + 2 = ((at_ + 3 : Nat) : Int) by omega] at hR
  unfold tskip at HRES
  have dc : decide (((bytesOf text).drop (at_ + 3)).take (⟨#[13, 10]⟩ : ByteArray).size = bytesOf ⟨#[13, 10]⟩) = false := decide_eq_false hcr
  rw [if_neg hcr] at HRES
  go_wp2_with fail
  refine (rbegins ⟨#[13, 10]⟩ hR (by omega) (by omega)).mono ?_
  rintro e w2 ⟨rfl, n2, rfl⟩
  rw [show (((at_ + 3 : Nat) : Int)).toNat = at_ + 3 by omega, dc]
  replace hR := hR.drewN n2
  replace hB := pw_below_drewN hB n2
  generalize w1.drewN n2 = w1 at hR hB
  have dn : decide (((bytesOf text).drop (at_ + 3)).take (⟨#[10]⟩ : ByteArray).size = bytesOf ⟨#[10]⟩) = true := decide_eq_true hcn
  have hlen2 : at_ + 4 ≤ text.size := by
    have := congrArg List.length hcn
    rw [List.length_take, List.length_drop, size_of] at this
    simp at this
    omega
  rw [if_pos hcn] at HRES
  go_wp2_with fail
  refine (rbegins ⟨#[10]⟩ hR (by omega) (by omega)).mono ?_
  rintro e w2 ⟨rfl, n2, rfl⟩
  rw [show (((at_ + 3 : Nat) : Int)).toNat = at_ + 3 by omega, dn]
  replace hR := hR.drewN n2
  replace hB := pw_below_drewN hB n2
  generalize w1.drewN n2 = w1 at hR hB
  obtain ⟨A, c, c0, c1, c2, f1, f2, hlt2, hc, hC⟩ := hR.open_
  have hlow := hR.low
  have hM := hR.moved ((at_ : Int) + 3 + 1)
  go_wp2_with fail
  generalize w1.setCell ⟨g, 1, none⟩ (.int .i64 ((at_ : Int) + 3 + 1)) = w4 at hM
  clear c0 c1 c2 f1 f2 hC hR
  obtain ⟨hR, hB4⟩ := hM
  replace hB := hB.trans hB4
  clear hB4
  generalize w4 = w1 at hR hB
  rw [show (at_ : Int) + 3 + 1 = ((at_ + 3 + 1 : Nat) : Int) by omega] at hR
  go_loopg [] (text.size + 1) (fun k wr => TInv w text g F res k wr)
  case atStart => exact ⟨_, [], hR, hB, HRES.out, by omega, by omega, by simp⟩
  case round =>
    clear hR hB HRES hl3 d3
    obtain ⟨i, bs, hR, hB, hj, hi, hk, hl⟩ := hrel
    cases gk with
    | zero => omega
    | succ k =>
      have hlow := hR.low
      obtain ⟨A, c, c0, c1, c2, f1, f2, hlt2, hc, hC⟩ := hR.open_
      rw [hF, tbody, ← hF] at hj
      by_cases hlt : i < text.size
      · rw [if_neg (by rw [size_of]; omega)] at hj
        have hdl : ((bytesOf text).drop i).length = text.size - i := by rw [List.length_drop, size_of]
        have e1 : decide ((i : Int) < (text.size : Int)) = true := decide_eq_true (by omega)
        go_wp2_with fail
        refine (rended _ q hR (by omega) hlt (by omega)).mono ?_
        rintro e w5 ⟨rfl, hR5, hB5⟩
        have hB6 := hB.trans hB5
        clear c0 c1 c2 f1 f2 hC hB hB5
        cases htend : tend true (q.toNat : Int) ((bytesOf text).drop i) with
        | some p =>
          rw [htend] at hj hR5
          have hr := Lib.hid hj
          clear hj
          replace hR5 : Rdr w.heap.size w5 g text ((i : Int) + p.2) (bs ++ p.1) := hR5
          obtain ⟨A5, c5, d0, d1, d2, e1', e2, _, _, hC5⟩ := hR5.open_
          have kc := fun n => Kd.C_string (P := Tryd.prog) (w := w5.drewN n) (c := c5) Tryd.underlying46 Tryd.underlying5 Tryd.underlying9 hC5
          have kc0 := Kd.C_string (P := Tryd.prog) (w := w5) (c := c5) Tryd.underlying46 Tryd.underlying5 Tryd.underlying9 hC5
          rw [List.length_append] at kc0 d2
          simp only [List.length_append] at kc
          go_wp2
          repeat (go_quiet (fail); try go_wp2)
          go_ret3
          exact ⟨by rw [← hr.out]; first | rfl | (unfold unqRes; simp), by first | exact hB6 | exact pw_below_drewN hB6 _⟩
        | none =>
          rw [htend] at hj hR5
          replace hR5 : Rdr w.heap.size w5 g text (i : Int) bs := hR5
          have hlow5 := hR5.low
          obtain ⟨A5, c5, d0, d1, d2, e1', e2, hlt5, _, hC5⟩ := hR5.open_
          have p1 := eq_true (show (0 : Int) ≤ (i : Int) by omega)
          have q1 := eq_true (show (i : Int) < (text.size : Int) by omega)
          have q2 := eq_true (show (i : Int).toNat < text.size by omega)
          have q3 := eq_true hlt
          have hx1 : ∀ h : i < text.size, ((text[i]'h).toNat : Int) = bt text (i : Int) := fun h => bt_at text (i : Int) (by omega)
          have hbt : ((bytesOf text).drop i).getD 0 0 = bt text (i : Int) := by
            rw [bt_get]
            simp [List.getD_eq_getElem?_getD, List.getElem?_drop]
          unfold titem at hj
          rw [hbt] at hj
          have hpl := fun p h => tplain_len (lines := true) (p := p) ((bytes_of text).drop i) (by omega) h
          have htl := fun p h => tesc_len (lines := true) (l := (bytesOf text).drop i) (p := p) (by omega) h
          rw [hdl] at hpl htl
          clear hbt hdl htend
          generalize bt text (i : Int) = b at hj hx1
          have HJ := Lib.hid hj
          clear hj
          have HPL := Lib.hid hpl
          have HTL := Lib.hid htl
          clear hpl htl
          by_cases h92 : b = 92
          · have t92 : (b == 92) = true := beq_iff_eq.2 h92
            clear h92
            have HJ := Lib.hid (show _ from (by have h := HJ.out; rw [if_neg (show ¬ (b = 92 ∧ (q.toNat : Int) = 34) from fun h => H34 h.2)] at h; exact h))
            go_wp2_with fail
            refine (rplain true hR5 (by omega) hlt (by omega)).mono ?_
            rintro e w7 ⟨rfl, hR7, hB7⟩
            have hB8 := hB6.trans hB7
            clear d0 d1 d2 e1' e2 hC5 hR5 hB6 hB7
            cases hp : tplain true ((bytesOf text).drop i) with
            | none =>
              rw [hp] at hR7 HJ
              have hr := Lib.hid HJ.out
              clear HJ
              obtain ⟨bs7, hR7⟩ := hR7
              obtain ⟨A7, c7, m0, m1, m2, m3, m4, _, _, _⟩ := hR7.open_
              go_wp2
              repeat (go_quiet (fail); try go_wp2)
              go_ret3
              exact ⟨by rw [← hr.out]; rfl, by first | exact hB8 | exact pw_below_drewN hB8 _⟩
            | some pp =>
              rw [hp] at hR7 HJ
              have hr := Lib.hid HJ.out
              clear HJ
              have hR8 : Rdr w.heap.size w7 g text ((i : Int) + pp.2) (bs ++ pp.1) := hR7
              have hpp := HPL.out pp hp
              clear HPL HTL hp hR7
              go_wp2
              go_roundg k
              case rel => exact ⟨i + pp.2, bs ++ pp.1, by rw [Int.natCast_add]; exact hR8, hB8, hr.out, by omega, by omega, by rw [List.length_append]; omega⟩
              case measure => omega
          · have t92 : (b == 92) = false := beq_eq_false_iff_ne.2 h92
            clear h92
            have HJ := Lib.hid (show _ from (by have h := HJ.out; rw [if_neg (show ¬ (b = 92 ∧ (q.toNat : Int) = 34) from fun h => H34 h.2)] at h; exact h))
            go_wp2_with fail
            refine (rplain true hR5 (by omega) hlt (by omega)).mono ?_
            rintro e w7 ⟨rfl, hR7, hB7⟩
            have hB8 := hB6.trans hB7
            clear d0 d1 d2 e1' e2 hC5 hR5 hB6 hB7
            cases hp : tplain true ((bytesOf text).drop i) with
            | none =>
              rw [hp] at hR7 HJ
              have hr := Lib.hid HJ.out
              clear HJ
              obtain ⟨bs7, hR7⟩ := hR7
              obtain ⟨A7, c7, m0, m1, m2, m3, m4, _, _, _⟩ := hR7.open_
              go_wp2
              repeat (go_quiet (fail); try go_wp2)
              go_ret3
              exact ⟨by rw [← hr.out]; rfl, by first | exact hB8 | exact pw_below_drewN hB8 _⟩
            | some pp =>
              rw [hp] at hR7 HJ
              have hr := Lib.hid HJ.out
              clear HJ
              have hR8 : Rdr w.heap.size w7 g text ((i : Int) + pp.2) (bs ++ pp.1) := hR7
              have hpp := HPL.out pp hp
              clear HPL HTL hp hR7
              go_wp2
              go_roundg k
              case rel => exact ⟨i + pp.2, bs ++ pp.1, by rw [Int.natCast_add]; exact hR8, hB8, hr.out, by omega, by omega, by rw [List.length_append]; omega⟩
              case measure => omega
      · obtain rfl : i = text.size := by omega
        rw [if_pos (by rw [size_of]; omega), size_of] at hj
        obtain rfl := hj
        have e1 : decide ((text.size : Int) < (text.size : Int)) = false := decide_eq_false (by omega)
        go_wp2
        repeat (go_quiet (fail); try go_wp2)
        go_ret3
        exact ⟨rfl, hB⟩
set_option maxRecDepth 100000 in
set_option maxHeartbeats 8000000 in
/-- It is no string at all. -/
theorem tunq_not (text : ByteArray) (at_ : Nat) (hq : text.size ≤ at_ ∨ ((bytesOf text).getD at_ 0 ≠ 34 ∧ (bytesOf text).getD at_ 0 ≠ 39)) (w : World) :
    Calls Tryd.prog 17 #[.string text, .int .i64 at_] w fun e w' => e = .returned (.tuple #[.string ⟨#[]⟩, .int .i64 0, .int .i64 ((min at_ text.size : Nat) : Int)]) ∧ Below w.heap.size w w' := by
  have g1 : decide ((at_ : Int) < 0) = false := decide_eq_false (by omega)
  have hm : mn (mx (at_ : Int) 0) (text.size : Int) = ((min at_ text.size : Nat) : Int) := by unfold mn mx; (repeat' split) <;> omega
  have hne : ∀ c : Int, (c = 34 ∨ c = 39) → ((bytesOf text).drop (min at_ text.size)).take 1 ≠ [c] := by
    intro c hc h
    by_cases hlt : at_ < text.size
    · rw [show min at_ text.size = at_ by omega, take_one_drop (by rw [size_of]; exact hlt)] at h
      have h' := (List.cons.inj h).1
      rcases hq with hq | ⟨q1, q2⟩
      · omega
      · rcases hc with rfl | rfl
        · exact q1 h'
        · exact q2 h'
    · rw [show min at_ text.size = text.size by omega, List.drop_eq_nil_of_le (by rw [size_of]; omega)] at h
      cases h
  have dA : decide (((bytesOf text).drop (min at_ text.size)).take (⟨#[34]⟩ : ByteArray).size = bytesOf ⟨#[34]⟩) = false := decide_eq_false (hne 34 (.inl rfl))
  have dB : decide (((bytesOf text).drop (min at_ text.size)).take (⟨#[39]⟩ : ByteArray).size = bytesOf ⟨#[39]⟩) = false := decide_eq_false (hne 39 (.inr rfl))
  have hml : min at_ text.size ≤ text.size := by omega
  clear hne hq
  generalize min at_ text.size = m at hm dA dB hml
  go_enter Tryd.func17, Tryd.ntmps17
  go_wp2_with fail
  refine (rstart text at_ w).mono ?_
  rintro e w1 ⟨g, rfl, hR, hB⟩
  rw [hm] at hR
  go_wp2_with fail
  refine (rbegins ⟨#[34]⟩ hR (by omega) (by omega)).mono ?_
  rintro e w2 ⟨rfl, n2, rfl⟩
  rw [show (m : Int).toNat = m by omega, dA]
  replace hR := hR.drewN n2
  replace hB := pw_below_drewN hB n2
  generalize w1.drewN n2 = w1 at hR hB
  go_wp2_with fail
  refine (rbegins ⟨#[39]⟩ hR (by omega) (by omega)).mono ?_
  rintro e w2 ⟨rfl, n3, rfl⟩
  rw [show (m : Int).toNat = m by omega, dB]
  replace hR := hR.drewN n3
  replace hB := pw_below_drewN hB n3
  generalize w1.drewN n3 = w1 at hR hB
  obtain ⟨A, c, c0, c1, c2, f1, f2, hlt2, hc, hC⟩ := hR.open_
  go_wp2
  repeat (go_quiet (fail); try go_wp2)
  go_ret3
  exact ⟨rfl, by first | exact hB | exact pw_below_drewN hB _⟩
/-- The strings that this claim's proof speaks of. -/
def tdom (L : List Int) (i : Nat) : Prop := L.length ≤ i ∨ (L.getD i 0 ≠ 34 ∧ L.getD i 0 ≠ 39) ∨ (L.getD i 0 = 34 ∧ ¬ 3 ≤ lead 34 (L.drop i)) ∨
  (L.getD i 0 = 34 ∧ 3 ≤ lead 34 (L.drop i) ∧ ¬ (L.drop (i + 3)).take 2 = [13, 10] ∧ ¬ (L.drop (i + 3)).take 1 = [10]) ∨
  (L.getD i 0 = 39 ∧ 3 ≤ lead 39 (L.drop i) ∧ ¬ (L.drop (i + 3)).take 2 = [13, 10] ∧ (L.drop (i + 3)).take 1 = [10])
instance (L : List Int) (i : Nat) : Decidable (tdom L i) := by unfold tdom; infer_instance
/-- What TUnquote answers. -/
def tunqT (L : List Int) (i : Nat) : ByteArray × Int × Int :=
  if L.length ≤ i ∨ (L.getD i 0 ≠ 34 ∧ L.getD i 0 ≠ 39) then (⟨#[]⟩, 0, ((min i L.length : Nat) : Int))
  else (if (tstr L i).1 then strOfNums (tstr L i).2.1 else ⟨#[]⟩, (if (tstr L i).1 then ((tstr L i).2.2 : Int) else 0), (if (tstr L i).1 then -1 else ((tstr L i).2.2 : Int)))
def esc_TUnquote.f (a0 : ByteArray) (a1 : Int) : Option (ByteArray × Int × Int) := if 0 ≤ a1 ∧ a0.size ≤ 17592186044416 ∧ tdom (bytesOf a0) a1.toNat then some (tunqT (bytesOf a0) a1.toNat) else none
theorem esc_TUnquote.calls (a0 : ByteArray) (a1 : Int) (r1 : ByteArray) (r2 : Int) (r3 : Int) (w : World) (h : esc_TUnquote.f a0 a1 = some (r1, r2, r3)) :
    Calls Tryd.prog 17 #[.string a0, .int .i64 a1] w fun e w' => e = .returned (.tuple #[.string r1, .int .i64 r2, .int .i64 r3]) ∧ Below w.heap.size w w' := by
  unfold esc_TUnquote.f at h
  split at h
  · rename_i hc
    obtain ⟨h0, hs, hd⟩ := hc
    obtain ⟨i, rfl⟩ := Int.eq_ofNat_of_zero_le h0
    rw [Int.toNat_natCast] at hd h
    have h := Option.some.inj h
    unfold tunqT at h
    split at h
    · rename_i hq
      obtain ⟨e1, h⟩ := Prod.mk.inj h
      obtain ⟨e2, e3⟩ := Prod.mk.inj h
      subst e1
      subst e2
      subst e3
      rw [size_of] at hq ⊢
      exact tunq_not a0 i hq w
    · rename_i hq
      obtain ⟨e1, h⟩ := Prod.mk.inj h
      obtain ⟨e2, e3⟩ := Prod.mk.inj h
      subst e1
      subst e2
      subst e3
      have hlt : i < a0.size := by
        rcases Nat.lt_or_ge i a0.size with h | h
        · exact h
        · exact absurd (.inl (by rw [size_of]; exact h)) hq
      have hq2 : (bytesOf a0).getD i 0 = 34 ∨ (bytesOf a0).getD i 0 = 39 := by
        rcases Classical.em ((bytesOf a0).getD i 0 = 34) with h | h
        · exact .inl h
        · rcases Classical.em ((bytesOf a0).getD i 0 = 39) with h' | h'
          · exact .inr h'
          · exact absurd (.inr ⟨h, h'⟩) hq
      rcases hd with hd | hd | ⟨d1, d2⟩ | ⟨d1, d2, d3, d4⟩ | ⟨d1, d2, d3, d4⟩
      · exact absurd (.inl hd) hq
      · exact absurd (.inr hd) hq
      · exact tunq_A a0 i 34 true (by decide) hs d1 (.inl rfl) hlt rfl d2 w
      · exact tunq_B a0 i 34 true (by decide) hs d1 (.inl rfl) hlt rfl d2 d3 d4 w
      · exact tunq_C a0 i 39 false (by decide) hs d1 (.inr rfl) hlt (by decide) d2 d3 d4 w
  · cases h
end Go.Proofs.YtoanbmggffkmgaaDoor.P
end
section
namespace Go.Proofs.YtoanbmggffkmgaaDoor.La
/-- A byte that may stand in a bare key. -/
def bareB (b : Int) : Bool := (decide (97 ≤ b) && decide (b ≤ 122)) || ((decide (65 ≤ b) && decide (b ≤ 90)) || ((decide (48 ≤ b) && decide (b ≤ 57)) || (decide (b = 95) || decide (b = 45))))
def bareS (l : List Int) : Bool := decide (l ≠ []) && l.all bareB
end Go.Proofs.YtoanbmggffkmgaaDoor.La
namespace Go.Proofs.YtoanbmggffkmgaaDoor.P
open Go.RowKit Go.Proofs.YtoanbmggffkmgaaDoor.La Go.Proofs.YtoanbmggffkmgaaDoorW.PrintWords Go.Proofs.YtoanbmggffkmgaaDoorW.PrintLast Go.Proofs.YtoanbmggffkmgaaDoorW.PrintMore
theorem all_drop {l : List Int} {k : Nat} (hk : k < l.length) (p : Int → Bool) : (l.drop k).all p = (p (l.getD k 0) && (l.drop (k + 1)).all p) := by
  rw [List.drop_eq_getElem_cons hk, List.all_cons, List.getD_eq_getElem?_getD, List.getElem?_eq_getElem hk]
  rfl
def BareRel (s : ByteArray) (r : Bool) (i : Value) : Prop := ∃ k : Nat, k ≤ s.size ∧ i = .int .i64 k ∧ r = ((bytesOf s).drop k).all bareB
set_option maxRecDepth 100000 in
set_option maxHeartbeats 4000000 in
theorem bare_walk (s : ByteArray) (h1 : 1 ≤ s.size) (h8 : s.size ≤ 140737488355328) (w : World) :
    Calls Tryd.prog 22 #[.string s] w fun e w' => e = .returned (.bool ((bytesOf s).all bareB)) ∧ Below w.heap.size w w' := by
  have kb := print_bytes (P := Tryd.prog) 9 46 5 Tryd.underlying9 Tryd.underlying46 Tryd.underlying5 s w
  have hr := bytes_reads w 5 s (by omega)
  have hb := bytes_below (Below.refl w.heap.size w) (Nat.le_refl _) 5 s
  generalize Lib.bytesWorld w 5 s = W1 at kb hr hb
  generalize grownCap w s.size 0 5 = cp at kb
  have hne : s.toList.isEmpty = false := by
    cases hl : s.toList with
    | nil =>
      have := (toList_nil_iff s).1 hl
      have h2 := size_of s
      rw [this] at h2
      simp at h2
      omega
    | cons a t => rfl
  generalize hres : (bytesOf s).all bareB = res
  have HR := Lib.hid hres
  clear hres
  go_enter Tryd.func22, Tryd.ntmps22
  go_wp2_with fail
  go_loop [8] (BareRel s res) (fun i => s.size - (intOf i).toNat)
  case atStart => exact ⟨0, Nat.zero_le _, rfl, by rw [List.drop_zero]; exact HR.out.symm⟩
  case round =>
    obtain ⟨k, hk, rfl, hx⟩ := hrel
    have HX := Lib.hid hx
    clear hx
    by_cases hlt : k < s.size
    · have hc : W1.cell? ⟨w.heap.size, k, none⟩ = some (.int .u8 (bt s k)) := by
        obtain ⟨ad, e, h⟩ := hr.2.2 (by omega)
        obtain rfl := Option.some.inj e
        have := h k hlt
        rw [add_plain] at this
        rw [this, bt_get]
        rfl
      have hbr := bt_range s k
      have hbt : bt s (k : Int) = (bytesOf s).getD k 0 := by rw [bt_get]; rfl
      have HB := Lib.hid (show res = (bareB (bt s (k : Int)) && ((bytesOf s).drop (k + 1)).all bareB) by rw [HX.out, all_drop (by rw [size_of]; exact hlt), hbt])
      clear hbt HX
      generalize bt s (k : Int) = b at hc hbr HB
      by_cases hbare : bareB b = true
      · have HN := Lib.hid (show res = ((bytesOf s).drop (k + 1)).all bareB by rw [HB.out, hbare, Bool.true_and])
        have cases4 : (97 ≤ b ∧ b ≤ 122) ∨ (65 ≤ b ∧ b ≤ 90) ∨ (48 ≤ b ∧ b ≤ 57) ∨ b = 95 ∨ b = 45 := by
          unfold bareB at hbare
          simp at hbare
          omega
        clear HB hbare
        rcases cases4 with ⟨c1, c2⟩ | ⟨c1, c2⟩ | ⟨c1, c2⟩ | rfl | rfl
        all_goals
          go_wp2
          go_round
          case rel => exact ⟨k + 1, hlt, by go_num, HN.out⟩
          case measure => simp [intOf]; omega
      · have HN := Lib.hid (show res = false by rw [HB.out, Bool.eq_false_iff.2 hbare, Bool.false_and])
        have cases7 : b < 45 ∨ b = 46 ∨ b = 47 ∨ (58 ≤ b ∧ b < 65) ∨ (91 ≤ b ∧ b < 95) ∨ b = 96 ∨ 123 ≤ b := by
          unfold bareB at hbare
          simp at hbare
          omega
        have e95 : (b == 95) = false := beq_eq_false_iff_ne.2 (by omega)
        have e45 : (b == 45) = false := beq_eq_false_iff_ne.2 (by omega)
        clear HB hbare
        rcases cases7 with c1 | rfl | rfl | ⟨c1, c2⟩ | ⟨c1, c2⟩ | rfl | c1
        all_goals
          (try have d57 : decide (b ≤ 57) = false := decide_eq_false (by omega))
          (try have d90 : decide (b ≤ 90) = false := decide_eq_false (by omega))
          (try have d122 : decide (b ≤ 122) = false := decide_eq_false (by omega))
          go_wp2
          go_ret
          exact ⟨by rw [HN.out]; rfl, hb⟩
    · obtain rfl : k = s.size := by omega
      have HN := Lib.hid (show res = true by rw [HX.out, List.drop_eq_nil_of_le (by rw [size_of]; omega)]; rfl)
      clear HX
      go_wp2
      go_ret
      exact ⟨by rw [HN.out]; rfl, hb⟩
def esc_Bare.f (a0 : ByteArray) : Option Bool := if a0.size ≤ 140737488355328 then some (bareS (bytesOf a0)) else none
theorem esc_Bare.calls (a0 : ByteArray) (r : Bool) (w : World) (h : esc_Bare.f a0 = some r) :
    Calls Tryd.prog 22 #[.string a0] w fun e w' => e = .returned (.bool r) ∧ Below w.heap.size w w' := by
  unfold esc_Bare.f at h
  split at h
  · rename_i hs
    obtain rfl := Option.some.inj h
    by_cases h0 : a0.size = 0
    · obtain rfl : a0 = ⟨#[]⟩ := bytesOf_inj (List.length_eq_zero_iff.1 (by rw [size_of]; exact h0))
      have kb := print_bytes (P := Tryd.prog) 9 46 5 Tryd.underlying9 Tryd.underlying46 Tryd.underlying5 ⟨#[]⟩ w
      have hb := bytes_below (Below.refl w.heap.size w) (Nat.le_refl _) 5 ⟨#[]⟩
      generalize Lib.bytesWorld w 5 ⟨#[]⟩ = W1 at kb hb
      generalize grownCap w (⟨#[]⟩ : ByteArray).size 0 5 = cp at kb
      go_enter Tryd.func22, Tryd.ntmps22
      go_wp2_with fail
      go_loop [8] (fun i => i = .int .i64 0) (fun _ => 0)
      case atStart => rfl
      case round =>
        obtain rfl := hrel
        go_wp2
        go_ret
        exact ⟨rfl, hb⟩
    · refine (bare_walk a0 (by omega) hs w).mono ?_
      rintro e w' ⟨rfl, hb⟩
      refine ⟨?_, hb⟩
      unfold bareS
      rw [decide_eq_true (show bytesOf a0 ≠ [] from fun e => h0 (by rw [← size_of, e]; rfl)), Bool.true_and]
  · cases h
end Go.Proofs.YtoanbmggffkmgaaDoor.P
end
section
namespace Go.Proofs.YtoanbmggffkmgaaDoor.P
open Go.RowKit Go.Proofs.YtoanbmggffkmgaaDoor.La Go.Proofs.YtoanbmggffkmgaaDoorW.PrintWords Go.Proofs.YtoanbmggffkmgaaDoorW.PrintLast Go.Proofs.YtoanbmggffkmgaaDoorW.PrintMore
theorem awake6_1 : esc_Unquote.f (⟨#[34, 92, 117, 48, 48, 52, 49, 34]⟩ : ByteArray) 0 = some (⟨#[65]⟩, 8, -1) := by kernel_rfl
theorem awake6_2 : esc_TUnquote.f (⟨#[39, 39, 39, 10, 97, 39, 98, 39, 39, 39]⟩ : ByteArray) 0 = some (⟨#[97, 39, 98]⟩, 10, -1) := by kernel_rfl
theorem awake6_3 : esc_Hex.f (⟨#[49, 70]⟩ : ByteArray) = some (31, true) := by kernel_rfl
theorem awake6_4 : esc_Quote.f 30 (⟨#[97, 10, 98]⟩ : ByteArray) = some ⟨#[34, 97, 92, 110, 98, 34]⟩ := by kernel_rfl
theorem awake6_5 : esc_TQuote.f 30 (⟨#[127]⟩ : ByteArray) = some ⟨#[34, 92, 117, 48, 48, 55, 102, 34]⟩ := by kernel_rfl
theorem awake6_6 : esc_Bare.f (⟨#[97, 45, 49]⟩ : ByteArray) = some true := by kernel_rfl
theorem awake6_7 : esc_Bare.f (⟨#[]⟩ : ByteArray) = some false := by kernel_rfl
set_option maxHeartbeats 4000000 in
theorem awake6_walk (w : World) : Calls Tryd.prog 15 #[] w fun e w' => e = .returned (.bool true) ∧ Below w.heap.size w w' := by
  go_enter Tryd.func15, Tryd.ntmps15
  go_wp2_with fail
  refine (esc_Unquote.calls _ _ _ _ _ _ awake6_1).mono ?_
  rintro e w1 ⟨rfl, hb⟩
  go_wp2_with fail
  refine (esc_TUnquote.calls _ _ _ _ _ _ awake6_2).mono ?_
  rintro e w2 ⟨rfl, hb2⟩
  replace hb := below_step hb hb2
  go_wp2_with fail
  refine (esc_Hex.calls _ _ _ _ awake6_3).mono ?_
  rintro e w3 ⟨rfl, hb3⟩
  replace hb := below_step hb hb3
  go_wp2_with fail
  refine (esc_Quote.calls 30 _ _ _ awake6_4).mono ?_
  rintro e w4 ⟨rfl, hb4⟩
  replace hb := below_step hb hb4
  go_wp2_with fail
  refine (esc_TQuote.calls 30 _ _ _ awake6_5).mono ?_
  rintro e w5 ⟨rfl, hb5⟩
  replace hb := below_step hb hb5
  go_wp2_with fail
  refine (esc_Bare.calls _ _ _ awake6_6).mono ?_
  rintro e w6 ⟨rfl, hb6⟩
  replace hb := below_step hb hb6
  go_wp2_with fail
  refine (esc_Bare.calls _ _ _ awake6_7).mono ?_
  rintro e w7 ⟨rfl, hb7⟩
  replace hb := below_step hb hb7
  go_wp2
  go_ret
  exact ⟨rfl, by first | exact hb | exact pw_below_drewN hb _⟩
def dragomanlaw6_awake.f : Option Bool := some true
theorem dragomanlaw6_awake.calls (r : Bool) (w : World) (h : dragomanlaw6_awake.f = some r) : Calls Tryd.prog 15 #[] w fun e w' => e = .returned (.bool r) ∧ Below w.heap.size w w' := by
  obtain rfl : true = r := Option.some.inj h
  exact awake6_walk w
end Go.Proofs.YtoanbmggffkmgaaDoor.P
end
section
namespace Go.Proofs.YtoanbmggffkmgaaDoor.P
open Go.RowKit Go.Proofs.YtoanbmggffkmgaaDoorW.PrintWords Go.Proofs.YtoanbmggffkmgaaDoorW.PrintLast Go.Proofs.YtoanbmggffkmgaaDoorW.PrintMore
attribute [local go_sem] max2_int min2_int max_two min_two max_three min_three max_four min_four   -- for this text's walks alone
theorem escw_wrap {n : Int} (h0 : -9223372036854775808 ≤ n) (h1 : n < 9223372036854775808) : wrap64 n = n := by unfold wrap64; omega
set_option linter.unusedVariables false
set_option linter.unusedSimpArgs false
/-! ### dragomanlaw6_EscWrites: function 6 -/
mutual
def dragomanlaw6_EscWrites.j0 : Nat → ByteArray → ByteArray → Bool → Option (Bool)
  | 0, _, _, _ => none
  | k + 1, x0, x1, x26 => if x26 = true then (some true) else ((esc_Quote.f k x0).bind fun t541 => ((esc_TQuote.f k x0).bind fun t542 => ((dragomanref5_Quote.f k x0 false).bind fun t543 => (if t541.toList = t543.toList then ((dragomanref5_Quote.f k x0 true).bind fun t544 => (if t542.toList = t544.toList then ((esc_Bare.f x0).bind fun t545 => ((dragomanref5_Bare.f k x0).bind fun t546 => (dragomanlaw6_EscWrites.j1 k x0 x1 t541 t542 (t545 != t546)))) else (dragomanlaw6_EscWrites.j1 k x0 x1 t541 t542 true))) else (dragomanlaw6_EscWrites.j1 k x0 x1 t541 t542 true)))))
def dragomanlaw6_EscWrites.j1 : Nat → ByteArray → ByteArray → ByteArray → ByteArray → Bool → Option (Bool)
  | 0, _, _, _, _, _ => none
  | k + 1, x0, x1, x5, x6, x47 => if x47 = true then (some false) else ((esc_Hex.f x0).bind fun bt547 => ((dragomanref5_Hex.f k x0).bind fun bt549 => (if (bt547.2 != bt549.2) = true then (dragomanlaw6_EscWrites.j2 k x0 x1 x5 x6 true) else (if bt547.2 = true then (dragomanlaw6_EscWrites.j2 k x0 x1 x5 x6 (bt547.1 != bt549.1)) else (dragomanlaw6_EscWrites.j2 k x0 x1 x5 x6 false)))))
def dragomanlaw6_EscWrites.j2 : Nat → ByteArray → ByteArray → ByteArray → ByteArray → Bool → Option (Bool)
  | 0, _, _, _, _, _ => none
  | k + 1, x0, x1, x5, x6, x68 => if x68 = true then (some false) else ((dragomanref1_Valid.f k x0).bind fun t551 => (if t551 ≥ 0 then (some true) else (if x1.size + x5.size ≤ 9223372036854775807 then (if (x1 ++ x5).size + x1.size ≤ 9223372036854775807 then ((esc_Unquote.f ((x1 ++ x5) ++ x1) (x1.size : Int)).bind fun bt552 => (if bt552.2.2 ≥ 0 then (dragomanlaw6_EscWrites.j3 k x0 x1 x6 true) else (if bt552.1.toList = x0.toList then (dragomanlaw6_EscWrites.j3 k x0 x1 x6 (bt552.2.1 != (wrap64 ((x1.size : Int) + (x5.size : Int))))) else (dragomanlaw6_EscWrites.j3 k x0 x1 x6 true)))) else (none)) else (none))))
def dragomanlaw6_EscWrites.j3 : Nat → ByteArray → ByteArray → ByteArray → Bool → Option (Bool)
  | 0, _, _, _, _ => none
  | k + 1, x0, x1, x6, x99 => if x99 = true then (some false) else (if x0.toList = ([] : List UInt8) then (if (x1.size : Int) > 0 then (if 0 < (x1.size : Int) then (if (bt x1 0) = 34 then (some true) else (if x1.size + x6.size ≤ 9223372036854775807 then (if (x1 ++ x6).size + x1.size ≤ 9223372036854775807 then ((esc_TUnquote.f ((x1 ++ x6) ++ x1) (x1.size : Int)).bind fun bt555 => (if bt555.2.2 = (-1) then (if bt555.1.toList = x0.toList then (some (bt555.2.1 == (wrap64 ((x1.size : Int) + (x6.size : Int))))) else (some false)) else (some false))) else (none)) else (none))) else (none)) else (if x1.size + x6.size ≤ 9223372036854775807 then (if (x1 ++ x6).size + x1.size ≤ 9223372036854775807 then ((esc_TUnquote.f ((x1 ++ x6) ++ x1) (x1.size : Int)).bind fun bt558 => (if bt558.2.2 = (-1) then (if bt558.1.toList = x0.toList then (some (bt558.2.1 == (wrap64 ((x1.size : Int) + (x6.size : Int))))) else (some false)) else (some false))) else (none)) else (none))) else (if x1.size + x6.size ≤ 9223372036854775807 then (if (x1 ++ x6).size + x1.size ≤ 9223372036854775807 then ((esc_TUnquote.f ((x1 ++ x6) ++ x1) (x1.size : Int)).bind fun bt561 => (if bt561.2.2 = (-1) then (if bt561.1.toList = x0.toList then (some (bt561.2.1 == (wrap64 ((x1.size : Int) + (x6.size : Int))))) else (some false)) else (some false))) else (none)) else (none)))
end
def dragomanlaw6_EscWrites.f (k : Nat) (a0 : ByteArray) (a1 : ByteArray) : Option (Bool) := (dragomanlaw6_awake.f).bind fun t540 => (if t540 = true then (if (a0.size : Int) > 400 then (dragomanlaw6_EscWrites.j0 k a0 a1 true) else (dragomanlaw6_EscWrites.j0 k a0 a1 (decide ((a1.size : Int) > 50)))) else (some false))
set_option maxHeartbeats 8000000 in
set_option maxRecDepth 100000 in
theorem dragomanlaw6_EscWrites.calls (k : Nat) (a0 : ByteArray) (a1 : ByteArray) (r : Bool) (w : World) (h : dragomanlaw6_EscWrites.f k a0 a1 = some r) :
    Calls Tryd.prog 6 #[.string a0, .string a1] w fun e w' => e = .returned (.bool r) ∧ Below w.heap.size w w' := by
  have HB := Aside0.mk (Below.refl w.heap.size w)
  have H : ((dragomanlaw6_awake.f).bind fun t540 => (if t540 = true then (if (a0.size : Int) > 400 then (dragomanlaw6_EscWrites.j0 k a0 a1 true) else (dragomanlaw6_EscWrites.j0 k a0 a1 (decide ((a1.size : Int) > 50)))) else (some false))) = some r := h
  clear h
  replace H := Option.bind_eq_some_iff.mp H
  obtain ⟨t540, A30, H⟩ := H
  replace H : (if t540 = true then (if (a0.size : Int) > 400 then (dragomanlaw6_EscWrites.j0 k a0 a1 true) else (dragomanlaw6_EscWrites.j0 k a0 a1 (decide ((a1.size : Int) > 50)))) else (some false)) = some r := H
  have A3 := Aside0.mk A30
  clear A30
  by_cases c4 : t540 = true
  · subst c4
    have H1 : (if (a0.size : Int) > 400 then (dragomanlaw6_EscWrites.j0 k a0 a1 true) else (dragomanlaw6_EscWrites.j0 k a0 a1 (decide ((a1.size : Int) > 50)))) = some r := by rw [if_pos rfl] at H; exact H
    clear H
    have H := H1
    clear H1
    have HC5 := Aside0.mk H
    clear H
    go_enter Tryd.func6, Tryd.ntmps6
    go_upto_region 3 with (first | ((with_reducible refine gate_callee (f := 15) rfl ?_); refine goesL_ (some 17) rfl rfl Tryd.func15 (by kernel_rfl) rfl #[] rfl (by (try simp only [List.map_toArray, List.map_cons, List.map_nil]); first | done | rfl | (simp only [List.length_drop, List.length_take]; rfl)) ?_; (with_reducible refine (dragomanlaw6_awake.calls  true _ A3.out).mono ?_); rintro e w6 ⟨rfl, hb⟩; refine ⟨_, rfl, ?_⟩; have n0_ := Aside0.mk (below_step (by repeat (first | (with_reducible first | exact HB.out | apply below_alloc | apply pw_below_drewN | apply below_drew1) | exact HB.out)) hb); clear HB; have HB := n0_; clear n0_; (try clear hb); (try clear hb2); (try clear hk); (try clear hi)))
    (try simp only [Act.put, List.setIfInBounds_toArray, List.set_cons_zero, List.set_cons_succ])
    go_cut [26] (fun v26 wc => ∃ (kq : Nat) (x26_4 : Bool), v26 = .bool x26_4 ∧ Aside0 (dragomanlaw6_EscWrites.j0 kq a0 a1 x26_4 = some r) ∧ Aside0 (kq ≤ k) ∧ Aside0 (Below w.heap.size w wc))
    case first =>
      have H := HC5.out
      clear HC5
      by_cases c7 : (a0.size : Int) > 400
      · rw [if_pos c7] at H
        have c7b0 : decide (400 < (a0.size : Int)) = true := decide_eq_true c7
        have c7b1 : decide (400 < a0.size) = true := decide_eq_true (by omega)
        clear c7
        (first | rw [c7b0] | (simp only [i64_w, i32_w]; rw [c7b0]) | skip)
        have H' := Aside0.mk H
        clear H
        go_wp2
        go_meet
        case rel => exact ⟨_, (true), (by first | rfl | (simp; done) | (simp [*]; done) | (rw [escw_wrap (by omega) (by omega)] <;> simp [*])), H', ⟨by first | omega | exact Nat.le_refl _⟩, ⟨by repeat (first | (with_reducible first | exact HB.out | apply below_alloc | apply pw_below_drewN | apply below_drew1) | exact HB.out)⟩⟩
      · rw [if_neg c7] at H
        have c7b0 : decide (400 < (a0.size : Int)) = false := decide_eq_false c7
        have c7b1 : decide (400 < a0.size) = false := decide_eq_false (by omega)
        clear c7
        (first | rw [c7b0] | (simp only [i64_w, i32_w]; rw [c7b0]) | skip)
        have H' := Aside0.mk H
        clear H
        go_wp2
        go_meet
        case rel => exact ⟨_, (decide ((a1.size : Int) > 50)), (by first | rfl | (simp; done) | (simp [*]; done) | (rw [escw_wrap (by omega) (by omega)] <;> simp [*])), H', ⟨by first | omega | exact Nat.le_refl _⟩, ⟨by repeat (first | (with_reducible first | exact HB.out | apply below_alloc | apply pw_below_drewN | apply below_drew1) | exact HB.out)⟩⟩
    case rest =>
      clear HC5
      try clear c1
      try clear p2
      try clear c4
      try clear c6
      try clear c7
      try clear c7b0
      try clear c7b1
      obtain ⟨kq, x26_4, rfl, HA, HJ4, HB⟩ := hcut
      cases kq with
      | zero => exact absurd HA.out (by simp [dragomanlaw6_EscWrites.j0])
      | succ kj4 =>
        have H := HA.out
        clear HA
        simp only [dragomanlaw6_EscWrites.j0] at H
        by_cases c8 : x26_4 = true
        · subst c8
          have H1 : (some true) = some r := by rw [if_pos rfl] at H; exact H
          clear H
          have H := H1
          clear H1
          obtain rfl := Option.some.inj H
          go_wp2
          go_ret
          exact ⟨by first | rfl | (simp [errW_none, errW_some] <;> rfl) | (simp [*, errW_none, errW_some, bne]; done) | (simp [*, errW_none, errW_some] <;> rfl) | (rw [escw_wrap (by omega) (by omega)] <;> simp [*, errW_none, errW_some]), by repeat (first | (with_reducible first | exact HB.out | apply below_alloc | apply pw_below_drewN | apply below_drew1) | exact HB.out)⟩
        · replace c8 := Bool.eq_false_iff.mpr c8
          subst c8
          have H1 : ((esc_Quote.f kj4 a0).bind fun t541 => ((esc_TQuote.f kj4 a0).bind fun t542 => ((dragomanref5_Quote.f kj4 a0 false).bind fun t543 => (if t541.toList = t543.toList then ((dragomanref5_Quote.f kj4 a0 true).bind fun t544 => (if t542.toList = t544.toList then ((esc_Bare.f a0).bind fun t545 => ((dragomanref5_Bare.f kj4 a0).bind fun t546 => (dragomanlaw6_EscWrites.j1 kj4 a0 a1 t541 t542 (t545 != t546)))) else (dragomanlaw6_EscWrites.j1 kj4 a0 a1 t541 t542 true))) else (dragomanlaw6_EscWrites.j1 kj4 a0 a1 t541 t542 true))))) = some r := by rw [if_neg (show ¬ (false = true) by decide)] at H; exact H
          clear H
          have H := H1
          clear H1
          replace H := Option.bind_eq_some_iff.mp H
          obtain ⟨t541, A90, H⟩ := H
          replace H : ((esc_TQuote.f kj4 a0).bind fun t542 => ((dragomanref5_Quote.f kj4 a0 false).bind fun t543 => (if t541.toList = t543.toList then ((dragomanref5_Quote.f kj4 a0 true).bind fun t544 => (if t542.toList = t544.toList then ((esc_Bare.f a0).bind fun t545 => ((dragomanref5_Bare.f kj4 a0).bind fun t546 => (dragomanlaw6_EscWrites.j1 kj4 a0 a1 t541 t542 (t545 != t546)))) else (dragomanlaw6_EscWrites.j1 kj4 a0 a1 t541 t542 true))) else (dragomanlaw6_EscWrites.j1 kj4 a0 a1 t541 t542 true)))) = some r := H
          have A9 := Aside0.mk A90
          clear A90
          replace H := Option.bind_eq_some_iff.mp H
          obtain ⟨t542, A100, H⟩ := H
          replace H : ((dragomanref5_Quote.f kj4 a0 false).bind fun t543 => (if t541.toList = t543.toList then ((dragomanref5_Quote.f kj4 a0 true).bind fun t544 => (if t542.toList = t544.toList then ((esc_Bare.f a0).bind fun t545 => ((dragomanref5_Bare.f kj4 a0).bind fun t546 => (dragomanlaw6_EscWrites.j1 kj4 a0 a1 t541 t542 (t545 != t546)))) else (dragomanlaw6_EscWrites.j1 kj4 a0 a1 t541 t542 true))) else (dragomanlaw6_EscWrites.j1 kj4 a0 a1 t541 t542 true))) = some r := H
          have A10 := Aside0.mk A100
          clear A100
          have HC11 := Aside0.mk H
          clear H
          go_upto_region 6 with (first | ((with_reducible refine gate_callee (f := 19) rfl ?_); refine goesL_ (some 28) rfl rfl Tryd.func19 (by kernel_rfl) rfl #[.string a0] rfl (by (try simp only [List.map_toArray, List.map_cons, List.map_nil]); first | done | rfl | (simp only [List.length_drop, List.length_take]; rfl)) ?_; (with_reducible refine (esc_Quote.calls kj4 a0 t541 _ A9.out).mono ?_); rintro e w12 ⟨rfl, hb⟩; refine ⟨_, rfl, ?_⟩; have n0_ := Aside0.mk (below_step (by repeat (first | (with_reducible first | exact HB.out | apply below_alloc | apply pw_below_drewN | apply below_drew1) | exact HB.out)) hb); clear HB; have HB := n0_; clear n0_; (try clear hb); (try clear hb2); (try clear hk); (try clear hi)) | ((with_reducible refine gate_callee (f := 20) rfl ?_); refine goesL_ (some 30) rfl rfl Tryd.func20 (by kernel_rfl) rfl #[.string a0] rfl (by (try simp only [List.map_toArray, List.map_cons, List.map_nil]); first | done | rfl | (simp only [List.length_drop, List.length_take]; rfl)) ?_; (with_reducible refine (esc_TQuote.calls kj4 a0 t542 _ A10.out).mono ?_); rintro e w13 ⟨rfl, hb⟩; refine ⟨_, rfl, ?_⟩; have n0_ := Aside0.mk (below_step (by repeat (first | (with_reducible first | exact HB.out | apply below_alloc | apply pw_below_drewN | apply below_drew1) | exact HB.out)) hb); clear HB; have HB := n0_; clear n0_; (try clear hb); (try clear hb2); (try clear hk); (try clear hi)))
          (try simp only [Act.put, List.setIfInBounds_toArray, List.set_cons_zero, List.set_cons_succ])
          go_cut [47] (fun v47 wc => ∃ (kq : Nat) (x47_10 : Bool), v47 = .bool x47_10 ∧ Aside0 (dragomanlaw6_EscWrites.j1 kq a0 a1 t541 t542 x47_10 = some r) ∧ Aside0 (kq ≤ kj4) ∧ Aside0 (Below w.heap.size w wc))
          case first =>
            have H := HC11.out
            clear HC11
            replace H := Option.bind_eq_some_iff.mp H
            obtain ⟨t543, A140, H⟩ := H
            replace H : (if t541.toList = t543.toList then ((dragomanref5_Quote.f kj4 a0 true).bind fun t544 => (if t542.toList = t544.toList then ((esc_Bare.f a0).bind fun t545 => ((dragomanref5_Bare.f kj4 a0).bind fun t546 => (dragomanlaw6_EscWrites.j1 kj4 a0 a1 t541 t542 (t545 != t546)))) else (dragomanlaw6_EscWrites.j1 kj4 a0 a1 t541 t542 true))) else (dragomanlaw6_EscWrites.j1 kj4 a0 a1 t541 t542 true)) = some r := H
            have A14 := Aside0.mk A140
            clear A140
            by_cases c15 : t541.toList = t543.toList
            · rw [if_pos c15] at H
              have c15b0 : (t541.toList == t543.toList) = true := beq_iff_eq.mpr c15
              have c15b1 : (t541.toList != t543.toList) = false := bne_eq_false_iff_eq.mpr c15
              clear c15
              (first | rw [c15b0] | (simp only [i64_w, i32_w]; rw [c15b0]) | skip)
              replace H := Option.bind_eq_some_iff.mp H
              obtain ⟨t544, A160, H⟩ := H
              replace H : (if t542.toList = t544.toList then ((esc_Bare.f a0).bind fun t545 => ((dragomanref5_Bare.f kj4 a0).bind fun t546 => (dragomanlaw6_EscWrites.j1 kj4 a0 a1 t541 t542 (t545 != t546)))) else (dragomanlaw6_EscWrites.j1 kj4 a0 a1 t541 t542 true)) = some r := H
              have A16 := Aside0.mk A160
              clear A160
              by_cases c17 : t542.toList = t544.toList
              · rw [if_pos c17] at H
                have c17b0 : (t542.toList == t544.toList) = true := beq_iff_eq.mpr c17
                have c17b1 : (t542.toList != t544.toList) = false := bne_eq_false_iff_eq.mpr c17
                clear c17
                replace H := Option.bind_eq_some_iff.mp H
                obtain ⟨t545, A180, H⟩ := H
                replace H : ((dragomanref5_Bare.f kj4 a0).bind fun t546 => (dragomanlaw6_EscWrites.j1 kj4 a0 a1 t541 t542 (t545 != t546))) = some r := H
                have A18 := Aside0.mk A180
                clear A180
                replace H := Option.bind_eq_some_iff.mp H
                obtain ⟨t546, A190, H⟩ := H
                replace H : (dragomanlaw6_EscWrites.j1 kj4 a0 a1 t541 t542 (t545 != t546)) = some r := H
                have A19 := Aside0.mk A190
                clear A190
                have H' := Aside0.mk H
                clear H
                go_wp2_with (first | ((with_reducible refine gate_callee (f := 21) rfl ?_); refine goesL_ (some 33) rfl rfl Tryd.func21 (by kernel_rfl) rfl #[.string a0, .bool false] rfl (by (try simp only [List.map_toArray, List.map_cons, List.map_nil]); first | done | rfl | (simp only [List.length_drop, List.length_take]; rfl)) ?_; (with_reducible refine (dragomanref5_Quote.calls kj4 a0 false t543 _ A14.out).mono ?_); rintro e w20 ⟨rfl, hb⟩; refine ⟨_, rfl, ?_⟩; have n0_ := Aside0.mk (below_step (by repeat (first | (with_reducible first | exact HB.out | apply below_alloc | apply pw_below_drewN | apply below_drew1) | exact HB.out)) hb); clear HB; have HB := n0_; clear n0_; (try clear hb); (try clear hb2); (try clear hk); (try clear hi)) | (go_at_call 21; (with_reducible refine (dragomanref5_Quote.calls kj4 a0 true t544 _ A16.out).mono ?_); rintro e w21 ⟨rfl, hb⟩; have n0_ := Aside0.mk (below_step (by repeat (first | (with_reducible first | exact HB.out | apply below_alloc | apply pw_below_drewN | apply below_drew1) | exact HB.out)) hb); clear HB; have HB := n0_; clear n0_; (try clear hb); (try clear hb2); (try clear hk); (try clear hi)) | (go_at_call 22; (with_reducible refine (esc_Bare.calls a0 t545 _ A18.out).mono ?_); rintro e w22 ⟨rfl, hb⟩; have n0_ := Aside0.mk (below_step (by repeat (first | (with_reducible first | exact HB.out | apply below_alloc | apply pw_below_drewN | apply below_drew1) | exact HB.out)) hb); clear HB; have HB := n0_; clear n0_; (try clear hb); (try clear hb2); (try clear hk); (try clear hi)) | (go_at_call 23; (with_reducible refine (dragomanref5_Bare.calls kj4 a0 t546 _ A19.out).mono ?_); rintro e w' ⟨rfl, ⟨nd, rfl⟩⟩))
                go_meet
                case rel => exact ⟨_, ((t545 != t546)), (by first | rfl | (simp; done) | (simp [*]; done) | (rw [escw_wrap (by omega) (by omega)] <;> simp [*])), H', ⟨by have := HJ4.out; first | omega | exact Nat.le_refl _⟩, ⟨by repeat (first | (with_reducible first | exact HB.out | apply below_alloc | apply pw_below_drewN | apply below_drew1) | exact HB.out)⟩⟩
              · rw [if_neg c17] at H
                have c17b0 : (t542.toList == t544.toList) = false := beq_eq_false_iff_ne.mpr c17
                have c17b1 : (t542.toList != t544.toList) = true := bne_iff_ne.mpr c17
                have H' := Aside0.mk H
                clear H
                go_wp2_with (first | ((with_reducible refine gate_callee (f := 21) rfl ?_); refine goesL_ (some 33) rfl rfl Tryd.func21 (by kernel_rfl) rfl #[.string a0, .bool false] rfl (by (try simp only [List.map_toArray, List.map_cons, List.map_nil]); first | done | rfl | (simp only [List.length_drop, List.length_take]; rfl)) ?_; (with_reducible refine (dragomanref5_Quote.calls kj4 a0 false t543 _ A14.out).mono ?_); rintro e w23 ⟨rfl, hb⟩; refine ⟨_, rfl, ?_⟩; have n0_ := Aside0.mk (below_step (by repeat (first | (with_reducible first | exact HB.out | apply below_alloc | apply pw_below_drewN | apply below_drew1) | exact HB.out)) hb); clear HB; have HB := n0_; clear n0_; (try clear hb); (try clear hb2); (try clear hk); (try clear hi)) | (go_at_call 21; (with_reducible refine (dragomanref5_Quote.calls kj4 a0 true t544 _ A16.out).mono ?_); rintro e w24 ⟨rfl, hb⟩; have n0_ := Aside0.mk (below_step (by repeat (first | (with_reducible first | exact HB.out | apply below_alloc | apply pw_below_drewN | apply below_drew1) | exact HB.out)) hb); clear HB; have HB := n0_; clear n0_; (try clear hb); (try clear hb2); (try clear hk); (try clear hi)))
                go_meet
                case rel => exact ⟨_, (true), (by first | rfl | (simp; done) | (simp [*]; done) | (rw [escw_wrap (by omega) (by omega)] <;> simp [*])), H', ⟨by have := HJ4.out; first | omega | exact Nat.le_refl _⟩, ⟨by repeat (first | (with_reducible first | exact HB.out | apply below_alloc | apply pw_below_drewN | apply below_drew1) | exact HB.out)⟩⟩
            · rw [if_neg c15] at H
              have c15b0 : (t541.toList == t543.toList) = false := beq_eq_false_iff_ne.mpr c15
              have c15b1 : (t541.toList != t543.toList) = true := bne_iff_ne.mpr c15
              (first | rw [c15b0] | (simp only [i64_w, i32_w]; rw [c15b0]) | skip)
              have H' := Aside0.mk H
              clear H
              go_wp2_with (first | ((with_reducible refine gate_callee (f := 21) rfl ?_); refine goesL_ (some 33) rfl rfl Tryd.func21 (by kernel_rfl) rfl #[.string a0, .bool false] rfl (by (try simp only [List.map_toArray, List.map_cons, List.map_nil]); first | done | rfl | (simp only [List.length_drop, List.length_take]; rfl)) ?_; (with_reducible refine (dragomanref5_Quote.calls kj4 a0 false t543 _ A14.out).mono ?_); rintro e w25 ⟨rfl, hb⟩; refine ⟨_, rfl, ?_⟩; have n0_ := Aside0.mk (below_step (by repeat (first | (with_reducible first | exact HB.out | apply below_alloc | apply pw_below_drewN | apply below_drew1) | exact HB.out)) hb); clear HB; have HB := n0_; clear n0_; (try clear hb); (try clear hb2); (try clear hk); (try clear hi)))
              go_meet
              case rel => exact ⟨_, (true), (by first | rfl | (simp; done) | (simp [*]; done) | (rw [escw_wrap (by omega) (by omega)] <;> simp [*])), H', ⟨by have := HJ4.out; first | omega | exact Nat.le_refl _⟩, ⟨by repeat (first | (with_reducible first | exact HB.out | apply below_alloc | apply pw_below_drewN | apply below_drew1) | exact HB.out)⟩⟩
          case rest =>
            clear HC11
            try clear c1
            try clear c2
            try clear p2
            try clear c4
            try clear c6
            try clear c7
            try clear c7b0
            try clear c7b1
            try clear c8
            try clear c15
            try clear c15b0
            try clear c15b1
            try clear c17
            try clear c17b0
            try clear c17b1
            try clear c19
            try clear c20
            try clear c21
            try clear p2
            obtain ⟨kq, x47_10, rfl, HA, HJ10, HB⟩ := hcut
            cases kq with
            | zero => exact absurd HA.out (by simp [dragomanlaw6_EscWrites.j1])
            | succ kj10 =>
              have H := HA.out
              clear HA
              simp only [dragomanlaw6_EscWrites.j1] at H
              by_cases c26 : x47_10 = true
              · subst c26
                have H1 : (some false) = some r := by rw [if_pos rfl] at H; exact H
                clear H
                have H := H1
                clear H1
                obtain rfl := Option.some.inj H
                go_wp2
                go_ret
                exact ⟨by first | rfl | (simp [errW_none, errW_some] <;> rfl) | (simp [*, errW_none, errW_some, bne]; done) | (simp [*, errW_none, errW_some] <;> rfl) | (rw [escw_wrap (by omega) (by omega)] <;> simp [*, errW_none, errW_some]), by repeat (first | (with_reducible first | exact HB.out | apply below_alloc | apply pw_below_drewN | apply below_drew1) | exact HB.out)⟩
              · replace c26 := Bool.eq_false_iff.mpr c26
                subst c26
                have H1 : ((esc_Hex.f a0).bind fun bt547 => ((dragomanref5_Hex.f kj10 a0).bind fun bt549 => (if (bt547.2 != bt549.2) = true then (dragomanlaw6_EscWrites.j2 kj10 a0 a1 t541 t542 true) else (if bt547.2 = true then (dragomanlaw6_EscWrites.j2 kj10 a0 a1 t541 t542 (bt547.1 != bt549.1)) else (dragomanlaw6_EscWrites.j2 kj10 a0 a1 t541 t542 false))))) = some r := by rw [if_neg (show ¬ (false = true) by decide)] at H; exact H
                clear H
                have H := H1
                clear H1
                replace H := Option.bind_eq_some_iff.mp H
                obtain ⟨⟨t547, t548⟩, A270, H⟩ := H
                replace H : ((dragomanref5_Hex.f kj10 a0).bind fun bt549 => (if (t548 != bt549.2) = true then (dragomanlaw6_EscWrites.j2 kj10 a0 a1 t541 t542 true) else (if t548 = true then (dragomanlaw6_EscWrites.j2 kj10 a0 a1 t541 t542 (t547 != bt549.1)) else (dragomanlaw6_EscWrites.j2 kj10 a0 a1 t541 t542 false)))) = some r := H
                have A27 := Aside0.mk A270
                clear A270
                replace H := Option.bind_eq_some_iff.mp H
                obtain ⟨⟨t549, t550⟩, A280, H⟩ := H
                replace H : (if (t548 != t550) = true then (dragomanlaw6_EscWrites.j2 kj10 a0 a1 t541 t542 true) else (if t548 = true then (dragomanlaw6_EscWrites.j2 kj10 a0 a1 t541 t542 (t547 != t549)) else (dragomanlaw6_EscWrites.j2 kj10 a0 a1 t541 t542 false))) = some r := H
                have A28 := Aside0.mk A280
                clear A280
                have HC29 := Aside0.mk H
                clear H
                go_upto_region 10 with (first | ((with_reducible refine gate_callee (f := 18) rfl ?_); refine goesL_ (some 50) rfl rfl Tryd.func18 (by kernel_rfl) rfl #[.string a0] rfl (by (try simp only [List.map_toArray, List.map_cons, List.map_nil]); first | done | rfl | (simp only [List.length_drop, List.length_take]; rfl)) ?_; (with_reducible refine (esc_Hex.calls a0 t547 t548 _ A27.out).mono ?_); rintro e w30 ⟨rfl, hb⟩; refine ⟨_, rfl, ?_⟩; have n0_ := Aside0.mk (below_step (by repeat (first | (with_reducible first | exact HB.out | apply below_alloc | apply pw_below_drewN | apply below_drew1) | exact HB.out)) hb); clear HB; have HB := n0_; clear n0_; (try clear hb); (try clear hb2); (try clear hk); (try clear hi)) | ((with_reducible refine gate_callee (f := 24) rfl ?_); refine goesL_ (some 55) rfl rfl Tryd.func24 (by kernel_rfl) rfl #[.string a0] rfl (by (try simp only [List.map_toArray, List.map_cons, List.map_nil]); first | done | rfl | (simp only [List.length_drop, List.length_take]; rfl)) ?_; (with_reducible refine (dragomanref5_Hex.calls kj10 a0 t549 t550 _ A28.out).mono ?_); rintro e w' ⟨rfl, ⟨nd, rfl⟩⟩; refine ⟨_, rfl, ?_⟩))
                (try simp only [Act.put, List.setIfInBounds_toArray, List.set_cons_zero, List.set_cons_succ])
                go_cut [68] (fun v68 wc => ∃ (kq : Nat) (x68_28 : Bool), v68 = .bool x68_28 ∧ Aside0 (dragomanlaw6_EscWrites.j2 kq a0 a1 t541 t542 x68_28 = some r) ∧ Aside0 (kq ≤ kj10) ∧ Aside0 (Below w.heap.size w wc))
                case first =>
                  have H := HC29.out
                  clear HC29
                  by_cases c31 : (t548 != t550) = true
                  · rw [if_pos c31] at H
                    have c31b0 : (t548 != t550) = true := c31
                    (try (have c31b1 : decide (t548 = t550) = false := by simpa using c31))
                    (try (have c31b2 : (t548 == t550) = false := by simpa using c31))
                    (try (have c31b3 : ¬ (t548 = t550) := by simpa using c31))
                    clear c31
                    (first | rw [c31b0] | (simp only [i64_w, i32_w]; rw [c31b0]) | skip)
                    have H' := Aside0.mk H
                    clear H
                    go_wp2
                    go_meet
                    case rel => exact ⟨_, (true), (by first | rfl | (simp; done) | (simp [*]; done) | (rw [escw_wrap (by omega) (by omega)] <;> simp [*])), H', ⟨by have := HJ4.out; have := HJ10.out; first | omega | exact Nat.le_refl _⟩, ⟨by repeat (first | (with_reducible first | exact HB.out | apply below_alloc | apply pw_below_drewN | apply below_drew1) | exact HB.out)⟩⟩
                  · rw [if_neg c31] at H
                    have c31b0 : (t548 != t550) = false := by simpa using c31
                    (try (have c31b1 : decide (t548 = t550) = true := by simpa using c31))
                    (try (have c31b2 : (t548 == t550) = true := by simpa using c31))
                    clear c31
                    (first | rw [c31b0] | (simp only [i64_w, i32_w]; rw [c31b0]) | skip)
                    by_cases c32 : t548 = true
                    · subst c32
                      have H1 : (dragomanlaw6_EscWrites.j2 kj10 a0 a1 t541 t542 (t547 != t549)) = some r := by rw [if_pos rfl] at H; exact H
                      clear H
                      have H := H1
                      clear H1
                      have H' := Aside0.mk H
                      clear H
                      go_wp2
                      go_meet
                      case rel => exact ⟨_, ((t547 != t549)), (by first | rfl | (simp; done) | (simp [*]; done) | (rw [escw_wrap (by omega) (by omega)] <;> simp [*])), H', ⟨by have := HJ4.out; have := HJ10.out; first | omega | exact Nat.le_refl _⟩, ⟨by repeat (first | (with_reducible first | exact HB.out | apply below_alloc | apply pw_below_drewN | apply below_drew1) | exact HB.out)⟩⟩
                    · replace c32 := Bool.eq_false_iff.mpr c32
                      subst c32
                      have H1 : (dragomanlaw6_EscWrites.j2 kj10 a0 a1 t541 t542 false) = some r := by rw [if_neg (show ¬ (false = true) by decide)] at H; exact H
                      clear H
                      have H := H1
                      clear H1
                      have H' := Aside0.mk H
                      clear H
                      go_wp2
                      go_meet
                      case rel => exact ⟨_, (false), (by first | rfl | (simp; done) | (simp [*]; done) | (rw [escw_wrap (by omega) (by omega)] <;> simp [*])), H', ⟨by have := HJ4.out; have := HJ10.out; first | omega | exact Nat.le_refl _⟩, ⟨by repeat (first | (with_reducible first | exact HB.out | apply below_alloc | apply pw_below_drewN | apply below_drew1) | exact HB.out)⟩⟩
                case rest =>
                  clear HC29
                  try clear c1
                  try clear c2
                  try clear p2
                  try clear c3
                  try clear c4
                  try clear c6
                  try clear c7
                  try clear c7b0
                  try clear c7b1
                  try clear c8
                  try clear c15
                  try clear c15b0
                  try clear c15b1
                  try clear c17
                  try clear c17b0
                  try clear c17b1
                  try clear c18
                  try clear c19
                  try clear c20
                  try clear c21
                  try clear c24
                  try clear c26
                  try clear c31
                  try clear c31b0
                  try clear c31b1
                  try clear c31b2
                  try clear c32
                  try clear p2
                  obtain ⟨kq, x68_28, rfl, HA, HJ28, HB⟩ := hcut
                  cases kq with
                  | zero => exact absurd HA.out (by simp [dragomanlaw6_EscWrites.j2])
                  | succ kj28 =>
                    have H := HA.out
                    clear HA
                    simp only [dragomanlaw6_EscWrites.j2] at H
                    by_cases c33 : x68_28 = true
                    · subst c33
                      have H1 : (some false) = some r := by rw [if_pos rfl] at H; exact H
                      clear H
                      have H := H1
                      clear H1
                      obtain rfl := Option.some.inj H
                      go_wp2
                      go_ret
                      exact ⟨by first | rfl | (simp [errW_none, errW_some] <;> rfl) | (simp [*, errW_none, errW_some, bne]; done) | (simp [*, errW_none, errW_some] <;> rfl) | (rw [escw_wrap (by omega) (by omega)] <;> simp [*, errW_none, errW_some]), by repeat (first | (with_reducible first | exact HB.out | apply below_alloc | apply pw_below_drewN | apply below_drew1) | exact HB.out)⟩
                    · replace c33 := Bool.eq_false_iff.mpr c33
                      subst c33
                      have H1 : ((dragomanref1_Valid.f kj28 a0).bind fun t551 => (if t551 ≥ 0 then (some true) else (if a1.size + t541.size ≤ 9223372036854775807 then (if (a1 ++ t541).size + a1.size ≤ 9223372036854775807 then ((esc_Unquote.f ((a1 ++ t541) ++ a1) (a1.size : Int)).bind fun bt552 => (if bt552.2.2 ≥ 0 then (dragomanlaw6_EscWrites.j3 kj28 a0 a1 t542 true) else (if bt552.1.toList = a0.toList then (dragomanlaw6_EscWrites.j3 kj28 a0 a1 t542 (bt552.2.1 != (wrap64 ((a1.size : Int) + (t541.size : Int))))) else (dragomanlaw6_EscWrites.j3 kj28 a0 a1 t542 true)))) else (none)) else (none)))) = some r := by rw [if_neg (show ¬ (false = true) by decide)] at H; exact H
                      clear H
                      have H := H1
                      clear H1
                      replace H := Option.bind_eq_some_iff.mp H
                      obtain ⟨t551, A340, H⟩ := H
                      replace H : (if t551 ≥ 0 then (some true) else (if a1.size + t541.size ≤ 9223372036854775807 then (if (a1 ++ t541).size + a1.size ≤ 9223372036854775807 then ((esc_Unquote.f ((a1 ++ t541) ++ a1) (a1.size : Int)).bind fun bt552 => (if bt552.2.2 ≥ 0 then (dragomanlaw6_EscWrites.j3 kj28 a0 a1 t542 true) else (if bt552.1.toList = a0.toList then (dragomanlaw6_EscWrites.j3 kj28 a0 a1 t542 (bt552.2.1 != (wrap64 ((a1.size : Int) + (t541.size : Int))))) else (dragomanlaw6_EscWrites.j3 kj28 a0 a1 t542 true)))) else (none)) else (none))) = some r := H
                      have A34 := Aside0.mk A340
                      clear A340
                      by_cases c35 : t551 ≥ 0
                      · rw [if_pos c35] at H
                        have c35b0 : decide (0 ≤ t551) = true := decide_eq_true c35
                        clear c35
                        obtain rfl := Option.some.inj H
                        go_wp2_with (first | ((with_reducible refine gate_callee (f := 25) rfl ?_); refine goesL_ (some 70) rfl rfl Tryd.func25 (by kernel_rfl) rfl #[.string a0] rfl (by (try simp only [List.map_toArray, List.map_cons, List.map_nil]); first | done | rfl | (simp only [List.length_drop, List.length_take]; rfl)) ?_; (with_reducible refine (dragomanref1_Valid.calls kj28 a0 t551 _ A34.out).mono ?_); rintro e w36 ⟨rfl, hb⟩; refine ⟨_, rfl, ?_⟩; have n0_ := Aside0.mk (below_step (by repeat (first | (with_reducible first | exact HB.out | apply below_alloc | apply pw_below_drewN | apply below_drew1) | exact HB.out)) hb); clear HB; have HB := n0_; clear n0_; (try clear hb); (try clear hb2); (try clear hk); (try clear hi)))
                        go_ret
                        exact ⟨by first | rfl | (simp [errW_none, errW_some] <;> rfl) | (simp [*, errW_none, errW_some, bne]; done) | (simp [*, errW_none, errW_some] <;> rfl) | (rw [escw_wrap (by omega) (by omega)] <;> simp [*, errW_none, errW_some]), by repeat (first | (with_reducible first | exact HB.out | apply below_alloc | apply pw_below_drewN | apply below_drew1) | exact HB.out)⟩
                      · rw [if_neg c35] at H
                        have c35b0 : decide (0 ≤ t551) = false := decide_eq_false c35
                        clear c35
                        by_cases c37 : a1.size + t541.size ≤ 9223372036854775807
                        · rw [if_pos c37] at H
                          have c37b0 := eq_true c37
                          have c37b1 : decide (a1.size + t541.size ≤ 9223372036854775807) = true := decide_eq_true c37
                          try have c37b2 : (9223372036854775807 < a1.size + t541.size) = False := eq_false (Nat.not_lt.2 c37)
                          by_cases c38 : (a1 ++ t541).size + a1.size ≤ 9223372036854775807
                          · rw [if_pos c38] at H
                            have c38b0 := eq_true c38
                            have c38b1 : decide ((a1 ++ t541).size + a1.size ≤ 9223372036854775807) = true := decide_eq_true c38
                            try have c38b2 : (9223372036854775807 < (a1 ++ t541).size + a1.size) = False := eq_false (Nat.not_lt.2 c38)
                            try (have c38b4 := c38b2; simp only [ByteArray.size_append] at c38b4)
                            replace H := Option.bind_eq_some_iff.mp H
                            obtain ⟨⟨t552, t553, t554⟩, A390, H⟩ := H
                            replace H : (if t554 ≥ 0 then (dragomanlaw6_EscWrites.j3 kj28 a0 a1 t542 true) else (if t552.toList = a0.toList then (dragomanlaw6_EscWrites.j3 kj28 a0 a1 t542 (t553 != (wrap64 ((a1.size : Int) + (t541.size : Int))))) else (dragomanlaw6_EscWrites.j3 kj28 a0 a1 t542 true))) = some r := H
                            have A39 := Aside0.mk A390
                            clear A390
                            have HC40 := Aside0.mk H
                            clear H
                            go_upto_region 15 with (first | ((with_reducible refine gate_callee (f := 25) rfl ?_); refine goesL_ (some 70) rfl rfl Tryd.func25 (by kernel_rfl) rfl #[.string a0] rfl (by (try simp only [List.map_toArray, List.map_cons, List.map_nil]); first | done | rfl | (simp only [List.length_drop, List.length_take]; rfl)) ?_; (with_reducible refine (dragomanref1_Valid.calls kj28 a0 t551 _ A34.out).mono ?_); rintro e w41 ⟨rfl, hb⟩; refine ⟨_, rfl, ?_⟩; have n0_ := Aside0.mk (below_step (by repeat (first | (with_reducible first | exact HB.out | apply below_alloc | apply pw_below_drewN | apply below_drew1) | exact HB.out)) hb); clear HB; have HB := n0_; clear n0_; (try clear hb); (try clear hb2); (try clear hk); (try clear hi)) | ((with_reducible refine gate_callee (f := 16) rfl ?_); refine goesL_ (some 80) rfl rfl Tryd.func16 (by kernel_rfl) rfl #[.string ((a1 ++ t541) ++ a1), .int .i64 (a1.size : Int)] rfl (by (try simp only [List.map_toArray, List.map_cons, List.map_nil]); first | done | rfl | (simp only [List.length_drop, List.length_take]; rfl)) ?_; (with_reducible refine (esc_Unquote.calls ((a1 ++ t541) ++ a1) (a1.size : Int) t552 t553 t554 _ A39.out).mono ?_); rintro e w42 ⟨rfl, hb⟩; refine ⟨_, rfl, ?_⟩; have n0_ := Aside0.mk (below_step (by repeat (first | (with_reducible first | exact HB.out | apply below_alloc | apply pw_below_drewN | apply below_drew1) | exact HB.out)) hb); clear HB; have HB := n0_; clear n0_; (try clear hb); (try clear hb2); (try clear hk); (try clear hi)))
                            (try simp only [Act.put, List.setIfInBounds_toArray, List.set_cons_zero, List.set_cons_succ])
                            go_cut [99] (fun v99 wc => ∃ (kq : Nat) (x99_39 : Bool), v99 = .bool x99_39 ∧ Aside0 (dragomanlaw6_EscWrites.j3 kq a0 a1 t542 x99_39 = some r) ∧ Aside0 (kq ≤ kj28) ∧ Aside0 (Below w.heap.size w wc))
                            case first =>
                              have H := HC40.out
                              clear HC40
                              by_cases c43 : t554 ≥ 0
                              · rw [if_pos c43] at H
                                have c43b0 : decide (0 ≤ t554) = true := decide_eq_true c43
                                clear c43
                                (first | rw [c43b0] | (simp only [i64_w, i32_w]; rw [c43b0]) | skip)
                                have H' := Aside0.mk H
                                clear H
                                go_wp2
                                go_meet
                                case rel => exact ⟨_, (true), (by first | rfl | (simp; done) | (simp [*]; done) | (rw [escw_wrap (by omega) (by omega)] <;> simp [*])), H', ⟨by have := HJ4.out; have := HJ10.out; have := HJ28.out; first | omega | exact Nat.le_refl _⟩, ⟨by repeat (first | (with_reducible first | exact HB.out | apply below_alloc | apply pw_below_drewN | apply below_drew1) | exact HB.out)⟩⟩
                              · rw [if_neg c43] at H
                                have c43b0 : decide (0 ≤ t554) = false := decide_eq_false c43
                                clear c43
                                (first | rw [c43b0] | (simp only [i64_w, i32_w]; rw [c43b0]) | skip)
                                by_cases c44 : t552.toList = a0.toList
                                · rw [if_pos c44] at H
                                  have c44b0 : (t552.toList == a0.toList) = true := beq_iff_eq.mpr c44
                                  have c44b1 : (t552.toList != a0.toList) = false := bne_eq_false_iff_eq.mpr c44
                                  clear c44
                                  have H' := Aside0.mk H
                                  clear H
                                  go_wp2
                                  go_meet
                                  case rel => exact ⟨_, ((t553 != (wrap64 ((a1.size : Int) + (t541.size : Int))))), (by first | rfl | (simp; done) | (simp [*]; done) | (rw [escw_wrap (by omega) (by omega)] <;> simp [*])), H', ⟨by have := HJ4.out; have := HJ10.out; have := HJ28.out; first | omega | exact Nat.le_refl _⟩, ⟨by repeat (first | (with_reducible first | exact HB.out | apply below_alloc | apply pw_below_drewN | apply below_drew1) | exact HB.out)⟩⟩
                                · rw [if_neg c44] at H
                                  have c44b0 : (t552.toList == a0.toList) = false := beq_eq_false_iff_ne.mpr c44
                                  have c44b1 : (t552.toList != a0.toList) = true := bne_iff_ne.mpr c44
                                  have H' := Aside0.mk H
                                  clear H
                                  go_wp2
                                  go_meet
                                  case rel => exact ⟨_, (true), (by first | rfl | (simp; done) | (simp [*]; done) | (rw [escw_wrap (by omega) (by omega)] <;> simp [*])), H', ⟨by have := HJ4.out; have := HJ10.out; have := HJ28.out; first | omega | exact Nat.le_refl _⟩, ⟨by repeat (first | (with_reducible first | exact HB.out | apply below_alloc | apply pw_below_drewN | apply below_drew1) | exact HB.out)⟩⟩
                            case rest =>
                              clear HC40
                              try clear c1
                              try clear c2
                              try clear p2
                              try clear c3
                              try clear c4
                              try clear c6
                              try clear p6
                              try clear c7
                              try clear c7b0
                              try clear c7b1
                              try clear c8
                              try clear c15
                              try clear c15b0
                              try clear c15b1
                              try clear c16
                              try clear c17
                              try clear c17b0
                              try clear c17b1
                              try clear c18
                              try clear c19
                              try clear c20
                              try clear c21
                              try clear c24
                              try clear c25
                              try clear c26
                              try clear c31
                              try clear c31b0
                              try clear c31b1
                              try clear c31b2
                              try clear c32
                              try clear c33
                              try clear c35
                              try clear c35b0
                              try clear c37
                              try clear c37b0
                              try clear c37b1
                              try clear c37b2
                              try clear c38
                              try clear c38b0
                              try clear c38b1
                              try clear c38b2
                              try clear c43
                              try clear c43b0
                              try clear c44
                              try clear c44b0
                              try clear c44b1
                              try clear p2
                              obtain ⟨kq, x99_39, rfl, HA, HJ39, HB⟩ := hcut
                              cases kq with
                              | zero => exact absurd HA.out (by simp [dragomanlaw6_EscWrites.j3])
                              | succ kj39 =>
                                have H := HA.out
                                clear HA
                                simp only [dragomanlaw6_EscWrites.j3] at H
                                by_cases c45 : x99_39 = true
                                · subst c45
                                  have H1 : (some false) = some r := by rw [if_pos rfl] at H; exact H
                                  clear H
                                  have H := H1
                                  clear H1
                                  obtain rfl := Option.some.inj H
                                  go_wp2
                                  go_ret
                                  exact ⟨by first | rfl | (simp [errW_none, errW_some] <;> rfl) | (simp [*, errW_none, errW_some, bne]; done) | (simp [*, errW_none, errW_some] <;> rfl) | (rw [escw_wrap (by omega) (by omega)] <;> simp [*, errW_none, errW_some]), by repeat (first | (with_reducible first | exact HB.out | apply below_alloc | apply pw_below_drewN | apply below_drew1) | exact HB.out)⟩
                                · replace c45 := Bool.eq_false_iff.mpr c45
                                  subst c45
                                  have H1 : (if a0.toList = ([] : List UInt8) then (if (a1.size : Int) > 0 then (if 0 < (a1.size : Int) then (if (bt a1 0) = 34 then (some true) else (if a1.size + t542.size ≤ 9223372036854775807 then (if (a1 ++ t542).size + a1.size ≤ 9223372036854775807 then ((esc_TUnquote.f ((a1 ++ t542) ++ a1) (a1.size : Int)).bind fun bt555 => (if bt555.2.2 = (-1) then (if bt555.1.toList = a0.toList then (some (bt555.2.1 == (wrap64 ((a1.size : Int) + (t542.size : Int))))) else (some false)) else (some false))) else (none)) else (none))) else (none)) else (if a1.size + t542.size ≤ 9223372036854775807 then (if (a1 ++ t542).size + a1.size ≤ 9223372036854775807 then ((esc_TUnquote.f ((a1 ++ t542) ++ a1) (a1.size : Int)).bind fun bt558 => (if bt558.2.2 = (-1) then (if bt558.1.toList = a0.toList then (some (bt558.2.1 == (wrap64 ((a1.size : Int) + (t542.size : Int))))) else (some false)) else (some false))) else (none)) else (none))) else (if a1.size + t542.size ≤ 9223372036854775807 then (if (a1 ++ t542).size + a1.size ≤ 9223372036854775807 then ((esc_TUnquote.f ((a1 ++ t542) ++ a1) (a1.size : Int)).bind fun bt561 => (if bt561.2.2 = (-1) then (if bt561.1.toList = a0.toList then (some (bt561.2.1 == (wrap64 ((a1.size : Int) + (t542.size : Int))))) else (some false)) else (some false))) else (none)) else (none))) = some r := by rw [if_neg (show ¬ (false = true) by decide)] at H; exact H
                                  clear H
                                  have H := H1
                                  clear H1
                                  by_cases c46 : a0.toList = ([] : List UInt8)
                                  · rw [if_pos c46] at H
                                    have c46b0 : (a0.toList == ([] : List UInt8)) = true := beq_iff_eq.mpr c46
                                    have c46b1 : (a0.toList != ([] : List UInt8)) = false := bne_eq_false_iff_eq.mpr c46
                                    have c46b2 : a0.toList.isEmpty = true := List.isEmpty_iff.mpr c46
                                    (try simp only [c46b2, Bool.not_true, Bool.not_false])
                                    clear c46
                                    by_cases c47 : (a1.size : Int) > 0
                                    · rw [if_pos c47] at H
                                      have c47b0 : decide (0 < (a1.size : Int)) = true := decide_eq_true c47
                                      have c47b1 : decide (0 < a1.size) = true := decide_eq_true (by omega)
                                      clear c47
                                      by_cases c48 : 0 < (a1.size : Int)
                                      · rw [if_pos c48] at H
                                        have c48b0 : decide (0 < (a1.size : Int)) = true := decide_eq_true c48
                                        have c48b1 : decide (0 < a1.size) = true := decide_eq_true (by omega)
                                        clear c48
                                        by_cases c50 : (bt a1 0) = 34
                                        · rw [if_pos c50] at H
                                          have c50b0 : ((bt a1 0) == 34) = true := beq_iff_eq.mpr c50
                                          have c50b1 : ((bt a1 0) != 34) = false := bne_eq_false_iff_eq.mpr c50
                                          clear c50
                                          obtain rfl := Option.some.inj H
                                          have p49 : 0 ≤ (0 : Int) := (by omega)
                                          have q49 : 0 < a1.size := (by have : (0 : Int) < (a1.size : Int) := of_decide_eq_true (by first | (with_reducible assumption) | assumption); omega)
                                          have hx49 : ∀ h : 0 < a1.size, ((a1[0]'h).toNat : Int) = bt a1 0 := bt_at a1 0
                                          clear p49
                                          have qi49 : (0 < (a1.size : Int)) = True := eq_true (of_decide_eq_true (by first | (with_reducible assumption) | assumption))
                                          replace q49 := eq_true q49
                                          go_wp2
                                          go_ret
                                          exact ⟨by first | rfl | (simp [errW_none, errW_some] <;> rfl) | (simp [*, errW_none, errW_some, bne]; done) | (simp [*, errW_none, errW_some] <;> rfl) | (rw [escw_wrap (by omega) (by omega)] <;> simp [*, errW_none, errW_some]), by repeat (first | (with_reducible first | exact HB.out | apply below_alloc | apply pw_below_drewN | apply below_drew1) | exact HB.out)⟩
                                        · rw [if_neg c50] at H
                                          have c50b0 : ((bt a1 0) == 34) = false := beq_eq_false_iff_ne.mpr c50
                                          have c50b1 : ((bt a1 0) != 34) = true := bne_iff_ne.mpr c50
                                          by_cases c51 : a1.size + t542.size ≤ 9223372036854775807
                                          · rw [if_pos c51] at H
                                            have c51b0 := eq_true c51
                                            have c51b1 : decide (a1.size + t542.size ≤ 9223372036854775807) = true := decide_eq_true c51
                                            try have c51b2 : (9223372036854775807 < a1.size + t542.size) = False := eq_false (Nat.not_lt.2 c51)
                                            by_cases c52 : (a1 ++ t542).size + a1.size ≤ 9223372036854775807
                                            · rw [if_pos c52] at H
                                              have c52b0 := eq_true c52
                                              have c52b1 : decide ((a1 ++ t542).size + a1.size ≤ 9223372036854775807) = true := decide_eq_true c52
                                              try have c52b2 : (9223372036854775807 < (a1 ++ t542).size + a1.size) = False := eq_false (Nat.not_lt.2 c52)
                                              try (have c52b4 := c52b2; simp only [ByteArray.size_append] at c52b4)
                                              replace H := Option.bind_eq_some_iff.mp H
                                              obtain ⟨⟨t555, t556, t557⟩, A530, H⟩ := H
                                              replace H : (if t557 = (-1) then (if t555.toList = a0.toList then (some (t556 == (wrap64 ((a1.size : Int) + (t542.size : Int))))) else (some false)) else (some false)) = some r := H
                                              have A53 := Aside0.mk A530
                                              clear A530
                                              by_cases c54 : t557 = (-1)
                                              · rw [if_pos c54] at H
                                                have c54b0 : (t557 == (-1)) = true := beq_iff_eq.mpr c54
                                                have c54b1 : (t557 != (-1)) = false := bne_eq_false_iff_eq.mpr c54
                                                clear c54
                                                by_cases c55 : t555.toList = a0.toList
                                                · rw [if_pos c55] at H
                                                  have c55b0 : (t555.toList == a0.toList) = true := beq_iff_eq.mpr c55
                                                  have c55b1 : (t555.toList != a0.toList) = false := bne_eq_false_iff_eq.mpr c55
                                                  clear c55
                                                  obtain rfl := Option.some.inj H
                                                  have p49 : 0 ≤ (0 : Int) := (by omega)
                                                  have q49 : 0 < a1.size := (by have : (0 : Int) < (a1.size : Int) := of_decide_eq_true (by first | (with_reducible assumption) | assumption); omega)
                                                  have hx49 : ∀ h : 0 < a1.size, ((a1[0]'h).toNat : Int) = bt a1 0 := bt_at a1 0
                                                  clear p49
                                                  have qi49 : (0 < (a1.size : Int)) = True := eq_true (of_decide_eq_true (by first | (with_reducible assumption) | assumption))
                                                  replace q49 := eq_true q49
                                                  go_wp2_with (first | ((with_reducible refine gate_callee (f := 17) rfl ?_); refine goesL_ (some 120) rfl rfl Tryd.func17 (by kernel_rfl) rfl #[.string ((a1 ++ t542) ++ a1), .int .i64 (a1.size : Int)] rfl (by (try simp only [List.map_toArray, List.map_cons, List.map_nil]); first | done | rfl | (simp only [List.length_drop, List.length_take]; rfl)) ?_; (with_reducible refine (esc_TUnquote.calls ((a1 ++ t542) ++ a1) (a1.size : Int) t555 t556 t557 _ A53.out).mono ?_); rintro e w56 ⟨rfl, hb⟩; refine ⟨_, rfl, ?_⟩; have n0_ := Aside0.mk (below_step (by repeat (first | (with_reducible first | exact HB.out | apply below_alloc | apply pw_below_drewN | apply below_drew1) | exact HB.out)) hb); clear HB; have HB := n0_; clear n0_; (try clear hb); (try clear hb2); (try clear hk); (try clear hi)))
                                                  go_ret
                                                  exact ⟨by first | rfl | (simp [errW_none, errW_some] <;> rfl) | (simp [*, errW_none, errW_some, bne]; done) | (simp [*, errW_none, errW_some] <;> rfl) | (rw [escw_wrap (by omega) (by omega)] <;> simp [*, errW_none, errW_some]), by repeat (first | (with_reducible first | exact HB.out | apply below_alloc | apply pw_below_drewN | apply below_drew1) | exact HB.out)⟩
                                                · rw [if_neg c55] at H
                                                  have c55b0 : (t555.toList == a0.toList) = false := beq_eq_false_iff_ne.mpr c55
                                                  have c55b1 : (t555.toList != a0.toList) = true := bne_iff_ne.mpr c55
                                                  obtain rfl := Option.some.inj H
                                                  have p49 : 0 ≤ (0 : Int) := (by omega)
                                                  have q49 : 0 < a1.size := (by have : (0 : Int) < (a1.size : Int) := of_decide_eq_true (by first | (with_reducible assumption) | assumption); omega)
                                                  have hx49 : ∀ h : 0 < a1.size, ((a1[0]'h).toNat : Int) = bt a1 0 := bt_at a1 0
                                                  clear p49
                                                  have qi49 : (0 < (a1.size : Int)) = True := eq_true (of_decide_eq_true (by first | (with_reducible assumption) | assumption))
                                                  replace q49 := eq_true q49
                                                  go_wp2_with (first | ((with_reducible refine gate_callee (f := 17) rfl ?_); refine goesL_ (some 120) rfl rfl Tryd.func17 (by kernel_rfl) rfl #[.string ((a1 ++ t542) ++ a1), .int .i64 (a1.size : Int)] rfl (by (try simp only [List.map_toArray, List.map_cons, List.map_nil]); first | done | rfl | (simp only [List.length_drop, List.length_take]; rfl)) ?_; (with_reducible refine (esc_TUnquote.calls ((a1 ++ t542) ++ a1) (a1.size : Int) t555 t556 t557 _ A53.out).mono ?_); rintro e w57 ⟨rfl, hb⟩; refine ⟨_, rfl, ?_⟩; have n0_ := Aside0.mk (below_step (by repeat (first | (with_reducible first | exact HB.out | apply below_alloc | apply pw_below_drewN | apply below_drew1) | exact HB.out)) hb); clear HB; have HB := n0_; clear n0_; (try clear hb); (try clear hb2); (try clear hk); (try clear hi)))
                                                  go_ret
                                                  exact ⟨by first | rfl | (simp [errW_none, errW_some] <;> rfl) | (simp [*, errW_none, errW_some, bne]; done) | (simp [*, errW_none, errW_some] <;> rfl) | (rw [escw_wrap (by omega) (by omega)] <;> simp [*, errW_none, errW_some]), by repeat (first | (with_reducible first | exact HB.out | apply below_alloc | apply pw_below_drewN | apply below_drew1) | exact HB.out)⟩
                                              · rw [if_neg c54] at H
                                                have c54b0 : (t557 == (-1)) = false := beq_eq_false_iff_ne.mpr c54
                                                have c54b1 : (t557 != (-1)) = true := bne_iff_ne.mpr c54
                                                obtain rfl := Option.some.inj H
                                                have p49 : 0 ≤ (0 : Int) := (by omega)
                                                have q49 : 0 < a1.size := (by have : (0 : Int) < (a1.size : Int) := of_decide_eq_true (by first | (with_reducible assumption) | assumption); omega)
                                                have hx49 : ∀ h : 0 < a1.size, ((a1[0]'h).toNat : Int) = bt a1 0 := bt_at a1 0
                                                clear p49
                                                have qi49 : (0 < (a1.size : Int)) = True := eq_true (of_decide_eq_true (by first | (with_reducible assumption) | assumption))
                                                replace q49 := eq_true q49
                                                go_wp2_with (first | ((with_reducible refine gate_callee (f := 17) rfl ?_); refine goesL_ (some 120) rfl rfl Tryd.func17 (by kernel_rfl) rfl #[.string ((a1 ++ t542) ++ a1), .int .i64 (a1.size : Int)] rfl (by (try simp only [List.map_toArray, List.map_cons, List.map_nil]); first | done | rfl | (simp only [List.length_drop, List.length_take]; rfl)) ?_; (with_reducible refine (esc_TUnquote.calls ((a1 ++ t542) ++ a1) (a1.size : Int) t555 t556 t557 _ A53.out).mono ?_); rintro e w58 ⟨rfl, hb⟩; refine ⟨_, rfl, ?_⟩; have n0_ := Aside0.mk (below_step (by repeat (first | (with_reducible first | exact HB.out | apply below_alloc | apply pw_below_drewN | apply below_drew1) | exact HB.out)) hb); clear HB; have HB := n0_; clear n0_; (try clear hb); (try clear hb2); (try clear hk); (try clear hi)))
                                                go_ret
                                                exact ⟨by first | rfl | (simp [errW_none, errW_some] <;> rfl) | (simp [*, errW_none, errW_some, bne]; done) | (simp [*, errW_none, errW_some] <;> rfl) | (rw [escw_wrap (by omega) (by omega)] <;> simp [*, errW_none, errW_some]), by repeat (first | (with_reducible first | exact HB.out | apply below_alloc | apply pw_below_drewN | apply below_drew1) | exact HB.out)⟩
                                            · rw [if_neg c52] at H
                                              exact absurd H (by simp)
                                          · rw [if_neg c51] at H
                                            exact absurd H (by simp)
                                      · rw [if_neg c48] at H
                                        exact absurd H (by simp)
                                    · rw [if_neg c47] at H
                                      have c47b0 : decide (0 < (a1.size : Int)) = false := decide_eq_false c47
                                      have c47b1 : decide (0 < a1.size) = false := decide_eq_false (by omega)
                                      clear c47
                                      by_cases c59 : a1.size + t542.size ≤ 9223372036854775807
                                      · rw [if_pos c59] at H
                                        have c59b0 := eq_true c59
                                        have c59b1 : decide (a1.size + t542.size ≤ 9223372036854775807) = true := decide_eq_true c59
                                        try have c59b2 : (9223372036854775807 < a1.size + t542.size) = False := eq_false (Nat.not_lt.2 c59)
                                        by_cases c60 : (a1 ++ t542).size + a1.size ≤ 9223372036854775807
                                        · rw [if_pos c60] at H
                                          have c60b0 := eq_true c60
                                          have c60b1 : decide ((a1 ++ t542).size + a1.size ≤ 9223372036854775807) = true := decide_eq_true c60
                                          try have c60b2 : (9223372036854775807 < (a1 ++ t542).size + a1.size) = False := eq_false (Nat.not_lt.2 c60)
                                          try (have c60b4 := c60b2; simp only [ByteArray.size_append] at c60b4)
                                          replace H := Option.bind_eq_some_iff.mp H
                                          obtain ⟨⟨t558, t559, t560⟩, A610, H⟩ := H
                                          replace H : (if t560 = (-1) then (if t558.toList = a0.toList then (some (t559 == (wrap64 ((a1.size : Int) + (t542.size : Int))))) else (some false)) else (some false)) = some r := H
                                          have A61 := Aside0.mk A610
                                          clear A610
                                          by_cases c62 : t560 = (-1)
                                          · rw [if_pos c62] at H
                                            have c62b0 : (t560 == (-1)) = true := beq_iff_eq.mpr c62
                                            have c62b1 : (t560 != (-1)) = false := bne_eq_false_iff_eq.mpr c62
                                            clear c62
                                            by_cases c63 : t558.toList = a0.toList
                                            · rw [if_pos c63] at H
                                              have c63b0 : (t558.toList == a0.toList) = true := beq_iff_eq.mpr c63
                                              have c63b1 : (t558.toList != a0.toList) = false := bne_eq_false_iff_eq.mpr c63
                                              clear c63
                                              obtain rfl := Option.some.inj H
                                              go_wp2_with (first | ((with_reducible refine gate_callee (f := 17) rfl ?_); refine goesL_ (some 120) rfl rfl Tryd.func17 (by kernel_rfl) rfl #[.string ((a1 ++ t542) ++ a1), .int .i64 (a1.size : Int)] rfl (by (try simp only [List.map_toArray, List.map_cons, List.map_nil]); first | done | rfl | (simp only [List.length_drop, List.length_take]; rfl)) ?_; (with_reducible refine (esc_TUnquote.calls ((a1 ++ t542) ++ a1) (a1.size : Int) t558 t559 t560 _ A61.out).mono ?_); rintro e w64 ⟨rfl, hb⟩; refine ⟨_, rfl, ?_⟩; have n0_ := Aside0.mk (below_step (by repeat (first | (with_reducible first | exact HB.out | apply below_alloc | apply pw_below_drewN | apply below_drew1) | exact HB.out)) hb); clear HB; have HB := n0_; clear n0_; (try clear hb); (try clear hb2); (try clear hk); (try clear hi)))
                                              go_ret
                                              exact ⟨by first | rfl | (simp [errW_none, errW_some] <;> rfl) | (simp [*, errW_none, errW_some, bne]; done) | (simp [*, errW_none, errW_some] <;> rfl) | (rw [escw_wrap (by omega) (by omega)] <;> simp [*, errW_none, errW_some]), by repeat (first | (with_reducible first | exact HB.out | apply below_alloc | apply pw_below_drewN | apply below_drew1) | exact HB.out)⟩
                                            · rw [if_neg c63] at H
                                              have c63b0 : (t558.toList == a0.toList) = false := beq_eq_false_iff_ne.mpr c63
                                              have c63b1 : (t558.toList != a0.toList) = true := bne_iff_ne.mpr c63
                                              obtain rfl := Option.some.inj H
                                              go_wp2_with (first | ((with_reducible refine gate_callee (f := 17) rfl ?_); refine goesL_ (some 120) rfl rfl Tryd.func17 (by kernel_rfl) rfl #[.string ((a1 ++ t542) ++ a1), .int .i64 (a1.size : Int)] rfl (by (try simp only [List.map_toArray, List.map_cons, List.map_nil]); first | done | rfl | (simp only [List.length_drop, List.length_take]; rfl)) ?_; (with_reducible refine (esc_TUnquote.calls ((a1 ++ t542) ++ a1) (a1.size : Int) t558 t559 t560 _ A61.out).mono ?_); rintro e w65 ⟨rfl, hb⟩; refine ⟨_, rfl, ?_⟩; have n0_ := Aside0.mk (below_step (by repeat (first | (with_reducible first | exact HB.out | apply below_alloc | apply pw_below_drewN | apply below_drew1) | exact HB.out)) hb); clear HB; have HB := n0_; clear n0_; (try clear hb); (try clear hb2); (try clear hk); (try clear hi)))
                                              go_ret
                                              exact ⟨by first | rfl | (simp [errW_none, errW_some] <;> rfl) | (simp [*, errW_none, errW_some, bne]; done) | (simp [*, errW_none, errW_some] <;> rfl) | (rw [escw_wrap (by omega) (by omega)] <;> simp [*, errW_none, errW_some]), by repeat (first | (with_reducible first | exact HB.out | apply below_alloc | apply pw_below_drewN | apply below_drew1) | exact HB.out)⟩
                                          · rw [if_neg c62] at H
                                            have c62b0 : (t560 == (-1)) = false := beq_eq_false_iff_ne.mpr c62
                                            have c62b1 : (t560 != (-1)) = true := bne_iff_ne.mpr c62
                                            obtain rfl := Option.some.inj H
                                            go_wp2_with (first | ((with_reducible refine gate_callee (f := 17) rfl ?_); refine goesL_ (some 120) rfl rfl Tryd.func17 (by kernel_rfl) rfl #[.string ((a1 ++ t542) ++ a1), .int .i64 (a1.size : Int)] rfl (by (try simp only [List.map_toArray, List.map_cons, List.map_nil]); first | done | rfl | (simp only [List.length_drop, List.length_take]; rfl)) ?_; (with_reducible refine (esc_TUnquote.calls ((a1 ++ t542) ++ a1) (a1.size : Int) t558 t559 t560 _ A61.out).mono ?_); rintro e w66 ⟨rfl, hb⟩; refine ⟨_, rfl, ?_⟩; have n0_ := Aside0.mk (below_step (by repeat (first | (with_reducible first | exact HB.out | apply below_alloc | apply pw_below_drewN | apply below_drew1) | exact HB.out)) hb); clear HB; have HB := n0_; clear n0_; (try clear hb); (try clear hb2); (try clear hk); (try clear hi)))
                                            go_ret
                                            exact ⟨by first | rfl | (simp [errW_none, errW_some] <;> rfl) | (simp [*, errW_none, errW_some, bne]; done) | (simp [*, errW_none, errW_some] <;> rfl) | (rw [escw_wrap (by omega) (by omega)] <;> simp [*, errW_none, errW_some]), by repeat (first | (with_reducible first | exact HB.out | apply below_alloc | apply pw_below_drewN | apply below_drew1) | exact HB.out)⟩
                                        · rw [if_neg c60] at H
                                          exact absurd H (by simp)
                                      · rw [if_neg c59] at H
                                        exact absurd H (by simp)
                                  · rw [if_neg c46] at H
                                    have c46b0 : (a0.toList == ([] : List UInt8)) = false := beq_eq_false_iff_ne.mpr c46
                                    have c46b1 : (a0.toList != ([] : List UInt8)) = true := bne_iff_ne.mpr c46
                                    have c46b2 : a0.toList.isEmpty = false := List.isEmpty_eq_false_iff.mpr c46
                                    (try simp only [c46b2, Bool.not_true, Bool.not_false])
                                    by_cases c67 : a1.size + t542.size ≤ 9223372036854775807
                                    · rw [if_pos c67] at H
                                      have c67b0 := eq_true c67
                                      have c67b1 : decide (a1.size + t542.size ≤ 9223372036854775807) = true := decide_eq_true c67
                                      try have c67b2 : (9223372036854775807 < a1.size + t542.size) = False := eq_false (Nat.not_lt.2 c67)
                                      by_cases c68 : (a1 ++ t542).size + a1.size ≤ 9223372036854775807
                                      · rw [if_pos c68] at H
                                        have c68b0 := eq_true c68
                                        have c68b1 : decide ((a1 ++ t542).size + a1.size ≤ 9223372036854775807) = true := decide_eq_true c68
                                        try have c68b2 : (9223372036854775807 < (a1 ++ t542).size + a1.size) = False := eq_false (Nat.not_lt.2 c68)
                                        try (have c68b4 := c68b2; simp only [ByteArray.size_append] at c68b4)
                                        replace H := Option.bind_eq_some_iff.mp H
                                        obtain ⟨⟨t561, t562, t563⟩, A690, H⟩ := H
                                        replace H : (if t563 = (-1) then (if t561.toList = a0.toList then (some (t562 == (wrap64 ((a1.size : Int) + (t542.size : Int))))) else (some false)) else (some false)) = some r := H
                                        have A69 := Aside0.mk A690
                                        clear A690
                                        by_cases c70 : t563 = (-1)
                                        · rw [if_pos c70] at H
                                          have c70b0 : (t563 == (-1)) = true := beq_iff_eq.mpr c70
                                          have c70b1 : (t563 != (-1)) = false := bne_eq_false_iff_eq.mpr c70
                                          clear c70
                                          by_cases c71 : t561.toList = a0.toList
                                          · rw [if_pos c71] at H
                                            have c71b0 : (t561.toList == a0.toList) = true := beq_iff_eq.mpr c71
                                            have c71b1 : (t561.toList != a0.toList) = false := bne_eq_false_iff_eq.mpr c71
                                            clear c71
                                            obtain rfl := Option.some.inj H
                                            go_wp2_with (first | ((with_reducible refine gate_callee (f := 17) rfl ?_); refine goesL_ (some 120) rfl rfl Tryd.func17 (by kernel_rfl) rfl #[.string ((a1 ++ t542) ++ a1), .int .i64 (a1.size : Int)] rfl (by (try simp only [List.map_toArray, List.map_cons, List.map_nil]); first | done | rfl | (simp only [List.length_drop, List.length_take]; rfl)) ?_; (with_reducible refine (esc_TUnquote.calls ((a1 ++ t542) ++ a1) (a1.size : Int) t561 t562 t563 _ A69.out).mono ?_); rintro e w72 ⟨rfl, hb⟩; refine ⟨_, rfl, ?_⟩; have n0_ := Aside0.mk (below_step (by repeat (first | (with_reducible first | exact HB.out | apply below_alloc | apply pw_below_drewN | apply below_drew1) | exact HB.out)) hb); clear HB; have HB := n0_; clear n0_; (try clear hb); (try clear hb2); (try clear hk); (try clear hi)))
                                            go_ret
                                            exact ⟨by first | rfl | (simp [errW_none, errW_some] <;> rfl) | (simp [*, errW_none, errW_some, bne]; done) | (simp [*, errW_none, errW_some] <;> rfl) | (rw [escw_wrap (by omega) (by omega)] <;> simp [*, errW_none, errW_some]), by repeat (first | (with_reducible first | exact HB.out | apply below_alloc | apply pw_below_drewN | apply below_drew1) | exact HB.out)⟩
                                          · rw [if_neg c71] at H
                                            have c71b0 : (t561.toList == a0.toList) = false := beq_eq_false_iff_ne.mpr c71
                                            have c71b1 : (t561.toList != a0.toList) = true := bne_iff_ne.mpr c71
                                            obtain rfl := Option.some.inj H
                                            go_wp2_with (first | ((with_reducible refine gate_callee (f := 17) rfl ?_); refine goesL_ (some 120) rfl rfl Tryd.func17 (by kernel_rfl) rfl #[.string ((a1 ++ t542) ++ a1), .int .i64 (a1.size : Int)] rfl (by (try simp only [List.map_toArray, List.map_cons, List.map_nil]); first | done | rfl | (simp only [List.length_drop, List.length_take]; rfl)) ?_; (with_reducible refine (esc_TUnquote.calls ((a1 ++ t542) ++ a1) (a1.size : Int) t561 t562 t563 _ A69.out).mono ?_); rintro e w73 ⟨rfl, hb⟩; refine ⟨_, rfl, ?_⟩; have n0_ := Aside0.mk (below_step (by repeat (first | (with_reducible first | exact HB.out | apply below_alloc | apply pw_below_drewN | apply below_drew1) | exact HB.out)) hb); clear HB; have HB := n0_; clear n0_; (try clear hb); (try clear hb2); (try clear hk); (try clear hi)))
                                            go_ret
                                            exact ⟨by first | rfl | (simp [errW_none, errW_some] <;> rfl) | (simp [*, errW_none, errW_some, bne]; done) | (simp [*, errW_none, errW_some] <;> rfl) | (rw [escw_wrap (by omega) (by omega)] <;> simp [*, errW_none, errW_some]), by repeat (first | (with_reducible first | exact HB.out | apply below_alloc | apply pw_below_drewN | apply below_drew1) | exact HB.out)⟩
                                        · rw [if_neg c70] at H
                                          have c70b0 : (t563 == (-1)) = false := beq_eq_false_iff_ne.mpr c70
                                          have c70b1 : (t563 != (-1)) = true := bne_iff_ne.mpr c70
                                          obtain rfl := Option.some.inj H
                                          go_wp2_with (first | ((with_reducible refine gate_callee (f := 17) rfl ?_); refine goesL_ (some 120) rfl rfl Tryd.func17 (by kernel_rfl) rfl #[.string ((a1 ++ t542) ++ a1), .int .i64 (a1.size : Int)] rfl (by (try simp only [List.map_toArray, List.map_cons, List.map_nil]); first | done | rfl | (simp only [List.length_drop, List.length_take]; rfl)) ?_; (with_reducible refine (esc_TUnquote.calls ((a1 ++ t542) ++ a1) (a1.size : Int) t561 t562 t563 _ A69.out).mono ?_); rintro e w74 ⟨rfl, hb⟩; refine ⟨_, rfl, ?_⟩; have n0_ := Aside0.mk (below_step (by repeat (first | (with_reducible first | exact HB.out | apply below_alloc | apply pw_below_drewN | apply below_drew1) | exact HB.out)) hb); clear HB; have HB := n0_; clear n0_; (try clear hb); (try clear hb2); (try clear hk); (try clear hi)))
                                          go_ret
                                          exact ⟨by first | rfl | (simp [errW_none, errW_some] <;> rfl) | (simp [*, errW_none, errW_some, bne]; done) | (simp [*, errW_none, errW_some] <;> rfl) | (rw [escw_wrap (by omega) (by omega)] <;> simp [*, errW_none, errW_some]), by repeat (first | (with_reducible first | exact HB.out | apply below_alloc | apply pw_below_drewN | apply below_drew1) | exact HB.out)⟩
                                      · rw [if_neg c68] at H
                                        exact absurd H (by simp)
                                    · rw [if_neg c67] at H
                                      exact absurd H (by simp)
                          · rw [if_neg c38] at H
                            exact absurd H (by simp)
                        · rw [if_neg c37] at H
                          exact absurd H (by simp)
  · replace c4 := Bool.eq_false_iff.mpr c4
    subst c4
    have H1 : (some false) = some r := by rw [if_neg (show ¬ (false = true) by decide)] at H; exact H
    clear H
    have H := H1
    clear H1
    obtain rfl := Option.some.inj H
    go_enter Tryd.func6, Tryd.ntmps6
    go_wp2_with (first | ((with_reducible refine gate_callee (f := 15) rfl ?_); refine goesL_ (some 17) rfl rfl Tryd.func15 (by kernel_rfl) rfl #[] rfl (by (try simp only [List.map_toArray, List.map_cons, List.map_nil]); first | done | rfl | (simp only [List.length_drop, List.length_take]; rfl)) ?_; (with_reducible refine (dragomanlaw6_awake.calls  false _ A3.out).mono ?_); rintro e w75 ⟨rfl, hb⟩; refine ⟨_, rfl, ?_⟩; have n0_ := Aside0.mk (below_step (by repeat (first | (with_reducible first | exact HB.out | apply below_alloc | apply pw_below_drewN | apply below_drew1) | exact HB.out)) hb); clear HB; have HB := n0_; clear n0_; (try clear hb); (try clear hb2); (try clear hk); (try clear hi)))
    go_ret
    exact ⟨by first | rfl | (simp [errW_none, errW_some] <;> rfl) | (simp [*, errW_none, errW_some, bne]; done) | (simp [*, errW_none, errW_some] <;> rfl) | (rw [escw_wrap (by omega) (by omega)] <;> simp [*, errW_none, errW_some]), by repeat (first | (with_reducible first | exact HB.out | apply below_alloc | apply pw_below_drewN | apply below_drew1) | exact HB.out)⟩
/-- THE ONE PURE STATEMENT of dragomanlaw6_EscWrites: yours. -/
def dragomanlaw6_EscWrites.Pure : Prop := ∀ (a0 : ByteArray) (a1 : ByteArray), a0.size ≤ 140737488351232 → a1.size ≤ 140737488351232 → ∃ k, dragomanlaw6_EscWrites.f k a0 a1 = some true
theorem dragomanlaw6_EscWrites.walk (P : dragomanlaw6_EscWrites.Pure) (a0 : ByteArray) (a1 : ByteArray) (w : World) (w0 : a0.size ≤ 140737488351232) (w1 : a1.size ≤ 140737488351232) :
    Calls Tryd.prog 6 #[.string a0, .string a1] w fun e w' => e = .returned (.bool true) ∧ Below w.heap.size w w' := by
  obtain ⟨k, h⟩ := P a0 a1 w0 w1
  refine (dragomanlaw6_EscWrites.calls k a0 a1 true w h).mono ?_
  rintro e w' ⟨rfl, hd⟩
  exact ⟨rfl, hd⟩
end Go.Proofs.YtoanbmggffkmgaaDoor.P
end
section
namespace Go.Proofs.YtoanbmggffkmgaaDoor.La
open Go.RowKit Go.Proofs.YtoanbmggffkmgaaDoor.P Go.Proofs.YtoanbmggffkmgaaDoorW.PrintWords Go.Proofs.YtoanbmggffkmgaaDoorW.PrintLast
/-- A digit of base 16, as it is written. -/
def hxd (v : Int) : Int := [48, 49, 50, 51, 52, 53, 54, 55, 56, 57, 97, 98, 99, 100, 101, 102].getD v.toNat 0
/-- The seven letters that have an escape of two bytes. -/
def sevn (r : Int) : Option Int := if r = 34 then some 34 else if r = 92 then some 92 else if r = 8 then some 98 else if r = 12 then some 102 else if r = 10 then some 110 else if r = 13 then some 114 else if r = 9 then some 116 else none
def ctrl (last : Bool) (r : Int) : Prop := r < 32 ∨ (r = 127 ∧ last = true)
instance (last : Bool) (r : Int) : Decidable (ctrl last r) := by unfold ctrl; infer_instance
/-- What a letter is written as. -/
def qlet (last : Bool) (r : Int) : List Int := match sevn r with
  | some c => [92, c]
  | none => if ctrl last r then [92, 117, 48, 48, hxd (r / 16), hxd (r % 16)] else enc r
/-- The letter that a text begins with, or the sign of the unknown. -/
def hdl (l : List Int) : Int := if (tk l).2 = 0 then 65533 else (tk l).1
/-- What a text is written as, its quotes aside. -/
def qbody (last : Bool) (l : List Int) : List Int := if _h : l = [] then [] else qlet last (hdl l) ++ qbody last (l.drop (stp l))
termination_by l.length
decreasing_by exact drop_lt (by assumption)
theorem qbody_nil (last : Bool) : qbody last [] = [] := by rw [qbody]; simp
theorem qbody_step {last : Bool} {l : List Int} (h : l ≠ []) : qbody last l = qlet last (hdl l) ++ qbody last (l.drop (stp l)) := by rw [qbody, dif_neg h]
theorem hdl_good {l : List Int} (hl : Bytes l) : good (hdl l) := by
  unfold hdl
  split
  · decide
  · rcases tk_inv l hl with h | h
    · rename_i h0
      rw [h] at h0
      exact absurd rfl h0
    · exact h.1
theorem hxd_fin : ∀ v : Fin 16, 48 ≤ hxd (v.val : Int) ∧ hxd (v.val : Int) ≤ 102 ∧ bt (⟨#[48, 49, 50, 51, 52, 53, 54, 55, 56, 57, 97, 98, 99, 100, 101, 102]⟩ : ByteArray) (v.val : Int) = hxd (v.val : Int) := by decide
theorem hxd_val {v : Int} (h0 : 0 ≤ v) (h1 : v < 16) : 48 ≤ hxd v ∧ hxd v ≤ 102 ∧ bt (⟨#[48, 49, 50, 51, 52, 53, 54, 55, 56, 57, 97, 98, 99, 100, 101, 102]⟩ : ByteArray) v = hxd v := by
  obtain ⟨n, rfl⟩ := Int.eq_ofNat_of_zero_le h0
  exact hxd_fin ⟨n, by omega⟩
theorem qlet_len (last : Bool) (r : Int) : 1 ≤ (qlet last r).length ∧ (qlet last r).length ≤ 6 := by
  unfold qlet
  split
  · simp
  · split
    · simp
    · have := enc_len r; omega
theorem sevn_byte {r c : Int} (h : sevn r = some c) : 34 ≤ c ∧ c ≤ 116 := by
  unfold sevn at h
  (repeat' split at h) <;> first | (cases h; done) | (have := Option.some.inj h; omega)
theorem qlet_bytes (last : Bool) {r : Int} (h : good r) : Bytes (qlet last r) := by
  have hg := h
  unfold good at hg
  unfold qlet
  split
  · rename_i c hc
    have := sevn_byte hc
    intro x hx
    simp at hx
    omega
  · split
    · rename_i hc
      have h1 := hxd_val (v := r / 16) (by omega) (by unfold ctrl at hc; omega)
      have h2 := hxd_val (v := r % 16) (by omega) (by omega)
      intro x hx
      simp at hx
      omega
    · exact enc_bytes h
theorem bytes_app {a b : List Int} (ha : Bytes a) (hb : Bytes b) : Bytes (a ++ b) := fun x hx => (List.mem_append.1 hx).elim (ha x) (hb x)
theorem bytes_drop' {a : List Int} (ha : Bytes a) (n : Nat) : Bytes (a.drop n) := fun x hx => ha x (List.mem_of_mem_drop hx)
theorem qbody_bytes (last : Bool) (l : List Int) (hl : Bytes l) : Bytes (qbody last l) := by
  by_cases h : l = []
  · subst h; rw [qbody_nil]; intro x hx; cases hx
  · rw [qbody_step h]
    exact bytes_app (qlet_bytes last (hdl_good hl)) (qbody_bytes last _ (bytes_drop' hl _))
termination_by l.length
decreasing_by exact drop_lt h
theorem qbody_len (last : Bool) (l : List Int) : (qbody last l).length ≤ 6 * l.length := by
  by_cases h : l = []
  · subst h; rw [qbody_nil]; simp
  · have h1 := qlet_len last (hdl l)
    have h2 := qbody_len last (l.drop (stp l))
    have h3 := drop_lt h
    rw [qbody_step h, List.length_append]
    omega
termination_by l.length
decreasing_by exact drop_lt h
theorem and15 {x : Int} (h₀ : 0 ≤ x) (h₁ : x < 2 ^ 62) : Go.bits .and .i64 x 15 = x % 16 := bits_mask .i64 62 (by decide) wraps_i64 4 (by decide) x h₀ h₁
/-- One letter written. -/
theorem quote_j2 (s : ByteArray) (last : Bool) (acc : List Int) (r : Int) (hg : good r) (i : Int) (hi : i = idx [34, 92, 8, 12, 10, 13, 9] (mn r 255)) (ha : acc.length + 10 < 140737488355000) {R : ByteArray}
    (h : Ev (fun k => esc_quote.l0 k s last (acc ++ qlet last r)) R) : Ev (fun k => esc_quote.j2 k s last acc r i (if r < 256 then decide (i ≥ 0) else false)) R := by
  have hr : 0 ≤ r := hg.1
  by_cases h7 : (sevn r).isSome = true
  · obtain ⟨c, hc⟩ := Option.isSome_iff_exists.1 h7
    have hq : qlet last r = [92, c] := by unfold qlet; rw [hc]
    rw [hq] at h
    have key : ∃ n : Nat, n < 7 ∧ i = (n : Int) ∧ r < 256 ∧ bt (⟨#[34, 92, 98, 102, 110, 114, 116]⟩ : ByteArray) i = c := by
      unfold sevn at hc
      (repeat' split at hc)
      · exact ⟨0, by omega, by rw [hi]; subst r; decide, by omega, by rw [hi, ← Option.some.inj hc]; subst r; decide⟩
      · exact ⟨1, by omega, by rw [hi]; subst r; decide, by omega, by rw [hi, ← Option.some.inj hc]; subst r; decide⟩
      · exact ⟨2, by omega, by rw [hi]; subst r; decide, by omega, by rw [hi, ← Option.some.inj hc]; subst r; decide⟩
      · exact ⟨3, by omega, by rw [hi]; subst r; decide, by omega, by rw [hi, ← Option.some.inj hc]; subst r; decide⟩
      · exact ⟨4, by omega, by rw [hi]; subst r; decide, by omega, by rw [hi, ← Option.some.inj hc]; subst r; decide⟩
      · exact ⟨5, by omega, by rw [hi]; subst r; decide, by omega, by rw [hi, ← Option.some.inj hc]; subst r; decide⟩
      · exact ⟨6, by omega, by rw [hi]; subst r; decide, by omega, by rw [hi, ← Option.some.inj hc]; subst r; decide⟩
      · cases hc
    obtain ⟨n, hn, hin, h256, hb⟩ := key
    rw [if_pos h256, decide_eq_true (by omega)]
    refine Ev.step (fun k => by rw [esc_quote.j2, if_pos rfl, if_pos (by omega), if_pos (by omega), Option.bind_some, hb, if_pos (by simp only [List.length_cons, List.length_nil]; omega)]) ?_
    exact h
  · have hn : sevn r = none := by
      cases hs : sevn r with
      | none => rfl
      | some c => rw [hs] at h7; exact absurd rfl h7
    have hx : (if r < 256 then decide (i ≥ 0) else false) = false := by
      split
      · rename_i h256
        have hm : mn r 255 = r := by unfold mn; split <;> omega
        unfold sevn at hn
        have : i = -1 := by
          rw [hi, hm]
          (repeat' split at hn) <;> first | (cases hn; done) | skip
          rename_i a1 a2 a3 a4 a5 a6 a7
          simp only [idx, if_neg (fun e : (34 : Int) = r => a1 e.symm), if_neg (fun e : (92 : Int) = r => a2 e.symm), if_neg (fun e : (8 : Int) = r => a3 e.symm), if_neg (fun e : (12 : Int) = r => a4 e.symm), if_neg (fun e : (10 : Int) = r => a5 e.symm), if_neg (fun e : (13 : Int) = r => a6 e.symm), if_neg (fun e : (9 : Int) = r => a7 e.symm), if_true]
        rw [this]; rfl
      · rfl
    rw [hx]
    by_cases hc : ctrl last r
    · have hq : qlet last r = [92, 117, 48, 48, hxd (r / 16), hxd (r % 16)] := by unfold qlet; rw [hn]; simp only [if_pos hc]
      rw [hq] at h
      have hr128 : r < 128 := by unfold ctrl at hc; omega
      have h1 := hxd_val (v := r / 16) (by omega) (by omega)
      have h2 := hxd_val (v := r % 16) (by omega) (by omega)
      have hand := and15 hr (by omega)
      unfold ctrl at hc
      by_cases h32 : r < 32
      · refine Ev.step (fun k => by rw [esc_quote.j2, if_neg (by decide), if_pos h32, hand, if_pos (by omega), if_pos (by omega), if_pos (by omega), if_pos (by omega), Option.bind_some, h1.2.2, h2.2.2, if_pos (by simp only [List.length_cons, List.length_nil]; omega)]) ?_
        exact h
      · obtain ⟨h127, hlast⟩ := hc.resolve_left h32
        subst hlast
        refine Ev.step (fun k => by rw [esc_quote.j2, if_neg (by decide), if_neg h32, if_pos h127, if_pos rfl, hand, if_pos (by omega), if_pos (by omega), if_pos (by omega), if_pos (by omega), Option.bind_some, h1.2.2, h2.2.2, if_pos (by simp only [List.length_cons, List.length_nil]; omega)]) ?_
        exact h
    · have hq : qlet last r = enc r := by unfold qlet; rw [hn]; simp only [if_neg hc]
      rw [hq] at h
      unfold ctrl at hc
      have hput : utf_Put.f acc r = some (acc ++ enc r) := by rw [put_eq acc r (by omega), if_pos hg]
      by_cases h127 : r = 127
      · have hlast : ¬ last = true := fun e => hc (.inr ⟨h127, e⟩)
        refine Ev.step (fun k => by rw [esc_quote.j2, if_neg (by decide), if_neg (by omega), if_pos h127, if_neg hlast, hput, Option.bind_some]) ?_
        exact h
      · refine Ev.step (fun k => by rw [esc_quote.j2, if_neg (by decide), if_neg (by omega), if_neg h127, hput, Option.bind_some]) ?_
        exact h
theorem quote_l0 (last : Bool) (n : Nat) : ∀ (s : ByteArray) (acc : List Int), s.size ≤ n → acc.length + 6 * s.size + 100 < 140737488355000 → Ev (fun k => esc_quote.l0 k s last acc) (strOfNums (acc ++ qbody last (bytesOf s) ++ [34])) := by
  induction n with
  | zero =>
    intro s acc hn ha
    have he : bytesOf s = [] := List.eq_nil_of_length_eq_zero (by rw [size_of]; omega)
    have hl : s.toList = [] := by rw [toList_nil_iff]; exact he
    refine Ev.step (fun k => by rw [esc_quote.l0, if_pos hl, if_pos (by omega)]) ?_
    rw [he, qbody_nil, List.append_nil]
    exact Ev.now _
  | succ n ih =>
    intro s acc hn ha
    by_cases he : bytesOf s = []
    · have hl : s.toList = [] := by rw [toList_nil_iff]; exact he
      refine Ev.step (fun k => by rw [esc_quote.l0, if_pos hl, if_pos (by omega)]) ?_
      rw [he, qbody_nil, List.append_nil]
      exact Ev.now _
    · have hl : ¬ s.toList = [] := by rw [toList_nil_iff]; exact he
      have hB := bytes_of s
      have hst := stp_le hB he
      have hst1 := stp_pos' (bytesOf s)
      rw [size_of] at hst
      have hg := hdl_good hB
      have hmn : 0 ≤ mn (hdl (bytesOf s)) 255 ∧ mn (hdl (bytesOf s)) 255 < 256 := by
        have := hg.1
        unfold mn
        split <;> omega
      have hql := qlet_len last (hdl (bytesOf s))
      have hsz := size_drop s (stp (bytesOf s))
      have main := ih (s.extract (stp (bytesOf s)) s.size) (acc ++ qlet last (hdl (bytesOf s))) (by omega) (by rw [List.length_append]; omega)
      rw [bytesOf_drop, List.append_assoc acc, ← qbody_step he] at main
      have j2 := quote_j2 (s.extract (stp (bytesOf s)) s.size) last acc (hdl (bytesOf s)) hg _ rfl (by omega) main
      have j1 : Ev (fun k => esc_quote.j1 k s last acc (hdl (bytesOf s)) (stp (bytesOf s) : Int)) (strOfNums (acc ++ qbody last (bytesOf s) ++ [34])) := by
        have hix : strings_IndexByte.f (⟨#[34, 92, 8, 12, 10, 13, 9]⟩ : ByteArray) ((mn (hdl (bytesOf s)) 255) % 256) = some (idx [34, 92, 8, 12, 10, 13, 9] (mn (hdl (bytesOf s)) 255)) := by
          rw [Int.emod_eq_of_lt hmn.1 hmn.2]
          unfold strings_IndexByte.f
          rw [if_pos hmn]
          rfl
        refine Ev.step (fun k => by rw [esc_quote.j1, if_pos (by omega), if_pos (by omega), hix, Option.bind_some, Int.toNat_natCast]) ?_
        by_cases h256 : hdl (bytesOf s) < 256
        · simp only [if_pos h256] at j2 ⊢
          exact j2
        · simp only [if_neg h256] at j2 ⊢
          exact j2
      refine Ev.step (fun k => by rw [esc_quote.l0, if_neg hl]) ?_
      refine Ev.bind (take_ev s) ?_
      by_cases h0 : (tk (bytesOf s)).2 = 0
      · simp only [if_pos h0]
        have e1 : hdl (bytesOf s) = 65533 := by unfold hdl; rw [if_pos h0]
        have e2 : stp (bytesOf s) = 1 := by unfold stp; rw [if_pos h0]
        rw [e1, e2] at j1
        exact j1
      · simp only [if_neg h0]
        have e1 : hdl (bytesOf s) = (tk (bytesOf s)).1 := by unfold hdl; rw [if_neg h0]
        rw [e1, ← stp_int hB h0] at j1
        exact j1
/-- What Quote and TQuote write. -/
def quoteL (last : Bool) (l : List Int) : List Int := 34 :: (qbody last l ++ [34])
theorem quote_ev (s : ByteArray) (last : Bool) (hs : s.size ≤ 10000) : Ev (fun k => esc_quote.f k s last) (strOfNums (quoteL last (bytesOf s))) :=
  Ev.congr (fun k => by rw [esc_quote.f]) (quote_l0 last s.size s [34] (Nat.le_refl _) (by simp only [List.length_cons, List.length_nil]; omega))
theorem Quote_ev (s : ByteArray) (hs : s.size ≤ 10000) : Ev (fun k => esc_Quote.f k s) (strOfNums (quoteL false (bytesOf s))) :=
  Ev.congr (fun k => by rw [esc_Quote.f]) (Ev.bind (quote_ev s false hs) (Ev.now _))
theorem TQuote_ev (s : ByteArray) (hs : s.size ≤ 10000) : Ev (fun k => esc_TQuote.f k s) (strOfNums (quoteL true (bytesOf s))) :=
  Ev.congr (fun k => by rw [esc_TQuote.f]) (Ev.bind (quote_ev s true hs) (Ev.now _))
theorem quoteL_bytes (last : Bool) (l : List Int) (hl : Bytes l) : Bytes (quoteL last l) := by
  intro x hx
  rcases List.mem_cons.1 hx with rfl | hx
  · omega
  · rcases List.mem_append.1 hx with h | h
    · exact qbody_bytes last l hl x h
    · simp at h; omega
end Go.Proofs.YtoanbmggffkmgaaDoor.La
end
section
namespace Go.Proofs.YtoanbmggffkmgaaDoor.La
theorem enc_ne (r : Int) : enc r ≠ [] := fun h => by have := enc_len r; rw [h] at this; simp at this
theorem stp_enc {r : Int} (hr : good r) (m : List Int) : stp (enc r ++ m) = (enc r).length := by
  have := enc_len r
  unfold stp
  rw [tk_enc hr]
  rw [if_neg (by simp only; omega)]
  simp
/-- A text of letters begins with one. -/
theorem good_text {l : List Int} (hl : ∀ x ∈ l, 0 ≤ x ∧ x < 256) (h : bad l = none) (hne : l ≠ []) : ∃ r m, good r ∧ l = enc r ++ m ∧ bad m = none := by
  have h0 : (tk l).2 ≠ 0 := fun h0 => by rw [bad_none hne h0] at h; cases h
  rcases tk_inv l hl with e | ⟨hg, _, m, hm⟩
  · rw [e] at h0; exact absurd rfl h0
  · refine ⟨_, m, hg, hm, ?_⟩
    rw [bad_step hne h0] at h
    have hs : stp l = (enc (tk l).1).length := by
      have := stp_enc hg m
      rwa [← hm] at this
    have hd : l.drop (stp l) = m := by
      rw [hs]
      have : l.drop (enc (tk l).1).length = (enc (tk l).1 ++ m).drop (enc (tk l).1).length := by rw [← hm]
      rw [this, List.drop_left]
    rw [hd] at h
    exact Option.map_eq_none_iff.1 h
theorem tk_letter_ne {r : Int} (hr : good r) (m : List Int) : (tk (enc r ++ m)).2 ≠ 0 := by
  have := enc_len r
  rw [tk_enc hr]
  simp only
  omega
/-- Induction over a text's letters. -/
theorem text_induction {P : List Int → Prop} (nil : P []) (cons : ∀ r m, good r → bad m = none → (∀ x ∈ m, 0 ≤ x ∧ x < 256) → P m → P (enc r ++ m)) (l : List Int) (hl : ∀ x ∈ l, 0 ≤ x ∧ x < 256) (h : bad l = none) : P l := by
  by_cases hne : l = []
  · subst hne; exact nil
  · obtain ⟨r, m, hr, rfl, hm⟩ := good_text hl h hne
    have hmb : ∀ x ∈ m, 0 ≤ x ∧ x < 256 := fun x hx => hl x (List.mem_append.2 (.inr hx))
    have : m.length < (enc r ++ m).length := by have := enc_len r; rw [List.length_append]; omega
    exact cons r m hr hm hmb (text_induction nil cons m hmb hm)
termination_by l.length
end Go.Proofs.YtoanbmggffkmgaaDoor.La
end
section
namespace Go.Proofs.YtoanbmggffkmgaaDoor.La
open Go.RowKit Go.Proofs.YtoanbmggffkmgaaDoor.P Go.Proofs.YtoanbmggffkmgaaDoorW.PrintWords Go.Proofs.YtoanbmggffkmgaaDoorW.PrintLast
theorem getD_drop (L : List Int) (i : Nat) : L.getD i 0 = (L.drop i).getD 0 0 := by simp [List.getD_eq_getElem?_getD, List.getElem?_drop]
theorem drop_pos {L : List Int} {i : Nat} {b : Int} {t : List Int} (h : L.drop i = b :: t) : i < L.length := by
  have := congrArg List.length h
  rw [List.length_drop, List.length_cons] at this
  omega
theorem drop_getD {L : List Int} {i : Nat} {b : Int} {t : List Int} (h : L.drop i = b :: t) : L.getD i 0 = b := by rw [getD_drop, h]; rfl
theorem sevn_short {r c : Int} (h : sevn r = some c) : shortJ c = some r ∧ shortT c = some r := by
  unfold sevn at h
  (repeat' split at h) <;> first | (cases h; done) | (have := Option.some.inj h; subst this; subst_vars; decide)
theorem hexVal_fin : ∀ v : Fin 16, hexVal (hxd (v.val : Int)) = some (v.val : Int) := by decide
theorem hexVal_hxd {v : Int} (h0 : 0 ≤ v) (h1 : v < 16) : hexVal (hxd v) = some v := by
  obtain ⟨n, rfl⟩ := Int.eq_ofNat_of_zero_le h0
  exact hexVal_fin ⟨n, by omega⟩
theorem enc_head (r : Int) : ∃ b m, enc r = b :: m ∧ ((r < 128 ∧ b = r ∧ m = []) ∨ (128 ≤ r ∧ (good r → 128 ≤ b))) := by
  unfold enc good
  split
  · exact ⟨r, [], rfl, .inl ⟨by omega, rfl, rfl⟩⟩
  · split
    · exact ⟨_, _, rfl, .inr ⟨by omega, fun _ => by omega⟩⟩
    · split
      · exact ⟨_, _, rfl, .inr ⟨by omega, fun _ => by omega⟩⟩
      · exact ⟨_, _, rfl, .inr ⟨by omega, fun _ => by omega⟩⟩
/-- The three ways in which a letter is written. -/
theorem qlet_cases (last : Bool) {r : Int} (hg : good r) : (∃ c, sevn r = some c ∧ qlet last r = [92, c]) ∨
    (r < 128 ∧ qlet last r = [92, 117, 48, 48, hxd (r / 16), hxd (r % 16)]) ∨
    (qlet last r = enc r ∧ ¬ ctrl last r ∧ ∃ b m, enc r = b :: m ∧ 32 ≤ b ∧ b ≠ 34 ∧ b ≠ 92 ∧ (b = 127 → last = false) ∧ (m ≠ [] → 128 ≤ r)) := by
  have hq : qlet last r = match sevn r with
    | some c => [92, c]
    | none => if ctrl last r then [92, 117, 48, 48, hxd (r / 16), hxd (r % 16)] else enc r := rfl
  cases hs : sevn r with
  | some c => rw [hs] at hq; exact .inl ⟨c, rfl, hq⟩
  | none =>
    rw [hs] at hq
    simp only at hq
    by_cases hc : ctrl last r
    · rw [if_pos hc] at hq
      exact .inr (.inl ⟨by unfold ctrl at hc; omega, hq⟩)
    · rw [if_neg hc] at hq
      refine .inr (.inr ⟨hq, hc, ?_⟩)
      obtain ⟨b, m, he, h⟩ := enc_head r
      have n1 : r ≠ 34 := fun e => by subst e; cases hs
      have n2 : r ≠ 92 := fun e => by subst e; cases hs
      unfold ctrl at hc
      refine ⟨b, m, he, ?_⟩
      rcases h with ⟨h1, rfl, rfl⟩ | ⟨h1, h2⟩
      · refine ⟨by omega, n1, n2, fun e => ?_, fun e => absurd rfl e⟩
        cases last with
        | false => rfl
        | true => exact absurd (.inr ⟨e, rfl⟩) hc
      · have := h2 hg
        exact ⟨by omega, by omega, by omega, fun e => by omega, fun _ => h1⟩
theorem hex_ctrl {r : Int} (h0 : 0 ≤ r) (h1 : r < 128) : hexI 0 [48, 48, hxd (r / 16), hxd (r % 16)] = some r := by
  have a := hexVal_hxd (v := r / 16) (by omega) (by omega)
  have b := hexVal_hxd (v := r % 16) (by omega) (by omega)
  have z : hexVal 48 = some 0 := rfl
  simp only [hexI, a, b, z, Option.bind_some]
  congr 1
  omega
theorem digs_ctrl {r : Int} (h0 : 0 ≤ r) (h1 : r < 128) (t : List Int) : digsAt (92 :: 117 :: 48 :: 48 :: hxd (r / 16) :: hxd (r % 16) :: t) 2 4 = some r := by
  unfold digsAt
  rw [if_pos (by simp only [List.length_cons]; omega)]
  exact hex_ctrl h0 h1
theorem jesc_sevn {r c : Int} (h : sevn r = some c) (t : List Int) : jesc (92 :: c :: t) = some (r, 2) := by
  have hs := (sevn_short h).1
  unfold jesc
  rw [if_neg (by simp), show (92 :: c :: t).getD 1 0 = c from rfl, hs, if_pos (show (some r).isSome = true from rfl)]
  rfl
theorem jesc_ctrl {r : Int} (h0 : 0 ≤ r) (h1 : r < 128) (t : List Int) : jesc (92 :: 117 :: 48 :: 48 :: hxd (r / 16) :: hxd (r % 16) :: t) = some (r, 6) := by
  have hd := digs_ctrl h0 h1 t
  unfold jesc
  rw [if_neg (by simp), show (92 :: 117 :: 48 :: 48 :: hxd (r / 16) :: hxd (r % 16) :: t).getD 1 0 = 117 from rfl, if_neg (by decide), hd, if_neg (by show ¬ ((117 : Int) ≠ 117 ∨ true = false); decide), Option.getD_some, if_pos (by omega), if_pos (by unfold good; omega)]
theorem tesc_sevn {r c : Int} (h : sevn r = some c) (t : List Int) : tesc false (92 :: c :: t) = some (enc r, 2) := by
  have hs := (sevn_short h).2
  unfold tesc
  rw [if_neg (by simp)]
  unfold tesc0
  rw [if_neg (by simp), show (92 :: c :: t).getD 1 0 = c from rfl, hs, if_pos (show (some r).isSome = true from rfl)]
  rfl
theorem tesc_ctrl {r : Int} (h0 : 0 ≤ r) (h1 : r < 128) (t : List Int) : tesc false (92 :: 117 :: 48 :: 48 :: hxd (r / 16) :: hxd (r % 16) :: t) = some (enc r, 6) := by
  have hd := digs_ctrl h0 h1 t
  unfold tesc
  rw [if_neg (by simp)]
  unfold tesc0
  rw [if_neg (by simp), show (92 :: 117 :: 48 :: 48 :: hxd (r / 16) :: hxd (r % 16) :: t).getD 1 0 = 117 from rfl, if_neg (by decide), if_pos rfl]
  unfold tdig
  rw [hd, Option.bind_some, if_pos (by unfold good; omega)]
/-- JSON: a letter that was written is read. -/
theorem jstep {L : List Int} {k i : Nat} {acc : List Int} {r : Int} (last : Bool) (hg : good r) {t : List Int} (h : L.drop i = qlet last r ++ t) : jbody L (k + 1) i acc = jbody L k (i + (qlet last r).length) (acc ++ enc r) := by
  rcases qlet_cases last hg with ⟨c, hs, hq⟩ | ⟨h1, hq⟩ | ⟨hq, _, b, m, he, b1, b2, b3, _⟩
  · rw [hq] at h ⊢
    rw [jbody, if_neg (by have := drop_pos h; omega), drop_getD h, if_neg (by decide), if_neg (by decide), if_pos rfl, h, show [92, c] ++ t = 92 :: c :: t from rfl, jesc_sevn hs]
    rfl
  · rw [hq] at h ⊢
    rw [jbody, if_neg (by have := drop_pos h; omega), drop_getD h, if_neg (by decide), if_neg (by decide), if_pos rfl, h, show [92, 117, 48, 48, hxd (r / 16), hxd (r % 16)] ++ t = 92 :: 117 :: 48 :: 48 :: hxd (r / 16) :: hxd (r % 16) :: t from rfl, jesc_ctrl hg.1 h1]
    rfl
  · rw [hq] at h ⊢
    have h' := h
    rw [he, List.cons_append] at h'
    have hl := enc_len r
    rw [jbody, if_neg (by have := drop_pos h'; omega), drop_getD h', if_neg b2, if_neg (by omega), if_neg b3, h, tk_enc hg, if_pos (by show (0 : Int) < ((enc r).length : Int); omega), enc0_good hg, Int.toNat_natCast]
theorem jend {L : List Int} {k i : Nat} {acc t : List Int} (h : L.drop i = 34 :: t) : jbody L (k + 1) i acc = (true, acc, i + 1) := by
  rw [jbody, if_neg (by have := drop_pos h; omega), drop_getD h, if_pos rfl]
theorem tend_no {b : Int} {t : List Int} (h : b ≠ 34) : tend false 34 (b :: t) = none := by
  unfold tend
  rw [if_neg (by decide), if_pos]
  simp only [lead, if_neg h]
/-- TOML: a letter that was written is read. -/
theorem tstep {L : List Int} {k i : Nat} {acc : List Int} {r : Int} (hg : good r) {t : List Int} (h : L.drop i = qlet true r ++ t) : tbody L 34 false (k + 1) i acc = tbody L 34 false k (i + (qlet true r).length) (acc ++ enc r) := by
  rcases qlet_cases true hg with ⟨c, hs, hq⟩ | ⟨h1, hq⟩ | ⟨hq, _, b, m, he, b1, b2, b3, b4, _⟩
  · rw [hq] at h ⊢
    rw [show [92, c] ++ t = 92 :: c :: t from rfl] at h
    rw [tbody, if_neg (by have := drop_pos h; omega), h, tend_no (by decide)]
    simp only
    rw [titem, if_pos ⟨rfl, rfl⟩, tesc_sevn hs]
    rfl
  · rw [hq] at h ⊢
    rw [show [92, 117, 48, 48, hxd (r / 16), hxd (r % 16)] ++ t = 92 :: 117 :: 48 :: 48 :: hxd (r / 16) :: hxd (r % 16) :: t from rfl] at h
    rw [tbody, if_neg (by have := drop_pos h; omega), h, tend_no (by decide)]
    simp only
    rw [titem, if_pos ⟨rfl, rfl⟩, tesc_ctrl hg.1 h1]
    rfl
  · rw [hq] at h ⊢
    have h' := h
    rw [he, List.cons_append] at h'
    have hl := enc_len r
    have e0 : (enc r ++ t).getD 0 0 = b := by rw [he]; rfl
    have hi : titem false 34 (enc r ++ t) = some (enc r, (enc r).length) := by
      have n127 : b ≠ 127 := fun e => by have := b4 e; cases this
      rw [titem, if_neg (by rw [e0]; omega), tplain, e0, if_neg (by simp; omega), if_neg (by omega), tk_enc hg, if_pos (by show (0 : Int) < ((enc r).length : Int); omega), enc0_good hg, Int.toNat_natCast]
    have hn : tend false 34 (enc r ++ t) = none := by rw [he, List.cons_append, tend_no b2]
    rw [tbody, if_neg (by have := drop_pos h'; omega), h, hn]
    simp only
    rw [hi]
theorem tend34 {L : List Int} {k i : Nat} {acc t : List Int} (h : L.drop i = 34 :: t) : tbody L 34 false (k + 1) i acc = (true, acc, i + 1) := by
  have h3 : tend false 34 (34 :: t) = some ([], 1) := by
    unfold tend
    rw [if_neg (by decide), if_neg (by simp only [lead, if_true]; omega)]
  rw [tbody, if_neg (by have := drop_pos h; omega), h, h3]
  simp
theorem qbody_enc (last : Bool) {r : Int} (hg : good r) (m : List Int) : qbody last (enc r ++ m) = qlet last r ++ qbody last m := by
  have hn : (tk (enc r ++ m)).2 ≠ 0 := tk_letter_ne hg m
  rw [qbody_step (by simp [enc_ne]), stp_enc hg, List.drop_left]
  unfold hdl
  rw [if_neg hn, tk_enc hg]
theorem drop_next {L a b : List Int} {i : Nat} (h : L.drop i = a ++ b) : L.drop (i + a.length) = b := by
  rw [← List.drop_drop, h, List.drop_left]
theorem jback (last : Bool) (l : List Int) (hl : Bytes l) (hb : bad l = none) : ∀ (L : List Int) (i : Nat) (t acc : List Int) (k : Nat), L.drop i = qbody last l ++ 34 :: t → l.length < k → jbody L k i acc = (true, acc ++ l, i + (qbody last l).length + 1) := by
  refine text_induction (P := fun l => ∀ (L : List Int) (i : Nat) (t acc : List Int) (k : Nat), L.drop i = qbody last l ++ 34 :: t → l.length < k → jbody L k i acc = (true, acc ++ l, i + (qbody last l).length + 1)) ?_ ?_ l hl hb
  · intro L i t acc k h hk
    obtain ⟨k, rfl⟩ : ∃ j, k = j + 1 := ⟨k - 1, by omega⟩
    rw [qbody_nil] at h
    rw [jend h, qbody_nil, List.append_nil]
    rfl
  · intro r m hg _ _ ih L i t acc k h hk
    have hr := enc_len r
    rw [List.length_append] at hk
    obtain ⟨k, rfl⟩ : ∃ j, k = j + 1 := ⟨k - 1, by omega⟩
    rw [qbody_enc last hg, List.append_assoc] at h
    rw [jstep last hg h, ih L _ t _ k (drop_next h) (by omega), qbody_enc last hg, List.append_assoc, List.length_append, show i + (qlet last r).length + (qbody last m).length + 1 = i + ((qlet last r).length + (qbody last m).length) + 1 by omega]
theorem tback (l : List Int) (hl : Bytes l) (hb : bad l = none) : ∀ (L : List Int) (i : Nat) (t acc : List Int) (k : Nat), L.drop i = qbody true l ++ 34 :: t → l.length < k → tbody L 34 false k i acc = (true, acc ++ l, i + (qbody true l).length + 1) := by
  refine text_induction (P := fun l => ∀ (L : List Int) (i : Nat) (t acc : List Int) (k : Nat), L.drop i = qbody true l ++ 34 :: t → l.length < k → tbody L 34 false k i acc = (true, acc ++ l, i + (qbody true l).length + 1)) ?_ ?_ l hl hb
  · intro L i t acc k h hk
    obtain ⟨k, rfl⟩ : ∃ j, k = j + 1 := ⟨k - 1, by omega⟩
    rw [qbody_nil] at h
    rw [tend34 h, qbody_nil, List.append_nil]
    rfl
  · intro r m hg _ _ ih L i t acc k h hk
    have hr := enc_len r
    rw [List.length_append] at hk
    obtain ⟨k, rfl⟩ : ∃ j, k = j + 1 := ⟨k - 1, by omega⟩
    rw [qbody_enc true hg, List.append_assoc] at h
    rw [tstep hg h, ih L _ t _ k (drop_next h) (by omega), qbody_enc true hg, List.append_assoc, List.length_append, show i + (qlet true r).length + (qbody true m).length + 1 = i + ((qlet true r).length + (qbody true m).length) + 1 by omega]
/-- What is written begins with no quote, its own aside. -/
theorem qbody_first {l : List Int} (hl : Bytes l) (h : l ≠ []) (last : Bool) : ∃ b t, qbody last l = b :: t ∧ b ≠ 34 := by
  rw [qbody_step h]
  rcases qlet_cases last (hdl_good hl) with ⟨c, _, hq⟩ | ⟨_, hq⟩ | ⟨hq, _, b, m, he, _, b2, _⟩
  · rw [hq]; exact ⟨92, _, rfl, by decide⟩
  · rw [hq]; exact ⟨92, _, rfl, by decide⟩
  · rw [hq, he]; exact ⟨b, _, rfl, b2⟩
end Go.Proofs.YtoanbmggffkmgaaDoor.La
end
section
namespace Go.Proofs.YtoanbmggffkmgaaDoor.La
open Go.RowKit Go.Proofs.YtoanbmggffkmgaaDoor.P Go.Proofs.YtoanbmggffkmgaaDoorW.PrintWords Go.Proofs.YtoanbmggffkmgaaDoorW.PrintLast
theorem hex4_eq {x : Int} (h0 : 0 ≤ x) (h1 : x < 128) : dragomanref5_hex4.f x = some (strOfNums [48, 48, hxd (x / 16), hxd (x % 16)]) := by
  have a1 := and15 (x := x / 4096) (by omega) (by omega)
  have a2 := and15 (x := x / 256) (by omega) (by omega)
  have a3 := and15 (x := x / 16) (by omega) (by omega)
  have a4 := and15 (x := x) (by omega) (by omega)
  rw [show x / 4096 % 16 = 0 by omega] at a1
  rw [show x / 256 % 16 = 0 by omega] at a2
  rw [show x / 16 % 16 = x / 16 by omega] at a3
  have b1 := hxd_val (v := x / 16) (by omega) (by omega)
  have b2 := hxd_val (v := x % 16) (by omega) (by omega)
  have b0 := hxd_val (v := 0) (by omega) (by omega)
  unfold dragomanref5_hex4.f
  rw [a1, a2, a3, a4, if_pos (by omega), if_pos (by omega), if_pos (by omega), if_pos (by omega), if_pos (by omega), if_pos (by omega), if_pos (by omega), if_pos (by omega), b0.2.2, b1.2.2, b2.2.2]
  rfl
theorem strOfNums4 {x : Int} (h0 : 0 ≤ x) (h1 : x < 128) : bytesOf (strOfNums [48, 48, hxd (x / 16), hxd (x % 16)]) = [48, 48, hxd (x / 16), hxd (x % 16)] := by
  have b1 := hxd_val (v := x / 16) (by omega) (by omega)
  have b2 := hxd_val (v := x % 16) (by omega) (by omega)
  refine strOfNums_bytes ?_
  intro y hy
  simp at hy
  omega
theorem rq_j1 (s : ByteArray) (last : Bool) (acc : ByteArray) (X : List Int) (x7 : Int) (y : ByteArray) {r : Int} (hg : good r) (hy : bytesOf y = enc r) (ha : acc.size ≤ 1000000) {R : ByteArray}
    (h : ∀ acc', bytesOf acc' = bytesOf acc ++ qlet last r → Ev (fun k => dragomanref5_Quote.l0 k s last acc' X (wrap64 (x7 + 1))) R) :
    Ev (fun k => dragomanref5_Quote.j1 k s last acc X x7 y (bt y 0) (if bt y 0 = 34 then true else (bt y 0 == 92))) R := by
  have hr := hg.1
  have hel := enc_len r
  have hys : y.size = (enc r).length := by rw [← size_of, hy]
  have hsa : ∀ t : ByteArray, (acc ++ t).size = acc.size + t.size := size_append' acc
  obtain ⟨b, m, he, hh⟩ := enc_head r
  have hc : bt y 0 = b := by rw [bt_get, hy, he]; rfl
  rw [hc]
  by_cases h128 : r < 128
  · obtain ⟨_, rfl, rfl⟩ : r < 128 ∧ b = r ∧ m = [] := by
      rcases hh with hh | hh
      · exact hh
      · omega
    have hy1 : bytesOf y = [b] := by rw [hy, he]
    have hq : qlet last b = match sevn b with
      | some c => [92, c]
      | none => if ctrl last b then [92, 117, 48, 48, hxd (b / 16), hxd (b % 16)] else enc b := rfl
    by_cases h1 : b = 34 ∨ b = 92
    · have hf : (if b = 34 then true else (b == 92)) = true := by rcases h1 with rfl | rfl <;> rfl
      have hqq : qlet last b = [92, b] := by rcases h1 with rfl | rfl <;> rfl
      rw [hf]
      refine Ev.step (fun k => by rw [dragomanref5_Quote.j1, if_pos rfl, if_pos (by omega), if_pos (by rw [hsa]; show acc.size + 1 + _ ≤ _; omega)]) ?_
      exact h _ (by rw [bytesOf_append, bytesOf_append, hy1, hqq, List.append_assoc]; rfl)
    · have hf : (if b = 34 then true else (b == 92)) = false := by
        rw [if_neg (fun e => h1 (.inl e))]
        exact beq_eq_false_iff_ne.2 (fun e => h1 (.inr e))
      rw [hf]
      by_cases h8 : b = 8
      · subst h8
        refine Ev.step (fun k => by rw [dragomanref5_Quote.j1, if_neg (by decide), if_pos rfl, if_pos (by omega)]) ?_
        exact h _ (by rw [bytesOf_append]; rfl)
      by_cases h9 : b = 9
      · subst h9
        refine Ev.step (fun k => by rw [dragomanref5_Quote.j1, if_neg (by decide), if_neg (by decide), if_pos rfl, if_pos (by omega)]) ?_
        exact h _ (by rw [bytesOf_append]; rfl)
      by_cases h10 : b = 10
      · subst h10
        refine Ev.step (fun k => by rw [dragomanref5_Quote.j1, if_neg (by decide), if_neg (by decide), if_neg (by decide), if_pos rfl, if_pos (by omega)]) ?_
        exact h _ (by rw [bytesOf_append]; rfl)
      by_cases h12 : b = 12
      · subst h12
        refine Ev.step (fun k => by rw [dragomanref5_Quote.j1, if_neg (by decide), if_neg (by decide), if_neg (by decide), if_neg (by decide), if_pos rfl, if_pos (by omega)]) ?_
        exact h _ (by rw [bytesOf_append]; rfl)
      by_cases h13 : b = 13
      · subst h13
        refine Ev.step (fun k => by rw [dragomanref5_Quote.j1, if_neg (by decide), if_neg (by decide), if_neg (by decide), if_neg (by decide), if_neg (by decide), if_pos rfl, if_pos (by omega)]) ?_
        exact h _ (by rw [bytesOf_append]; rfl)
      have hsv : sevn b = none := by
        unfold sevn
        rw [if_neg (fun e => h1 (.inl e)), if_neg (fun e => h1 (.inr e)), if_neg h8, if_neg h12, if_neg h10, if_neg h13, if_neg h9]
      rw [hsv] at hq
      simp only at hq
      have hwr : wrap64 b = b := wrap_id (by omega) (by omega)
      by_cases h32 : b < 32
      · rw [if_pos (show ctrl last b from .inl h32)] at hq
        have hx := hex4_eq hr h128
        have h4 := strOfNums4 hr h128
        have h4s : (strOfNums [48, 48, hxd (b / 16), hxd (b % 16)]).size = 4 := by rw [← size_of, h4]; rfl
        have HW := Lib.hid hwr
        clear hwr
        refine Ev.step (fun k => by rw [dragomanref5_Quote.j1, if_neg (by decide), if_neg h8, if_neg h9, if_neg h10, if_neg h12, if_neg h13, if_pos h32, if_pos (by omega), HW.out, hx, Option.bind_some, if_pos (by rw [hsa, h4s]; show acc.size + 2 + _ ≤ _; omega)]) ?_
        exact h _ (by rw [bytesOf_append, bytesOf_append, h4, hq, List.append_assoc]; rfl)
      · by_cases h127 : b = 127 ∧ last = true
        · obtain ⟨h127, rfl⟩ := h127
          rw [if_pos (show ctrl true b from .inr ⟨h127, rfl⟩)] at hq
          have hx := hex4_eq hr h128
          have h4 := strOfNums4 hr h128
          have h4s : (strOfNums [48, 48, hxd (b / 16), hxd (b % 16)]).size = 4 := by rw [← size_of, h4]; rfl
          have HW := Lib.hid hwr
          clear hwr
          refine Ev.step (fun k => by rw [dragomanref5_Quote.j1, if_neg (by decide), if_neg h8, if_neg h9, if_neg h10, if_neg h12, if_neg h13, if_neg h32, if_pos rfl, if_pos h127, if_pos (by omega), HW.out, hx, Option.bind_some, if_pos (by rw [hsa, h4s]; show acc.size + 2 + _ ≤ _; omega)]) ?_
          exact h _ (by rw [bytesOf_append, bytesOf_append, h4, hq, List.append_assoc]; rfl)
        · rw [if_neg (show ¬ ctrl last b from fun e => e.elim h32 h127)] at hq
          clear hwr
          cases last with
          | true =>
            refine Ev.step (fun k => by rw [dragomanref5_Quote.j1, if_neg (by decide), if_neg h8, if_neg h9, if_neg h10, if_neg h12, if_neg h13, if_neg h32, if_pos rfl, if_neg (fun e => h127 ⟨e, rfl⟩), if_pos (by omega)]) ?_
            exact h _ (by rw [bytesOf_append, hy, hq])
          | false =>
            refine Ev.step (fun k => by rw [dragomanref5_Quote.j1, if_neg (by decide), if_neg h8, if_neg h9, if_neg h10, if_neg h12, if_neg h13, if_neg h32, if_neg (by decide), if_pos (by omega)]) ?_
            exact h _ (by rw [bytesOf_append, hy, hq])
  · have hb : 128 ≤ b := by
      rcases hh with hh | hh
      · omega
      · exact hh.2 hg
    have hf : (if b = 34 then true else (b == 92)) = false := by
      rw [if_neg (by omega)]
      exact beq_eq_false_iff_ne.2 (by omega)
    have hq : qlet last r = enc r := by
      rcases qlet_cases last hg with ⟨c, hs, _⟩ | ⟨h1, _⟩ | ⟨hq, _⟩
      · unfold sevn at hs
        (repeat' split at hs) <;> first | (cases hs; done) | omega
      · omega
      · exact hq
    rw [hf]
    cases last with
    | true =>
      refine Ev.step (fun k => by rw [dragomanref5_Quote.j1, if_neg (by decide), if_neg (by omega), if_neg (by omega), if_neg (by omega), if_neg (by omega), if_neg (by omega), if_neg (by omega), if_pos rfl, if_neg (by omega), if_pos (by omega)]) ?_
      exact h _ (by rw [bytesOf_append, hy, hq])
    | false =>
      refine Ev.step (fun k => by rw [dragomanref5_Quote.j1, if_neg (by decide), if_neg (by omega), if_neg (by omega), if_neg (by omega), if_neg (by omega), if_neg (by omega), if_neg (by omega), if_neg (by decide), if_pos (by omega)]) ?_
      exact h _ (by rw [bytesOf_append, hy, hq])
theorem sts_head (l : List Int) : ∃ t, sts l = 0 :: t := by
  by_cases h : l = []
  · subst h; rw [sts_nil]; exact ⟨_, rfl⟩
  · rw [sts_step h]; exact ⟨_, rfl⟩
theorem piece {l : List Int} (hl : Bytes l) (h : l ≠ []) : ((tk l).2 = 0 ∧ (tk (l.take (stp l))).2 = 0 ∧ hdl l = 65533) ∨ (∃ r, good r ∧ l.take (stp l) = enc r ∧ hdl l = r ∧ (tk (l.take (stp l))).2 ≠ 0) := by
  rcases tk_inv l hl with h0 | ⟨hg, hn, m, hm⟩
  · left
    have h2 : (tk l).2 = 0 := by rw [h0]
    refine ⟨h2, ?_, by unfold hdl; rw [if_pos h2]⟩
    unfold stp
    rw [if_pos h2]
    cases l with
    | nil => exact absurd rfl h
    | cons a t =>
      have ha : ¬ a < 128 := fun e => by
        simp only [tk, if_pos e] at h2
        cases h2
      rw [List.take_succ_cons, List.take_zero]
      simp only [tk, if_neg ha]
      (repeat' split) <;> rfl
  · right
    have hel := enc_len (tk l).1
    have h2 : (tk l).2 ≠ 0 := by omega
    have hst : stp l = (enc (tk l).1).length := by
      unfold stp
      rw [if_neg h2]
      omega
    have htk : l.take (stp l) = enc (tk l).1 := by
      rw [hst]
      have := congrArg (fun x => x.take (enc (tk l).1).length) hm
      simpa using this
    refine ⟨(tk l).1, hg, htk, by unfold hdl; rw [if_neg h2], ?_⟩
    rw [htk]
    have := tk_letter_ne hg []
    rwa [List.append_nil] at this
theorem rq_l0 (s : ByteArray) (last : Bool) (hs : s.size ≤ 10000) (n : Nat) : ∀ (p : Nat) (pre : List Nat) (acc : ByteArray), p ≤ s.size → s.size - p ≤ n → sts (bytesOf s) = pre ++ (sts ((bytesOf s).drop p)).map (· + p) → acc.size ≤ 6 * p + 1 →
    Ev (fun k => dragomanref5_Quote.l0 k s last acc (ints (sts (bytesOf s))) (pre.length : Int)) (strOfNums (bytesOf acc ++ qbody last ((bytesOf s).drop p) ++ [34])) := by
  have hB := bytes_of s
  have hXl : (sts (bytesOf s)).length ≤ 10001 := by
    have := cnt_le (bytesOf s)
    rw [size_of] at this
    rw [sts_len]
    omega
  have fin : ∀ (p : Nat) (pre : List Nat) (acc : ByteArray), sts (bytesOf s) = pre ++ (sts ((bytesOf s).drop p)).map (· + p) → acc.size ≤ 6 * p + 1 → p ≤ s.size → (bytesOf s).drop p = [] → Ev (fun k => dragomanref5_Quote.l0 k s last acc (ints (sts (bytesOf s))) (pre.length : Int)) (strOfNums (bytesOf acc ++ qbody last ((bytesOf s).drop p) ++ [34])) := by
    intro p pre acc hX ha hp he
    have hl : (ints (sts (bytesOf s))).length = pre.length + 1 := by rw [ints_length, hX, he, sts_nil]; simp
    rw [ints_length] at hl
    have hw : wrap64 ((pre.length : Int) + 1) = ((pre.length + 1 : Nat) : Int) := by rw [wrap_id (by omega) (by omega)]; omega
    have HW := Lib.hid hw
    clear hw
    refine Ev.step (fun k => by rw [dragomanref5_Quote.l0, HW.out, ints_length, if_neg (by omega), if_pos (by omega)]) ?_
    have : acc ++ (⟨#[34]⟩ : ByteArray) = strOfNums (bytesOf acc ++ qbody last ((bytesOf s).drop p) ++ [34]) := by
      rw [he, qbody_nil, List.append_nil, ← strOfNums_of (acc ++ (⟨#[34]⟩ : ByteArray)), bytesOf_append]
      rfl
    rw [this]
    exact Ev.now _
  induction n with
  | zero =>
    intro p pre acc hp hn hX ha
    exact fin p pre acc hX ha hp (List.eq_nil_of_length_eq_zero (by rw [List.length_drop, size_of]; omega))
  | succ n ih =>
    intro p pre acc hp hn hX ha
    by_cases he : (bytesOf s).drop p = []
    · exact fin p pre acc hX ha hp he
    have hBd := bytes_drop' hB p
    have hst := stp_le hBd he
    have hst1 := stp_pos' ((bytesOf s).drop p)
    have hql := qlet_len last (hdl ((bytesOf s).drop p))
    rw [List.length_drop, size_of] at hst
    generalize hq : stp ((bytesOf s).drop p) = q at hst hst1
    have hX2 : sts (bytesOf s) = (pre ++ [p]) ++ (sts ((bytesOf s).drop (p + q))).map (· + (p + q)) := by
      rw [hX, sts_step he, hq, List.map_cons, List.map_map, List.drop_drop, List.append_assoc]
      simp only [Nat.zero_add, List.singleton_append]
      congr 2
      refine List.map_congr_left fun x _ => ?_
      simp only [Function.comp_apply]
      omega
    obtain ⟨u, hu⟩ := sts_head ((bytesOf s).drop (p + q))
    have hX3 : sts (bytesOf s) = pre ++ p :: (p + q) :: u.map (· + (p + q)) := by
      rw [hX2, hu, List.append_assoc, List.map_cons, Nat.zero_add]
      rfl
    have r1 : rd (ints (sts (bytesOf s))) (pre.length : Int) = (p : Int) := ints_get _ (by rw [hX3]; simp)
    have r2 : rd (ints (sts (bytesOf s))) ((pre.length + 1 : Nat) : Int) = ((p + q : Nat) : Int) := ints_get _ (by rw [hX3]; simp)
    have hlen : (sts (bytesOf s)).length = pre.length + 2 + u.length := by rw [hX3]; simp; omega
    have hw : wrap64 ((pre.length : Int) + 1) = ((pre.length + 1 : Nat) : Int) := by rw [wrap_id (by omega) (by omega)]; omega
    have hy : bytesOf (s.extract p (p + q)) = ((bytesOf s).drop p).take q := by
      rw [bytesOf_extract, List.drop_take]
      congr 1
      omega
    have hys : (s.extract p (p + q)).size = q := by rw [← size_of, hy, List.length_take, List.length_drop, size_of]; omega
    have HW := Lib.hid hw
    have next : ∀ acc', bytesOf acc' = bytesOf acc ++ qlet last (hdl ((bytesOf s).drop p)) → Ev (fun k => dragomanref5_Quote.l0 k s last acc' (ints (sts (bytesOf s))) (wrap64 ((pre.length : Int) + 1))) (strOfNums (bytesOf acc ++ qbody last ((bytesOf s).drop p) ++ [34])) := by
      intro acc' hacc
      have hsz : acc'.size = acc.size + (qlet last (hdl ((bytesOf s).drop p))).length := by rw [← size_of, hacc, List.length_append, size_of]
      have := ih (p + q) (pre ++ [p]) acc' (by omega) (by omega) hX2 (by omega)
      rw [hacc, List.append_assoc (bytesOf acc), ← hq, ← List.drop_drop, ← qbody_step he, List.length_append] at this
      rw [HW.out]
      exact this
    clear hw
    refine Ev.step (fun k => by rw [dragomanref5_Quote.l0, r1, if_pos (by rw [HW.out, ints_length]; omega), if_pos (by omega), if_pos (by rw [ints_length]; omega), if_pos (by rw [HW.out]; omega), if_pos (by omega), if_pos (by rw [HW.out, r2]; omega), if_pos (by rw [HW.out, r2]; omega), show rd (ints (sts (bytesOf s))) (wrap64 ((pre.length : Int) + 1)) = ((p + q : Nat) : Int) from by rw [HW.out, r2], Int.toNat_natCast, Int.toNat_natCast]) ?_
    refine Ev.bind (ref_take_ev (s.extract p (p + q))) ?_
    rw [hy]
    have hpc := piece hBd he
    rw [hq] at hpc
    simp only [hys]
    refine Ev.congr (fun k => by rw [if_pos (by omega)]) ?_
    rcases hpc with ⟨_, h2, h3⟩ | ⟨r, hg, h2, h3, h4⟩
    · rw [h3] at next
      refine Ev.congr (fun k => by rw [if_pos h2, if_pos (by omega)]) ?_
      exact next _ (by rw [bytesOf_append]; cases last <;> rfl)
    · rw [h3] at next
      have := rq_j1 s last acc (ints (sts (bytesOf s))) (pre.length : Int) (s.extract p (p + q)) hg (by rw [hy, h2]) (by omega) next
      refine Ev.congr (fun k => by rw [if_neg h4]) ?_
      by_cases h34 : bt (s.extract p (p + q)) 0 = 34
      · simp only [if_pos h34] at this ⊢
        exact this
      · simp only [if_neg h34] at this ⊢
        exact this
theorem refQuote_ev (s : ByteArray) (last : Bool) (hs : s.size ≤ 10000) : Ev (fun k => dragomanref5_Quote.f k s last) (strOfNums (quoteL last (bytesOf s))) := by
  refine Ev.congr (fun k => by rw [dragomanref5_Quote.f]) (Ev.bind (starts_ev s (by omega)) ?_)
  have := rq_l0 s last hs s.size 0 [] ⟨#[34]⟩ (by omega) (by omega) (by simp) (by decide)
  rw [List.drop_zero] at this
  exact this
theorem rbare_l0 (s : ByteArray) (hs : s.size ≤ 10000) (n : Nat) : ∀ i : Nat, i ≤ s.size → s.size - i = n → ((bytesOf s).take i).all bareB = true → Ev (fun k => dragomanref5_Bare.l0 k s (i : Int)) (bareS (bytesOf s)) := by
  induction n with
  | zero =>
    intro i hi hn hall
    rw [List.take_of_length_le (by rw [size_of]; omega)] at hall
    refine Ev.step (fun k => by rw [dragomanref5_Bare.l0, if_neg (by omega)]) ?_
    have : (s.toList != ([] : List UInt8)) = bareS (bytesOf s) := by
      unfold bareS
      rw [hall, Bool.and_true]
      have := toList_nil_iff s
      by_cases h : bytesOf s = []
      · rw [this.2 h, h]; rfl
      · rw [decide_eq_true h]
        exact bne_iff_ne.2 (fun e => h (this.1 e))
    rw [this]
    exact Ev.now _
  | succ n ih =>
    intro i hi hn hall
    have hlt : i < (bytesOf s).length := by rw [size_of]; omega
    have hw : wrap64 ((i : Int) + 1) = ((i + 1 : Nat) : Int) := by rw [wrap_id (by omega) (by omega)]; omega
    have hb : bt s (i : Int) = (bytesOf s)[i] := by rw [bt_get]; simp [List.getD_eq_getElem?_getD, hlt]
    have hnext : bareB (bytesOf s)[i] = true → Ev (fun k => dragomanref5_Bare.l0 k s ((i + 1 : Nat) : Int)) (bareS (bytesOf s)) := fun h => ih (i + 1) (by omega) (by omega) (by rw [List.take_succ_eq_append_getElem hlt, List.all_append, hall]; simp [h])
    refine Ev.step (fun k => by rw [dragomanref5_Bare.l0, hw, if_pos (by omega), if_pos (by omega), hb]) ?_
    generalize hbv : (bytesOf s)[i] = b at hnext
    by_cases hbare : bareB b = true
    · have := hnext hbare
      simp only [bareB, Bool.or_eq_true, Bool.and_eq_true, decide_eq_true_eq] at hbare
      (repeat' split) <;> first | exact this | (exfalso; omega)
    · have hf : bareS (bytesOf s) = false := by
        unfold bareS
        have : (bytesOf s).all bareB = false := by
          rw [List.all_eq_false]
          exact ⟨b, by rw [← hbv]; exact List.getElem_mem hlt, hbare⟩
        rw [this, Bool.and_false]
      rw [hf]
      simp only [bareB, Bool.or_eq_true, Bool.and_eq_true, decide_eq_true_eq] at hbare
      (repeat' split) <;> first | exact Ev.now _ | (exfalso; omega)
theorem refBare_ev (s : ByteArray) (hs : s.size ≤ 10000) : Ev (fun k => dragomanref5_Bare.f k s) (bareS (bytesOf s)) :=
  Ev.congr (fun k => by rw [dragomanref5_Bare.f]; rfl) (rbare_l0 s hs s.size 0 (by omega) rfl rfl)
theorem pow_small {i : Nat} (h : i ≤ 8) : (16 : Int) ^ i ≤ 4294967296 := by
  have : i = 0 ∨ i = 1 ∨ i = 2 ∨ i = 3 ∨ i = 4 ∨ i = 5 ∨ i = 6 ∨ i = 7 ∨ i = 8 := by omega
  rcases this with rfl | rfl | rfl | rfl | rfl | rfl | rfl | rfl | rfl <;> decide
/-- What the document's Hex answers. -/
def hexR (l : List Int) : Int × Bool := if l.length < 1 ∨ l.length > 8 then (0, false) else ((hexI 0 l).getD 0, (hexI 0 l).isSome)
theorem rhex_j3 (s : ByteArray) (x i b : Int) : Ev (fun k => dragomanref5_Hex.j3 k s x i b false) (0, false) := Ev.step (fun k => by rw [dragomanref5_Hex.j3, if_neg (by decide)]) (Ev.now _)
theorem rhex_j2 (s : ByteArray) (x i b : Int) (h : ¬ (65 ≤ b ∧ b ≤ 70)) : Ev (fun k => dragomanref5_Hex.j2 k s x i b false) (0, false) := by
  by_cases h1 : b ≥ 65
  · exact Ev.step (fun k => by rw [dragomanref5_Hex.j2, if_neg (by decide), if_pos h1, decide_eq_false (by omega)]) (rhex_j3 s x i b)
  · exact Ev.step (fun k => by rw [dragomanref5_Hex.j2, if_neg (by decide), if_neg h1]) (rhex_j3 s x i b)
theorem rhex_j1 (s : ByteArray) (x i b : Int) (h : ¬ (65 ≤ b ∧ b ≤ 70)) (h' : ¬ (97 ≤ b ∧ b ≤ 102)) : Ev (fun k => dragomanref5_Hex.j1 k s x i b false) (0, false) := by
  by_cases h1 : b ≥ 97
  · exact Ev.step (fun k => by rw [dragomanref5_Hex.j1, if_neg (by decide), if_pos h1, decide_eq_false (by omega)]) (rhex_j2 s x i b h)
  · exact Ev.step (fun k => by rw [dragomanref5_Hex.j1, if_neg (by decide), if_neg h1]) (rhex_j2 s x i b h)
theorem hexR_none {s : ByteArray} (h : hexI 0 (bytesOf s) = none) : hexR (bytesOf s) = (0, false) := by
  unfold hexR
  split
  · rfl
  · rw [h]; rfl
theorem hexR_long {s : ByteArray} (h : s.size > 8) : hexR (bytesOf s) = (0, false) := by
  unfold hexR
  rw [if_pos (by rw [size_of]; omega)]
theorem rhex_l0 (s : ByteArray) (hs : s.size ≤ 10000) (n : Nat) : ∀ (i : Nat) (x : Int), i ≤ s.size → s.size - i = n → i ≤ 8 → 0 ≤ x → x < 16 ^ i → hexI 0 (bytesOf s) = hexI x ((bytesOf s).drop i) → Ev (fun k => dragomanref5_Hex.l0 k s x (i : Int)) (hexR (bytesOf s)) := by
  induction n with
  | zero =>
    intro i x hi hn h8 x0 x1 hx
    refine Ev.step (fun k => by rw [dragomanref5_Hex.l0, if_neg (by omega)]) ?_
    rw [List.drop_of_length_le (by rw [size_of]; omega)] at hx
    have : (x, (s.toList != ([] : List UInt8))) = hexR (bytesOf s) := by
      have hnil := toList_nil_iff s
      unfold hexR
      rw [hx, size_of]
      by_cases h : bytesOf s = []
      · have h0 : s.size = 0 := by rw [← size_of, h]; rfl
        obtain rfl : i = 0 := by omega
        rw [if_pos (by omega), hnil.2 h, show x = 0 by rw [Int.pow_zero] at x1; omega]
        rfl
      · have h0 : 0 < s.size := by rw [← size_of]; exact List.length_pos_iff.2 h
        rw [if_neg (by omega), bne_iff_ne.2 (fun e => h (hnil.1 e))]
        rfl
    rw [this]
    exact Ev.now _
  | succ n ih =>
    intro i x hi hn h8 x0 x1 hx
    have hlt : i < s.size := by omega
    have hlt2 : i < (bytesOf s).length := by rw [size_of]; omega
    have hp := pow_small h8
    have hb : bt s (i : Int) = (bytesOf s).getD i 0 := bt_get s i
    have hnx := fun o ho => hex_next (s := s) (k := i) (x := x) (b := bt s (i : Int)) (o := o) hlt hb hx ho
    have hbb : 0 ≤ bt s (i : Int) ∧ bt s (i : Int) < 256 := by
      rw [hb]
      simp only [List.getD_eq_getElem?_getD, List.getElem?_eq_getElem hlt2, Option.getD_some]
      exact bytes_of s _ (List.getElem_mem hlt2)
    have hw : wrap64 ((i : Int) + 1) = ((i + 1 : Nat) : Int) := by rw [wrap_id (by omega) (by omega)]; omega
    have HW := Lib.hid hw
    clear hw
    have go : ∀ d, hexVal (bt s (i : Int)) = some d → i < 8 → Ev (fun k => dragomanref5_Hex.l0 k s (x * 16 + d) ((i + 1 : Nat) : Int)) (hexR (bytesOf s)) := by
      intro d hd hi8
      have hg := hex_grow x0 x1 (hexVal_lt hd)
      exact ih (i + 1) _ (by omega) (by omega) (by omega) hg.1 hg.2 (hnx _ hd)
    refine Ev.step (fun k => by rw [dragomanref5_Hex.l0, if_pos (by omega), if_pos (by omega)]) ?_
    generalize bt s (i : Int) = b at hnx hbb go
    have w1 : wrap64 (16 * x) = 16 * x := wrap_id (by omega) (by omega)
    have W1 := Lib.hid w1
    clear w1
    by_cases c1 : 48 ≤ b ∧ b ≤ 57
    · have hv : hexVal b = some (b - 48) := by unfold hexVal; rw [if_pos c1]
      refine Ev.congr (fun k => by rw [if_pos (show b ≥ 48 from c1.1), decide_eq_true c1.2]) ?_
      by_cases h7 : (i : Int) ≥ 8
      · rw [hexR_long (by omega)]
        exact Ev.step (fun k => by rw [dragomanref5_Hex.j1, if_pos rfl, if_pos h7]) (Ev.now _)
      · have hw2 : wrap64 (16 * x + (b - 48) % 256) = x * 16 + (b - 48) := by rw [wrap_id (by omega) (by omega)]; omega
        refine Ev.step (fun k => by rw [dragomanref5_Hex.j1, if_pos rfl, if_neg h7, W1.out, hw2, HW.out]) (go _ hv (by omega))
    by_cases c2 : 97 ≤ b ∧ b ≤ 102
    · have hv : hexVal b = some (b - 87) := by unfold hexVal; rw [if_neg c1, if_pos c2]
      refine Ev.congr (fun k => by rw [if_pos (show b ≥ 48 by omega), decide_eq_false (show ¬ b ≤ 57 by omega)]) ?_
      refine Ev.step (fun k => by rw [dragomanref5_Hex.j1, if_neg (by decide), if_pos (show b ≥ 97 from c2.1), decide_eq_true c2.2]) ?_
      by_cases h7 : (i : Int) ≥ 8
      · rw [hexR_long (by omega)]
        exact Ev.step (fun k => by rw [dragomanref5_Hex.j2, if_pos rfl, if_pos h7]) (Ev.now _)
      · have hw2 : wrap64 (16 * x + (b - 97) % 256) = x * 16 + (b - 97) := by rw [wrap_id (by omega) (by omega)]; omega
        have W2 := Lib.hid hw2
        clear hw2
        have hw3 : wrap64 (x * 16 + (b - 97) + 10) = x * 16 + (b - 87) := by rw [wrap_id (by omega) (by omega)]; omega
        refine Ev.step (fun k => by rw [dragomanref5_Hex.j2, if_pos rfl, if_neg h7, W1.out, W2.out, hw3, HW.out]) (go _ hv (by omega))
    by_cases c3 : 65 ≤ b ∧ b ≤ 70
    · have hv : hexVal b = some (b - 55) := by unfold hexVal; rw [if_neg c1, if_neg c2, if_pos c3]
      refine Ev.congr (fun k => by rw [if_pos (show b ≥ 48 by omega), decide_eq_false (show ¬ b ≤ 57 by omega)]) ?_
      refine Ev.step (fun k => by rw [dragomanref5_Hex.j1, if_neg (by decide), if_neg (show ¬ b ≥ 97 by omega)]) ?_
      refine Ev.step (fun k => by rw [dragomanref5_Hex.j2, if_neg (by decide), if_pos (show b ≥ 65 from c3.1), decide_eq_true c3.2]) ?_
      by_cases h7 : (i : Int) ≥ 8
      · rw [hexR_long (by omega)]
        exact Ev.step (fun k => by rw [dragomanref5_Hex.j3, if_pos rfl, if_pos h7]) (Ev.now _)
      · have hw2 : wrap64 (16 * x + (b - 65) % 256) = x * 16 + (b - 65) := by rw [wrap_id (by omega) (by omega)]; omega
        have W2 := Lib.hid hw2
        clear hw2
        have hw3 : wrap64 (x * 16 + (b - 65) + 10) = x * 16 + (b - 55) := by rw [wrap_id (by omega) (by omega)]; omega
        refine Ev.step (fun k => by rw [dragomanref5_Hex.j3, if_pos rfl, if_neg h7, W1.out, W2.out, hw3, HW.out]) (go _ hv (by omega))
    have hv : hexVal b = none := by unfold hexVal; rw [if_neg c1, if_neg c2, if_neg c3]
    rw [hexR_none (hnx _ hv)]
    by_cases h48 : b ≥ 48
    · exact Ev.congr (fun k => by rw [if_pos h48, decide_eq_false (by omega)]) (rhex_j1 s x i b c3 c2)
    · exact Ev.congr (fun k => by rw [if_neg h48]) (rhex_j1 s x i b c3 c2)
theorem refHex_ev (s : ByteArray) (hs : s.size ≤ 10000) : Ev (fun k => dragomanref5_Hex.f k s) (hexR (bytesOf s)) :=
  Ev.congr (fun k => by rw [dragomanref5_Hex.f]; rfl) (rhex_l0 s hs s.size 0 0 (by omega) rfl (by omega) (by omega) (by decide) rfl)
theorem escHex_eq (s : ByteArray) : esc_Hex.f s = some (hexR (bytesOf s)) := by
  unfold esc_Hex.f hexR
  rw [size_of]
end Go.Proofs.YtoanbmggffkmgaaDoor.La
end
section
namespace Go.Proofs.YtoanbmggffkmgaaDoor.Pure
open Go.RowKit Go.Proofs.YtoanbmggffkmgaaDoor.P Go.Proofs.YtoanbmggffkmgaaDoor.La Go.Proofs.YtoanbmggffkmgaaDoorW.PrintWords Go.Proofs.YtoanbmggffkmgaaDoorW.PrintLast
/-- A text is no longer than what it is written as, each of its bytes apart: three bytes of an unknown one, at least as many of a letter. -/
theorem qlet_ge (last : Bool) {l : List Int} (hl : Bytes l) (h : l ≠ []) : stp l ≤ (qlet last (hdl l)).length := by
  rcases piece hl h with ⟨h1, _, h3⟩ | ⟨r, hg, h2, h3, _⟩
  · have := (qlet_len last (hdl l)).1
    unfold stp
    rw [if_pos h1]
    exact this
  · rw [h3]
    have hst := stp_le hl h
    have hlen : stp l = (enc r).length := by rw [← h2, List.length_take]; omega
    rw [hlen]
    obtain ⟨b, m, he, hh⟩ := enc_head r
    have h1 := (qlet_len last r).1
    rcases qlet_cases last hg with ⟨c, hs, hq⟩ | ⟨h128, hq⟩ | ⟨hq, _⟩
    · rcases hh with ⟨_, _, rfl⟩ | ⟨h128, _⟩
      · rw [he]; exact h1
      · exfalso
        unfold sevn at hs
        (repeat' split at hs) <;> first | (cases hs; done) | omega
    · rcases hh with ⟨_, _, rfl⟩ | ⟨h128, _⟩
      · rw [he]; exact h1
      · omega
    · rw [hq]; exact Nat.le_refl _
theorem qbody_ge (last : Bool) (l : List Int) (hl : Bytes l) : l.length ≤ (qbody last l).length := by
  by_cases h : l = []
  · subst h; simp
  · have h1 := qlet_ge last hl h
    have h2 := qbody_ge last (l.drop (stp l)) (bytes_drop' hl _)
    rw [List.length_drop] at h2
    rw [qbody_step h, List.length_append]
    omega
termination_by l.length
decreasing_by exact drop_lt h
theorem qL_len (last : Bool) (l : List Int) : (quoteL last l).length = (qbody last l).length + 2 := by simp [quoteL]
theorem back_drop (A l B : List Int) (last : Bool) : (A ++ quoteL last l ++ B).drop (A.length + 1) = qbody last l ++ 34 :: B := by
  rw [← List.drop_drop, List.append_assoc, List.drop_left]
  show (qbody last l ++ [34]) ++ B = _
  rw [List.append_assoc]
  rfl
theorem back_first (A l B : List Int) (last : Bool) : (A ++ quoteL last l ++ B).getD A.length 0 = 34 := by
  rw [La.getD_drop, List.append_assoc, List.drop_left]
  rfl
theorem unq_back {t m : ByteArray} {l : List Int} (hl : Bytes l) (hb : bad l = none) (hs : l.length ≤ 400) (hm : m.size ≤ 50) (ht : bytesOf t = bytesOf m ++ quoteL false l ++ bytesOf m) :
    esc_Unquote.f t (m.size : Int) = some (strOfNums l, ((m.size + (quoteL false l).length : Nat) : Int), -1) := by
  have hql := qbody_len false l
  have hqq := qL_len false l
  have hml := size_of m
  have hlen : (bytesOf m ++ quoteL false l ++ bytesOf m).length = m.size + (quoteL false l).length + m.size := by rw [List.length_append, List.length_append, hml]
  have hsz : t.size = m.size + (quoteL false l).length + m.size := by rw [← size_of, ht, hlen]
  have d := back_drop (bytesOf m) l (bytesOf m) false
  have f := back_first (bytesOf m) l (bytesOf m) false
  rw [hml] at d f
  have hfuel : l.length < (bytesOf m ++ quoteL false l ++ bytesOf m).length + 1 := by
    have := qbody_ge false l hl
    rw [hlen]
    omega
  have hj := jback false l hl hb _ (m.size + 1) (bytesOf m) [] ((bytesOf m ++ quoteL false l ++ bytesOf m).length + 1) d hfuel
  unfold esc_Unquote.f unqT
  rw [if_pos (by omega), ht, if_neg (by rw [Int.toNat_natCast, f, hlen]; omega), Int.toNat_natCast, hj]
  simp only [List.nil_append]
  rw [show m.size + 1 + (qbody false l).length + 1 = m.size + (quoteL false l).length by omega]
theorem tunq_back {t m : ByteArray} {l : List Int} (hl : Bytes l) (hb : bad l = none) (hs : l.length ≤ 400) (hm : m.size ≤ 50) (ht : bytesOf t = bytesOf m ++ quoteL true l ++ bytesOf m) (hne : l ≠ [] ∨ (bytesOf m).getD 0 0 ≠ 34) :
    esc_TUnquote.f t (m.size : Int) = some (strOfNums l, ((m.size + (quoteL true l).length : Nat) : Int), -1) := by
  have hql := qbody_len true l
  have hqq := qL_len true l
  have hml := size_of m
  have hlen : (bytesOf m ++ quoteL true l ++ bytesOf m).length = m.size + (quoteL true l).length + m.size := by rw [List.length_append, List.length_append, hml]
  have hsz : t.size = m.size + (quoteL true l).length + m.size := by rw [← size_of, ht, hlen]
  have d := back_drop (bytesOf m) l (bytesOf m) true
  have f := back_first (bytesOf m) l (bytesOf m) true
  rw [hml] at d f
  have hfuel : l.length < (bytesOf m ++ quoteL true l ++ bytesOf m).length + 1 := by
    have := qbody_ge true l hl
    rw [hlen]
    omega
  have hj := tback l hl hb _ (m.size + 1) (bytesOf m) [] ((bytesOf m ++ quoteL true l ++ bytesOf m).length + 1) d hfuel
  have hld : ¬ 3 ≤ lead 34 ((bytesOf m ++ quoteL true l ++ bytesOf m).drop m.size) := by
    have e : (bytesOf m ++ quoteL true l ++ bytesOf m).drop m.size = 34 :: (qbody true l ++ 34 :: bytesOf m) := by
      rw [← hml, List.append_assoc, List.drop_left]
      show 34 :: ((qbody true l ++ [34]) ++ bytesOf m) = _
      rw [List.append_assoc]
      rfl
    rw [e]
    by_cases h : l = []
    · have hn := hne.resolve_left (fun e => e h)
      subst h
      rw [qbody_nil, List.nil_append]
      cases hm : bytesOf m with
      | nil => simp [lead]
      | cons b u =>
        rw [hm] at hn
        have hb34 : b ≠ 34 := hn
        simp [lead, hb34]
    · obtain ⟨b, u, hq, hb34⟩ := qbody_first hl h true
      rw [hq]
      simp [lead, hb34]
  have hst : tstr (bytesOf m ++ quoteL true l ++ bytesOf m) m.size = (true, l, m.size + 1 + (qbody true l).length + 1) := by
    unfold tstr
    rw [f, if_neg hld, hj, List.nil_append]
  unfold esc_TUnquote.f
  rw [if_pos ⟨by omega, by omega, by rw [ht, Int.toNat_natCast]; exact .inr (.inr (.inl ⟨f, hld⟩))⟩, ht, Int.toNat_natCast]
  unfold tunqT
  rw [if_neg (by rw [f, hlen]; omega), hst]
  simp only [if_true]
  rw [show m.size + 1 + (qbody true l).length + 1 = m.size + (quoteL true l).length by omega]
theorem writes_j3 (s m : ByteArray) (hb : bad (bytesOf s) = none) (hs : s.size ≤ 400) (hm : m.size ≤ 50) : Ev (fun k => dragomanlaw6_EscWrites.j3 k s m (strOfNums (quoteL true (bytesOf s))) false) true := by
  have hB := bytes_of s
  have hbt := quoteL_bytes true _ hB
  have hsz := size_strOfNums hbt
  have hql := qbody_len true (bytesOf s)
  have hqq := qL_len true (bytesOf s)
  rw [size_of] at hql
  have hj1 : (m ++ strOfNums (quoteL true (bytesOf s))).size = m.size + (quoteL true (bytesOf s)).length := by rw [size_append', hsz]
  have ht : bytesOf ((m ++ strOfNums (quoteL true (bytesOf s))) ++ m) = bytesOf m ++ quoteL true (bytesOf s) ++ bytesOf m := by rw [bytesOf_append, bytesOf_append, strOfNums_bytes hbt]
  have hw : wrap64 ((m.size : Int) + ((strOfNums (quoteL true (bytesOf s))).size : Int)) = ((m.size + (quoteL true (bytesOf s)).length : Nat) : Int) := by rw [hsz, wrap_id (by omega) (by omega)]; omega
  have HW := Lib.hid hw
  clear hw
  have key : ∀ hne : bytesOf s ≠ [] ∨ (bytesOf m).getD 0 0 ≠ 34, esc_TUnquote.f ((m ++ strOfNums (quoteL true (bytesOf s))) ++ m) (m.size : Int) = some (s, ((m.size + (quoteL true (bytesOf s)).length : Nat) : Int), -1) := by
    intro hne
    have := tunq_back hB hb (by rw [size_of]; exact hs) hm ht hne
    rwa [strOfNums_of] at this
  by_cases he : s.toList = ([] : List UInt8)
  · by_cases h0 : (m.size : Int) > 0
    · by_cases h34 : bt m 0 = 34
      · exact Ev.step (fun k => by rw [dragomanlaw6_EscWrites.j3, if_neg (by decide), if_pos he, if_pos h0, if_pos (by omega), if_pos h34]) (Ev.now _)
      · have hk := key (.inr (by rw [bt_get] at h34; exact h34))
        refine Ev.step (fun k => by rw [dragomanlaw6_EscWrites.j3, if_neg (by decide), if_pos he, if_pos h0, if_pos (by omega), if_neg h34, if_pos (by omega), if_pos (by omega), hk, Option.bind_some, if_pos rfl, if_pos rfl, HW.out, beq_self_eq_true]) (Ev.now _)
    · have hk := key (.inr (by
        have hm0 : bytesOf m = [] := List.eq_nil_of_length_eq_zero (by rw [size_of]; omega)
        rw [hm0]; decide))
      refine Ev.step (fun k => by rw [dragomanlaw6_EscWrites.j3, if_neg (by decide), if_pos he, if_neg h0, if_pos (by omega), if_pos (by omega), hk, Option.bind_some, if_pos rfl, if_pos rfl, HW.out, beq_self_eq_true]) (Ev.now _)
  · have hk := key (.inl (fun e => he ((toList_nil_iff s).2 e)))
    refine Ev.step (fun k => by rw [dragomanlaw6_EscWrites.j3, if_neg (by decide), if_neg he, if_pos (by omega), if_pos (by omega), hk, Option.bind_some, if_pos rfl, if_pos rfl, HW.out, beq_self_eq_true]) (Ev.now _)
theorem writes_j2 (s m : ByteArray) (hs : s.size ≤ 400) (hm : m.size ≤ 50) : Ev (fun k => dragomanlaw6_EscWrites.j2 k s m (strOfNums (quoteL false (bytesOf s))) (strOfNums (quoteL true (bytesOf s))) false) true := by
  have hB := bytes_of s
  have hbt := quoteL_bytes false _ hB
  have hsz := size_strOfNums hbt
  have hql := qbody_len false (bytesOf s)
  have hqq := qL_len false (bytesOf s)
  rw [size_of] at hql
  refine Ev.step (fun k => by rw [dragomanlaw6_EscWrites.j2, if_neg (by decide)]) ?_
  refine Ev.bind (ref_valid_ev s (by omega)) ?_
  cases hb : bad (bytesOf s) with
  | some p =>
    have : rbadR 0 (some p) ≥ 0 := by simp only [rbadR]; omega
    simp only [if_pos this]
    exact Ev.now _
  | none =>
    have h0 : ¬ rbadR 0 none ≥ 0 := by decide
    have hj1 : (m ++ strOfNums (quoteL false (bytesOf s))).size = m.size + (quoteL false (bytesOf s)).length := by rw [size_append', hsz]
    have ht : bytesOf ((m ++ strOfNums (quoteL false (bytesOf s))) ++ m) = bytesOf m ++ quoteL false (bytesOf s) ++ bytesOf m := by rw [bytesOf_append, bytesOf_append, strOfNums_bytes hbt]
    have hw : wrap64 ((m.size : Int) + ((strOfNums (quoteL false (bytesOf s))).size : Int)) = ((m.size + (quoteL false (bytesOf s)).length : Nat) : Int) := by rw [hsz, wrap_id (by omega) (by omega)]; omega
    have HW := Lib.hid hw
    clear hw
    have hk := unq_back hB hb (by rw [size_of]; exact hs) hm ht
    rw [strOfNums_of] at hk
    refine Ev.congr (fun k => by rw [if_neg h0, if_pos (by omega), if_pos (by omega), hk, Option.bind_some, if_neg (by show ¬ (-1 : Int) ≥ 0; decide), if_pos rfl, HW.out, bne_self_eq_false]) ?_
    exact writes_j3 s m hb hs hm
theorem EscWrites : dragomanlaw6_EscWrites.Pure := by
  intro s m _ _
  refine Ev.rounds ?_
  refine Ev.congr (fun k => by rw [dragomanlaw6_EscWrites.f, show dragomanlaw6_awake.f = some true from rfl, Option.bind_some, if_pos rfl]) ?_
  by_cases h1 : (s.size : Int) > 400
  · simp only [if_pos h1]
    exact Ev.step (fun k => by rw [dragomanlaw6_EscWrites.j0, if_pos rfl]) (Ev.now _)
  simp only [if_neg h1]
  by_cases h2 : (m.size : Int) > 50
  · rw [decide_eq_true h2]
    exact Ev.step (fun k => by rw [dragomanlaw6_EscWrites.j0, if_pos rfl]) (Ev.now _)
  rw [decide_eq_false h2]
  refine Ev.step (fun k => by rw [dragomanlaw6_EscWrites.j0, if_neg (by decide)]) ?_
  refine Ev.bind (Quote_ev s (by omega)) ?_
  refine Ev.bind (TQuote_ev s (by omega)) ?_
  refine Ev.bind (refQuote_ev s false (by omega)) ?_
  simp only [if_true]
  refine Ev.bind (refQuote_ev s true (by omega)) ?_
  simp only [if_true]
  have hbare : esc_Bare.f s = some (bareS (bytesOf s)) := by unfold esc_Bare.f; rw [if_pos (by omega)]
  simp only [hbare, Option.bind_some]
  refine Ev.bind (refBare_ev s (by omega)) ?_
  simp only [bne_self_eq_false]
  refine Ev.step (fun k => by rw [dragomanlaw6_EscWrites.j1, if_neg (by decide), escHex_eq, Option.bind_some]) ?_
  refine Ev.bind (refHex_ev s (by omega)) ?_
  simp only [bne_self_eq_false, Bool.false_eq_true, if_false]
  have h := writes_j2 s m (by omega) (by omega)
  by_cases hx : (hexR (bytesOf s)).2 = true
  · simp only [if_pos hx]
    exact h
  · simp only [if_neg hx]
    exact h
end Go.Proofs.YtoanbmggffkmgaaDoor.Pure
end
