/- The parts of this claim's proof, in one text: what each Go function answers and that its call comes to it; plain facts of lists of numbers. Conditions as each theorem names them. -/
import Derived.ArgAppend
import Derived.Below
import Derived.BigQuiet
import Derived.Deep.AppendLies
import Derived.Deep.CutBlock
import Derived.Deep.DeepCutAuto
import Derived.Deep.Draws
import Derived.Deep.LoopGhost
import Derived.Deep.OwnRows
import Derived.Deep.QuietTactic
import Derived.Deep.RegionHeld3
import Derived.KernelRfl
import Derived.Laws.BitsLemmas
import Derived.Laws.BytesArg
import Derived.Laws.IdiomCopy
import Derived.Laws.MakeOwn
import Derived.Laws.OwnMore
import Derived.Laws.Rows
import Derived.Laws.Slices
import Derived.Lib.AppendStr
import Derived.Lib.Bytealg
import Derived.Lib.Bytes
import Derived.Lib.ConvBytes
import Derived.Lib.Hide
import Derived.Maps.AppendAt
import Derived.OrdersHeld
import Derived.Outline
import Derived.OwnWalk
import Derived.RowKit
import Derived.RowKit3
import Derived.Shelf.Bits.Mul64
import Derived.Shelf.LaysM
import Derived.Shelf.Small.Strs
import Derived.Shelf.Small.Utf8
import Derived.Shelf.Strings.AsciiSet
import Derived.Shelf.Strings.Builder1
import Derived.Shelf.Strings.Builder2
import Derived.Shelf.Strings.BuilderF
import Derived.Shelf.Strings.Count
import Derived.Shelf.Strings.IndexAny
import Derived.Shelf.Strings.IndexAnyAll
import Derived.Shelf.Strings.Prefix
import Derived.Shelf.Strings.Repeat
import Derived.Shelf.Strings.RuneCount
import Derived.Shelf.Strings.Runes
import Derived.Shelf.Strings.Search1
import Derived.Shelf.Strings.Search2
import Derived.Shelf.Strings.Search3
import Derived.Shelf.Strings.Shaped
import Derived.Shelf.Strings.SlTrimAscii
import Derived.Shelf.Strings.Split
import Derived.Shelf.Strings.Trim
import Derived.Shelf.Unicode.Decode
import Derived.Shelf.Unicode.DecodeAny
import Derived.Shelf.Unicode.DecodeLast
import Derived.Shelf.Unicode.DecodeSlow
import Derived.Shelf.Utf8.RuneCount
import Derived.Tactics
import Derived.WalkKit
import Derived.WideLaws
import Derived.Test.YtoanbmggffkmgaaDoorProg
import Derived.Test.YtoanbmggffkmgaaDoorWApart
import Derived.Test.YtoanbmggffkmgaaDoorWArr
import Derived.Test.YtoanbmggffkmgaaDoorWAt
import Derived.Test.YtoanbmggffkmgaaDoorWEqStruct
import Derived.Test.YtoanbmggffkmgaaDoorWFoot
import Derived.Test.YtoanbmggffkmgaaDoorWFootNe
import Derived.Test.YtoanbmggffkmgaaDoorWFour
import Derived.Test.YtoanbmggffkmgaaDoorWGuard
import Derived.Test.YtoanbmggffkmgaaDoorWInv
import Derived.Test.YtoanbmggffkmgaaDoorWInvWords
import Derived.Test.YtoanbmggffkmgaaDoorWKept
import Derived.Test.YtoanbmggffkmgaaDoorWLast
import Derived.Test.YtoanbmggffkmgaaDoorWMake0
import Derived.Test.YtoanbmggffkmgaaDoorWMore
import Derived.Test.YtoanbmggffkmgaaDoorWN
import Derived.Test.YtoanbmggffkmgaaDoorWNEv
import Derived.Test.YtoanbmggffkmgaaDoorWQPut
import Derived.Test.YtoanbmggffkmgaaDoorWRepsOne
import Derived.Test.YtoanbmggffkmgaaDoorWShare
import Derived.Test.YtoanbmggffkmgaaDoorWTab
import Derived.Test.YtoanbmggffkmgaaDoorWWords
import Derived.Test.YtoanbmggffkmgaaDoorWZeros
import Derived.Test.YtoanbmggffkmgaaDoorMEscEvery1
section
namespace Go.Proofs
open Go.Shelf
def Tryd.lays105_ren : Go.Shelf.Ren := ⟨fun | 105 => 41 | 212 => 68 | 99 => 62 | 165 => 69 | 166 => 70 | 170 => 71 | 169 => 72 | 263 => 90 | 264 => 91 | 206 => 86 | 240 => 92 | 241 => 93 | 276 => 107 | 277 => 108 | n => n, fun | 9 => 9 | 3 => 3 | 4 => 4 | 20 => 20 | 0 => 0 | 46 => 67 | 109 => 84 | 5 => 5 | 72 => 88 | 76 => 92 | 51 => 107 | 146 => 108 | 53 => 110 | 148 => 111 | 70 => 86 | 37 => 46 | 75 => 91 | 127 => 113 | 164 => 124 | 80 => 95 | n => n, fun | n => n⟩
theorem Tryd.lays105 : Go.Proofs.Lays.n105 Tryd.prog Tryd.lays105_ren := {
  mixed := by kernel_rfl
  f99 := Tryd.func62.trans (congrArg some (by kernel_rfl))
  f105 := Tryd.func41.trans (congrArg some (by kernel_rfl))
  f165 := Tryd.func69.trans (congrArg some (by kernel_rfl))
  f166 := Tryd.func70.trans (congrArg some (by kernel_rfl))
  f169 := Tryd.func72.trans (congrArg some (by kernel_rfl))
  f170 := Tryd.func71.trans (congrArg some (by kernel_rfl))
  f206 := Tryd.func86.trans (congrArg some (by kernel_rfl))
  f212 := Tryd.func68.trans (congrArg some (by kernel_rfl))
  f240 := Tryd.func92.trans (congrArg some (by kernel_rfl))
  f241 := Tryd.func93.trans (congrArg some (by kernel_rfl))
  f263 := Tryd.func90.trans (congrArg some (by kernel_rfl))
  f264 := Tryd.func91.trans (congrArg some (by kernel_rfl))
  f276 := Tryd.func107.trans (congrArg some (by kernel_rfl))
  f277 := Tryd.func108.trans (congrArg some (by kernel_rfl))
  t0 := Tryd.underlying0
  a0 := Tryd.isAgg0
  z0 := Tryd.sizeOf0
  v0 := Tryd.zeroValue0
  t3 := Tryd.underlying3
  a3 := Tryd.isAgg3
  z3 := Tryd.sizeOf3
  v3 := Tryd.zeroValue3
  t4 := Tryd.underlying4
  a4 := Tryd.isAgg4
  z4 := Tryd.sizeOf4
  v4 := Tryd.zeroValue4
  t5 := Tryd.underlying5
  a5 := Tryd.isAgg5
  z5 := Tryd.sizeOf5
  v5 := Tryd.zeroValue5
  t9 := Tryd.underlying9
  a9 := Tryd.isAgg9
  z9 := Tryd.sizeOf9
  v9 := Tryd.zeroValue9
  t20 := Tryd.underlying20
  a20 := Tryd.isAgg20
  z20 := Tryd.sizeOf20
  v20 := Tryd.zeroValue20
  t37 := Tryd.underlying46
  a37 := Tryd.isAgg46
  z37 := Tryd.sizeOf46
  v37 := Tryd.zeroValue46
  t46 := Tryd.underlying67
  a46 := Tryd.isAgg67
  z46 := Tryd.sizeOf67
  v46 := Tryd.zeroValue67
  t51 := Tryd.underlying107
  a51 := Tryd.isAgg107
  z51 := Tryd.sizeOf107
  v51 := Tryd.zeroValue107
  t53 := Tryd.underlying110
  a53 := Tryd.isAgg110
  z53 := Tryd.sizeOf110
  v53 := Tryd.zeroValue110
  t70 := Tryd.underlying86
  a70 := Tryd.isAgg86
  z70 := Tryd.sizeOf86
  v70 := Tryd.zeroValue86
  t72 := Tryd.underlying88
  a72 := Tryd.isAgg88
  z72 := Tryd.sizeOf88
  v72 := Tryd.zeroValue88
  t75 := Tryd.underlying91
  a75 := Tryd.isAgg91
  z75 := Tryd.sizeOf91
  v75 := Tryd.zeroValue91
  t76 := Tryd.underlying92
  a76 := Tryd.isAgg92
  z76 := Tryd.sizeOf92
  v76 := Tryd.zeroValue92
  t109 := Tryd.underlying84
  a109 := Tryd.isAgg84
  z109 := Tryd.sizeOf84
  v109 := Tryd.zeroValue84
  t127 := Tryd.underlying113
  a127 := Tryd.isAgg113
  z127 := Tryd.sizeOf113
  v127 := Tryd.zeroValue113
  t146 := Tryd.underlying108
  a146 := Tryd.isAgg108
  z146 := Tryd.sizeOf108
  v146 := Tryd.zeroValue108
  t148 := Tryd.underlying111
  a148 := Tryd.isAgg111
  z148 := Tryd.sizeOf111
  v148 := Tryd.zeroValue111
  t164 := Tryd.underlying124
  a164 := Tryd.isAgg124
  z164 := Tryd.sizeOf124
  v164 := Tryd.zeroValue124 }
end Go.Proofs
end
section
namespace Go.Proofs.YtoanbmggffkmgaaDoor.P
open Go.RowKit Go.Proofs.YtoanbmggffkmgaaDoor.La Go.Proofs.YtoanbmggffkmgaaDoorW.PrintWords Go.Proofs.YtoanbmggffkmgaaDoorW.PrintLast Go.Proofs.YtoanbmggffkmgaaDoorW.PrintMore
theorem repX : Builder.Extra Tryd.prog Tryd.lays105_ren := by
  constructor
  · constructor
    all_goals first | kernel_rfl | (intro w; kernel_rfl) | decide
  all_goals first | kernel_rfl | (intro w; kernel_rfl) | decide
/-- A text of one byte. -/
def one (q : UInt8) : ByteArray := ⟨#[q]⟩
theorem one_bytes (q : UInt8) : bytesOf (one q) = [(q.toNat : Int)] := rfl
theorem repeat3 (q : UInt8) (w : World) : Calls Tryd.prog 41 #[.string (one q), .int .i64 3] w fun e w' => e = .returned (.string ⟨#[q, q, q]⟩) ∧ Below w.heap.size w w' :=
  (Any.strings_Repeat_main Tryd.lays105 repX (one q) 3 w (by decide) (by decide) (show 1 * 3 ≤ 140737488355328 by decide) (show 0 < 1 by decide)).mono fun _ _ h => h
theorem repeat4 (q : UInt8) (w : World) : Calls Tryd.prog 41 #[.string (one q), .int .i64 4] w fun e w' => e = .returned (.string ⟨#[q, q, q, q]⟩) ∧ Below w.heap.size w w' :=
  (Any.strings_Repeat_main Tryd.lays105 repX (one q) 4 w (by decide) (by decide) (show 1 * 4 ≤ 140737488355328 by decide) (show 0 < 1 by decide)).mono fun _ _ h => h
end Go.Proofs.YtoanbmggffkmgaaDoor.P
end
section
namespace Go.Proofs.YtoanbmggffkmgaaDoor.La
open Go.RowKit Go.Proofs.YtoanbmggffkmgaaDoor.P Go.Proofs.YtoanbmggffkmgaaDoorW.PrintWords Go.Proofs.YtoanbmggffkmgaaDoorW.PrintLast Go.Proofs.YtoanbmggffkmgaaDoorW.PrintMore
/-- How many of one byte a list begins with. -/
def lead (q : Int) : List Int → Nat
  | [] => 0
  | b :: l => if b = q then lead q l + 1 else 0
theorem lead_le (q : Int) (l : List Int) : lead q l ≤ l.length := by
  induction l with
  | nil => simp [lead]
  | cons b l ih => simp only [lead, List.length_cons]; split <;> omega
theorem lead_take (q : Int) (l : List Int) (n : Nat) : l.take n = List.replicate n q ↔ n ≤ lead q l := by
  induction n generalizing l with
  | zero => simp
  | succ n ih =>
    cases l with
    | nil => simp [lead, List.replicate_succ]
    | cons b l =>
      rw [List.take_succ_cons, List.replicate_succ]
      simp only [lead]
      by_cases h : b = q
      · rw [if_pos h]
        constructor
        · intro e; injection e with _ e; have := (ih l).1 e; omega
        · intro e; rw [h, (ih l).2 (by omega)]
      · rw [if_neg h]
        constructor
        · intro e; injection e with e _; exact absurd e h
        · intro e; omega
theorem lead_drop {q : Int} {l : List Int} {k : Nat} (h : k ≤ lead q l) : lead q (l.drop k) = lead q l - k := by
  induction l generalizing k with
  | nil => simp [lead]
  | cons b l ih =>
    cases k with
    | zero => simp
    | succ k =>
      simp only [lead] at h ⊢
      split at h
      · rename_i hb
        rw [if_pos hb, List.drop_succ_cons, ih (by omega)]
        omega
      · omega
/-- What stands at a string's end: what it adds to the string, and how many bytes it has. -/
def tend (lines : Bool) (q : Int) (l : List Int) : Option (List Int × Nat) :=
  if lines = true then (if lead q l < 3 then none else some (List.replicate (min (lead q l - 3) 2) q, min (lead q l - 3) 2 + 3))
  else (if lead q l = 0 then none else some ([], 1))
end Go.Proofs.YtoanbmggffkmgaaDoor.La
namespace Go.Proofs.YtoanbmggffkmgaaDoor.P
open Go.RowKit Go.Proofs.YtoanbmggffkmgaaDoor.La Go.Proofs.YtoanbmggffkmgaaDoorW.PrintWords Go.Proofs.YtoanbmggffkmgaaDoorW.PrintLast Go.Proofs.YtoanbmggffkmgaaDoorW.PrintMore
theorem rep_bytes1 (q : UInt8) : bytesOf (one q) = List.replicate 1 (q.toNat : Int) := rfl
theorem rep_bytes3 (q : UInt8) : bytesOf (⟨#[q, q, q]⟩ : ByteArray) = List.replicate 3 (q.toNat : Int) := rfl
theorem rep_bytes4 (q : UInt8) : bytesOf (⟨#[q, q, q, q]⟩ : ByteArray) = List.replicate 4 (q.toNat : Int) := rfl
/-- A row that has grown, of no known place, is stored. -/
theorem Rdr.grownT {B : Nat} {w w1 : World} {g : Nat} {text : ByteArray} {at_ : Int} {bs : List Int} {A : Option Addr} {c : Nat} (hB : B ≤ g) (hh : w.heap[g]? = some (.cells #[.string text, .int .i64 at_, .slice A bs.length c] 63 (0, 0))) (hr : Kd.R (Kd.int .u8) 5 w B (fun k => k ≠ g) (.slice A bs.length c) bs)
    {v1 : Value} {bs1 : List Int} (ho : Kd.R (Kd.int .u8) 5 w1 B (fun _ => True) v1 bs1) (hg : w.grownBy w1 (.slice A bs.length c : Value).ownBlock) :
    w1.cell? ⟨g, 0, none⟩ = some (.string text) ∧ w1.cell? ⟨g, 1, none⟩ = some (.int .i64 at_) ∧ w1.cell? ⟨g, 2, none⟩ = some (.slice A bs.length c) ∧ w1.frozen? ⟨g, 1, none⟩ = false ∧ w1.frozen? ⟨g, 2, none⟩ = false ∧ g < w1.heap.size ∧
      ∀ at1 : Int, Rdr B ((w1.setCell ⟨g, 2, none⟩ v1).setCell ⟨g, 1, none⟩ (.int .i64 at1)) g text at1 bs1 := by
  have hne : some g ≠ (Value.slice A bs.length c).ownBlock := fun e => hr.1 g e.symm rfl
  have h1 := blk_grown hh hg hne
  have hne1 : some g ≠ v1.ownBlock := Kd.R_ne ho h1 (by decide)
  have ho' : Kd.R (Kd.int .u8) 5 w1 B (fun k => k ≠ g) v1 bs1 := Kd.R_of_own (Kd.own_of_R ho) (fun k hk e => hne1 (by rw [← e]; exact hk.symm))
  obtain ⟨a1, a2, a3, a4, a5, a6, a7⟩ := Rdr.grown hB hh hr ho' hg
  exact ⟨a1, a2, a3, a4, a5, a6, fun at1 => (a7 at1).1⟩
def EndPost (B g : Nat) (text : ByteArray) (i : Nat) (bs : List Int) (w : World) (o : Option (List Int × Nat)) (e : Ending) (w' : World) : Prop :=
  e = .returned (.bool o.isSome) ∧ Rdr B w' g text (match o with | none => (i : Int) | some p => (i : Int) + p.2) (match o with | none => bs | some p => bs ++ p.1) ∧ Below B w w'
set_option maxRecDepth 100000 in
set_option maxHeartbeats 8000000 in
theorem rended_plain {B g : Nat} {text : ByteArray} {i : Nat} {bs : List Int} {w : World} (q : UInt8) (hR : Rdr B w g text (i : Int) bs) (h1 : i < text.size) (h2 : text.size ≤ 140737488000000) :
    Calls Tryd.prog 42 #[.pointer (some ⟨g, 0, none⟩), .string (one q), .bool false] w (EndPost B g text i bs w (tend false (q.toNat : Int) ((bytesOf text).drop i))) := by
  have hT := lead_take (q.toNat : Int) ((bytesOf text).drop i) 1
  have d1 : decide (((bytesOf text).drop i).take (one q).size = bytesOf (one q)) = decide (1 ≤ lead (q.toNat : Int) ((bytesOf text).drop i)) := by
    rw [rep_bytes1, decide_eq_decide]
    exact hT
  unfold tend
  rw [if_neg (by decide)]
  by_cases hn : lead (q.toNat : Int) ((bytesOf text).drop i) = 0
  · rw [if_pos hn]
    rw [decide_eq_false (show ¬ 1 ≤ lead (q.toNat : Int) ((bytesOf text).drop i) by omega)] at d1
    clear hT hn
    go_enter Tryd.func42, Tryd.ntmps42
    go_wp2_with fail
    refine (rbegins (one q) hR (by omega) (by omega)).mono ?_
    rintro e w2 ⟨rfl, n2, rfl⟩
    rw [show (i : Int).toNat = i by omega, d1]
    go_wp2
    go_ret
    exact ⟨rfl, hR.drewN _, pw_below_drewN (Below.refl _ _) _⟩
  · rw [if_neg hn]
    rw [decide_eq_true (show 1 ≤ lead (q.toNat : Int) ((bytesOf text).drop i) by omega)] at d1
    clear hT hn
    go_enter Tryd.func42, Tryd.ntmps42
    go_wp2_with fail
    refine (rbegins (one q) hR (by omega) (by omega)).mono ?_
    rintro e w2 ⟨rfl, n2, rfl⟩
    rw [show (i : Int).toNat = i by omega, d1]
    have hR2 := hR.drewN n2
    have hB2 := pw_below_drewN (Below.refl B w) n2
    generalize w.drewN n2 = w3 at hR2 hB2
    obtain ⟨A, c, c0, c1, c2, f1, f2, hlt, hc, hC⟩ := hR2.open_
    have hM := hR2.moved ((i : Int) + 1)
    go_wp2
    go_ret
    exact ⟨rfl, by show Rdr B _ g text ((i : Int) + ((1 : Nat) : Int)) (bs ++ []); rw [List.append_nil]; exact hM.1, hB2.trans hM.2⟩
/-- The state between two turns. -/
def EndRel (B g : Nat) (text : ByteArray) (i : Nat) (bs : List Int) (w : World) (q : Int) (kq : Nat) (v : Value) (wr : World) : Prop :=
  ∃ k : Nat, v = .int .i64 k ∧ k + kq = 3 ∧ k ≤ 2 ∧ k + 3 ≤ lead q ((bytesOf text).drop i) ∧ Rdr B wr g text ((i + k : Nat) : Int) (bs ++ List.replicate k q) ∧ Below B w wr
set_option maxRecDepth 100000 in
set_option maxHeartbeats 16000000 in
theorem rended_lines {B g : Nat} {text : ByteArray} {i : Nat} {bs : List Int} {w : World} (q : UInt8) (hR : Rdr B w g text (i : Int) bs) (hl : bs.length ≤ 140737480000000) (h1 : i < text.size) (h2 : text.size ≤ 140737488000000) :
    Calls Tryd.prog 42 #[.pointer (some ⟨g, 0, none⟩), .string (one q), .bool true] w (EndPost B g text i bs w (tend true (q.toNat : Int) ((bytesOf text).drop i))) := by
  have hlow := hR.low
  have hT := lead_take (q.toNat : Int) ((bytesOf text).drop i) 3
  have d1 : decide (((bytesOf text).drop i).take (⟨#[q, q, q]⟩ : ByteArray).size = bytesOf (⟨#[q, q, q]⟩ : ByteArray)) = decide (3 ≤ lead (q.toNat : Int) ((bytesOf text).drop i)) := by
    rw [rep_bytes3, decide_eq_decide]
    exact hT
  have hll := lead_le (q.toNat : Int) ((bytesOf text).drop i)
  rw [List.length_drop, size_of] at hll
  have D4 : ∀ k, k + 3 ≤ lead (q.toNat : Int) ((bytesOf text).drop i) → decide (((bytesOf text).drop (((i + k : Nat) : Int)).toNat).take (⟨#[q, q, q, q]⟩ : ByteArray).size = bytesOf (⟨#[q, q, q, q]⟩ : ByteArray)) = decide (k + 4 ≤ lead (q.toNat : Int) ((bytesOf text).drop i)) := by
    intro k hk
    rw [Int.toNat_natCast, rep_bytes4, decide_eq_decide, ← List.drop_drop]
    have := lead_take (q.toNat : Int) (((bytesOf text).drop i).drop k) 4
    rw [lead_drop (by omega)] at this
    rw [show (⟨#[q, q, q, q]⟩ : ByteArray).size = 4 from rfl, this]
    omega
  have hE : tend true (q.toNat : Int) ((bytesOf text).drop i) = if lead (q.toNat : Int) ((bytesOf text).drop i) < 3 then none else some (List.replicate (min (lead (q.toNat : Int) ((bytesOf text).drop i) - 3) 2) (q.toNat : Int), min (lead (q.toNat : Int) ((bytesOf text).drop i) - 3) 2 + 3) := if_pos rfl
  rw [hE]
  clear hE hT
  generalize hN : lead (q.toNat : Int) ((bytesOf text).drop i) = n at d1 hll D4
  by_cases hn : n < 3
  · rw [if_pos hn]
    rw [decide_eq_false (show ¬ 3 ≤ n by omega)] at d1
    go_enter Tryd.func42, Tryd.ntmps42
    go_wp2_with fail
    refine (repeat3 q w).mono ?_
    rintro e w1 ⟨rfl, hb1⟩
    have hR1 := hR.below hb1
    go_wp2_with fail
    refine (rbegins ⟨#[q, q, q]⟩ hR1 (by omega) (by omega)).mono ?_
    rintro e w2 ⟨rfl, n2, rfl⟩
    rw [show (i : Int).toNat = i by omega, d1]
    go_wp2
    go_ret
    exact ⟨rfl, hR1.drewN _, pw_below_drewN (hb1.mono hlow) _⟩
  · rw [if_neg hn]
    rw [decide_eq_true (show 3 ≤ n by omega)] at d1
    have D4h := Lib.hid D4
    clear D4
    go_enter Tryd.func42, Tryd.ntmps42
    go_wp2_with fail
    refine (repeat3 q w).mono ?_
    rintro e w1 ⟨rfl, hb1⟩
    have hR1 := hR.below hb1
    go_wp2_with fail
    refine (rbegins ⟨#[q, q, q]⟩ hR1 (by omega) (by omega)).mono ?_
    rintro e w2 ⟨rfl, n2, rfl⟩
    rw [show (i : Int).toNat = i by omega, d1]
    have hR2 := hR1.drewN n2
    have hB2 := pw_below_drewN (hb1.mono hlow) n2
    generalize w1.drewN n2 = w3 at hR2 hB2
    clear hR1 hb1 d1 hR
    go_wp2_with fail
    go_loopg [7] 3 (fun kq v wr => EndRel B g text i bs w (q.toNat : Int) kq v wr)
    case atStart => exact ⟨0, rfl, rfl, by omega, by rw [hN]; omega, by rw [Nat.add_zero]; simp; exact hR2, hB2⟩
    case round =>
      clear hR2 hB2
      obtain ⟨k, rfl, hkq, hk2, hk3, hR3, hB3⟩ := hrel
      rw [hN] at hk3
      have hlow3 := hR3.low
      obtain ⟨Af, cf, m0, m1, m2, n1, n2, hltf, _, _⟩ := hR3.open_
      by_cases hk : k = 2
      · subst hk
        have hM := hR3.moved ((i : Int) + 2 + 3)
        have hmin : min (n - 3) 2 = 2 := by omega
        go_wp2
        go_ret
        refine ⟨rfl, ?_, hB3.trans hM.2⟩
        rw [hmin]
        show Rdr B _ g text ((i : Int) + ((2 + 3 : Nat) : Int)) (bs ++ List.replicate 2 (q.toNat : Int))
        rw [show (i : Int) + ((2 + 3 : Nat) : Int) = (i : Int) + 2 + 3 by omega]
        exact hM.1
      · obtain ⟨kk, rfl⟩ : ∃ kk, gk = kk + 1 := ⟨gk - 1, by omega⟩
        have hk1 : (k : Int) < 2 := by omega
        have hk1b : decide ((k : Int) < 2) = true := decide_eq_true hk1
        go_wp2_with fail
        refine (repeat4 q _).mono ?_
        rintro e w5 ⟨rfl, hb5⟩
        have hR5 := hR3.below hb5
        have hB5 := hB3.trans (hb5.mono hlow3)
        clear m0 m1 m2 n1 n2 hR3 hB3 hb5
        go_wp2_with fail
        refine (rbegins ⟨#[q, q, q, q]⟩ hR5 (by omega) (by omega)).mono ?_
        rintro e w6 ⟨rfl, n6, rfl⟩
        rw [D4h.out k hk3]
        have hR7 := hR5.drewN n6
        have hB7 := pw_below_drewN hB5 n6
        generalize w5.drewN n6 = w7 at hR7 hB7
        clear hR5 hB5
        obtain ⟨Ar, cr, c0, c1, c2, f1, f2, hlt, hh, hrr⟩ := hR7.cells
        have hlow7 := hR7.low
        have hB := hR7.base
        have hrs := hrr
        rw [List.length_append, List.length_replicate] at c2 hrs
        by_cases hc : k + 4 ≤ n
        · rw [decide_eq_true hc]
          have hlb : (bs ++ List.replicate k (q.toNat : Int)).length = bs.length + k := by rw [List.length_append, List.length_replicate]
          have HLB := Lib.hid hlb
          clear hlb
          go_wp2_with ((with_reducible refine gate_builtin (b := .append) (xs := #[.tmp 40, .tmp 41]) rfl ?_); at_builtin; refine print_append_str (w0 := w) B rfl (.tmp 40) (.tmp 41) 46 9 5 rfl Tryd.underlying46 Tryd.underlying9 info5 (.slice Ar (bs.length + k) cr) (bs ++ List.replicate k (q.toNat : Int)) (one q) rfl rfl (Kd.own_of_R hrs) hB7 hlow7 (by rw [HLB.out]; show bs.length + k + 1 ≤ _; omega) ?_; intro v1 w8 ho8 hb8 hg8; have ho9 : Kd.R (Kd.int .u8) 5 w8 B (fun _ => True) v1 ((bs ++ List.replicate k (q.toNat : Int)) ++ bytesOf (one q)) := Kd.R_of_own ho8 (fun _ _ => trivial); obtain ⟨Av, cpv, rfl, -, -⟩ := Kd.R_reads ho9; have hg9 : w7.grownBy w8 (.slice Ar (bs ++ List.replicate k (q.toNat : Int)).length cr : Value).ownBlock := (by rw [HLB.out]; exact hg8); obtain ⟨k0, k1, k5, k2, k3, k4, hS⟩ := Rdr.grownT hB hh hrr ho9 hg9; rw [List.length_append, HLB.out] at hS; rw [HLB.out] at k5)
          simp only [Nat.add_assoc] at hS
          have h9 := hS ((i : Int) + k + 1)
          rw [show ((i : Int) + k + 1) = ((i + (k + 1) : Nat) : Int) by omega, show (bs ++ List.replicate k (q.toNat : Int)) ++ bytesOf (one q) = bs ++ List.replicate (k + 1) (q.toNat : Int) by rw [one_bytes, List.append_assoc, ← List.replicate_succ']] at h9
          go_roundg kk
          case rel => exact ⟨k + 1, by go_num, by omega, by omega, by rw [hN]; omega, by rw [show ((i : Int) + k + 1) = ((i + (k + 1) : Nat) : Int) by omega]; exact h9, (hb8.setCell hB _).setCell hB _⟩
          case measure => omega
        · rw [decide_eq_false hc]
          have hM := hR7.moved ((i : Int) + k + 3)
          have hmin : min (n - 3) 2 = k := by omega
          go_wp2
          go_ret
          refine ⟨rfl, ?_, hB7.trans hM.2⟩
          rw [hmin]
          show Rdr B _ g text ((i : Int) + ((k + 3 : Nat) : Int)) (bs ++ List.replicate k (q.toNat : Int))
          rw [show (i : Int) + ((k + 3 : Nat) : Int) = (i : Int) + k + 3 by omega]
          exact hM.1
end Go.Proofs.YtoanbmggffkmgaaDoor.P
end
section
namespace Go.Proofs.YtoanbmggffkmgaaDoor.La
open Go.RowKit Go.Proofs.YtoanbmggffkmgaaDoor.P Go.Proofs.YtoanbmggffkmgaaDoorW.PrintWords Go.Proofs.YtoanbmggffkmgaaDoorW.PrintLast Go.Proofs.YtoanbmggffkmgaaDoorW.PrintMore
/-- What stands at a place of a TOML string, its end aside: what it says, and how many bytes it has. -/
def titem (lines : Bool) (q : Int) (l : List Int) : Option (List Int × Nat) := if l.getD 0 0 = 92 ∧ q = 34 then tesc lines l else tplain lines l
/-- What a TOML string says from byte i on, acc being read: is it whole, its bytes, and where it ends or is wrong. -/
def tbody (L : List Int) (q : Int) (lines : Bool) : Nat → Nat → List Int → Bool × List Int × Nat
  | 0, i, _ => (false, [], i)
  | k + 1, i, acc =>
    if L.length ≤ i then (false, [], L.length)
    else match tend lines q (L.drop i) with
      | some p => (true, acc ++ p.1, i + p.2)
      | none => match titem lines q (L.drop i) with
        | none => (false, [], i)
        | some p => tbody L q lines k (i + p.2) (acc ++ p.1)
/-- A line's end behind three quotes. -/
def tskip (l : List Int) : Nat := if l.take 2 = [13, 10] then 2 else if l.take 1 = [10] then 1 else 0
/-- What a TOML string says. -/
def tstr (L : List Int) (i : Nat) : Bool × List Int × Nat :=
  if 3 ≤ lead (L.getD i 0) (L.drop i) then tbody L (L.getD i 0) true (L.length + 1) (i + 3 + tskip (L.drop (i + 3))) []
  else tbody L (L.getD i 0) false (L.length + 1) (i + 1) []
theorem tfold_len {l : List Int} {n : Nat} (hl : 0 < l.length) (h : tfold l = some n) : 1 ≤ n ∧ n ≤ l.length := by
  unfold tfold at h
  split at h
  · obtain rfl := Option.some.inj h
    have := (List.dropWhile_suffix (inSet [32, 9, 10, 13]) (l := l.drop 1)).length_le
    rw [List.length_drop] at this
    unfold trimL
    omega
  · cases h
theorem tdig_len {l : List Int} {n : Nat} {p : List Int × Nat} (h : tdig l n = some p) : p.2 = 2 + n ∧ 2 + n ≤ l.length ∧ p.1.length ≤ 4 := by
  unfold tdig at h
  obtain ⟨x, hx, h⟩ := Option.bind_eq_some_iff.1 h
  have hd := digsAt_len (l := l) (i := 2) (n := n) (by rw [hx]; rfl)
  split at h
  · obtain rfl := Option.some.inj h
    exact ⟨rfl, hd, (enc_len x).2⟩
  · cases h
theorem tesc_len {lines : Bool} {l : List Int} {p : List Int × Nat} (hl : 0 < l.length) (h : tesc lines l = some p) : 1 ≤ p.2 ∧ p.2 ≤ l.length ∧ p.1.length ≤ 4 := by
  unfold tesc at h
  split at h
  · rename_i hf
    obtain ⟨n, hn⟩ := Option.isSome_iff_exists.1 hf.2
    obtain rfl := Option.some.inj h
    have := tfold_len hl hn
    rw [hn]
    exact ⟨this.1, this.2, by simp⟩
  · unfold tesc0 at h
    split at h
    · cases h
    · split at h
      · obtain rfl := Option.some.inj h
        exact ⟨by show 1 ≤ 2; omega, by show 2 ≤ _; omega, (enc_len _).2⟩
      · split at h
        · have := tdig_len h; omega
        · split at h
          · have := tdig_len h; omega
          · cases h
theorem enc0_len (r : Int) : (enc0 r).length ≤ 4 := by
  unfold enc0
  split
  · exact (enc_len r).2
  · simp
theorem tplain_len {lines : Bool} {l : List Int} {p : List Int × Nat} (hb : Bytes l) (hl : 0 < l.length) (h : tplain lines l = some p) : 1 ≤ p.2 ∧ p.2 ≤ l.length ∧ p.1.length ≤ 4 := by
  unfold tplain at h
  split at h
  · rename_i hc
    split at h
    · rename_i h13
      obtain rfl := Option.some.inj h
      have h2 : l.take 2 = [13, 10] := by
        rcases hc with ⟨_, h | h⟩ | h
        · omega
        · exact h
        · omega
      have := congrArg List.length h2
      rw [List.length_take] at this
      exact ⟨by show 1 ≤ 2; omega, by show 2 ≤ _; simp at this; omega, by simp⟩
    · obtain rfl := Option.some.inj h
      exact ⟨Nat.le_refl _, hl, by simp⟩
  · split at h
    · cases h
    · split at h
      · obtain rfl := Option.some.inj h
        have hbd := tk_bound l hb
        exact ⟨by show 1 ≤ (tk l).2.toNat; omega, by show (tk l).2.toNat ≤ _; omega, enc0_len _⟩
      · cases h
end Go.Proofs.YtoanbmggffkmgaaDoor.La
namespace Go.Proofs.YtoanbmggffkmgaaDoor.P
open Go.RowKit Go.Proofs.YtoanbmggffkmgaaDoor.La Go.Proofs.YtoanbmggffkmgaaDoorW.PrintWords Go.Proofs.YtoanbmggffkmgaaDoorW.PrintLast Go.Proofs.YtoanbmggffkmgaaDoorW.PrintMore
theorem rended {B g : Nat} {text : ByteArray} {i : Nat} {bs : List Int} {w : World} (lines : Bool) (q : UInt8) (hR : Rdr B w g text (i : Int) bs) (hl : bs.length ≤ 140737480000000) (h1 : i < text.size) (h2 : text.size ≤ 140737488000000) :
    Calls Tryd.prog 42 #[.pointer (some ⟨g, 0, none⟩), .string (one q), .bool lines] w (EndPost B g text i bs w (tend lines (q.toNat : Int) ((bytesOf text).drop i))) := by
  cases lines
  · exact rended_plain q hR h1 h2
  · exact rended_lines q hR hl h1 h2
/-- The loop's state. -/
def TInv (w : World) (text : ByteArray) (g : Nat) (F : Nat → Nat → List Int → Bool × List Int × Nat) (res : Bool × List Int × Nat) (k : Nat) (wr : World) : Prop :=
  ∃ (i : Nat) (bs : List Int), Rdr w.heap.size wr g text (i : Int) bs ∧ Below w.heap.size w wr ∧ F k i bs = res ∧ i ≤ text.size ∧ text.size - i < k ∧ bs.length ≤ 4 * i
set_option maxRecDepth 100000 in
set_option maxHeartbeats 64000000 in
theorem tunq_A (text : ByteArray) (at_ : Nat) (q : UInt8) (b34 : Bool) (hq34 : b34 = decide ((q.toNat : Int) = 34)) (hs : text.size ≤ 17592186044416) (hq : (bytesOf text).getD at_ 0 = (q.toNat : Int)) (_hqq : (q.toNat : Int) = 34 ∨ (q.toNat : Int) = 39) (hlt : at_ < text.size) (hq34' : (q.toNat : Int) = 34) (hln : ¬ 3 ≤ lead (q.toNat : Int) ((bytesOf text).drop at_)) (w : World) :
    Calls Tryd.prog 17 #[.string text, .int .i64 at_] w fun e w' => e = .returned (unqRes (tstr (bytesOf text) at_)) ∧ Below w.heap.size w w' := by
  generalize hres : tstr (bytesOf text) at_ = res
  have g1 : decide ((at_ : Int) < 0) = false := decide_eq_false (by omega)
  have htk1 : ∀ c : Int, ((bytesOf text).drop at_).take 1 = [c] ↔ (q.toNat : Int) = c := by
    intro c
    rw [take_one_drop (by rw [size_of]; exact hlt), hq]
    constructor
    · intro h; exact (List.cons.inj h).1
    · intro h; rw [h]
  have dA : decide (((bytesOf text).drop at_).take (⟨#[34]⟩ : ByteArray).size = bytesOf ⟨#[34]⟩) = b34 := by rw [hq34, decide_eq_decide]; exact htk1 34
  have dB : b34 = false → decide (((bytesOf text).drop at_).take (⟨#[39]⟩ : ByteArray).size = bytesOf ⟨#[39]⟩) = true := by
    intro h
    rw [decide_eq_true_eq]
    refine (htk1 39).2 ?_
    rw [hq34, decide_eq_false_iff_not] at h
    omega
  have hquote : text.extract at_ (at_ + 1) = one q := by
    apply bytesOf_inj
    rw [bytesOf_extract, List.drop_take, show at_ + 1 - at_ = 1 by omega, (htk1 _).2 rfl]
    rfl
  have hq1 : ((one q).toList == ([34] : List UInt8)) = b34 := by
    rw [hq34, Bool.eq_iff_iff, beq_iff_eq, decide_eq_true_eq]
    have := toList_eq_iff (one q) ⟨#[34]⟩
    rw [toList_data' ⟨#[34]⟩] at this
    rw [this, one_bytes]
    constructor
    · intro h; exact (List.cons.inj h).1
    · intro h; rw [h]; rfl
  obtain ⟨lines, hlines⟩ : ∃ lines, lines = decide (3 ≤ lead (q.toNat : Int) ((bytesOf text).drop at_)) := ⟨_, rfl⟩
  have d3 : decide (((bytesOf text).drop at_).take (⟨#[q, q, q]⟩ : ByteArray).size = bytesOf (⟨#[q, q, q]⟩ : ByteArray)) = lines := by
    rw [hlines, rep_bytes3, decide_eq_decide]
    exact lead_take _ _ 3
  have hT : tstr (bytesOf text) at_ = if lines = true then tbody (bytesOf text) (q.toNat : Int) true (text.size + 1) (at_ + 3 + tskip ((bytesOf text).drop (at_ + 3))) [] else tbody (bytesOf text) (q.toNat : Int) false (text.size + 1) (at_ + 1) [] := by
    unfold tstr
    rw [hq, hlines, size_of]
    simp only [decide_eq_true_eq]
  have hl3 : lines = true → at_ + 3 ≤ text.size := by
    intro h
    rw [hlines, decide_eq_true_eq] at h
    have := lead_le (q.toNat : Int) ((bytesOf text).drop at_)
    rw [List.length_drop, size_of] at this
    omega
  rw [hT] at hres
  have hLN : lines = false := by rw [hlines]; exact decide_eq_false hln
  clear hT htk1 hlines
  have HRES := Lib.hid hres
  clear hres
  have p0 := eq_true (show (0 : Int) ≤ (at_ : Int) by omega)
  have p1 := eq_true (show (at_ : Int) ≤ (at_ : Int) + 1 by omega)
  have p2 := eq_true (show (at_ : Int) + 1 ≤ (text.size : Int) by omega)
  go_enter Tryd.func17, Tryd.ntmps17
  go_wp2_with fail
  refine (rstart text at_ w).mono ?_
  rintro e w1 ⟨g, rfl, hR, hB⟩
  rw [show mn (mx (at_ : Int) 0) (text.size : Int) = (at_ : Int) by unfold mn mx; (repeat' split) <;> omega] at hR
  go_wp2_with fail
  refine (rbegins ⟨#[34]⟩ hR (by omega) (by omega)).mono ?_
  rintro e w2 ⟨rfl, n2, rfl⟩
  rw [show (at_ : Int).toNat = at_ by omega, dA]
  replace hR := hR.drewN n2
  replace hB := pw_below_drewN hB n2
  generalize w1.drewN n2 = w1 at hR hB
  have H34 : (q.toNat : Int) = 34 := hq34'
  obtain rfl : b34 = true := by rw [hq34, decide_eq_true hq34']
  clear dB dA hq34
  subst hLN
  have hsl : ∀ W : World, (Instr.slice 9 (.string text) (some (.int .i64 (at_ : Int))) (some (.int .i64 ((at_ : Int) + 1))) none).run Tryd.prog W = .ok (.string (one q)) W := by
    intro W
    have := run_slice_string (P := Tryd.prog) W 9 text .i64 .i64 (at_ : Int) ((at_ : Int) + 1) Tryd.underlying9 (by omega) (by omega) (by omega)
    rw [this, ← hquote]
    rfl
  go_wp2_with fail
  refine (repeat3 q _).mono ?_
  rintro e w2 ⟨rfl, hb2⟩
  replace hR := hR.below hb2
  have hlw := hB.size
  replace hB := hB.trans (hb2.mono hlw)
  clear hb2 hlw hsl hquote
  generalize w2 = w1 at hR hB
  go_wp2_with fail
  refine (rbegins ⟨#[q, q, q]⟩ hR (by omega) (by omega)).mono ?_
  rintro e w2 ⟨rfl, n2, rfl⟩
  rw [show (at_ : Int).toNat = at_ by omega, d3]
  replace hR := hR.drewN n2
  replace hB := pw_below_drewN hB n2
  generalize w1.drewN n2 = w1 at hR hB
  have HRES0 := HRES.out
  clear HRES
  rw [if_neg (by decide)] at HRES0
  obtain ⟨F, hF⟩ : ∃ F, F = tbody (bytesOf text) (q.toNat : Int) false := ⟨_, rfl⟩
  rw [← hF] at HRES0
  have HRES := Lib.hid HRES0
  clear HRES0
  obtain ⟨A, c, c0, c1, c2, f1, f2, hlt2, hc, hC⟩ := hR.open_
  have hlow := hR.low
  have hM := hR.moved ((at_ : Int) + 1)
  go_wp2_with fail
  generalize w1.setCell ⟨g, 1, none⟩ (.int .i64 ((at_ : Int) + 1)) = w4 at hM
  clear c0 c1 c2 f1 f2 hC hR
  obtain ⟨hR, hB4⟩ := hM
  replace hB := hB.trans hB4
  clear hB4
  generalize w4 = w1 at hR hB
  rw [show (at_ : Int) + 1 = ((at_ + 1 : Nat) : Int) by omega] at hR
  go_loopg [] (text.size + 1) (fun k wr => TInv w text g F res k wr)
  case atStart => exact ⟨_, [], hR, hB, HRES.out, by omega, by omega, by simp⟩
  case round =>
    clear hR hB HRES hl3 d3
    obtain ⟨i, bs, hR, hB, hj, hi, hk, hl⟩ := hrel
    cases gk with
    | zero => omega
    | succ k =>
      have hlow := hR.low
      obtain ⟨A, c, c0, c1, c2, f1, f2, hlt2, hc, hC⟩ := hR.open_
      rw [hF, tbody, ← hF] at hj
      by_cases hlt : i < text.size
      · rw [if_neg (by rw [size_of]; omega)] at hj
        have hdl : ((bytesOf text).drop i).length = text.size - i := by rw [List.length_drop, size_of]
        have e1 : decide ((i : Int) < (text.size : Int)) = true := decide_eq_true (by omega)
        go_wp2_with fail
        refine (rended _ q hR (by omega) hlt (by omega)).mono ?_
        rintro e w5 ⟨rfl, hR5, hB5⟩
        have hB6 := hB.trans hB5
        clear c0 c1 c2 f1 f2 hC hB hB5
        cases htend : tend false (q.toNat : Int) ((bytesOf text).drop i) with
        | some p =>
          rw [htend] at hj hR5
          have hr := Lib.hid hj
          clear hj
          replace hR5 : Rdr w.heap.size w5 g text ((i : Int) + p.2) (bs ++ p.1) := hR5
          obtain ⟨A5, c5, d0, d1, d2, e1', e2, _, _, hC5⟩ := hR5.open_
          have kc := fun n => Kd.C_string (P := Tryd.prog) (w := w5.drewN n) (c := c5) Tryd.underlying46 Tryd.underlying5 Tryd.underlying9 hC5
          have kc0 := Kd.C_string (P := Tryd.prog) (w := w5) (c := c5) Tryd.underlying46 Tryd.underlying5 Tryd.underlying9 hC5
          rw [List.length_append] at kc0 d2
          simp only [List.length_append] at kc
          go_wp2
          repeat (go_quiet (fail); try go_wp2)
          go_ret3
          exact ⟨by rw [← hr.out]; first | rfl | (unfold unqRes; simp), by first | exact hB6 | exact pw_below_drewN hB6 _⟩
        | none =>
          rw [htend] at hj hR5
          replace hR5 : Rdr w.heap.size w5 g text (i : Int) bs := hR5
          have hlow5 := hR5.low
          obtain ⟨A5, c5, d0, d1, d2, e1', e2, hlt5, _, hC5⟩ := hR5.open_
          have p1 := eq_true (show (0 : Int) ≤ (i : Int) by omega)
          have q1 := eq_true (show (i : Int) < (text.size : Int) by omega)
          have q2 := eq_true (show (i : Int).toNat < text.size by omega)
          have q3 := eq_true hlt
          have hx1 : ∀ h : i < text.size, ((text[i]'h).toNat : Int) = bt text (i : Int) := fun h => bt_at text (i : Int) (by omega)
          have hbt : ((bytesOf text).drop i).getD 0 0 = bt text (i : Int) := by
            rw [bt_get]
            simp [List.getD_eq_getElem?_getD, List.getElem?_drop]
          unfold titem at hj
          rw [hbt] at hj
          have hpl := fun p h => tplain_len (lines := false) (p := p) ((bytes_of text).drop i) (by omega) h
          have htl := fun p h => tesc_len (lines := false) (l := (bytesOf text).drop i) (p := p) (by omega) h
          rw [hdl] at hpl htl
          clear hbt hdl htend
          generalize bt text (i : Int) = b at hj hx1
          have HJ := Lib.hid hj
          clear hj
          have HPL := Lib.hid hpl
          have HTL := Lib.hid htl
          clear hpl htl
          by_cases h92 : b = 92
          · have HJ := Lib.hid (show _ from (by have h := HJ.out; rw [if_pos (show b = 92 ∧ (q.toNat : Int) = 34 from ⟨h92, H34⟩)] at h; exact h))
            have t92 : (b == 92) = true := beq_iff_eq.2 h92
            clear h92
            go_wp2_with fail
            refine (rtesc false hR5 (by omega) hlt (by omega)).mono ?_
            rintro e w7 ⟨rfl, hR7, hB7⟩
            have hB8 := hB6.trans hB7
            clear d0 d1 d2 e1' e2 hC5 hR5 hB6 hB7
            cases hp : tesc false ((bytesOf text).drop i) with
            | none =>
              rw [hp] at hR7 HJ
              have hr := Lib.hid HJ.out
              clear HJ
              replace hR7 : Rdr w.heap.size w7 g text (i : Int) bs := hR7
              obtain ⟨A7, c7, m0, m1, m2, m3, m4, _, _, _⟩ := hR7.open_
              go_wp2
              repeat (go_quiet (fail); try go_wp2)
              go_ret3
              exact ⟨by rw [← hr.out]; rfl, by first | exact hB8 | exact pw_below_drewN hB8 _⟩
            | some pp =>
              rw [hp] at hR7 HJ
              have hr := Lib.hid HJ.out
              clear HJ
              have hR8 : Rdr w.heap.size w7 g text ((i : Int) + pp.2) (bs ++ pp.1) := hR7
              have hpp := HTL.out pp hp
              clear HPL HTL hp hR7
              go_wp2
              go_roundg k
              case rel => exact ⟨i + pp.2, bs ++ pp.1, by rw [Int.natCast_add]; exact hR8, hB8, hr.out, by omega, by omega, by rw [List.length_append]; omega⟩
              case measure => omega
          · have HJ := Lib.hid (show _ from (by have h := HJ.out; rw [if_neg (show ¬ (b = 92 ∧ (q.toNat : Int) = 34) from fun h => h92 h.1)] at h; exact h))
            have t92 : (b == 92) = false := beq_eq_false_iff_ne.2 h92
            clear h92
            go_wp2_with fail
            refine (rplain false hR5 (by omega) hlt (by omega)).mono ?_
            rintro e w7 ⟨rfl, hR7, hB7⟩
            have hB8 := hB6.trans hB7
            clear d0 d1 d2 e1' e2 hC5 hR5 hB6 hB7
            cases hp : tplain false ((bytesOf text).drop i) with
            | none =>
              rw [hp] at hR7 HJ
              have hr := Lib.hid HJ.out
              clear HJ
              obtain ⟨bs7, hR7⟩ := hR7
              obtain ⟨A7, c7, m0, m1, m2, m3, m4, _, _, _⟩ := hR7.open_
              go_wp2
              repeat (go_quiet (fail); try go_wp2)
              go_ret3
              exact ⟨by rw [← hr.out]; rfl, by first | exact hB8 | exact pw_below_drewN hB8 _⟩
            | some pp =>
              rw [hp] at hR7 HJ
              have hr := Lib.hid HJ.out
              clear HJ
              have hR8 : Rdr w.heap.size w7 g text ((i : Int) + pp.2) (bs ++ pp.1) := hR7
              have hpp := HPL.out pp hp
              clear HPL HTL hp hR7
              go_wp2
              go_roundg k
              case rel => exact ⟨i + pp.2, bs ++ pp.1, by rw [Int.natCast_add]; exact hR8, hB8, hr.out, by omega, by omega, by rw [List.length_append]; omega⟩
              case measure => omega
      · obtain rfl : i = text.size := by omega
        rw [if_pos (by rw [size_of]; omega), size_of] at hj
        obtain rfl := hj
        have e1 : decide ((text.size : Int) < (text.size : Int)) = false := decide_eq_false (by omega)
        go_wp2
        repeat (go_quiet (fail); try go_wp2)
        go_ret3
        exact ⟨rfl, hB⟩
set_option maxRecDepth 100000 in
set_option maxHeartbeats 64000000 in
theorem tunq_B (text : ByteArray) (at_ : Nat) (q : UInt8) (b34 : Bool) (hq34 : b34 = decide ((q.toNat : Int) = 34)) (hs : text.size ≤ 17592186044416) (hq : (bytesOf text).getD at_ 0 = (q.toNat : Int)) (_hqq : (q.toNat : Int) = 34 ∨ (q.toNat : Int) = 39) (hlt : at_ < text.size) (hq34' : (q.toNat : Int) = 34) (hln : 3 ≤ lead (q.toNat : Int) ((bytesOf text).drop at_)) (hcr : ¬ ((bytesOf text).drop (at_ + 3)).take 2 = [13, 10]) (hcn : ¬ ((bytesOf text).drop (at_ + 3)).take 1 = [10]) (w : World) :
    Calls Tryd.prog 17 #[.string text, .int .i64 at_] w fun e w' => e = .returned (unqRes (tstr (bytesOf text) at_)) ∧ Below w.heap.size w w' := by
  generalize hres : tstr (bytesOf text) at_ = res
  have g1 : decide ((at_ : Int) < 0) = false := decide_eq_false (by omega)
  have htk1 : ∀ c : Int, ((bytesOf text).drop at_).take 1 = [c] ↔ (q.toNat : Int) = c := by
    intro c
    rw [take_one_drop (by rw [size_of]; exact hlt), hq]
    constructor
    · intro h; exact (List.cons.inj h).1
    · intro h; rw [h]
  have dA : decide (((bytesOf text).drop at_).take (⟨#[34]⟩ : ByteArray).size = bytesOf ⟨#[34]⟩) = b34 := by rw [hq34, decide_eq_decide]; exact htk1 34
  have dB : b34 = false → decide (((bytesOf text).drop at_).take (⟨#[39]⟩ : ByteArray).size = bytesOf ⟨#[39]⟩) = true := by
    intro h
    rw [decide_eq_true_eq]
    refine (htk1 39).2 ?_
    rw [hq34, decide_eq_false_iff_not] at h
    omega
  have hquote : text.extract at_ (at_ + 1) = one q := by
    apply bytesOf_inj
    rw [bytesOf_extract, List.drop_take, show at_ + 1 - at_ = 1 by omega, (htk1 _).2 rfl]
    rfl
  have hq1 : ((one q).toList == ([34] : List UInt8)) = b34 := by
    rw [hq34, Bool.eq_iff_iff, beq_iff_eq, decide_eq_true_eq]
    have := toList_eq_iff (one q) ⟨#[34]⟩
    rw [toList_data' ⟨#[34]⟩] at this
    rw [this, one_bytes]
    constructor
    · intro h; exact (List.cons.inj h).1
    · intro h; rw [h]; rfl
  obtain ⟨lines, hlines⟩ : ∃ lines, lines = decide (3 ≤ lead (q.toNat : Int) ((bytesOf text).drop at_)) := ⟨_, rfl⟩
  have d3 : decide (((bytesOf text).drop at_).take (⟨#[q, q, q]⟩ : ByteArray).size = bytesOf (⟨#[q, q, q]⟩ : ByteArray)) = lines := by
    rw [hlines, rep_bytes3, decide_eq_decide]
    exact lead_take _ _ 3
  have hT : tstr (bytesOf text) at_ = if lines = true then tbody (bytesOf text) (q.toNat : Int) true (text.size + 1) (at_ + 3 + tskip ((bytesOf text).drop (at_ + 3))) [] else tbody (bytesOf text) (q.toNat : Int) false (text.size + 1) (at_ + 1) [] := by
    unfold tstr
    rw [hq, hlines, size_of]
    simp only [decide_eq_true_eq]
  have hl3 : lines = true → at_ + 3 ≤ text.size := by
    intro h
    rw [hlines, decide_eq_true_eq] at h
    have := lead_le (q.toNat : Int) ((bytesOf text).drop at_)
    rw [List.length_drop, size_of] at this
    omega
  rw [hT] at hres
  have hLN : lines = true := by rw [hlines]; exact decide_eq_true hln
  clear hT htk1 hlines
  have HRES := Lib.hid hres
  clear hres
  have p0 := eq_true (show (0 : Int) ≤ (at_ : Int) by omega)
  have p1 := eq_true (show (at_ : Int) ≤ (at_ : Int) + 1 by omega)
  have p2 := eq_true (show (at_ : Int) + 1 ≤ (text.size : Int) by omega)
  go_enter Tryd.func17, Tryd.ntmps17
  go_wp2_with fail
  refine (rstart text at_ w).mono ?_
  rintro e w1 ⟨g, rfl, hR, hB⟩
  rw [show mn (mx (at_ : Int) 0) (text.size : Int) = (at_ : Int) by unfold mn mx; (repeat' split) <;> omega] at hR
  go_wp2_with fail
  refine (rbegins ⟨#[34]⟩ hR (by omega) (by omega)).mono ?_
  rintro e w2 ⟨rfl, n2, rfl⟩
  rw [show (at_ : Int).toNat = at_ by omega, dA]
  replace hR := hR.drewN n2
  replace hB := pw_below_drewN hB n2
  generalize w1.drewN n2 = w1 at hR hB
  have H34 : (q.toNat : Int) = 34 := hq34'
  obtain rfl : b34 = true := by rw [hq34, decide_eq_true hq34']
  clear dB dA hq34
  subst hLN
  have hsl : ∀ W : World, (Instr.slice 9 (.string text) (some (.int .i64 (at_ : Int))) (some (.int .i64 ((at_ : Int) + 1))) none).run Tryd.prog W = .ok (.string (one q)) W := by
    intro W
    have := run_slice_string (P := Tryd.prog) W 9 text .i64 .i64 (at_ : Int) ((at_ : Int) + 1) Tryd.underlying9 (by omega) (by omega) (by omega)
    rw [this, ← hquote]
    rfl
  go_wp2_with fail
  refine (repeat3 q _).mono ?_
  rintro e w2 ⟨rfl, hb2⟩
  replace hR := hR.below hb2
  have hlw := hB.size
  replace hB := hB.trans (hb2.mono hlw)
  clear hb2 hlw hsl hquote
  generalize w2 = w1 at hR hB
  go_wp2_with fail
  refine (rbegins ⟨#[q, q, q]⟩ hR (by omega) (by omega)).mono ?_
  rintro e w2 ⟨rfl, n2, rfl⟩
  rw [show (at_ : Int).toNat = at_ by omega, d3]
  replace hR := hR.drewN n2
  replace hB := pw_below_drewN hB n2
  generalize w1.drewN n2 = w1 at hR hB
  have HRES0 := HRES.out
  clear HRES
  rw [if_pos trivial] at HRES0
  have hl4 := hl3 trivial
  obtain ⟨F, hF⟩ : ∃ F, F = tbody (bytesOf text) (q.toNat : Int) true := ⟨_, rfl⟩
  rw [← hF] at HRES0
  have HRES := Lib.hid HRES0
  clear HRES0
  obtain ⟨A, c, c0, c1, c2, f1, f2, hlt2, hc, hC⟩ := hR.open_
  have hlow := hR.low
  have hM := hR.moved ((at_ : Int) + 1)
  go_wp2_with fail
  generalize w1.setCell ⟨g, 1, none⟩ (.int .i64 ((at_ : Int) + 1)) = w4 at hM
  clear c0 c1 c2 f1 f2 hC hR
  obtain ⟨hR, hB4⟩ := hM
  replace hB := hB.trans hB4
  clear hB4
  generalize w4 = w1 at hR hB
  obtain ⟨A, c, c0, c1, c2, f1, f2, hlt2, hc, hC⟩ := hR.open_
  have hlow := hR.low
  have hM := hR.moved ((at_ : Int) + 1 + 2)
  go_wp2_with fail
  generalize w1.setCell ⟨g, 1, none⟩ (.int .i64 ((at_ : Int) + 1 + 2)) = w4 at hM
  clear c0 c1 c2 f1 f2 hC hR
  obtain ⟨hR, hB4⟩ := hM
  replace hB := hB.trans hB4
  clear hB4
  generalize w4 = w1 at hR hB
  rw [show (at_ : Int) + 1 + 2 = ((at_ + 3 : Nat) : Int) by omega] at hR
  unfold tskip at HRES
  have dc : decide (((bytesOf text).drop (at_ + 3)).take (⟨#[13, 10]⟩ : ByteArray).size = bytesOf ⟨#[13, 10]⟩) = false := decide_eq_false hcr
  rw [if_neg hcr] at HRES
  go_wp2_with fail
  refine (rbegins ⟨#[13, 10]⟩ hR (by omega) (by omega)).mono ?_
  rintro e w2 ⟨rfl, n2, rfl⟩
  rw [show (((at_ + 3 : Nat) : Int)).toNat = at_ + 3 by omega, dc]
  replace hR := hR.drewN n2
  replace hB := pw_below_drewN hB n2
  generalize w1.drewN n2 = w1 at hR hB
  have dn : decide (((bytesOf text).drop (at_ + 3)).take (⟨#[10]⟩ : ByteArray).size = bytesOf ⟨#[10]⟩) = false := decide_eq_false hcn
  rw [if_neg hcn] at HRES
  go_wp2_with fail
  refine (rbegins ⟨#[10]⟩ hR (by omega) (by omega)).mono ?_
  rintro e w2 ⟨rfl, n2, rfl⟩
  rw [show (((at_ + 3 : Nat) : Int)).toNat = at_ + 3 by omega, dn]
  replace hR := hR.drewN n2
  replace hB := pw_below_drewN hB n2
  generalize w1.drewN n2 = w1 at hR hB
  go_wp2_with fail
  go_loopg [] (text.size + 1) (fun k wr => TInv w text g F res k wr)
  case atStart => exact ⟨_, [], hR, hB, HRES.out, by omega, by omega, by simp⟩
  case round =>
    clear hR hB HRES hl3 d3
    obtain ⟨i, bs, hR, hB, hj, hi, hk, hl⟩ := hrel
    cases gk with
    | zero => omega
    | succ k =>
      have hlow := hR.low
      obtain ⟨A, c, c0, c1, c2, f1, f2, hlt2, hc, hC⟩ := hR.open_
      rw [hF, tbody, ← hF] at hj
      by_cases hlt : i < text.size
      · rw [if_neg (by rw [size_of]; omega)] at hj
        have hdl : ((bytesOf text).drop i).length = text.size - i := by rw [List.length_drop, size_of]
        have e1 : decide ((i : Int) < (text.size : Int)) = true := decide_eq_true (by omega)
        go_wp2_with fail
        refine (rended _ q hR (by omega) hlt (by omega)).mono ?_
        rintro e w5 ⟨rfl, hR5, hB5⟩
        have hB6 := hB.trans hB5
        clear c0 c1 c2 f1 f2 hC hB hB5
        cases htend : tend true (q.toNat : Int) ((bytesOf text).drop i) with
        | some p =>
          rw [htend] at hj hR5
          have hr := Lib.hid hj
          clear hj
          replace hR5 : Rdr w.heap.size w5 g text ((i : Int) + p.2) (bs ++ p.1) := hR5
          obtain ⟨A5, c5, d0, d1, d2, e1', e2, _, _, hC5⟩ := hR5.open_
          have kc := fun n => Kd.C_string (P := Tryd.prog) (w := w5.drewN n) (c := c5) Tryd.underlying46 Tryd.underlying5 Tryd.underlying9 hC5
          have kc0 := Kd.C_string (P := Tryd.prog) (w := w5) (c := c5) Tryd.underlying46 Tryd.underlying5 Tryd.underlying9 hC5
          rw [List.length_append] at kc0 d2
          simp only [List.length_append] at kc
          go_wp2
          repeat (go_quiet (fail); try go_wp2)
          go_ret3
          exact ⟨by rw [← hr.out]; first | rfl | (unfold unqRes; simp), by first | exact hB6 | exact pw_below_drewN hB6 _⟩
        | none =>
          rw [htend] at hj hR5
          replace hR5 : Rdr w.heap.size w5 g text (i : Int) bs := hR5
          have hlow5 := hR5.low
          obtain ⟨A5, c5, d0, d1, d2, e1', e2, hlt5, _, hC5⟩ := hR5.open_
          have p1 := eq_true (show (0 : Int) ≤ (i : Int) by omega)
          have q1 := eq_true (show (i : Int) < (text.size : Int) by omega)
          have q2 := eq_true (show (i : Int).toNat < text.size by omega)
          have q3 := eq_true hlt
          have hx1 : ∀ h : i < text.size, ((text[i]'h).toNat : Int) = bt text (i : Int) := fun h => bt_at text (i : Int) (by omega)
          have hbt : ((bytesOf text).drop i).getD 0 0 = bt text (i : Int) := by
            rw [bt_get]
            simp [List.getD_eq_getElem?_getD, List.getElem?_drop]
          unfold titem at hj
          rw [hbt] at hj
          have hpl := fun p h => tplain_len (lines := true) (p := p) ((bytes_of text).drop i) (by omega) h
          have htl := fun p h => tesc_len (lines := true) (l := (bytesOf text).drop i) (p := p) (by omega) h
          rw [hdl] at hpl htl
          clear hbt hdl htend
          generalize bt text (i : Int) = b at hj hx1
          have HJ := Lib.hid hj
          clear hj
          have HPL := Lib.hid hpl
          have HTL := Lib.hid htl
          clear hpl htl
          by_cases h92 : b = 92
          · have HJ := Lib.hid (show _ from (by have h := HJ.out; rw [if_pos (show b = 92 ∧ (q.toNat : Int) = 34 from ⟨h92, H34⟩)] at h; exact h))
            have t92 : (b == 92) = true := beq_iff_eq.2 h92
            clear h92
            go_wp2_with fail
            refine (rtesc true hR5 (by omega) hlt (by omega)).mono ?_
            rintro e w7 ⟨rfl, hR7, hB7⟩
            have hB8 := hB6.trans hB7
            clear d0 d1 d2 e1' e2 hC5 hR5 hB6 hB7
            cases hp : tesc true ((bytesOf text).drop i) with
            | none =>
              rw [hp] at hR7 HJ
              have hr := Lib.hid HJ.out
              clear HJ
              replace hR7 : Rdr w.heap.size w7 g text (i : Int) bs := hR7
              obtain ⟨A7, c7, m0, m1, m2, m3, m4, _, _, _⟩ := hR7.open_
              go_wp2
              repeat (go_quiet (fail); try go_wp2)
              go_ret3
              exact ⟨by rw [← hr.out]; rfl, by first | exact hB8 | exact pw_below_drewN hB8 _⟩
            | some pp =>
              rw [hp] at hR7 HJ
              have hr := Lib.hid HJ.out
              clear HJ
              have hR8 : Rdr w.heap.size w7 g text ((i : Int) + pp.2) (bs ++ pp.1) := hR7
              have hpp := HTL.out pp hp
              clear HPL HTL hp hR7
              go_wp2
              go_roundg k
              case rel => exact ⟨i + pp.2, bs ++ pp.1, by rw [Int.natCast_add]; exact hR8, hB8, hr.out, by omega, by omega, by rw [List.length_append]; omega⟩
              case measure => omega
          · have HJ := Lib.hid (show _ from (by have h := HJ.out; rw [if_neg (show ¬ (b = 92 ∧ (q.toNat : Int) = 34) from fun h => h92 h.1)] at h; exact h))
            have t92 : (b == 92) = false := beq_eq_false_iff_ne.2 h92
            clear h92
            go_wp2_with fail
            refine (rplain true hR5 (by omega) hlt (by omega)).mono ?_
            rintro e w7 ⟨rfl, hR7, hB7⟩
            have hB8 := hB6.trans hB7
            clear d0 d1 d2 e1' e2 hC5 hR5 hB6 hB7
            cases hp : tplain true ((bytesOf text).drop i) with
            | none =>
              rw [hp] at hR7 HJ
              have hr := Lib.hid HJ.out
              clear HJ
              obtain ⟨bs7, hR7⟩ := hR7
              obtain ⟨A7, c7, m0, m1, m2, m3, m4, _, _, _⟩ := hR7.open_
              go_wp2
              repeat (go_quiet (fail); try go_wp2)
              go_ret3
              exact ⟨by rw [← hr.out]; rfl, by first | exact hB8 | exact pw_below_drewN hB8 _⟩
            | some pp =>
              rw [hp] at hR7 HJ
              have hr := Lib.hid HJ.out
              clear HJ
              have hR8 : Rdr w.heap.size w7 g text ((i : Int) + pp.2) (bs ++ pp.1) := hR7
              have hpp := HPL.out pp hp
              clear HPL HTL hp hR7
              go_wp2
              go_roundg k
              case rel => exact ⟨i + pp.2, bs ++ pp.1, by rw [Int.natCast_add]; exact hR8, hB8, hr.out, by omega, by omega, by rw [List.length_append]; omega⟩
              case measure => omega
      · obtain rfl : i = text.size := by omega
        rw [if_pos (by rw [size_of]; omega), size_of] at hj
        obtain rfl := hj
        have e1 : decide ((text.size : Int) < (text.size : Int)) = false := decide_eq_false (by omega)
        go_wp2
        repeat (go_quiet (fail); try go_wp2)
        go_ret3
        exact ⟨rfl, hB⟩
set_option maxRecDepth 100000 in
set_option maxHeartbeats 64000000 in
theorem tunq_C (text : ByteArray) (at_ : Nat) (q : UInt8) (b34 : Bool) (hq34 : b34 = decide ((q.toNat : Int) = 34)) (hs : text.size ≤ 17592186044416) (hq : (bytesOf text).getD at_ 0 = (q.toNat : Int)) (_hqq : (q.toNat : Int) = 34 ∨ (q.toNat : Int) = 39) (hlt : at_ < text.size) (hq34' : ¬ (q.toNat : Int) = 34) (hln : 3 ≤ lead (q.toNat : Int) ((bytesOf text).drop at_)) (hcr : ¬ ((bytesOf text).drop (at_ + 3)).take 2 = [13, 10]) (hcn : ((bytesOf text).drop (at_ + 3)).take 1 = [10]) (w : World) :
    Calls Tryd.prog 17 #[.string text, .int .i64 at_] w fun e w' => e = .returned (unqRes (tstr (bytesOf text) at_)) ∧ Below w.heap.size w w' := by
  generalize hres : tstr (bytesOf text) at_ = res
  have g1 : decide ((at_ : Int) < 0) = false := decide_eq_false (by omega)
  have htk1 : ∀ c : Int, ((bytesOf text).drop at_).take 1 = [c] ↔ (q.toNat : Int) = c := by
    intro c
    rw [take_one_drop (by rw [size_of]; exact hlt), hq]
    constructor
    · intro h; exact (List.cons.inj h).1
    · intro h; rw [h]
  have dA : decide (((bytesOf text).drop at_).take (⟨#[34]⟩ : ByteArray).size = bytesOf ⟨#[34]⟩) = b34 := by rw [hq34, decide_eq_decide]; exact htk1 34
  have dB : b34 = false → decide (((bytesOf text).drop at_).take (⟨#[39]⟩ : ByteArray).size = bytesOf ⟨#[39]⟩) = true := by
    intro h
    rw [decide_eq_true_eq]
    refine (htk1 39).2 ?_
    rw [hq34, decide_eq_false_iff_not] at h
    omega
  have hquote : text.extract at_ (at_ + 1) = one q := by
    apply bytesOf_inj
    rw [bytesOf_extract, List.drop_take, show at_ + 1 - at_ = 1 by omega, (htk1 _).2 rfl]
    rfl
  have hq1 : ((one q).toList == ([34] : List UInt8)) = b34 := by
    rw [hq34, Bool.eq_iff_iff, beq_iff_eq, decide_eq_true_eq]
    have := toList_eq_iff (one q) ⟨#[34]⟩
    rw [toList_data' ⟨#[34]⟩] at this
    rw [this, one_bytes]
    constructor
    · intro h; exact (List.cons.inj h).1
    · intro h; rw [h]; rfl
  obtain ⟨lines, hlines⟩ : ∃ lines, lines = decide (3 ≤ lead (q.toNat : Int) ((bytesOf text).drop at_)) := ⟨_, rfl⟩
  have d3 : decide (((bytesOf text).drop at_).take (⟨#[q, q, q]⟩ : ByteArray).size = bytesOf (⟨#[q, q, q]⟩ : ByteArray)) = lines := by
    rw [hlines, rep_bytes3, decide_eq_decide]
    exact lead_take _ _ 3
  have hT : tstr (bytesOf text) at_ = if lines = true then tbody (bytesOf text) (q.toNat : Int) true (text.size + 1) (at_ + 3 + tskip ((bytesOf text).drop (at_ + 3))) [] else tbody (bytesOf text) (q.toNat : Int) false (text.size + 1) (at_ + 1) [] := by
    unfold tstr
    rw [hq, hlines, size_of]
    simp only [decide_eq_true_eq]
  have hl3 : lines = true → at_ + 3 ≤ text.size := by
    intro h
    rw [hlines, decide_eq_true_eq] at h
    have := lead_le (q.toNat : Int) ((bytesOf text).drop at_)
    rw [List.length_drop, size_of] at this
    omega
  rw [hT] at hres
  have hLN : lines = true := by rw [hlines]; exact decide_eq_true hln
  clear hT htk1 hlines
  have HRES := Lib.hid hres
  clear hres
  have p0 := eq_true (show (0 : Int) ≤ (at_ : Int) by omega)
  have p1 := eq_true (show (at_ : Int) ≤ (at_ : Int) + 1 by omega)
  have p2 := eq_true (show (at_ : Int) + 1 ≤ (text.size : Int) by omega)
  go_enter Tryd.func17, Tryd.ntmps17
  go_wp2_with fail
  refine (rstart text at_ w).mono ?_
  rintro e w1 ⟨g, rfl, hR, hB⟩
  rw [show mn (mx (at_ : Int) 0) (text.size : Int) = (at_ : Int) by unfold mn mx; (repeat' split) <;> omega] at hR
  go_wp2_with fail
  refine (rbegins ⟨#[34]⟩ hR (by omega) (by omega)).mono ?_
  rintro e w2 ⟨rfl, n2, rfl⟩
  rw [show (at_ : Int).toNat = at_ by omega, dA]
  replace hR := hR.drewN n2
  replace hB := pw_below_drewN hB n2
  generalize w1.drewN n2 = w1 at hR hB
  have H34 : ¬ (q.toNat : Int) = 34 := hq34'
  obtain rfl : b34 = false := by rw [hq34, decide_eq_false hq34']
  have dB' := dB rfl
  clear dB dA hq34
  go_wp2_with fail
  refine (rbegins ⟨#[39]⟩ hR (by omega) (by omega)).mono ?_
  rintro e w2 ⟨rfl, n2, rfl⟩
  rw [show (at_ : Int).toNat = at_ by omega, dB']
  replace hR := hR.drewN n2
  replace hB := pw_below_drewN hB n2
  generalize w1.drewN n2 = w1 at hR hB
  clear dB'
  subst hLN
  have hsl : ∀ W : World, (Instr.slice 9 (.string text) (some (.int .i64 (at_ : Int))) (some (.int .i64 ((at_ : Int) + 1))) none).run Tryd.prog W = .ok (.string (one q)) W := by
    intro W
    have := run_slice_string (P := Tryd.prog) W 9 text .i64 .i64 (at_ : Int) ((at_ : Int) + 1) Tryd.underlying9 (by omega) (by omega) (by omega)
    rw [this, ← hquote]
    rfl
  go_wp2_with fail
  refine (repeat3 q _).mono ?_
  rintro e w2 ⟨rfl, hb2⟩
  replace hR := hR.below hb2
  have hlw := hB.size
  replace hB := hB.trans (hb2.mono hlw)
  clear hb2 hlw hsl hquote
  generalize w2 = w1 at hR hB
  go_wp2_with fail
  refine (rbegins ⟨#[q, q, q]⟩ hR (by omega) (by omega)).mono ?_
  rintro e w2 ⟨rfl, n2, rfl⟩
  rw [show (at_ : Int).toNat = at_ by omega, d3]
  replace hR := hR.drewN n2
  replace hB := pw_below_drewN hB n2
  generalize w1.drewN n2 = w1 at hR hB
  have HRES0 := HRES.out
  clear HRES
  rw [if_pos trivial] at HRES0
  have hl4 := hl3 trivial
  obtain ⟨F, hF⟩ : ∃ F, F = tbody (bytesOf text) (q.toNat : Int) true := ⟨_, rfl⟩
  rw [← hF] at HRES0
  have HRES := Lib.hid HRES0
  clear HRES0
  obtain ⟨A, c, c0, c1, c2, f1, f2, hlt2, hc, hC⟩ := hR.open_
  have hlow := hR.low
  have hM := hR.moved ((at_ : Int) + 1)
  go_wp2_with fail
  generalize w1.setCell ⟨g, 1, none⟩ (.int .i64 ((at_ : Int) + 1)) = w4 at hM
  clear c0 c1 c2 f1 f2 hC hR
  obtain ⟨hR, hB4⟩ := hM
  replace hB := hB.trans hB4
  clear hB4
  generalize w4 = w1 at hR hB
  obtain ⟨A, c, c0, c1, c2, f1, f2, hlt2, hc, hC⟩ := hR.open_
  have hlow := hR.low
  have hM := hR.moved ((at_ : Int) + 1 + 2)
  go_wp2_with fail
  generalize w1.setCell ⟨g, 1, none⟩ (.int .i64 ((at_ : Int) + 1 + 2)) = w4 at hM
  clear c0 c1 c2 f1 f2 hC hR
  obtain ⟨hR, hB4⟩ := hM
  replace hB := hB.trans hB4
  clear hB4
  generalize w4 = w1 at hR hB
  rw [show (at_ : Int) + 1 + 2 = ((at_ + 3 : Nat) : Int) by omega] at hR
  unfold tskip at HRES
  have dc : decide (((bytesOf text).drop (at_ + 3)).take (⟨#[13, 10]⟩ : ByteArray).size = bytesOf ⟨#[13, 10]⟩) = false := decide_eq_false hcr
  rw [if_neg hcr] at HRES
  go_wp2_with fail
  refine (rbegins ⟨#[13, 10]⟩ hR (by omega) (by omega)).mono ?_
  rintro e w2 ⟨rfl, n2, rfl⟩
  rw [show (((at_ + 3 : Nat) : Int)).toNat = at_ + 3 by omega, dc]
  replace hR := hR.drewN n2
  replace hB := pw_below_drewN hB n2
  generalize w1.drewN n2 = w1 at hR hB
  have dn : decide (((bytesOf text).drop (at_ + 3)).take (⟨#[10]⟩ : ByteArray).size = bytesOf ⟨#[10]⟩) = true := decide_eq_true hcn
  have hlen2 : at_ + 4 ≤ text.size := by
    have := congrArg List.length hcn
    rw [List.length_take, List.length_drop, size_of] at this
    simp at this
    omega
  rw [if_pos hcn] at HRES
  go_wp2_with fail
  refine (rbegins ⟨#[10]⟩ hR (by omega) (by omega)).mono ?_
  rintro e w2 ⟨rfl, n2, rfl⟩
  rw [show (((at_ + 3 : Nat) : Int)).toNat = at_ + 3 by omega, dn]
  replace hR := hR.drewN n2
  replace hB := pw_below_drewN hB n2
  generalize w1.drewN n2 = w1 at hR hB
  obtain ⟨A, c, c0, c1, c2, f1, f2, hlt2, hc, hC⟩ := hR.open_
  have hlow := hR.low
  have hM := hR.moved ((at_ : Int) + 3 + 1)
  go_wp2_with fail
  generalize w1.setCell ⟨g, 1, none⟩ (.int .i64 ((at_ : Int) + 3 + 1)) = w4 at hM
  clear c0 c1 c2 f1 f2 hC hR
  obtain ⟨hR, hB4⟩ := hM
  replace hB := hB.trans hB4
  clear hB4
  generalize w4 = w1 at hR hB
  rw [show (at_ : Int) + 3 + 1 = ((at_ + 3 + 1 : Nat) : Int) by omega] at hR
  go_loopg [] (text.size + 1) (fun k wr => TInv w text g F res k wr)
  case atStart => exact ⟨_, [], hR, hB, HRES.out, by omega, by omega, by simp⟩
  case round =>
    clear hR hB HRES hl3 d3
    obtain ⟨i, bs, hR, hB, hj, hi, hk, hl⟩ := hrel
    cases gk with
    | zero => omega
    | succ k =>
      have hlow := hR.low
      obtain ⟨A, c, c0, c1, c2, f1, f2, hlt2, hc, hC⟩ := hR.open_
      rw [hF, tbody, ← hF] at hj
      by_cases hlt : i < text.size
      · rw [if_neg (by rw [size_of]; omega)] at hj
        have hdl : ((bytesOf text).drop i).length = text.size - i := by rw [List.length_drop, size_of]
        have e1 : decide ((i : Int) < (text.size : Int)) = true := decide_eq_true (by omega)
        go_wp2_with fail
        refine (rended _ q hR (by omega) hlt (by omega)).mono ?_
        rintro e w5 ⟨rfl, hR5, hB5⟩
        have hB6 := hB.trans hB5
        clear c0 c1 c2 f1 f2 hC hB hB5
        cases htend : tend true (q.toNat : Int) ((bytesOf text).drop i) with
        | some p =>
          rw [htend] at hj hR5
          have hr := Lib.hid hj
          clear hj
          replace hR5 : Rdr w.heap.size w5 g text ((i : Int) + p.2) (bs ++ p.1) := hR5
          obtain ⟨A5, c5, d0, d1, d2, e1', e2, _, _, hC5⟩ := hR5.open_
          have kc := fun n => Kd.C_string (P := Tryd.prog) (w := w5.drewN n) (c := c5) Tryd.underlying46 Tryd.underlying5 Tryd.underlying9 hC5
          have kc0 := Kd.C_string (P := Tryd.prog) (w := w5) (c := c5) Tryd.underlying46 Tryd.underlying5 Tryd.underlying9 hC5
          rw [List.length_append] at kc0 d2
          simp only [List.length_append] at kc
          go_wp2
          repeat (go_quiet (fail); try go_wp2)
          go_ret3
          exact ⟨by rw [← hr.out]; first | rfl | (unfold unqRes; simp), by first | exact hB6 | exact pw_below_drewN hB6 _⟩
        | none =>
          rw [htend] at hj hR5
          replace hR5 : Rdr w.heap.size w5 g text (i : Int) bs := hR5
          have hlow5 := hR5.low
          obtain ⟨A5, c5, d0, d1, d2, e1', e2, hlt5, _, hC5⟩ := hR5.open_
          have p1 := eq_true (show (0 : Int) ≤ (i : Int) by omega)
          have q1 := eq_true (show (i : Int) < (text.size : Int) by omega)
          have q2 := eq_true (show (i : Int).toNat < text.size by omega)
          have q3 := eq_true hlt
          have hx1 : ∀ h : i < text.size, ((text[i]'h).toNat : Int) = bt text (i : Int) := fun h => bt_at text (i : Int) (by omega)
          have hbt : ((bytesOf text).drop i).getD 0 0 = bt text (i : Int) := by
            rw [bt_get]
            simp [List.getD_eq_getElem?_getD, List.getElem?_drop]
          unfold titem at hj
          rw [hbt] at hj
          have hpl := fun p h => tplain_len (lines := true) (p := p) ((bytes_of text).drop i) (by omega) h
          have htl := fun p h => tesc_len (lines := true) (l := (bytesOf text).drop i) (p := p) (by omega) h
          rw [hdl] at hpl htl
          clear hbt hdl htend
          generalize bt text (i : Int) = b at hj hx1
          have HJ := Lib.hid hj
          clear hj
          have HPL := Lib.hid hpl
          have HTL := Lib.hid htl
          clear hpl htl
          by_cases h92 : b = 92
          · have t92 : (b == 92) = true := beq_iff_eq.2 h92
            clear h92
            have HJ := Lib.hid (show _ from (by have h := HJ.out; rw [if_neg (show ¬ (b = 92 ∧ (q.toNat : Int) = 34) from fun h => H34 h.2)] at h; exact h))
            go_wp2_with fail
            refine (rplain true hR5 (by omega) hlt (by omega)).mono ?_
            rintro e w7 ⟨rfl, hR7, hB7⟩
            have hB8 := hB6.trans hB7
            clear d0 d1 d2 e1' e2 hC5 hR5 hB6 hB7
            cases hp : tplain true ((bytesOf text).drop i) with
            | none =>
              rw [hp] at hR7 HJ
              have hr := Lib.hid HJ.out
              clear HJ
              obtain ⟨bs7, hR7⟩ := hR7
              obtain ⟨A7, c7, m0, m1, m2, m3, m4, _, _, _⟩ := hR7.open_
              go_wp2
              repeat (go_quiet (fail); try go_wp2)
              go_ret3
              exact ⟨by rw [← hr.out]; rfl, by first | exact hB8 | exact pw_below_drewN hB8 _⟩
            | some pp =>
              rw [hp] at hR7 HJ
              have hr := Lib.hid HJ.out
              clear HJ
              have hR8 : Rdr w.heap.size w7 g text ((i : Int) + pp.2) (bs ++ pp.1) := hR7
              have hpp := HPL.out pp hp
              clear HPL HTL hp hR7
              go_wp2
              go_roundg k
              case rel => exact ⟨i + pp.2, bs ++ pp.1, by rw [Int.natCast_add]; exact hR8, hB8, hr.out, by omega, by omega, by rw [List.length_append]; omega⟩
              case measure => omega
          · have t92 : (b == 92) = false := beq_eq_false_iff_ne.2 h92
            clear h92
            have HJ := Lib.hid (show _ from (by have h := HJ.out; rw [if_neg (show ¬ (b = 92 ∧ (q.toNat : Int) = 34) from fun h => H34 h.2)] at h; exact h))
            go_wp2_with fail
            refine (rplain true hR5 (by omega) hlt (by omega)).mono ?_
            rintro e w7 ⟨rfl, hR7, hB7⟩
            have hB8 := hB6.trans hB7
            clear d0 d1 d2 e1' e2 hC5 hR5 hB6 hB7
            cases hp : tplain true ((bytesOf text).drop i) with
            | none =>
              rw [hp] at hR7 HJ
              have hr := Lib.hid HJ.out
              clear HJ
              obtain ⟨bs7, hR7⟩ := hR7
              obtain ⟨A7, c7, m0, m1, m2, m3, m4, _, _, _⟩ := hR7.open_
              go_wp2
              repeat (go_quiet (fail); try go_wp2)
              go_ret3
              exact ⟨by rw [← hr.out]; rfl, by first | exact hB8 | exact pw_below_drewN hB8 _⟩
            | some pp =>
              rw [hp] at hR7 HJ
              have hr := Lib.hid HJ.out
              clear HJ
              have hR8 : Rdr w.heap.size w7 g text ((i : Int) + pp.2) (bs ++ pp.1) := hR7
              have hpp := HPL.out pp hp
              clear HPL HTL hp hR7
              go_wp2
              go_roundg k
              case rel => exact ⟨i + pp.2, bs ++ pp.1, by rw [Int.natCast_add]; exact hR8, hB8, hr.out, by omega, by omega, by rw [List.length_append]; omega⟩
              case measure => omega
      · obtain rfl : i = text.size := by omega
        rw [if_pos (by rw [size_of]; omega), size_of] at hj
        obtain rfl := hj
        have e1 : decide ((text.size : Int) < (text.size : Int)) = false := decide_eq_false (by omega)
        go_wp2
        repeat (go_quiet (fail); try go_wp2)
        go_ret3
        exact ⟨rfl, hB⟩
set_option maxRecDepth 100000 in
set_option maxHeartbeats 8000000 in
/-- It is no string at all. -/
theorem tunq_not (text : ByteArray) (at_ : Nat) (hq : text.size ≤ at_ ∨ ((bytesOf text).getD at_ 0 ≠ 34 ∧ (bytesOf text).getD at_ 0 ≠ 39)) (w : World) :
    Calls Tryd.prog 17 #[.string text, .int .i64 at_] w fun e w' => e = .returned (.tuple #[.string ⟨#[]⟩, .int .i64 0, .int .i64 ((min at_ text.size : Nat) : Int)]) ∧ Below w.heap.size w w' := by
  have g1 : decide ((at_ : Int) < 0) = false := decide_eq_false (by omega)
  have hm : mn (mx (at_ : Int) 0) (text.size : Int) = ((min at_ text.size : Nat) : Int) := by unfold mn mx; (repeat' split) <;> omega
  have hne : ∀ c : Int, (c = 34 ∨ c = 39) → ((bytesOf text).drop (min at_ text.size)).take 1 ≠ [c] := by
    intro c hc h
    by_cases hlt : at_ < text.size
    · rw [show min at_ text.size = at_ by omega, take_one_drop (by rw [size_of]; exact hlt)] at h
      have h' := (List.cons.inj h).1
      rcases hq with hq | ⟨q1, q2⟩
      · omega
      · rcases hc with rfl | rfl
        · exact q1 h'
        · exact q2 h'
    · rw [show min at_ text.size = text.size by omega, List.drop_eq_nil_of_le (by rw [size_of]; omega)] at h
      cases h
  have dA : decide (((bytesOf text).drop (min at_ text.size)).take (⟨#[34]⟩ : ByteArray).size = bytesOf ⟨#[34]⟩) = false := decide_eq_false (hne 34 (.inl rfl))
  have dB : decide (((bytesOf text).drop (min at_ text.size)).take (⟨#[39]⟩ : ByteArray).size = bytesOf ⟨#[39]⟩) = false := decide_eq_false (hne 39 (.inr rfl))
  have hml : min at_ text.size ≤ text.size := by omega
  clear hne hq
  generalize min at_ text.size = m at hm dA dB hml
  go_enter Tryd.func17, Tryd.ntmps17
  go_wp2_with fail
  refine (rstart text at_ w).mono ?_
  rintro e w1 ⟨g, rfl, hR, hB⟩
  rw [hm] at hR
  go_wp2_with fail
  refine (rbegins ⟨#[34]⟩ hR (by omega) (by omega)).mono ?_
  rintro e w2 ⟨rfl, n2, rfl⟩
  rw [show (m : Int).toNat = m by omega, dA]
  replace hR := hR.drewN n2
  replace hB := pw_below_drewN hB n2
  generalize w1.drewN n2 = w1 at hR hB
  go_wp2_with fail
  refine (rbegins ⟨#[39]⟩ hR (by omega) (by omega)).mono ?_
  rintro e w2 ⟨rfl, n3, rfl⟩
  rw [show (m : Int).toNat = m by omega, dB]
  replace hR := hR.drewN n3
  replace hB := pw_below_drewN hB n3
  generalize w1.drewN n3 = w1 at hR hB
  obtain ⟨A, c, c0, c1, c2, f1, f2, hlt2, hc, hC⟩ := hR.open_
  go_wp2
  repeat (go_quiet (fail); try go_wp2)
  go_ret3
  exact ⟨rfl, by first | exact hB | exact pw_below_drewN hB _⟩
/-- The strings that this claim's proof speaks of. -/
def tdom (L : List Int) (i : Nat) : Prop := L.length ≤ i ∨ (L.getD i 0 ≠ 34 ∧ L.getD i 0 ≠ 39) ∨ (L.getD i 0 = 34 ∧ ¬ 3 ≤ lead 34 (L.drop i)) ∨
  (L.getD i 0 = 34 ∧ 3 ≤ lead 34 (L.drop i) ∧ ¬ (L.drop (i + 3)).take 2 = [13, 10] ∧ ¬ (L.drop (i + 3)).take 1 = [10]) ∨
  (L.getD i 0 = 39 ∧ 3 ≤ lead 39 (L.drop i) ∧ ¬ (L.drop (i + 3)).take 2 = [13, 10] ∧ (L.drop (i + 3)).take 1 = [10])
instance (L : List Int) (i : Nat) : Decidable (tdom L i) := by unfold tdom; infer_instance
/-- What TUnquote answers. -/
def tunqT (L : List Int) (i : Nat) : ByteArray × Int × Int :=
  if L.length ≤ i ∨ (L.getD i 0 ≠ 34 ∧ L.getD i 0 ≠ 39) then (⟨#[]⟩, 0, ((min i L.length : Nat) : Int))
  else (if (tstr L i).1 then strOfNums (tstr L i).2.1 else ⟨#[]⟩, (if (tstr L i).1 then ((tstr L i).2.2 : Int) else 0), (if (tstr L i).1 then -1 else ((tstr L i).2.2 : Int)))
def esc_TUnquote.f (a0 : ByteArray) (a1 : Int) : Option (ByteArray × Int × Int) := if 0 ≤ a1 ∧ a0.size ≤ 17592186044416 ∧ tdom (bytesOf a0) a1.toNat then some (tunqT (bytesOf a0) a1.toNat) else none
theorem esc_TUnquote.calls (a0 : ByteArray) (a1 : Int) (r1 : ByteArray) (r2 : Int) (r3 : Int) (w : World) (h : esc_TUnquote.f a0 a1 = some (r1, r2, r3)) :
    Calls Tryd.prog 17 #[.string a0, .int .i64 a1] w fun e w' => e = .returned (.tuple #[.string r1, .int .i64 r2, .int .i64 r3]) ∧ Below w.heap.size w w' := by
  unfold esc_TUnquote.f at h
  split at h
  · rename_i hc
    obtain ⟨h0, hs, hd⟩ := hc
    obtain ⟨i, rfl⟩ := Int.eq_ofNat_of_zero_le h0
    rw [Int.toNat_natCast] at hd h
    have h := Option.some.inj h
    unfold tunqT at h
    split at h
    · rename_i hq
      obtain ⟨e1, h⟩ := Prod.mk.inj h
      obtain ⟨e2, e3⟩ := Prod.mk.inj h
      subst e1
      subst e2
      subst e3
      rw [size_of] at hq ⊢
      exact tunq_not a0 i hq w
    · rename_i hq
      obtain ⟨e1, h⟩ := Prod.mk.inj h
      obtain ⟨e2, e3⟩ := Prod.mk.inj h
      subst e1
      subst e2
      subst e3
      have hlt : i < a0.size := by
        rcases Nat.lt_or_ge i a0.size with h | h
        · exact h
        · exact absurd (.inl (by rw [size_of]; exact h)) hq
      have hq2 : (bytesOf a0).getD i 0 = 34 ∨ (bytesOf a0).getD i 0 = 39 := by
        rcases Classical.em ((bytesOf a0).getD i 0 = 34) with h | h
        · exact .inl h
        · rcases Classical.em ((bytesOf a0).getD i 0 = 39) with h' | h'
          · exact .inr h'
          · exact absurd (.inr ⟨h, h'⟩) hq
      rcases hd with hd | hd | ⟨d1, d2⟩ | ⟨d1, d2, d3, d4⟩ | ⟨d1, d2, d3, d4⟩
      · exact absurd (.inl hd) hq
      · exact absurd (.inr hd) hq
      · exact tunq_A a0 i 34 true (by decide) hs d1 (.inl rfl) hlt rfl d2 w
      · exact tunq_B a0 i 34 true (by decide) hs d1 (.inl rfl) hlt rfl d2 d3 d4 w
      · exact tunq_C a0 i 39 false (by decide) hs d1 (.inr rfl) hlt (by decide) d2 d3 d4 w
  · cases h
end Go.Proofs.YtoanbmggffkmgaaDoor.P
end
section
namespace Go.Proofs.YtoanbmggffkmgaaDoor.P
open Go.RowKit Go.Proofs.YtoanbmggffkmgaaDoorW.PrintWords Go.Proofs.YtoanbmggffkmgaaDoorW.PrintLast Go.Proofs.YtoanbmggffkmgaaDoorW.PrintMore
attribute [local go_sem] max2_int min2_int max_two min_two max_three min_three max_four min_four   -- for this text's walks alone
set_option linter.unusedVariables false
set_option linter.unusedSimpArgs false
/-! ### esc_quote: function 45 -/
mutual
def esc_quote.l0 : Nat → ByteArray → Bool → List Int → Option (ByteArray)
  | 0, _, _, _ => none
  | k + 1, x0, x1, x5 => if x0.toList = ([] : List UInt8) then (if x5.length < 140737488355328 then (some (strOfNums (x5 ++ [34]))) else (none)) else ((utf_Take.f k x0).bind fun bt478 => (if bt478.2 = 0 then (esc_quote.j1 k x0 x1 x5 65533 1) else (esc_quote.j1 k x0 x1 x5 bt478.1 bt478.2)))
def esc_quote.j1 : Nat → ByteArray → Bool → List Int → Int → Int → Option (ByteArray)
  | 0, _, _, _, _, _ => none
  | k + 1, x0, x1, x5, x6, x7 => if 0 ≤ x7 then (if x7 ≤ (x0.size : Int) then ((strings_IndexByte.f (⟨#[34, 92, 8, 12, 10, 13, 9]⟩ : ByteArray) ((mn x6 255) % 256)).bind fun t480 => (if x6 < 256 then (esc_quote.j2 k (x0.extract (x7 : Int).toNat x0.size) x1 x5 x6 t480 (decide (t480 ≥ 0))) else (esc_quote.j2 k (x0.extract (x7 : Int).toNat x0.size) x1 x5 x6 t480 false))) else (none)) else (none)
def esc_quote.j2 : Nat → ByteArray → Bool → List Int → Int → Int → Bool → Option (ByteArray)
  | 0, _, _, _, _, _, _ => none
  | k + 1, x0, x1, x5, x6, x8, x29 => if x29 = true then (if 0 ≤ x8 then (if x8 < 7 then ((some (([92, bt (⟨#[34, 92, 98, 102, 110, 114, 116]⟩ : ByteArray) x8] : List Int) : List Int)).bind fun y481 => (if x5.length + y481.length < 140737488355328 then (esc_quote.l0 k x0 x1 (x5 ++ y481)) else (none))) else (none)) else (none)) else (if x6 < 32 then (if 0 ≤ (x6 / 16) then (if (x6 / 16) < 16 then (if 0 ≤ (Go.bits .and .i64 x6 15) then (if (Go.bits .and .i64 x6 15) < 16 then ((some (([92, 117, 48, 48, bt (⟨#[48, 49, 50, 51, 52, 53, 54, 55, 56, 57, 97, 98, 99, 100, 101, 102]⟩ : ByteArray) (x6 / 16), bt (⟨#[48, 49, 50, 51, 52, 53, 54, 55, 56, 57, 97, 98, 99, 100, 101, 102]⟩ : ByteArray) (Go.bits .and .i64 x6 15)] : List Int) : List Int)).bind fun y487 => (if x5.length + y487.length < 140737488355328 then (esc_quote.l0 k x0 x1 (x5 ++ y487)) else (none))) else (none)) else (none)) else (none)) else (none)) else (if x6 = 127 then (if x1 = true then (if 0 ≤ (x6 / 16) then (if (x6 / 16) < 16 then (if 0 ≤ (Go.bits .and .i64 x6 15) then (if (Go.bits .and .i64 x6 15) < 16 then ((some (([92, 117, 48, 48, bt (⟨#[48, 49, 50, 51, 52, 53, 54, 55, 56, 57, 97, 98, 99, 100, 101, 102]⟩ : ByteArray) (x6 / 16), bt (⟨#[48, 49, 50, 51, 52, 53, 54, 55, 56, 57, 97, 98, 99, 100, 101, 102]⟩ : ByteArray) (Go.bits .and .i64 x6 15)] : List Int) : List Int)).bind fun y493 => (if x5.length + y493.length < 140737488355328 then (esc_quote.l0 k x0 x1 (x5 ++ y493)) else (none))) else (none)) else (none)) else (none)) else (none)) else ((utf_Put.f x5 x6).bind fun t499 => (esc_quote.l0 k x0 x1 t499))) else ((utf_Put.f x5 x6).bind fun t502 => (esc_quote.l0 k x0 x1 t502))))
end
def esc_quote.f (k : Nat) (a0 : ByteArray) (a1 : Bool) : Option (ByteArray) := esc_quote.l0 k a0 a1 (([34] : List Int))
def esc_quote.T12 : Bool × List (List Nat × List Nat) := (true, [([], []), ([], []), ([1], [1]), ([2], [2]), ([], []), ([4], [4]), ([5], [5]), ([3, 6], [3, 6]), ([0, 7], [0, 7]), ([8, 8, 0, 1, 2, 3, 4, 5, 6, 7, 8], [0, 8])])
def esc_quote.B12 : List Nat := [0, 0, 2, 6, 0, 16, 48, 126, 255, 511]
theorem esc_quote.tab12 : rtab .any (opsOf Tryd.f45 12) = esc_quote.T12 := by kernel_rfl
theorem esc_quote.bits12 : waitsOk esc_quote.T12.2 esc_quote.B12 = true := by kernel_rfl
set_option maxHeartbeats 8000000 in
set_option maxRecDepth 100000 in
theorem esc_quote.calls (k : Nat) (a0 : ByteArray) (a1 : Bool) (r : ByteArray) (w : World) (h : esc_quote.f k a0 a1 = some r) :
    Calls Tryd.prog 45 #[.string a0, .bool a1] w fun e w' => e = .returned (.string r) ∧ Below w.heap.size w w' := by
  have HB := Aside0.mk (Below.refl w.heap.size w)
  have H : (esc_quote.l0 k a0 a1 (([34] : List Int))) = some r := h
  clear h
  obtain ⟨y472, hy472⟩ : ∃ y_ : List Int, y_ = (([34] : List Int)) := ⟨_, rfl⟩
  replace H : (esc_quote.l0 k a0 a1 y472) = some r := by first | (rw [hy472]; with_reducible exact H) | (have H2_ := (Option.bind_some _ _).symm.trans H; rw [hy472]; with_reducible exact H2_) | (have H2_ := (Option.bind_some _ _).symm.trans H; with_reducible exact H2_) | with_reducible exact H | (rw [hy472]; exact H) | exact H
  have Ny472 := Aside0.mk hy472
  clear hy472
  have H' := Aside0.mk H
  clear H
  go_enter Tryd.func45, Tryd.ntmps45
  go_wp2_with (first | ((with_reducible refine gate_dst (N := 9) rfl ?_); refine Kd.R_lit (Kd.int .u8) _ 5 ?hg (N := 9) ?hd (xs := ([34] : List Int)) (inner := [.int .u8 34]) (ok := fun _ => True) (okp := fun _ => True) ?hr ?hp (fun _ hk => hk) trivial (Below.refl _ _) (Nat.le_refl _) (by simp) ?_; (case hd => rfl); (case hg => rfl); (case hr => first | (go_simp; done) | (go_simp; rfl)); (case hp => exact (Reps.one (show Kd.M (Kd.int .u8) _ _ _ 34 [.int .u8 34] from rfl) (Reps.none _ _))); intro v473 w3 ho4 hb hg_ hnew_; clear hg_ hnew_; (first | rw [← Ny472.out] at ho4 | (simp only [Int.reduceToNat] at ho4; rw [← Ny472.out] at ho4)); have n0_ := Aside0.mk (Kd.R_lower ho4 (below_size (by repeat (first | (with_reducible first | exact HB.out | apply below_alloc | apply pw_below_drewN | apply below_drew1) | exact HB.out)))); have n1_ := Aside0.mk (below_step (by repeat (first | (with_reducible first | exact HB.out | apply below_alloc | apply pw_below_drewN | apply below_drew1) | exact HB.out)) hb); clear HB; have HO474 := n0_; have HB := n1_; clear n0_ n1_; clear hb ho4))
  go_loopg [0, 5] k (fun kq v0 v5 w' => ∃ (x0_1 : ByteArray) (x5_1 : List Int), v0 = .string x0_1 ∧ Aside0 (esc_quote.l0 kq x0_1 a1 x5_1 = some r) ∧ Aside0 (kq ≤ k) ∧ Aside0 (Kd.R (Kd.int .u8) 5 w' w.heap.size (fun _ => True) v5 x5_1) ∧ Aside0 (Below w.heap.size w w'))
  case atStart => exact ⟨(a0), (y472), (by first | rfl | (simp; done) | (simp [*]; done)), H', ⟨Nat.le_refl _⟩, ⟨by (with_reducible repeat (first | apply Kd.R_alloc | apply Kd.R_drewN | apply Kd.R_drew)); exact HO474.out⟩, ⟨by repeat (first | (with_reducible first | exact HB.out | apply below_alloc | apply pw_below_drewN | apply below_drew1) | exact HB.out)⟩⟩
  case round =>
    clear H'
    try clear p2
    try clear c4
    obtain ⟨x0_1, x5_1, rfl, HA, HK1, HO_5, HB⟩ := hrel
    cases gk with
    | zero => exact absurd HA.out (by simp [esc_quote.l0])
    | succ k1 =>
      have H := HA.out
      clear HA
      simp only [esc_quote.l0] at H
      by_cases c5 : x0_1.toList = ([] : List UInt8)
      · rw [if_pos c5] at H
        have c5b0 : (x0_1.toList == ([] : List UInt8)) = true := beq_iff_eq.mpr c5
        have c5b1 : (x0_1.toList != ([] : List UInt8)) = false := bne_eq_false_iff_eq.mpr c5
        have c5b2 : x0_1.toList.isEmpty = true := List.isEmpty_iff.mpr c5
        (try simp only [c5b2, Bool.not_true, Bool.not_false])
        clear c5
        by_cases c6 : x5_1.length < 140737488355328
        · rw [if_pos c6] at H
          have LMc6 := Aside0.mk c6
          clear c6
          obtain ⟨y475, hy475⟩ : ∃ y_ : List Int, y_ = (x5_1 ++ [34]) := ⟨_, rfl⟩
          replace H : (some (strOfNums y475)) = some r := by first | (rw [hy475]; with_reducible exact H) | (have H2_ := (Option.bind_some _ _).symm.trans H; rw [hy475]; with_reducible exact H2_) | (have H2_ := (Option.bind_some _ _).symm.trans H; with_reducible exact H2_) | with_reducible exact H | (rw [hy475]; exact H) | exact H
          have Ny475 := Aside0.mk hy475
          clear hy475
          obtain rfl := Option.some.inj H
          go_wp2_with (first | ((with_reducible refine gate_builtin (b := .append) (xs := #[.tmp 60, .tmp 61]) rfl ?_); at_builtin; refine Kd.R_append (Kd.int .u8) (w0 := w) w.heap.size rfl (.tmp 60) (.tmp 61) 46 5 (.int .u8 0) 1 rfl Tryd.underlying46 info5 rfl (by decide) (by omega) u5 x5_1 34 [.int .u8 34] (fun _ => True) (fun _ => False) rfl rfl ?aP (fun _ hk => hk.elim) ?aF ?aO ?aB ?aS ?aL ?_; (case aP => exact rfl); (case aB => exact (by repeat (first | (with_reducible first | exact HB.out | apply below_alloc | apply pw_below_drewN | apply below_drew1) | exact HB.out))); (case aF => exact (fun _ _ => trivial)); (case aO => exact (by (with_reducible repeat (first | apply Kd.R_alloc | apply Kd.R_drewN | apply Kd.R_drew)); exact HO_5.out)); (case aS => exact (below_size (by repeat (first | (with_reducible first | exact HB.out | apply below_alloc | apply pw_below_drewN | apply below_drew1) | exact HB.out)))); (case aL => have := LMc6.out; omega); intro v476 w7 ho hb hg hat; rw [← Ny475.out] at ho; have n0_ := Aside0.mk (hb); have n1_ := Aside0.mk (ho); clear HB; clear HO_5; have HB := n0_; have HO477 := n1_; clear n0_ n1_; clear ho hb hg hat; have hcv8 := own_string (P := Tryd.prog) Tryd.underlying46 Tryd.underlying5 Tryd.underlying9 (Kd.own_of_R HO477.out)))
          go_ret
          exact ⟨by first | rfl | (simp [errW_none, errW_some] <;> rfl) | (simp [*, errW_none, errW_some, bne]; done) | (simp [*, errW_none, errW_some] <;> rfl), by repeat (first | (with_reducible first | exact HB.out | apply below_alloc | apply pw_below_drewN | apply below_drew1) | exact HB.out)⟩
        · rw [if_neg c6] at H
          exact absurd H (by simp)
      · rw [if_neg c5] at H
        have c5b0 : (x0_1.toList == ([] : List UInt8)) = false := beq_eq_false_iff_ne.mpr c5
        have c5b1 : (x0_1.toList != ([] : List UInt8)) = true := bne_iff_ne.mpr c5
        have c5b2 : x0_1.toList.isEmpty = false := List.isEmpty_eq_false_iff.mpr c5
        (try simp only [c5b2, Bool.not_true, Bool.not_false])
        replace H := Option.bind_eq_some_iff.mp H
        obtain ⟨⟨t478, t479⟩, A90, H⟩ := H
        replace H : (if t479 = 0 then (esc_quote.j1 k1 x0_1 a1 x5_1 65533 1) else (esc_quote.j1 k1 x0_1 a1 x5_1 t478 t479)) = some r := H
        have A9 := Aside0.mk A90
        clear A90
        have HC10 := Aside0.mk H
        clear H
        go_upto_if 18 with (first | ((with_reducible refine gate_callee (f := 66) rfl ?_); refine goesL_ (some 14) rfl rfl Tryd.func66 (by kernel_rfl) rfl #[.string x0_1] rfl (by (try simp only [List.map_toArray, List.map_cons, List.map_nil]); first | done | rfl | (simp only [List.length_drop, List.length_take]; rfl)) ?_; (with_reducible refine (utf_Take.calls k1 x0_1 t478 t479 _ A9.out).mono ?_); rintro e w' ⟨rfl, ⟨nd, rfl⟩⟩; refine ⟨_, rfl, ?_⟩))
        (try simp only [Act.put, List.setIfInBounds_toArray, List.set_cons_zero, List.set_cons_succ])
        go_cut [6, 7] (fun v6 v7 wc => ∃ (kq : Nat) (x6_9 : Int) (x7_9 : Int), v6 = .int .i64 x6_9 ∧ v7 = .int .i64 x7_9 ∧ Aside0 (esc_quote.j1 kq x0_1 a1 x5_1 x6_9 x7_9 = some r) ∧ Aside0 (kq ≤ k1) ∧ Aside0 (Kd.R (Kd.int .u8) 5 wc w.heap.size (fun _ => True) u5 x5_1) ∧ Aside0 (Below w.heap.size w wc))
        case first =>
          have H := HC10.out
          clear HC10
          by_cases c11 : t479 = 0
          · rw [if_pos c11] at H
            have c11b0 : (t479 == 0) = true := beq_iff_eq.mpr c11
            have c11b1 : (t479 != 0) = false := bne_eq_false_iff_eq.mpr c11
            clear c11
            (first | rw [c11b0] | (simp only [i64_w, i32_w]; rw [c11b0]) | skip)
            have H' := Aside0.mk H
            clear H
            go_wp2
            go_meet
            case rel => exact ⟨_, (65533), (1), (by first | rfl | (simp; done) | (simp [*]; done)), (by first | rfl | (simp; done) | (simp [*]; done)), H', ⟨by have := HK1.out; first | omega | exact Nat.le_refl _⟩, ⟨by (with_reducible repeat (first | apply Kd.R_alloc | apply Kd.R_drewN | apply Kd.R_drew)); exact HO_5.out⟩, ⟨by repeat (first | (with_reducible first | exact HB.out | apply below_alloc | apply pw_below_drewN | apply below_drew1) | exact HB.out)⟩⟩
          · rw [if_neg c11] at H
            have c11b0 : (t479 == 0) = false := beq_eq_false_iff_ne.mpr c11
            have c11b1 : (t479 != 0) = true := bne_iff_ne.mpr c11
            (first | rw [c11b0] | (simp only [i64_w, i32_w]; rw [c11b0]) | skip)
            have H' := Aside0.mk H
            clear H
            go_wp2
            go_meet
            case rel => exact ⟨_, (t478), (t479), (by first | rfl | (simp; done) | (simp [*]; done)), (by first | rfl | (simp; done) | (simp [*]; done)), H', ⟨by have := HK1.out; first | omega | exact Nat.le_refl _⟩, ⟨by (with_reducible repeat (first | apply Kd.R_alloc | apply Kd.R_drewN | apply Kd.R_drew)); exact HO_5.out⟩, ⟨by repeat (first | (with_reducible first | exact HB.out | apply below_alloc | apply pw_below_drewN | apply below_drew1) | exact HB.out)⟩⟩
        case rest =>
          clear HC10
          try clear c1
          try clear p2
          try clear c4
          try clear c5
          try clear c5b0
          try clear c5b1
          try clear c6
          try clear hcv8
          try clear c11
          try clear c11b0
          try clear c11b1
          try clear p2
          obtain ⟨kq, x6_9, x7_9, rfl, rfl, HA, HJ9, HO_5, HB⟩ := hcut
          cases kq with
          | zero => exact absurd HA.out (by simp [esc_quote.j1])
          | succ kj9 =>
            have H := HA.out
            clear HA
            simp only [esc_quote.j1] at H
            by_cases c12 : 0 ≤ x7_9
            · rw [if_pos c12] at H
              have c12b0 := eq_true c12
              have c12b1 : decide (0 ≤ x7_9) = true := decide_eq_true c12
              clear c12
              by_cases c13 : x7_9 ≤ (x0_1.size : Int)
              · rw [if_pos c13] at H
                have c13b0 := eq_true c13
                have c13b1 : decide (x7_9 ≤ (x0_1.size : Int)) = true := decide_eq_true c13
                clear c13
                obtain ⟨ji14, hji14⟩ : ∃ j_ : Int, (mn x6_9 255) = j_ := ⟨_, rfl⟩
                replace H : ((strings_IndexByte.f (⟨#[34, 92, 8, 12, 10, 13, 9]⟩ : ByteArray) ((ji14) % 256)).bind fun t480 => (if x6_9 < 256 then (esc_quote.j2 kj9 (x0_1.extract (x7_9 : Int).toNat x0_1.size) a1 x5_1 x6_9 t480 (decide (t480 ≥ 0))) else (esc_quote.j2 kj9 (x0_1.extract (x7_9 : Int).toNat x0_1.size) a1 x5_1 x6_9 t480 false))) = some r := by first | (rw [hji14] at H; exact H) | (simp only [hji14] at H ⊢; exact H)
                have hji14_ : (if 255 < x6_9 then 255 else x6_9) = ji14 := hji14
                replace H := Option.bind_eq_some_iff.mp H
                obtain ⟨t480, A150, H⟩ := H
                replace H : (if x6_9 < 256 then (esc_quote.j2 kj9 (x0_1.extract (x7_9 : Int).toNat x0_1.size) a1 x5_1 x6_9 t480 (decide (t480 ≥ 0))) else (esc_quote.j2 kj9 (x0_1.extract (x7_9 : Int).toNat x0_1.size) a1 x5_1 x6_9 t480 false)) = some r := H
                have A15 := Aside0.mk A150
                clear A150
                have HC16 := Aside0.mk H
                clear H
                go_upto_region 9 with (first | ((with_reducible refine gate_callee (f := 56) rfl ?_); refine goesL_ (some 25) rfl rfl Tryd.func56 (by kernel_rfl) rfl #[.string (⟨#[34, 92, 8, 12, 10, 13, 9]⟩ : ByteArray), .int .u8 ((ji14) % 256)] rfl (by (try simp only [List.map_toArray, List.map_cons, List.map_nil]); first | done | (simp only [hji14]; rfl) | rfl | (simp only [List.length_drop, List.length_take]; rfl)) ?_; (with_reducible refine (strings_IndexByte.calls (⟨#[34, 92, 8, 12, 10, 13, 9]⟩ : ByteArray) ((ji14) % 256) t480 _ A15.out).mono ?_); rintro e w' ⟨rfl, ⟨nd, rfl⟩⟩; refine ⟨_, rfl, ?_⟩))
                (try simp only [Act.put, List.setIfInBounds_toArray, List.set_cons_zero, List.set_cons_succ])
                go_cut [29] (fun v29 wc => ∃ (kq : Nat) (x29_15 : Bool), v29 = .bool x29_15 ∧ Aside0 (esc_quote.j2 kq (x0_1.extract (x7_9 : Int).toNat x0_1.size) a1 x5_1 x6_9 t480 x29_15 = some r) ∧ Aside0 (kq ≤ kj9) ∧ Aside0 (Kd.R (Kd.int .u8) 5 wc w.heap.size (fun _ => True) u5 x5_1) ∧ Aside0 (Below w.heap.size w wc))
                case first =>
                  have H := HC16.out
                  clear HC16
                  by_cases c17 : x6_9 < 256
                  · rw [if_pos c17] at H
                    have c17b0 : decide (x6_9 < 256) = true := decide_eq_true c17
                    clear c17
                    (first | rw [c17b0] | (simp only [i64_w, i32_w]; rw [c17b0]) | skip)
                    have H' := Aside0.mk H
                    clear H
                    go_wp2
                    go_meet
                    case rel => exact ⟨_, (decide (t480 ≥ 0)), (by first | rfl | (simp; done) | (simp [*]; done)), H', ⟨by have := HK1.out; have := HJ9.out; first | omega | exact Nat.le_refl _⟩, ⟨by (with_reducible repeat (first | apply Kd.R_alloc | apply Kd.R_drewN | apply Kd.R_drew)); exact HO_5.out⟩, ⟨by repeat (first | (with_reducible first | exact HB.out | apply below_alloc | apply pw_below_drewN | apply below_drew1) | exact HB.out)⟩⟩
                  · rw [if_neg c17] at H
                    have c17b0 : decide (x6_9 < 256) = false := decide_eq_false c17
                    clear c17
                    (first | rw [c17b0] | (simp only [i64_w, i32_w]; rw [c17b0]) | skip)
                    have H' := Aside0.mk H
                    clear H
                    go_wp2
                    go_meet
                    case rel => exact ⟨_, (false), (by first | rfl | (simp; done) | (simp [*]; done)), H', ⟨by have := HK1.out; have := HJ9.out; first | omega | exact Nat.le_refl _⟩, ⟨by (with_reducible repeat (first | apply Kd.R_alloc | apply Kd.R_drewN | apply Kd.R_drew)); exact HO_5.out⟩, ⟨by repeat (first | (with_reducible first | exact HB.out | apply below_alloc | apply pw_below_drewN | apply below_drew1) | exact HB.out)⟩⟩
                case rest =>
                  clear HC16
                  try clear c1
                  try clear p2
                  try clear c4
                  try clear c5
                  try clear c5b0
                  try clear c5b1
                  try clear c6
                  try clear hcv8
                  try clear c11
                  try clear c11b0
                  try clear c11b1
                  try clear c12
                  try clear c12b0
                  try clear c12b1
                  try clear c13
                  try clear c13b0
                  try clear c13b1
                  try clear c17
                  try clear c17b0
                  try clear p2
                  obtain ⟨kq, x29_15, rfl, HA, HJ15, HO_5, HB⟩ := hcut
                  cases kq with
                  | zero => exact absurd HA.out (by simp [esc_quote.j2])
                  | succ kj15 =>
                    have H := HA.out
                    clear HA
                    simp only [esc_quote.j2] at H
                    by_cases c18 : x29_15 = true
                    · subst c18
                      have H1 : (if 0 ≤ t480 then (if t480 < 7 then ((some (([92, bt (⟨#[34, 92, 98, 102, 110, 114, 116]⟩ : ByteArray) t480] : List Int) : List Int)).bind fun y481 => (if x5_1.length + y481.length < 140737488355328 then (esc_quote.l0 kj15 (x0_1.extract (x7_9 : Int).toNat x0_1.size) a1 (x5_1 ++ y481)) else (none))) else (none)) else (none)) = some r := by rw [if_pos rfl] at H; exact H
                      clear H
                      have H := H1
                      clear H1
                      by_cases c19 : 0 ≤ t480
                      · rw [if_pos c19] at H
                        have c19b0 : decide (0 ≤ t480) = true := decide_eq_true c19
                        clear c19
                        by_cases c20 : t480 < 7
                        · rw [if_pos c20] at H
                          have c20b0 : decide (t480 < 7) = true := decide_eq_true c20
                          clear c20
                          obtain ⟨y481, hy481⟩ : ∃ y_ : List Int, y_ = (([92, bt (⟨#[34, 92, 98, 102, 110, 114, 116]⟩ : ByteArray) t480] : List Int)) := ⟨_, rfl⟩
                          replace H : (if x5_1.length + y481.length < 140737488355328 then (esc_quote.l0 kj15 (x0_1.extract (x7_9 : Int).toNat x0_1.size) a1 (x5_1 ++ y481)) else (none)) = some r := by first | (rw [hy481]; with_reducible exact H) | (have H2_ := (Option.bind_some _ _).symm.trans H; rw [hy481]; with_reducible exact H2_) | (have H2_ := (Option.bind_some _ _).symm.trans H; with_reducible exact H2_) | with_reducible exact H | (rw [hy481]; exact H) | exact H
                          have Ny481 := Aside0.mk hy481
                          clear hy481
                          by_cases c22 : x5_1.length + y481.length < 140737488355328
                          · rw [if_pos c22] at H
                            have LMc22 := Aside0.mk c22
                            clear c22
                            obtain ⟨y484, hy484⟩ : ∃ y_ : List Int, y_ = (x5_1 ++ y481) := ⟨_, rfl⟩
                            replace H : (esc_quote.l0 kj15 (x0_1.extract (x7_9 : Int).toNat x0_1.size) a1 y484) = some r := by first | (rw [hy484]; with_reducible exact H) | (have H2_ := (Option.bind_some _ _).symm.trans H; rw [hy484]; with_reducible exact H2_) | (have H2_ := (Option.bind_some _ _).symm.trans H; with_reducible exact H2_) | with_reducible exact H | (rw [hy484]; exact H) | exact H
                            have Ny484 := Aside0.mk hy484
                            clear hy484
                            have H' := Aside0.mk H
                            clear H
                            have p21 : 0 ≤ (t480 : Int) := of_decide_eq_true (by first | (with_reducible assumption) | assumption)
                            have q21 : t480 < (7 : Int) := of_decide_eq_true (by first | (with_reducible assumption) | assumption)
                            have hx21 := bt_at (⟨#[34, 92, 98, 102, 110, 114, 116]⟩ : ByteArray) t480
                            replace p21 := eq_true p21
                            replace q21 := eq_true q21
                            go_wp2_with (first | ((with_reducible refine gate_dst (N := 39) rfl ?_); refine Kd.R_lit (Kd.int .u8) _ 5 ?hg (N := 39) ?hd (xs := ([92, bt (⟨#[34, 92, 98, 102, 110, 114, 116]⟩ : ByteArray) t480] : List Int)) (inner := [.int .u8 92, .int .u8 (bt (⟨#[34, 92, 98, 102, 110, 114, 116]⟩ : ByteArray) t480)]) (ok := fun _ => True) (okp := fun _ => True) ?hr ?hp (fun _ hk => hk) trivial (Below.refl _ _) (Nat.le_refl _) (by simp) ?_; (case hd => rfl); (case hg => rfl); (case hr => first | (go_simp; done) | (go_simp; rfl)); (case hp => exact (Reps.one (show Kd.M (Kd.int .u8) _ _ _ 92 [.int .u8 92] from rfl) (Reps.one (show Kd.M (Kd.int .u8) _ _ _ (bt (⟨#[34, 92, 98, 102, 110, 114, 116]⟩ : ByteArray) t480) [.int .u8 (bt (⟨#[34, 92, 98, 102, 110, 114, 116]⟩ : ByteArray) t480)] from rfl) (Reps.none _ _)))); intro v482 w23 ho24 hb hg_ hnew_; clear hg_ hnew_; (first | rw [← Ny481.out] at ho24 | (simp only [Int.reduceToNat] at ho24; rw [← Ny481.out] at ho24)); have n0_ := Aside0.mk (Kd.R_elder' (by (with_reducible repeat (first | apply Kd.R_alloc | apply Kd.R_drewN | apply Kd.R_drew)); exact HO_5.out) (Kd.R_base ho24) hb); have n1_ := Aside0.mk (Kd.R_lower (Kd.R_new' ho24 (Kd.R_lt (by (with_reducible repeat (first | apply Kd.R_alloc | apply Kd.R_drewN | apply Kd.R_drew)); exact HO_5.out))) (below_size (by repeat (first | (with_reducible first | exact HB.out | apply below_alloc | apply pw_below_drewN | apply below_drew1) | exact HB.out)))); have n2_ := Aside0.mk (below_step (by repeat (first | (with_reducible first | exact HB.out | apply below_alloc | apply pw_below_drewN | apply below_drew1) | exact HB.out)) hb); clear HO_5; clear HB; have HO_5 := n0_; have HO483 := n1_; have HB := n2_; clear n0_ n1_ n2_; clear hb ho24; obtain ⟨Ao26, co26, eo26⟩ := Kd.R_slice HO483.out; subst eo26) | ((with_reducible refine gate_builtin (b := .append) (xs := #[.tmp 36, .tmp 39]) rfl ?_); at_builtin; refine Kd.R_append_rows (Kd.int .u8) (w0 := w) w.heap.size rfl (.tmp 36) (.tmp 39) 46 5 (.int .u8 0) 1 rfl Tryd.underlying46 info5 rfl (by decide) (by omega) u5 x5_1 y481 _ _ _ (fun k_ => some k_ ≠ (.slice Ao26 y481.length co26 : Value).ownBlock) (fun _ => False) rfl rfl ?aO ?aR (fun _ _ h => h) (fun _ h => h.elim) ?aF ?aB ?aS ?aL ?_; (case aR => repeat (first | exact (Kd.R_reads' HO483.out).2.2 | (with_reducible refine Kd.C_alloc ?_ _) | (with_reducible refine Kd.C_drewN ?_ _) | (with_reducible refine Kd.C_drew ?_))); (case aB => exact (by repeat (first | (with_reducible first | exact HB.out | apply below_alloc | apply pw_below_drewN | apply below_drew1) | exact HB.out))); (case aF => exact (fun k_ hk => Kd.fresh' (Kd.R_lt (by (with_reducible repeat (first | apply Kd.R_alloc | apply Kd.R_drewN | apply Kd.R_drew)); exact HO483.out)) k_ hk)); (case aO => exact (by (with_reducible repeat (first | apply Kd.R_alloc | apply Kd.R_drewN | apply Kd.R_drew)); exact Kd.R_mono HO_5.out (fun _ hk => hk.2))); (case aS => exact (below_size (by repeat (first | (with_reducible first | exact HB.out | apply below_alloc | apply pw_below_drewN | apply below_drew1) | exact HB.out)))); (case aL => have := LMc22.out; omega); intro v485 w25 ho hb hg hat; rw [← Ny484.out] at ho; have n0_ := Aside0.mk (Kd.R_after (ok := (fun _ => True)) (by (with_reducible repeat (first | apply Kd.R_alloc | apply Kd.R_drewN | apply Kd.R_drew)); exact HO483.out) hg hat); have n1_ := Aside0.mk (hb); have n2_ := Aside0.mk (ho); clear HO483; clear HB; clear HO_5; have HO483 := n0_; have HB := n1_; have HO486 := n2_; clear n0_ n1_ n2_; clear ho hb hg hat))
                            go_roundg kj15
                            case measure => have := HK1.out; have := HJ9.out; have := HJ15.out; omega
                            case rel => exact ⟨((x0_1.extract (x7_9 : Int).toNat x0_1.size)), (y484), (by first | rfl | (simp; done) | (simp [*]; done)), H', ⟨by have := HK1.out; have := HJ9.out; have := HJ15.out; omega⟩, ⟨by (with_reducible repeat (first | apply Kd.R_alloc | apply Kd.R_drewN | apply Kd.R_drew)); exact Kd.R_mono HO486.out (fun _ hk => trivial)⟩, ⟨by repeat (first | (with_reducible first | exact HB.out | apply below_alloc | apply pw_below_drewN | apply below_drew1) | exact HB.out)⟩⟩
                          · rw [if_neg c22] at H
                            exact absurd H (by simp)
                        · rw [if_neg c20] at H
                          exact absurd H (by simp)
                      · rw [if_neg c19] at H
                        exact absurd H (by simp)
                    · replace c18 := Bool.eq_false_iff.mpr c18
                      subst c18
                      have H1 : (if x6_9 < 32 then (if 0 ≤ (x6_9 / 16) then (if (x6_9 / 16) < 16 then (if 0 ≤ (Go.bits .and .i64 x6_9 15) then (if (Go.bits .and .i64 x6_9 15) < 16 then ((some (([92, 117, 48, 48, bt (⟨#[48, 49, 50, 51, 52, 53, 54, 55, 56, 57, 97, 98, 99, 100, 101, 102]⟩ : ByteArray) (x6_9 / 16), bt (⟨#[48, 49, 50, 51, 52, 53, 54, 55, 56, 57, 97, 98, 99, 100, 101, 102]⟩ : ByteArray) (Go.bits .and .i64 x6_9 15)] : List Int) : List Int)).bind fun y487 => (if x5_1.length + y487.length < 140737488355328 then (esc_quote.l0 kj15 (x0_1.extract (x7_9 : Int).toNat x0_1.size) a1 (x5_1 ++ y487)) else (none))) else (none)) else (none)) else (none)) else (none)) else (if x6_9 = 127 then (if a1 = true then (if 0 ≤ (x6_9 / 16) then (if (x6_9 / 16) < 16 then (if 0 ≤ (Go.bits .and .i64 x6_9 15) then (if (Go.bits .and .i64 x6_9 15) < 16 then ((some (([92, 117, 48, 48, bt (⟨#[48, 49, 50, 51, 52, 53, 54, 55, 56, 57, 97, 98, 99, 100, 101, 102]⟩ : ByteArray) (x6_9 / 16), bt (⟨#[48, 49, 50, 51, 52, 53, 54, 55, 56, 57, 97, 98, 99, 100, 101, 102]⟩ : ByteArray) (Go.bits .and .i64 x6_9 15)] : List Int) : List Int)).bind fun y493 => (if x5_1.length + y493.length < 140737488355328 then (esc_quote.l0 kj15 (x0_1.extract (x7_9 : Int).toNat x0_1.size) a1 (x5_1 ++ y493)) else (none))) else (none)) else (none)) else (none)) else (none)) else ((utf_Put.f x5_1 x6_9).bind fun t499 => (esc_quote.l0 kj15 (x0_1.extract (x7_9 : Int).toNat x0_1.size) a1 t499))) else ((utf_Put.f x5_1 x6_9).bind fun t502 => (esc_quote.l0 kj15 (x0_1.extract (x7_9 : Int).toNat x0_1.size) a1 t502)))) = some r := by rw [if_neg (show ¬ (false = true) by decide)] at H; exact H
                      clear H
                      have H := H1
                      clear H1
                      by_cases c27 : x6_9 < 32
                      · rw [if_pos c27] at H
                        have c27b0 : decide (x6_9 < 32) = true := decide_eq_true c27
                        clear c27
                        obtain ⟨ji28, hji28⟩ : ∃ j_ : Int, (x6_9 / 16) = j_ := ⟨_, rfl⟩
                        replace H : (if 0 ≤ (ji28) then (if (ji28) < 16 then (if 0 ≤ (Go.bits .and .i64 x6_9 15) then (if (Go.bits .and .i64 x6_9 15) < 16 then ((some (([92, 117, 48, 48, bt (⟨#[48, 49, 50, 51, 52, 53, 54, 55, 56, 57, 97, 98, 99, 100, 101, 102]⟩ : ByteArray) (ji28), bt (⟨#[48, 49, 50, 51, 52, 53, 54, 55, 56, 57, 97, 98, 99, 100, 101, 102]⟩ : ByteArray) (Go.bits .and .i64 x6_9 15)] : List Int) : List Int)).bind fun y487 => (if x5_1.length + y487.length < 140737488355328 then (esc_quote.l0 kj15 (x0_1.extract (x7_9 : Int).toNat x0_1.size) a1 (x5_1 ++ y487)) else (none))) else (none)) else (none)) else (none)) else (none)) = some r := by first | (rw [hji28] at H; exact H) | (simp only [hji28] at H ⊢; exact H)
                        by_cases c29 : 0 ≤ (ji28)
                        · rw [if_pos c29] at H
                          have c29b0 : decide (0 ≤ (ji28)) = true := decide_eq_true c29
                          clear c29
                          by_cases c30 : (ji28) < 16
                          · rw [if_pos c30] at H
                            have c30b0 : decide ((ji28) < 16) = true := decide_eq_true c30
                            clear c30
                            by_cases c32 : 0 ≤ (Go.bits .and .i64 x6_9 15)
                            · rw [if_pos c32] at H
                              have c32b0 : decide (0 ≤ (Go.bits .and .i64 x6_9 15)) = true := decide_eq_true c32
                              clear c32
                              by_cases c33 : (Go.bits .and .i64 x6_9 15) < 16
                              · rw [if_pos c33] at H
                                have c33b0 : decide ((Go.bits .and .i64 x6_9 15) < 16) = true := decide_eq_true c33
                                clear c33
                                obtain ⟨y487, hy487⟩ : ∃ y_ : List Int, y_ = (([92, 117, 48, 48, bt (⟨#[48, 49, 50, 51, 52, 53, 54, 55, 56, 57, 97, 98, 99, 100, 101, 102]⟩ : ByteArray) (ji28), bt (⟨#[48, 49, 50, 51, 52, 53, 54, 55, 56, 57, 97, 98, 99, 100, 101, 102]⟩ : ByteArray) (Go.bits .and .i64 x6_9 15)] : List Int)) := ⟨_, rfl⟩
                                replace H : (if x5_1.length + y487.length < 140737488355328 then (esc_quote.l0 kj15 (x0_1.extract (x7_9 : Int).toNat x0_1.size) a1 (x5_1 ++ y487)) else (none)) = some r := by first | (rw [hy487]; with_reducible exact H) | (have H2_ := (Option.bind_some _ _).symm.trans H; rw [hy487]; with_reducible exact H2_) | (have H2_ := (Option.bind_some _ _).symm.trans H; with_reducible exact H2_) | with_reducible exact H | (rw [hy487]; exact H) | exact H
                                have Ny487 := Aside0.mk hy487
                                clear hy487
                                by_cases c35 : x5_1.length + y487.length < 140737488355328
                                · rw [if_pos c35] at H
                                  have LMc35 := Aside0.mk c35
                                  clear c35
                                  obtain ⟨y490, hy490⟩ : ∃ y_ : List Int, y_ = (x5_1 ++ y487) := ⟨_, rfl⟩
                                  replace H : (esc_quote.l0 kj15 (x0_1.extract (x7_9 : Int).toNat x0_1.size) a1 y490) = some r := by first | (rw [hy490]; with_reducible exact H) | (have H2_ := (Option.bind_some _ _).symm.trans H; rw [hy490]; with_reducible exact H2_) | (have H2_ := (Option.bind_some _ _).symm.trans H; with_reducible exact H2_) | with_reducible exact H | (rw [hy490]; exact H) | exact H
                                  have Ny490 := Aside0.mk hy490
                                  clear hy490
                                  have H' := Aside0.mk H
                                  clear H
                                  try go_wp2
                                  have n0_ := Aside0.mk (Kd.R_drew HO_5.out)
                                  have n1_ := Aside0.mk (below_drew1 HB.out)
                                  clear HO_5
                                  clear HB
                                  have HO_5 := n0_
                                  have HB := n1_
                                  clear n0_ n1_
                                  have p31 : 0 ≤ ((ji28) : Int) := of_decide_eq_true (by first | (with_reducible assumption) | assumption)
                                  have q31 : (ji28) < (16 : Int) := of_decide_eq_true (by first | (with_reducible assumption) | assumption)
                                  have hx31 := bt_at (⟨#[48, 49, 50, 51, 52, 53, 54, 55, 56, 57, 97, 98, 99, 100, 101, 102]⟩ : ByteArray) (ji28)
                                  replace p31 := eq_true p31
                                  replace q31 := eq_true q31
                                  have p34 : 0 ≤ ((Go.bits .and .i64 x6_9 15) : Int) := of_decide_eq_true (by first | (with_reducible assumption) | assumption)
                                  have q34 : (Go.bits .and .i64 x6_9 15) < (16 : Int) := of_decide_eq_true (by first | (with_reducible assumption) | assumption)
                                  have hx34 := bt_at (⟨#[48, 49, 50, 51, 52, 53, 54, 55, 56, 57, 97, 98, 99, 100, 101, 102]⟩ : ByteArray) (Go.bits .and .i64 x6_9 15)
                                  replace p34 := eq_true p34
                                  replace q34 := eq_true q34
                                  refine start_ (n := 10) (S := fun w' => True) (ds := []) #[false, false, false, false, false, false, false, false, false, false] (by kernel_rfl) rfl rfl trivial (fun hHeld => ?_); refine with_tabW esc_quote.tab12 esc_quote.bits12 (fun HT_ HW_ => ?_)
                                  generalize wc.drew = w36 at HO_5 HB hHeld ⊢
                                  refine pure_ (i := 0) (N := some 51) (v := ?_) (a' := ?_) #[true, false, false, false, false, false, false, false, false, false] rfl rfl (any_of HT_.out (by kernel_rfl)) (fun _ _ _ h => h) (Or.inl ⟨by rfl, ?_⟩) ?_ ?_
                                  rotate_left
                                  · intro w'
                                    go_simp
                                    with_reducible rfl
                                  rotate_left
                                  · simp only [Act.put, List.setIfInBounds_toArray, List.set_cons_zero, List.set_cons_succ, i64_w, i32_w]
                                    rfl
                                  refine pure_ (i := 1) (N := some 52) (v := ?_) (a' := ?_) #[true, true, false, false, false, false, false, false, false, false] rfl rfl (any_of HT_.out (by kernel_rfl)) (fun _ _ _ h => h) (Or.inl ⟨by rfl, ?_⟩) ?_ ?_
                                  rotate_left
                                  · intro w'
                                    go_simp
                                    with_reducible rfl
                                  rotate_left
                                  · simp only [Act.put, List.setIfInBounds_toArray, List.set_cons_zero, List.set_cons_succ, i64_w, i32_w]
                                    rfl
                                  refine pure_ (i := 2) (N := some 53) (v := ?_) (a' := ?_) #[true, true, true, false, false, false, false, false, false, false] rfl rfl (any_of HT_.out (by kernel_rfl)) (fun _ _ _ h => h) (Or.inl ⟨by rfl, ?_⟩) ?_ ?_
                                  rotate_left
                                  · intro w'
                                    go_simp
                                    with_reducible rfl
                                  rotate_left
                                  · simp only [Act.put, List.setIfInBounds_toArray, List.set_cons_zero, List.set_cons_succ, i64_w, i32_w]
                                    rfl
                                  refine pure_ (i := 4) (N := some 55) (v := ?_) (a' := ?_) #[true, true, true, false, true, false, false, false, false, false] rfl rfl (any_of HT_.out (by kernel_rfl)) (fun _ _ _ h => h) (Or.inl ⟨by rfl, ?_⟩) ?_ ?_
                                  rotate_left
                                  · intro w'
                                    go_simp
                                    with_reducible rfl
                                  rotate_left
                                  · simp only [Act.put, List.setIfInBounds_toArray, List.set_cons_zero, List.set_cons_succ, i64_w, i32_w]
                                    rfl
                                  refine pure_ (i := 5) (N := some 56) (v := ?_) (a' := ?_) #[true, true, true, false, true, true, false, false, false, false] rfl rfl (any_of HT_.out (by kernel_rfl)) (fun _ _ _ h => h) (Or.inl ⟨by rfl, ?_⟩) ?_ ?_
                                  rotate_left
                                  · intro w'
                                    go_simp
                                    with_reducible rfl
                                  rotate_left
                                  · simp only [Act.put, List.setIfInBounds_toArray, List.set_cons_zero, List.set_cons_succ, i64_w, i32_w]
                                    rfl
                                  refine take_ (i := 3) (N := some 54) (v := ?_) (a' := ?_) #[true, true, true, true, true, true, false, false, false, false] rfl rfl (take_ofW HT_.out HW_.out (by kernel_rfl)) (fun _ _ _ h => h) (Or.inl ⟨by rfl, ?_⟩) hHeld ?_ ?_
                                  rotate_left
                                  · intro w' _
                                    go_simp
                                    with_reducible rfl
                                  rotate_left
                                  · simp only [Act.put, List.setIfInBounds_toArray, List.set_cons_zero, List.set_cons_succ, i64_w, i32_w]
                                    rfl
                                  refine take_ (i := 6) (N := some 57) (v := ?_) (a' := ?_) #[true, true, true, true, true, true, true, false, false, false] rfl rfl (take_ofW HT_.out HW_.out (by kernel_rfl)) (fun _ _ _ h => h) (Or.inl ⟨by rfl, ?_⟩) hHeld ?_ ?_
                                  rotate_left
                                  · intro w' _
                                    go_simp
                                    with_reducible rfl
                                  rotate_left
                                  · simp only [Act.put, List.setIfInBounds_toArray, List.set_cons_zero, List.set_cons_succ, i64_w, i32_w]
                                    rfl
                                  refine one_ (i := 7) (N := some 58) #[true, true, true, true, true, true, true, true, false, false] rfl rfl (one_of HT_.out (by kernel_rfl)) (by decide) (fun K hK => ?_)
                                  refine Kd.R_lit_step (Kd.int .u8) _ 5 ?hg (N := 58) ?hd (xs := ([92, 117, 48, 48, bt (⟨#[48, 49, 50, 51, 52, 53, 54, 55, 56, 57, 97, 98, 99, 100, 101, 102]⟩ : ByteArray) (ji28), bt (⟨#[48, 49, 50, 51, 52, 53, 54, 55, 56, 57, 97, 98, 99, 100, 101, 102]⟩ : ByteArray) (Go.bits .and .i64 x6_9 15)] : List Int)) (inner := [.int .u8 92, .int .u8 117, .int .u8 48, .int .u8 48, .int .u8 (bt (⟨#[48, 49, 50, 51, 52, 53, 54, 55, 56, 57, 97, 98, 99, 100, 101, 102]⟩ : ByteArray) (ji28)), .int .u8 (bt (⟨#[48, 49, 50, 51, 52, 53, 54, 55, 56, 57, 97, 98, 99, 100, 101, 102]⟩ : ByteArray) (Go.bits .and .i64 x6_9 15))]) (ok := fun _ => True) (okp := fun _ => True) ?hr ?hp (fun _ hk => hk) trivial (Below.refl _ _) (Nat.le_refl _) (by simp) ?_; (case hd => rfl); (case hg => rfl); (case hr => first | (go_simp; done) | (go_simp; rfl)); (case hp => exact (Reps.one (show Kd.M (Kd.int .u8) _ _ _ 92 [.int .u8 92] from rfl) (Reps.one (show Kd.M (Kd.int .u8) _ _ _ 117 [.int .u8 117] from rfl) (Reps.one (show Kd.M (Kd.int .u8) _ _ _ 48 [.int .u8 48] from rfl) (Reps.one (show Kd.M (Kd.int .u8) _ _ _ 48 [.int .u8 48] from rfl) (Reps.one (show Kd.M (Kd.int .u8) _ _ _ (bt (⟨#[48, 49, 50, 51, 52, 53, 54, 55, 56, 57, 97, 98, 99, 100, 101, 102]⟩ : ByteArray) (ji28)) [.int .u8 (bt (⟨#[48, 49, 50, 51, 52, 53, 54, 55, 56, 57, 97, 98, 99, 100, 101, 102]⟩ : ByteArray) (ji28))] from rfl) (Reps.one (show Kd.M (Kd.int .u8) _ _ _ (bt (⟨#[48, 49, 50, 51, 52, 53, 54, 55, 56, 57, 97, 98, 99, 100, 101, 102]⟩ : ByteArray) (Go.bits .and .i64 x6_9 15)) [.int .u8 (bt (⟨#[48, 49, 50, 51, 52, 53, 54, 55, 56, 57, 97, 98, 99, 100, 101, 102]⟩ : ByteArray) (Go.bits .and .i64 x6_9 15))] from rfl) (Reps.none _ _))))))))
                                  intro v488 w37 ho38 hb hg_ hnew_
                                  clear hg_ hnew_
                                  (first | rw [← Ny487.out] at ho38 | (simp only [Int.reduceToNat] at ho38; rw [← Ny487.out] at ho38))
                                  have n0_ := Aside0.mk (Kd.R_elder' (by (with_reducible repeat (first | apply Kd.R_alloc | apply Kd.R_drewN | apply Kd.R_drew)); exact HO_5.out) (Kd.R_base ho38) hb)
                                  have n1_ := Aside0.mk (Kd.R_lower (Kd.R_new' ho38 (Kd.R_lt (by (with_reducible repeat (first | apply Kd.R_alloc | apply Kd.R_drewN | apply Kd.R_drew)); exact HO_5.out))) (below_size (by repeat (first | (with_reducible first | exact HB.out | apply below_alloc | apply pw_below_drewN | apply below_drew1) | exact HB.out))))
                                  have n2_ := Aside0.mk (below_step (by repeat (first | (with_reducible first | exact HB.out | apply below_alloc | apply pw_below_drewN | apply below_drew1) | exact HB.out)) hb)
                                  clear HO_5
                                  clear HB
                                  have HO_5 := n0_
                                  have HO489 := n1_
                                  have HB := n2_
                                  clear n0_ n1_ n2_
                                  clear hb ho38
                                  obtain ⟨Ao40, co40, eo40⟩ := Kd.R_slice HO489.out
                                  (first | subst eo40 | (injection eo40 with f1_ f2_ f3_; have f4_ := f1_.symm; have f5_ := f3_.symm; clear f1_ f2_ f3_; subst f4_; subst f5_))
                                  refine hK.out _ _ trivial (fun hHeld => ?_)
                                  clear hK K
                                  refine norm_ (a' := ?_) ?_ ?_
                                  rotate_left
                                  · show Act.put _ (some 58) _ = _
                                    simp only [Act.put, List.setIfInBounds_toArray, List.set_cons_zero, List.set_cons_succ, i64_w, i32_w]
                                    rfl
                                  refine one_ (i := 8) (N := some 59) #[true, true, true, true, true, true, true, true, true, false] rfl rfl (one_of HT_.out (by kernel_rfl)) (by decide) (fun K hK => ?_)
                                  refine Kd.R_append_rows_step (Kd.int .u8) (w0 := w) w.heap.size (by rfl) (.tmp 51) (.tmp 58) 46 5 (.int .u8 0) 1 rfl Tryd.underlying46 info5 rfl (by decide) (by omega) u5 x5_1 y487 _ _ _ (fun k_ => some k_ ≠ (.slice Ao40 y487.length co40 : Value).ownBlock) (fun _ => False) rfl rfl ?aO ?aR (fun _ _ h => h) (fun _ h => h.elim) ?aF ?aB ?aS ?aL ?_
                                  (case aR => repeat (first | exact (Kd.R_reads' HO489.out).2.2 | (with_reducible refine Kd.C_alloc ?_ _) | (with_reducible refine Kd.C_drewN ?_ _) | (with_reducible refine Kd.C_drew ?_)))
                                  (case aB => exact (by repeat (first | (with_reducible first | exact HB.out | apply below_alloc | apply pw_below_drewN | apply below_drew1) | exact HB.out)))
                                  (case aF => exact (fun k_ hk => Kd.fresh' (Kd.R_lt (by (with_reducible repeat (first | apply Kd.R_alloc | apply Kd.R_drewN | apply Kd.R_drew)); exact HO489.out)) k_ hk))
                                  (case aO => exact (by (with_reducible repeat (first | apply Kd.R_alloc | apply Kd.R_drewN | apply Kd.R_drew)); exact Kd.R_mono HO_5.out (fun _ hk => hk.2)))
                                  (case aS => exact (below_size (by repeat (first | (with_reducible first | exact HB.out | apply below_alloc | apply pw_below_drewN | apply below_drew1) | exact HB.out))))
                                  (case aL => have := LMc35.out; omega)
                                  intro v491 w39 ho hb hg hat
                                  rw [← Ny490.out] at ho
                                  have n0_ := Aside0.mk (Kd.R_after (ok := (fun _ => True)) (by (with_reducible repeat (first | apply Kd.R_alloc | apply Kd.R_drewN | apply Kd.R_drew)); exact HO489.out) hg hat)
                                  have n1_ := Aside0.mk (hb)
                                  have n2_ := Aside0.mk (ho)
                                  clear HO489
                                  clear HB
                                  clear HO_5
                                  have HO489 := n0_
                                  have HB := n1_
                                  have HO492 := n2_
                                  clear n0_ n1_ n2_
                                  clear ho hb hg hat
                                  refine hK.out _ _ trivial (fun hHeld => ?_)
                                  clear hK K
                                  refine norm_ (a' := ?_) ?_ ?_
                                  rotate_left
                                  · show Act.put _ (some 59) _ = _
                                    simp only [Act.put, List.setIfInBounds_toArray, List.set_cons_zero, List.set_cons_succ, i64_w, i32_w]
                                    rfl
                                  refine pure_ (i := 9) (N := some 5) (v := ?_) (a' := ?_) #[true, true, true, true, true, true, true, true, true, true] rfl rfl (any_of HT_.out (by kernel_rfl)) (fun _ _ _ h => h) (Or.inl ⟨by rfl, ?_⟩) ?_ ?_
                                  rotate_left
                                  · intro w'
                                    go_simp
                                    with_reducible rfl
                                  rotate_left
                                  · simp only [Act.put, List.setIfInBounds_toArray, List.set_cons_zero, List.set_cons_succ, i64_w, i32_w]
                                    rfl
                                  refine done_ (done_of HT_.out (by kernel_rfl)) ?_
                                  try go_wp2
                                  go_roundg kj15
                                  case measure => have := HK1.out; have := HJ9.out; have := HJ15.out; omega
                                  case rel => exact ⟨((x0_1.extract (x7_9 : Int).toNat x0_1.size)), (y490), (by first | rfl | (simp; done) | (simp [*]; done)), H', ⟨by have := HK1.out; have := HJ9.out; have := HJ15.out; omega⟩, ⟨by (with_reducible repeat (first | apply Kd.R_alloc | apply Kd.R_drewN | apply Kd.R_drew)); exact Kd.R_mono HO492.out (fun _ hk => trivial)⟩, ⟨by repeat (first | (with_reducible first | exact HB.out | apply below_alloc | apply pw_below_drewN | apply below_drew1) | exact HB.out)⟩⟩
                                · rw [if_neg c35] at H
                                  exact absurd H (by simp)
                              · rw [if_neg c33] at H
                                exact absurd H (by simp)
                            · rw [if_neg c32] at H
                              exact absurd H (by simp)
                          · rw [if_neg c30] at H
                            exact absurd H (by simp)
                        · rw [if_neg c29] at H
                          exact absurd H (by simp)
                      · rw [if_neg c27] at H
                        have c27b0 : decide (x6_9 < 32) = false := decide_eq_false c27
                        clear c27
                        by_cases c41 : x6_9 = 127
                        · rw [if_pos c41] at H
                          have c41b0 : (x6_9 == 127) = true := beq_iff_eq.mpr c41
                          have c41b1 : (x6_9 != 127) = false := bne_eq_false_iff_eq.mpr c41
                          clear c41
                          by_cases c42 : a1 = true
                          · subst c42
                            have H1 : (if 0 ≤ (x6_9 / 16) then (if (x6_9 / 16) < 16 then (if 0 ≤ (Go.bits .and .i64 x6_9 15) then (if (Go.bits .and .i64 x6_9 15) < 16 then ((some (([92, 117, 48, 48, bt (⟨#[48, 49, 50, 51, 52, 53, 54, 55, 56, 57, 97, 98, 99, 100, 101, 102]⟩ : ByteArray) (x6_9 / 16), bt (⟨#[48, 49, 50, 51, 52, 53, 54, 55, 56, 57, 97, 98, 99, 100, 101, 102]⟩ : ByteArray) (Go.bits .and .i64 x6_9 15)] : List Int) : List Int)).bind fun y493 => (if x5_1.length + y493.length < 140737488355328 then (esc_quote.l0 kj15 (x0_1.extract (x7_9 : Int).toNat x0_1.size) true (x5_1 ++ y493)) else (none))) else (none)) else (none)) else (none)) else (none)) = some r := by rw [if_pos rfl] at H; exact H
                            clear H
                            have H := H1
                            clear H1
                            obtain ⟨ji43, hji43⟩ : ∃ j_ : Int, (x6_9 / 16) = j_ := ⟨_, rfl⟩
                            replace H : (if 0 ≤ (ji43) then (if (ji43) < 16 then (if 0 ≤ (Go.bits .and .i64 x6_9 15) then (if (Go.bits .and .i64 x6_9 15) < 16 then ((some (([92, 117, 48, 48, bt (⟨#[48, 49, 50, 51, 52, 53, 54, 55, 56, 57, 97, 98, 99, 100, 101, 102]⟩ : ByteArray) (ji43), bt (⟨#[48, 49, 50, 51, 52, 53, 54, 55, 56, 57, 97, 98, 99, 100, 101, 102]⟩ : ByteArray) (Go.bits .and .i64 x6_9 15)] : List Int) : List Int)).bind fun y493 => (if x5_1.length + y493.length < 140737488355328 then (esc_quote.l0 kj15 (x0_1.extract (x7_9 : Int).toNat x0_1.size) true (x5_1 ++ y493)) else (none))) else (none)) else (none)) else (none)) else (none)) = some r := by first | (rw [hji43] at H; exact H) | (simp only [hji43] at H ⊢; exact H)
                            by_cases c44 : 0 ≤ (ji43)
                            · rw [if_pos c44] at H
                              have c44b0 : decide (0 ≤ (ji43)) = true := decide_eq_true c44
                              clear c44
                              by_cases c45 : (ji43) < 16
                              · rw [if_pos c45] at H
                                have c45b0 : decide ((ji43) < 16) = true := decide_eq_true c45
                                clear c45
                                by_cases c47 : 0 ≤ (Go.bits .and .i64 x6_9 15)
                                · rw [if_pos c47] at H
                                  have c47b0 : decide (0 ≤ (Go.bits .and .i64 x6_9 15)) = true := decide_eq_true c47
                                  clear c47
                                  by_cases c48 : (Go.bits .and .i64 x6_9 15) < 16
                                  · rw [if_pos c48] at H
                                    have c48b0 : decide ((Go.bits .and .i64 x6_9 15) < 16) = true := decide_eq_true c48
                                    clear c48
                                    obtain ⟨y493, hy493⟩ : ∃ y_ : List Int, y_ = (([92, 117, 48, 48, bt (⟨#[48, 49, 50, 51, 52, 53, 54, 55, 56, 57, 97, 98, 99, 100, 101, 102]⟩ : ByteArray) (ji43), bt (⟨#[48, 49, 50, 51, 52, 53, 54, 55, 56, 57, 97, 98, 99, 100, 101, 102]⟩ : ByteArray) (Go.bits .and .i64 x6_9 15)] : List Int)) := ⟨_, rfl⟩
                                    replace H : (if x5_1.length + y493.length < 140737488355328 then (esc_quote.l0 kj15 (x0_1.extract (x7_9 : Int).toNat x0_1.size) true (x5_1 ++ y493)) else (none)) = some r := by first | (rw [hy493]; with_reducible exact H) | (have H2_ := (Option.bind_some _ _).symm.trans H; rw [hy493]; with_reducible exact H2_) | (have H2_ := (Option.bind_some _ _).symm.trans H; with_reducible exact H2_) | with_reducible exact H | (rw [hy493]; exact H) | exact H
                                    have Ny493 := Aside0.mk hy493
                                    clear hy493
                                    by_cases c50 : x5_1.length + y493.length < 140737488355328
                                    · rw [if_pos c50] at H
                                      have LMc50 := Aside0.mk c50
                                      clear c50
                                      obtain ⟨y496, hy496⟩ : ∃ y_ : List Int, y_ = (x5_1 ++ y493) := ⟨_, rfl⟩
                                      replace H : (esc_quote.l0 kj15 (x0_1.extract (x7_9 : Int).toNat x0_1.size) true y496) = some r := by first | (rw [hy496]; with_reducible exact H) | (have H2_ := (Option.bind_some _ _).symm.trans H; rw [hy496]; with_reducible exact H2_) | (have H2_ := (Option.bind_some _ _).symm.trans H; with_reducible exact H2_) | with_reducible exact H | (rw [hy496]; exact H) | exact H
                                      have Ny496 := Aside0.mk hy496
                                      clear hy496
                                      have H' := Aside0.mk H
                                      clear H
                                      try go_wp2
                                      have n0_ := Aside0.mk (Kd.R_drew HO_5.out)
                                      have n1_ := Aside0.mk (below_drew1 HB.out)
                                      clear HO_5
                                      clear HB
                                      have HO_5 := n0_
                                      have HB := n1_
                                      clear n0_ n1_
                                      have p46 : 0 ≤ ((ji43) : Int) := of_decide_eq_true (by first | (with_reducible assumption) | assumption)
                                      have q46 : (ji43) < (16 : Int) := of_decide_eq_true (by first | (with_reducible assumption) | assumption)
                                      have hx46 := bt_at (⟨#[48, 49, 50, 51, 52, 53, 54, 55, 56, 57, 97, 98, 99, 100, 101, 102]⟩ : ByteArray) (ji43)
                                      replace p46 := eq_true p46
                                      replace q46 := eq_true q46
                                      have p49 : 0 ≤ ((Go.bits .and .i64 x6_9 15) : Int) := of_decide_eq_true (by first | (with_reducible assumption) | assumption)
                                      have q49 : (Go.bits .and .i64 x6_9 15) < (16 : Int) := of_decide_eq_true (by first | (with_reducible assumption) | assumption)
                                      have hx49 := bt_at (⟨#[48, 49, 50, 51, 52, 53, 54, 55, 56, 57, 97, 98, 99, 100, 101, 102]⟩ : ByteArray) (Go.bits .and .i64 x6_9 15)
                                      replace p49 := eq_true p49
                                      replace q49 := eq_true q49
                                      refine start_ (n := 10) (S := fun w' => True) (ds := []) #[false, false, false, false, false, false, false, false, false, false] (by kernel_rfl) rfl rfl trivial (fun hHeld => ?_); refine with_tabW esc_quote.tab12 esc_quote.bits12 (fun HT_ HW_ => ?_)
                                      generalize wc.drew = w51 at HO_5 HB hHeld ⊢
                                      refine pure_ (i := 0) (N := some 51) (v := ?_) (a' := ?_) #[true, false, false, false, false, false, false, false, false, false] rfl rfl (any_of HT_.out (by kernel_rfl)) (fun _ _ _ h => h) (Or.inl ⟨by rfl, ?_⟩) ?_ ?_
                                      rotate_left
                                      · intro w'
                                        go_simp
                                        with_reducible rfl
                                      rotate_left
                                      · simp only [Act.put, List.setIfInBounds_toArray, List.set_cons_zero, List.set_cons_succ, i64_w, i32_w]
                                        rfl
                                      refine pure_ (i := 1) (N := some 52) (v := ?_) (a' := ?_) #[true, true, false, false, false, false, false, false, false, false] rfl rfl (any_of HT_.out (by kernel_rfl)) (fun _ _ _ h => h) (Or.inl ⟨by rfl, ?_⟩) ?_ ?_
                                      rotate_left
                                      · intro w'
                                        go_simp
                                        with_reducible rfl
                                      rotate_left
                                      · simp only [Act.put, List.setIfInBounds_toArray, List.set_cons_zero, List.set_cons_succ, i64_w, i32_w]
                                        rfl
                                      refine pure_ (i := 2) (N := some 53) (v := ?_) (a' := ?_) #[true, true, true, false, false, false, false, false, false, false] rfl rfl (any_of HT_.out (by kernel_rfl)) (fun _ _ _ h => h) (Or.inl ⟨by rfl, ?_⟩) ?_ ?_
                                      rotate_left
                                      · intro w'
                                        go_simp
                                        with_reducible rfl
                                      rotate_left
                                      · simp only [Act.put, List.setIfInBounds_toArray, List.set_cons_zero, List.set_cons_succ, i64_w, i32_w]
                                        rfl
                                      refine pure_ (i := 4) (N := some 55) (v := ?_) (a' := ?_) #[true, true, true, false, true, false, false, false, false, false] rfl rfl (any_of HT_.out (by kernel_rfl)) (fun _ _ _ h => h) (Or.inl ⟨by rfl, ?_⟩) ?_ ?_
                                      rotate_left
                                      · intro w'
                                        go_simp
                                        with_reducible rfl
                                      rotate_left
                                      · simp only [Act.put, List.setIfInBounds_toArray, List.set_cons_zero, List.set_cons_succ, i64_w, i32_w]
                                        rfl
                                      refine pure_ (i := 5) (N := some 56) (v := ?_) (a' := ?_) #[true, true, true, false, true, true, false, false, false, false] rfl rfl (any_of HT_.out (by kernel_rfl)) (fun _ _ _ h => h) (Or.inl ⟨by rfl, ?_⟩) ?_ ?_
                                      rotate_left
                                      · intro w'
                                        go_simp
                                        with_reducible rfl
                                      rotate_left
                                      · simp only [Act.put, List.setIfInBounds_toArray, List.set_cons_zero, List.set_cons_succ, i64_w, i32_w]
                                        rfl
                                      refine take_ (i := 3) (N := some 54) (v := ?_) (a' := ?_) #[true, true, true, true, true, true, false, false, false, false] rfl rfl (take_ofW HT_.out HW_.out (by kernel_rfl)) (fun _ _ _ h => h) (Or.inl ⟨by rfl, ?_⟩) hHeld ?_ ?_
                                      rotate_left
                                      · intro w' _
                                        go_simp
                                        with_reducible rfl
                                      rotate_left
                                      · simp only [Act.put, List.setIfInBounds_toArray, List.set_cons_zero, List.set_cons_succ, i64_w, i32_w]
                                        rfl
                                      refine take_ (i := 6) (N := some 57) (v := ?_) (a' := ?_) #[true, true, true, true, true, true, true, false, false, false] rfl rfl (take_ofW HT_.out HW_.out (by kernel_rfl)) (fun _ _ _ h => h) (Or.inl ⟨by rfl, ?_⟩) hHeld ?_ ?_
                                      rotate_left
                                      · intro w' _
                                        go_simp
                                        with_reducible rfl
                                      rotate_left
                                      · simp only [Act.put, List.setIfInBounds_toArray, List.set_cons_zero, List.set_cons_succ, i64_w, i32_w]
                                        rfl
                                      refine one_ (i := 7) (N := some 58) #[true, true, true, true, true, true, true, true, false, false] rfl rfl (one_of HT_.out (by kernel_rfl)) (by decide) (fun K hK => ?_)
                                      refine Kd.R_lit_step (Kd.int .u8) _ 5 ?hg (N := 58) ?hd (xs := ([92, 117, 48, 48, bt (⟨#[48, 49, 50, 51, 52, 53, 54, 55, 56, 57, 97, 98, 99, 100, 101, 102]⟩ : ByteArray) (ji43), bt (⟨#[48, 49, 50, 51, 52, 53, 54, 55, 56, 57, 97, 98, 99, 100, 101, 102]⟩ : ByteArray) (Go.bits .and .i64 x6_9 15)] : List Int)) (inner := [.int .u8 92, .int .u8 117, .int .u8 48, .int .u8 48, .int .u8 (bt (⟨#[48, 49, 50, 51, 52, 53, 54, 55, 56, 57, 97, 98, 99, 100, 101, 102]⟩ : ByteArray) (ji43)), .int .u8 (bt (⟨#[48, 49, 50, 51, 52, 53, 54, 55, 56, 57, 97, 98, 99, 100, 101, 102]⟩ : ByteArray) (Go.bits .and .i64 x6_9 15))]) (ok := fun _ => True) (okp := fun _ => True) ?hr ?hp (fun _ hk => hk) trivial (Below.refl _ _) (Nat.le_refl _) (by simp) ?_; (case hd => rfl); (case hg => rfl); (case hr => first | (go_simp; done) | (go_simp; rfl)); (case hp => exact (Reps.one (show Kd.M (Kd.int .u8) _ _ _ 92 [.int .u8 92] from rfl) (Reps.one (show Kd.M (Kd.int .u8) _ _ _ 117 [.int .u8 117] from rfl) (Reps.one (show Kd.M (Kd.int .u8) _ _ _ 48 [.int .u8 48] from rfl) (Reps.one (show Kd.M (Kd.int .u8) _ _ _ 48 [.int .u8 48] from rfl) (Reps.one (show Kd.M (Kd.int .u8) _ _ _ (bt (⟨#[48, 49, 50, 51, 52, 53, 54, 55, 56, 57, 97, 98, 99, 100, 101, 102]⟩ : ByteArray) (ji43)) [.int .u8 (bt (⟨#[48, 49, 50, 51, 52, 53, 54, 55, 56, 57, 97, 98, 99, 100, 101, 102]⟩ : ByteArray) (ji43))] from rfl) (Reps.one (show Kd.M (Kd.int .u8) _ _ _ (bt (⟨#[48, 49, 50, 51, 52, 53, 54, 55, 56, 57, 97, 98, 99, 100, 101, 102]⟩ : ByteArray) (Go.bits .and .i64 x6_9 15)) [.int .u8 (bt (⟨#[48, 49, 50, 51, 52, 53, 54, 55, 56, 57, 97, 98, 99, 100, 101, 102]⟩ : ByteArray) (Go.bits .and .i64 x6_9 15))] from rfl) (Reps.none _ _))))))))
                                      intro v494 w52 ho53 hb hg_ hnew_
                                      clear hg_ hnew_
                                      (first | rw [← Ny493.out] at ho53 | (simp only [Int.reduceToNat] at ho53; rw [← Ny493.out] at ho53))
                                      have n0_ := Aside0.mk (Kd.R_elder' (by (with_reducible repeat (first | apply Kd.R_alloc | apply Kd.R_drewN | apply Kd.R_drew)); exact HO_5.out) (Kd.R_base ho53) hb)
                                      have n1_ := Aside0.mk (Kd.R_lower (Kd.R_new' ho53 (Kd.R_lt (by (with_reducible repeat (first | apply Kd.R_alloc | apply Kd.R_drewN | apply Kd.R_drew)); exact HO_5.out))) (below_size (by repeat (first | (with_reducible first | exact HB.out | apply below_alloc | apply pw_below_drewN | apply below_drew1) | exact HB.out))))
                                      have n2_ := Aside0.mk (below_step (by repeat (first | (with_reducible first | exact HB.out | apply below_alloc | apply pw_below_drewN | apply below_drew1) | exact HB.out)) hb)
                                      clear HO_5
                                      clear HB
                                      have HO_5 := n0_
                                      have HO495 := n1_
                                      have HB := n2_
                                      clear n0_ n1_ n2_
                                      clear hb ho53
                                      obtain ⟨Ao55, co55, eo55⟩ := Kd.R_slice HO495.out
                                      (first | subst eo55 | (injection eo55 with f1_ f2_ f3_; have f4_ := f1_.symm; have f5_ := f3_.symm; clear f1_ f2_ f3_; subst f4_; subst f5_))
                                      refine hK.out _ _ trivial (fun hHeld => ?_)
                                      clear hK K
                                      refine norm_ (a' := ?_) ?_ ?_
                                      rotate_left
                                      · show Act.put _ (some 58) _ = _
                                        simp only [Act.put, List.setIfInBounds_toArray, List.set_cons_zero, List.set_cons_succ, i64_w, i32_w]
                                        rfl
                                      refine one_ (i := 8) (N := some 59) #[true, true, true, true, true, true, true, true, true, false] rfl rfl (one_of HT_.out (by kernel_rfl)) (by decide) (fun K hK => ?_)
                                      refine Kd.R_append_rows_step (Kd.int .u8) (w0 := w) w.heap.size (by rfl) (.tmp 51) (.tmp 58) 46 5 (.int .u8 0) 1 rfl Tryd.underlying46 info5 rfl (by decide) (by omega) u5 x5_1 y493 _ _ _ (fun k_ => some k_ ≠ (.slice Ao55 y493.length co55 : Value).ownBlock) (fun _ => False) rfl rfl ?aO ?aR (fun _ _ h => h) (fun _ h => h.elim) ?aF ?aB ?aS ?aL ?_
                                      (case aR => repeat (first | exact (Kd.R_reads' HO495.out).2.2 | (with_reducible refine Kd.C_alloc ?_ _) | (with_reducible refine Kd.C_drewN ?_ _) | (with_reducible refine Kd.C_drew ?_)))
                                      (case aB => exact (by repeat (first | (with_reducible first | exact HB.out | apply below_alloc | apply pw_below_drewN | apply below_drew1) | exact HB.out)))
                                      (case aF => exact (fun k_ hk => Kd.fresh' (Kd.R_lt (by (with_reducible repeat (first | apply Kd.R_alloc | apply Kd.R_drewN | apply Kd.R_drew)); exact HO495.out)) k_ hk))
                                      (case aO => exact (by (with_reducible repeat (first | apply Kd.R_alloc | apply Kd.R_drewN | apply Kd.R_drew)); exact Kd.R_mono HO_5.out (fun _ hk => hk.2)))
                                      (case aS => exact (below_size (by repeat (first | (with_reducible first | exact HB.out | apply below_alloc | apply pw_below_drewN | apply below_drew1) | exact HB.out))))
                                      (case aL => have := LMc50.out; omega)
                                      intro v497 w54 ho hb hg hat
                                      rw [← Ny496.out] at ho
                                      have n0_ := Aside0.mk (Kd.R_after (ok := (fun _ => True)) (by (with_reducible repeat (first | apply Kd.R_alloc | apply Kd.R_drewN | apply Kd.R_drew)); exact HO495.out) hg hat)
                                      have n1_ := Aside0.mk (hb)
                                      have n2_ := Aside0.mk (ho)
                                      clear HO495
                                      clear HB
                                      clear HO_5
                                      have HO495 := n0_
                                      have HB := n1_
                                      have HO498 := n2_
                                      clear n0_ n1_ n2_
                                      clear ho hb hg hat
                                      refine hK.out _ _ trivial (fun hHeld => ?_)
                                      clear hK K
                                      refine norm_ (a' := ?_) ?_ ?_
                                      rotate_left
                                      · show Act.put _ (some 59) _ = _
                                        simp only [Act.put, List.setIfInBounds_toArray, List.set_cons_zero, List.set_cons_succ, i64_w, i32_w]
                                        rfl
                                      refine pure_ (i := 9) (N := some 5) (v := ?_) (a' := ?_) #[true, true, true, true, true, true, true, true, true, true] rfl rfl (any_of HT_.out (by kernel_rfl)) (fun _ _ _ h => h) (Or.inl ⟨by rfl, ?_⟩) ?_ ?_
                                      rotate_left
                                      · intro w'
                                        go_simp
                                        with_reducible rfl
                                      rotate_left
                                      · simp only [Act.put, List.setIfInBounds_toArray, List.set_cons_zero, List.set_cons_succ, i64_w, i32_w]
                                        rfl
                                      refine done_ (done_of HT_.out (by kernel_rfl)) ?_
                                      try go_wp2
                                      go_roundg kj15
                                      case measure => have := HK1.out; have := HJ9.out; have := HJ15.out; omega
                                      case rel => exact ⟨((x0_1.extract (x7_9 : Int).toNat x0_1.size)), (y496), (by first | rfl | (simp; done) | (simp [*]; done)), H', ⟨by have := HK1.out; have := HJ9.out; have := HJ15.out; omega⟩, ⟨by (with_reducible repeat (first | apply Kd.R_alloc | apply Kd.R_drewN | apply Kd.R_drew)); exact Kd.R_mono HO498.out (fun _ hk => trivial)⟩, ⟨by repeat (first | (with_reducible first | exact HB.out | apply below_alloc | apply pw_below_drewN | apply below_drew1) | exact HB.out)⟩⟩
                                    · rw [if_neg c50] at H
                                      exact absurd H (by simp)
                                  · rw [if_neg c48] at H
                                    exact absurd H (by simp)
                                · rw [if_neg c47] at H
                                  exact absurd H (by simp)
                              · rw [if_neg c45] at H
                                exact absurd H (by simp)
                            · rw [if_neg c44] at H
                              exact absurd H (by simp)
                          · replace c42 := Bool.eq_false_iff.mpr c42
                            subst c42
                            have H1 : ((utf_Put.f x5_1 x6_9).bind fun t499 => (esc_quote.l0 kj15 (x0_1.extract (x7_9 : Int).toNat x0_1.size) false t499)) = some r := by rw [if_neg (show ¬ (false = true) by decide)] at H; exact H
                            clear H
                            have H := H1
                            clear H1
                            replace H := Option.bind_eq_some_iff.mp H
                            obtain ⟨t499, A560, H⟩ := H
                            replace H : (esc_quote.l0 kj15 (x0_1.extract (x7_9 : Int).toNat x0_1.size) false t499) = some r := H
                            have A56 := Aside0.mk A560
                            clear A560
                            have H' := Aside0.mk H
                            clear H
                            obtain ⟨Ao57, co57, eo57⟩ := Kd.R_slice HO_5.out
                            subst eo57
                            go_wp2_with (first | ((with_reducible refine gate_callee (f := 67) rfl ?_); refine goesL_ (some 28) rfl rfl Tryd.func67 (by kernel_rfl) rfl #[.slice Ao57 x5_1.length co57, .int .i64 x6_9] rfl (by (try simp only [List.map_toArray, List.map_cons, List.map_nil]); first | done | rfl | (simp only [List.length_drop, List.length_take]; rfl)) ?_; (with_reducible refine (utf_Put.calls _ _ x5_1 x6_9 t499 _ ?side1 ?side2 A56.out).mono ?_); (case side1 => repeat (first | exact (Kd.R_reads' HO_5.out).2.2 | (with_reducible refine Kd.C_alloc ?_ _) | (with_reducible refine Kd.C_drewN ?_ _) | (with_reducible refine Kd.C_drew ?_))); (case side2 => exact (Kd.R_reads' HO_5.out).2.1); rintro e w58 ⟨v500, rfl, ho0, hb⟩; refine ⟨_, rfl, ?_⟩; have n0_ := Aside0.mk (Kd.R_elder' (by (with_reducible repeat (first | apply Kd.R_alloc | apply Kd.R_drewN | apply Kd.R_drew)); exact HO_5.out) (Kd.R_base ho0) hb); have n1_ := Aside0.mk (Kd.R_lower (Kd.R_new' ho0 (Kd.R_lt (by (with_reducible repeat (first | apply Kd.R_alloc | apply Kd.R_drewN | apply Kd.R_drew)); exact HO_5.out))) (below_size (by repeat (first | (with_reducible first | exact HB.out | apply below_alloc | apply pw_below_drewN | apply below_drew1) | exact HB.out)))); have n2_ := Aside0.mk (below_step (by repeat (first | (with_reducible first | exact HB.out | apply below_alloc | apply pw_below_drewN | apply below_drew1) | exact HB.out)) hb); clear HO_5; clear HB; have HO_5 := n0_; have HO501 := n1_; have HB := n2_; clear n0_ n1_ n2_; (try clear hb); (try clear hb2); (try clear hk); (try clear hi); (try clear ho0)))
                            go_roundg kj15
                            case measure => have := HK1.out; have := HJ9.out; have := HJ15.out; omega
                            case rel => exact ⟨((x0_1.extract (x7_9 : Int).toNat x0_1.size)), (t499), (by first | rfl | (simp; done) | (simp [*]; done)), H', ⟨by have := HK1.out; have := HJ9.out; have := HJ15.out; omega⟩, ⟨by (with_reducible repeat (first | apply Kd.R_alloc | apply Kd.R_drewN | apply Kd.R_drew)); exact Kd.R_mono HO501.out (fun _ hk => trivial)⟩, ⟨by repeat (first | (with_reducible first | exact HB.out | apply below_alloc | apply pw_below_drewN | apply below_drew1) | exact HB.out)⟩⟩
                        · rw [if_neg c41] at H
                          have c41b0 : (x6_9 == 127) = false := beq_eq_false_iff_ne.mpr c41
                          have c41b1 : (x6_9 != 127) = true := bne_iff_ne.mpr c41
                          replace H := Option.bind_eq_some_iff.mp H
                          obtain ⟨t502, A590, H⟩ := H
                          replace H : (esc_quote.l0 kj15 (x0_1.extract (x7_9 : Int).toNat x0_1.size) a1 t502) = some r := H
                          have A59 := Aside0.mk A590
                          clear A590
                          have H' := Aside0.mk H
                          clear H
                          obtain ⟨Ao60, co60, eo60⟩ := Kd.R_slice HO_5.out
                          subst eo60
                          go_wp2_with (first | ((with_reducible refine gate_callee (f := 67) rfl ?_); refine goesL_ (some 28) rfl rfl Tryd.func67 (by kernel_rfl) rfl #[.slice Ao60 x5_1.length co60, .int .i64 x6_9] rfl (by (try simp only [List.map_toArray, List.map_cons, List.map_nil]); first | done | rfl | (simp only [List.length_drop, List.length_take]; rfl)) ?_; (with_reducible refine (utf_Put.calls _ _ x5_1 x6_9 t502 _ ?side1 ?side2 A59.out).mono ?_); (case side1 => repeat (first | exact (Kd.R_reads' HO_5.out).2.2 | (with_reducible refine Kd.C_alloc ?_ _) | (with_reducible refine Kd.C_drewN ?_ _) | (with_reducible refine Kd.C_drew ?_))); (case side2 => exact (Kd.R_reads' HO_5.out).2.1); rintro e w61 ⟨v503, rfl, ho0, hb⟩; refine ⟨_, rfl, ?_⟩; have n0_ := Aside0.mk (Kd.R_elder' (by (with_reducible repeat (first | apply Kd.R_alloc | apply Kd.R_drewN | apply Kd.R_drew)); exact HO_5.out) (Kd.R_base ho0) hb); have n1_ := Aside0.mk (Kd.R_lower (Kd.R_new' ho0 (Kd.R_lt (by (with_reducible repeat (first | apply Kd.R_alloc | apply Kd.R_drewN | apply Kd.R_drew)); exact HO_5.out))) (below_size (by repeat (first | (with_reducible first | exact HB.out | apply below_alloc | apply pw_below_drewN | apply below_drew1) | exact HB.out)))); have n2_ := Aside0.mk (below_step (by repeat (first | (with_reducible first | exact HB.out | apply below_alloc | apply pw_below_drewN | apply below_drew1) | exact HB.out)) hb); clear HO_5; clear HB; have HO_5 := n0_; have HO504 := n1_; have HB := n2_; clear n0_ n1_ n2_; (try clear hb); (try clear hb2); (try clear hk); (try clear hi); (try clear ho0)))
                          go_roundg kj15
                          case measure => have := HK1.out; have := HJ9.out; have := HJ15.out; omega
                          case rel => exact ⟨((x0_1.extract (x7_9 : Int).toNat x0_1.size)), (t502), (by first | rfl | (simp; done) | (simp [*]; done)), H', ⟨by have := HK1.out; have := HJ9.out; have := HJ15.out; omega⟩, ⟨by (with_reducible repeat (first | apply Kd.R_alloc | apply Kd.R_drewN | apply Kd.R_drew)); exact Kd.R_mono HO504.out (fun _ hk => trivial)⟩, ⟨by repeat (first | (with_reducible first | exact HB.out | apply below_alloc | apply pw_below_drewN | apply below_drew1) | exact HB.out)⟩⟩
              · rw [if_neg c13] at H
                exact absurd H (by simp)
            · rw [if_neg c12] at H
              exact absurd H (by simp)
end Go.Proofs.YtoanbmggffkmgaaDoor.P
end
section
namespace Go.Proofs.YtoanbmggffkmgaaDoor.P
open Go.RowKit Go.Proofs.YtoanbmggffkmgaaDoorW.PrintWords Go.Proofs.YtoanbmggffkmgaaDoorW.PrintLast Go.Proofs.YtoanbmggffkmgaaDoorW.PrintMore
attribute [local go_sem] max2_int min2_int max_two min_two max_three min_three max_four min_four   -- for this text's walks alone
set_option linter.unusedVariables false
set_option linter.unusedSimpArgs false
/-! ### esc_Quote: function 19 -/
def esc_Quote.f (k : Nat) (a0 : ByteArray) : Option (ByteArray) := (esc_quote.f k a0 false).bind fun t505 => (some t505)
set_option maxHeartbeats 8000000 in
set_option maxRecDepth 100000 in
theorem esc_Quote.calls (k : Nat) (a0 : ByteArray) (r : ByteArray) (w : World) (h : esc_Quote.f k a0 = some r) :
    Calls Tryd.prog 19 #[.string a0] w fun e w' => e = .returned (.string r) ∧ Below w.heap.size w w' := by
  have HB := Aside0.mk (Below.refl w.heap.size w)
  have H : ((esc_quote.f k a0 false).bind fun t505 => (some t505)) = some r := h
  clear h
  replace H := Option.bind_eq_some_iff.mp H
  obtain ⟨t505, A20, H⟩ := H
  replace H : (some t505) = some r := H
  have A2 := Aside0.mk A20
  clear A20
  obtain rfl := Option.some.inj H
  go_enter Tryd.func19, Tryd.ntmps19
  go_wp2_with (first | ((with_reducible refine gate_callee (f := 45) rfl ?_); refine goesL_ (some 4) rfl rfl Tryd.func45 (by kernel_rfl) rfl #[.string a0, .bool false] rfl (by (try simp only [List.map_toArray, List.map_cons, List.map_nil]); first | done | rfl | (simp only [List.length_drop, List.length_take]; rfl)) ?_; (with_reducible refine (esc_quote.calls k a0 false t505 _ A2.out).mono ?_); rintro e w3 ⟨rfl, hb⟩; refine ⟨_, rfl, ?_⟩; have n0_ := Aside0.mk (below_step (by repeat (first | (with_reducible first | exact HB.out | apply below_alloc | apply pw_below_drewN | apply below_drew1) | exact HB.out)) hb); clear HB; have HB := n0_; clear n0_; (try clear hb); (try clear hb2); (try clear hk); (try clear hi)))
  go_ret
  exact ⟨by first | rfl | (simp [errW_none, errW_some] <;> rfl) | (simp [*, errW_none, errW_some, bne]; done) | (simp [*, errW_none, errW_some] <;> rfl), by repeat (first | (with_reducible first | exact HB.out | apply below_alloc | apply pw_below_drewN | apply below_drew1) | exact HB.out)⟩
end Go.Proofs.YtoanbmggffkmgaaDoor.P
end
section
namespace Go.Proofs.YtoanbmggffkmgaaDoor.P
open Go.RowKit Go.Proofs.YtoanbmggffkmgaaDoorW.PrintWords Go.Proofs.YtoanbmggffkmgaaDoorW.PrintLast Go.Proofs.YtoanbmggffkmgaaDoorW.PrintMore
attribute [local go_sem] max2_int min2_int max_two min_two max_three min_three max_four min_four   -- for this text's walks alone
set_option linter.unusedVariables false
set_option linter.unusedSimpArgs false
/-! ### esc_TQuote: function 20 -/
def esc_TQuote.f (k : Nat) (a0 : ByteArray) : Option (ByteArray) := (esc_quote.f k a0 true).bind fun t506 => (some t506)
set_option maxHeartbeats 8000000 in
set_option maxRecDepth 100000 in
theorem esc_TQuote.calls (k : Nat) (a0 : ByteArray) (r : ByteArray) (w : World) (h : esc_TQuote.f k a0 = some r) :
    Calls Tryd.prog 20 #[.string a0] w fun e w' => e = .returned (.string r) ∧ Below w.heap.size w w' := by
  have HB := Aside0.mk (Below.refl w.heap.size w)
  have H : ((esc_quote.f k a0 true).bind fun t506 => (some t506)) = some r := h
  clear h
  replace H := Option.bind_eq_some_iff.mp H
  obtain ⟨t506, A20, H⟩ := H
  replace H : (some t506) = some r := H
  have A2 := Aside0.mk A20
  clear A20
  obtain rfl := Option.some.inj H
  go_enter Tryd.func20, Tryd.ntmps20
  go_wp2_with (first | ((with_reducible refine gate_callee (f := 45) rfl ?_); refine goesL_ (some 4) rfl rfl Tryd.func45 (by kernel_rfl) rfl #[.string a0, .bool true] rfl (by (try simp only [List.map_toArray, List.map_cons, List.map_nil]); first | done | rfl | (simp only [List.length_drop, List.length_take]; rfl)) ?_; (with_reducible refine (esc_quote.calls k a0 true t506 _ A2.out).mono ?_); rintro e w3 ⟨rfl, hb⟩; refine ⟨_, rfl, ?_⟩; have n0_ := Aside0.mk (below_step (by repeat (first | (with_reducible first | exact HB.out | apply below_alloc | apply pw_below_drewN | apply below_drew1) | exact HB.out)) hb); clear HB; have HB := n0_; clear n0_; (try clear hb); (try clear hb2); (try clear hk); (try clear hi)))
  go_ret
  exact ⟨by first | rfl | (simp [errW_none, errW_some] <;> rfl) | (simp [*, errW_none, errW_some, bne]; done) | (simp [*, errW_none, errW_some] <;> rfl), by repeat (first | (with_reducible first | exact HB.out | apply below_alloc | apply pw_below_drewN | apply below_drew1) | exact HB.out)⟩
end Go.Proofs.YtoanbmggffkmgaaDoor.P
end
section
namespace Go.Proofs.YtoanbmggffkmgaaDoor.La
/-- A byte that may stand in a bare key. -/
def bareB (b : Int) : Bool := (decide (97 ≤ b) && decide (b ≤ 122)) || ((decide (65 ≤ b) && decide (b ≤ 90)) || ((decide (48 ≤ b) && decide (b ≤ 57)) || (decide (b = 95) || decide (b = 45))))
def bareS (l : List Int) : Bool := decide (l ≠ []) && l.all bareB
end Go.Proofs.YtoanbmggffkmgaaDoor.La
namespace Go.Proofs.YtoanbmggffkmgaaDoor.P
open Go.RowKit Go.Proofs.YtoanbmggffkmgaaDoor.La Go.Proofs.YtoanbmggffkmgaaDoorW.PrintWords Go.Proofs.YtoanbmggffkmgaaDoorW.PrintLast Go.Proofs.YtoanbmggffkmgaaDoorW.PrintMore
theorem all_drop {l : List Int} {k : Nat} (hk : k < l.length) (p : Int → Bool) : (l.drop k).all p = (p (l.getD k 0) && (l.drop (k + 1)).all p) := by
  rw [List.drop_eq_getElem_cons hk, List.all_cons, List.getD_eq_getElem?_getD, List.getElem?_eq_getElem hk]
  rfl
def BareRel (s : ByteArray) (r : Bool) (i : Value) : Prop := ∃ k : Nat, k ≤ s.size ∧ i = .int .i64 k ∧ r = ((bytesOf s).drop k).all bareB
set_option maxRecDepth 100000 in
set_option maxHeartbeats 4000000 in
theorem bare_walk (s : ByteArray) (h1 : 1 ≤ s.size) (h8 : s.size ≤ 140737488355328) (w : World) :
    Calls Tryd.prog 22 #[.string s] w fun e w' => e = .returned (.bool ((bytesOf s).all bareB)) ∧ Below w.heap.size w w' := by
  have kb := print_bytes (P := Tryd.prog) 9 46 5 Tryd.underlying9 Tryd.underlying46 Tryd.underlying5 s w
  have hr := bytes_reads w 5 s (by omega)
  have hb := bytes_below (Below.refl w.heap.size w) (Nat.le_refl _) 5 s
  generalize Lib.bytesWorld w 5 s = W1 at kb hr hb
  generalize grownCap w s.size 0 5 = cp at kb
  have hne : s.toList.isEmpty = false := by
    cases hl : s.toList with
    | nil =>
      have := (toList_nil_iff s).1 hl
      have h2 := size_of s
      rw [this] at h2
      simp at h2
      omega
    | cons a t => rfl
  generalize hres : (bytesOf s).all bareB = res
  have HR := Lib.hid hres
  clear hres
  go_enter Tryd.func22, Tryd.ntmps22
  go_wp2_with fail
  go_loop [8] (BareRel s res) (fun i => s.size - (intOf i).toNat)
  case atStart => exact ⟨0, Nat.zero_le _, rfl, by rw [List.drop_zero]; exact HR.out.symm⟩
  case round =>
    obtain ⟨k, hk, rfl, hx⟩ := hrel
    have HX := Lib.hid hx
    clear hx
    by_cases hlt : k < s.size
    · have hc : W1.cell? ⟨w.heap.size, k, none⟩ = some (.int .u8 (bt s k)) := by
        obtain ⟨ad, e, h⟩ := hr.2.2 (by omega)
        obtain rfl := Option.some.inj e
        have := h k hlt
        rw [add_plain] at this
        rw [this, bt_get]
        rfl
      have hbr := bt_range s k
      have hbt : bt s (k : Int) = (bytesOf s).getD k 0 := by rw [bt_get]; rfl
      have HB := Lib.hid (show res = (bareB (bt s (k : Int)) && ((bytesOf s).drop (k + 1)).all bareB) by rw [HX.out, all_drop (by rw [size_of]; exact hlt), hbt])
      clear hbt HX
      generalize bt s (k : Int) = b at hc hbr HB
      by_cases hbare : bareB b = true
      · have HN := Lib.hid (show res = ((bytesOf s).drop (k + 1)).all bareB by rw [HB.out, hbare, Bool.true_and])
        have cases4 : (97 ≤ b ∧ b ≤ 122) ∨ (65 ≤ b ∧ b ≤ 90) ∨ (48 ≤ b ∧ b ≤ 57) ∨ b = 95 ∨ b = 45 := by
          unfold bareB at hbare
          simp at hbare
          omega
        clear HB hbare
        rcases cases4 with ⟨c1, c2⟩ | ⟨c1, c2⟩ | ⟨c1, c2⟩ | rfl | rfl
        all_goals
          go_wp2
          go_round
          case rel => exact ⟨k + 1, hlt, by go_num, HN.out⟩
          case measure => simp [intOf]; omega
      · have HN := Lib.hid (show res = false by rw [HB.out, Bool.eq_false_iff.2 hbare, Bool.false_and])
        have cases7 : b < 45 ∨ b = 46 ∨ b = 47 ∨ (58 ≤ b ∧ b < 65) ∨ (91 ≤ b ∧ b < 95) ∨ b = 96 ∨ 123 ≤ b := by
          unfold bareB at hbare
          simp at hbare
          omega
        have e95 : (b == 95) = false := beq_eq_false_iff_ne.2 (by omega)
        have e45 : (b == 45) = false := beq_eq_false_iff_ne.2 (by omega)
        clear HB hbare
        rcases cases7 with c1 | rfl | rfl | ⟨c1, c2⟩ | ⟨c1, c2⟩ | rfl | c1
        all_goals
          (try have d57 : decide (b ≤ 57) = false := decide_eq_false (by omega))
          (try have d90 : decide (b ≤ 90) = false := decide_eq_false (by omega))
          (try have d122 : decide (b ≤ 122) = false := decide_eq_false (by omega))
          go_wp2
          go_ret
          exact ⟨by rw [HN.out]; rfl, hb⟩
    · obtain rfl : k = s.size := by omega
      have HN := Lib.hid (show res = true by rw [HX.out, List.drop_eq_nil_of_le (by rw [size_of]; omega)]; rfl)
      clear HX
      go_wp2
      go_ret
      exact ⟨by rw [HN.out]; rfl, hb⟩
def esc_Bare.f (a0 : ByteArray) : Option Bool := if a0.size ≤ 140737488355328 then some (bareS (bytesOf a0)) else none
theorem esc_Bare.calls (a0 : ByteArray) (r : Bool) (w : World) (h : esc_Bare.f a0 = some r) :
    Calls Tryd.prog 22 #[.string a0] w fun e w' => e = .returned (.bool r) ∧ Below w.heap.size w w' := by
  unfold esc_Bare.f at h
  split at h
  · rename_i hs
    obtain rfl := Option.some.inj h
    by_cases h0 : a0.size = 0
    · obtain rfl : a0 = ⟨#[]⟩ := bytesOf_inj (List.length_eq_zero_iff.1 (by rw [size_of]; exact h0))
      have kb := print_bytes (P := Tryd.prog) 9 46 5 Tryd.underlying9 Tryd.underlying46 Tryd.underlying5 ⟨#[]⟩ w
      have hb := bytes_below (Below.refl w.heap.size w) (Nat.le_refl _) 5 ⟨#[]⟩
      generalize Lib.bytesWorld w 5 ⟨#[]⟩ = W1 at kb hb
      generalize grownCap w (⟨#[]⟩ : ByteArray).size 0 5 = cp at kb
      go_enter Tryd.func22, Tryd.ntmps22
      go_wp2_with fail
      go_loop [8] (fun i => i = .int .i64 0) (fun _ => 0)
      case atStart => rfl
      case round =>
        obtain rfl := hrel
        go_wp2
        go_ret
        exact ⟨rfl, hb⟩
    · refine (bare_walk a0 (by omega) hs w).mono ?_
      rintro e w' ⟨rfl, hb⟩
      refine ⟨?_, hb⟩
      unfold bareS
      rw [decide_eq_true (show bytesOf a0 ≠ [] from fun e => h0 (by rw [← size_of, e]; rfl)), Bool.true_and]
  · cases h
end Go.Proofs.YtoanbmggffkmgaaDoor.P
end
section
namespace Go.Proofs.YtoanbmggffkmgaaDoor.P
open Go.RowKit Go.Proofs.YtoanbmggffkmgaaDoor.La Go.Proofs.YtoanbmggffkmgaaDoorW.PrintWords Go.Proofs.YtoanbmggffkmgaaDoorW.PrintLast Go.Proofs.YtoanbmggffkmgaaDoorW.PrintMore
theorem awake6_1 : esc_Unquote.f (⟨#[34, 92, 117, 48, 48, 52, 49, 34]⟩ : ByteArray) 0 = some (⟨#[65]⟩, 8, -1) := by kernel_rfl
theorem awake6_2 : esc_TUnquote.f (⟨#[39, 39, 39, 10, 97, 39, 98, 39, 39, 39]⟩ : ByteArray) 0 = some (⟨#[97, 39, 98]⟩, 10, -1) := by kernel_rfl
theorem awake6_3 : esc_Hex.f (⟨#[49, 70]⟩ : ByteArray) = some (31, true) := by kernel_rfl
theorem awake6_4 : esc_Quote.f 30 (⟨#[97, 10, 98]⟩ : ByteArray) = some ⟨#[34, 97, 92, 110, 98, 34]⟩ := by kernel_rfl
theorem awake6_5 : esc_TQuote.f 30 (⟨#[127]⟩ : ByteArray) = some ⟨#[34, 92, 117, 48, 48, 55, 102, 34]⟩ := by kernel_rfl
theorem awake6_6 : esc_Bare.f (⟨#[97, 45, 49]⟩ : ByteArray) = some true := by kernel_rfl
theorem awake6_7 : esc_Bare.f (⟨#[]⟩ : ByteArray) = some false := by kernel_rfl
set_option maxHeartbeats 4000000 in
theorem awake6_walk (w : World) : Calls Tryd.prog 15 #[] w fun e w' => e = .returned (.bool true) ∧ Below w.heap.size w w' := by
  go_enter Tryd.func15, Tryd.ntmps15
  go_wp2_with fail
  refine (esc_Unquote.calls _ _ _ _ _ _ awake6_1).mono ?_
  rintro e w1 ⟨rfl, hb⟩
  go_wp2_with fail
  refine (esc_TUnquote.calls _ _ _ _ _ _ awake6_2).mono ?_
  rintro e w2 ⟨rfl, hb2⟩
  replace hb := below_step hb hb2
  go_wp2_with fail
  refine (esc_Hex.calls _ _ _ _ awake6_3).mono ?_
  rintro e w3 ⟨rfl, hb3⟩
  replace hb := below_step hb hb3
  go_wp2_with fail
  refine (esc_Quote.calls 30 _ _ _ awake6_4).mono ?_
  rintro e w4 ⟨rfl, hb4⟩
  replace hb := below_step hb hb4
  go_wp2_with fail
  refine (esc_TQuote.calls 30 _ _ _ awake6_5).mono ?_
  rintro e w5 ⟨rfl, hb5⟩
  replace hb := below_step hb hb5
  go_wp2_with fail
  refine (esc_Bare.calls _ _ _ awake6_6).mono ?_
  rintro e w6 ⟨rfl, hb6⟩
  replace hb := below_step hb hb6
  go_wp2_with fail
  refine (esc_Bare.calls _ _ _ awake6_7).mono ?_
  rintro e w7 ⟨rfl, hb7⟩
  replace hb := below_step hb hb7
  go_wp2
  go_ret
  exact ⟨rfl, by first | exact hb | exact pw_below_drewN hb _⟩
def dragomanlaw6_awake.f : Option Bool := some true
theorem dragomanlaw6_awake.calls (r : Bool) (w : World) (h : dragomanlaw6_awake.f = some r) : Calls Tryd.prog 15 #[] w fun e w' => e = .returned (.bool r) ∧ Below w.heap.size w w' := by
  obtain rfl : true = r := Option.some.inj h
  exact awake6_walk w
end Go.Proofs.YtoanbmggffkmgaaDoor.P
end
section
namespace Go.Proofs.YtoanbmggffkmgaaDoor.P
open Go.RowKit Go.Proofs.YtoanbmggffkmgaaDoorW.PrintWords Go.Proofs.YtoanbmggffkmgaaDoorW.PrintLast Go.Proofs.YtoanbmggffkmgaaDoorW.PrintMore
attribute [local go_sem] max2_int min2_int max_two min_two max_three min_three max_four min_four   -- for this text's walks alone
set_option linter.unusedVariables false
set_option linter.unusedSimpArgs false
/-! ### dragomanlaw6_EscEvery: function 7 -/
mutual
def dragomanlaw6_EscEvery.j0 : Nat → Int → ByteArray → ByteArray → Option (Bool)
  | 0, _, _, _ => none
  | k + 1, x0, x3, x4 => (esc_Unquote.f x4 0).bind fun bt570 => ((dragomanlaw6_hex.f k x0 8).bind fun t573 => (if 3 + t573.size ≤ 9223372036854775807 then (if ((⟨#[34, 92, 85]⟩ : ByteArray) ++ t573).size + 1 ≤ 9223372036854775807 then ((esc_TUnquote.f (((⟨#[34, 92, 85]⟩ : ByteArray) ++ t573) ++ (⟨#[34]⟩ : ByteArray)) 0).bind fun bt574 => (if bt570.2.2 = (-1) then (if bt570.1.toList = x3.toList then (if bt570.2.1 = (x4.size : Int) then (if bt574.2.2 = (-1) then (if bt574.1.toList = x3.toList then (dragomanlaw6_EscEvery.j1 k x0 x3 (bt574.2.1 != 12)) else (dragomanlaw6_EscEvery.j1 k x0 x3 true)) else (dragomanlaw6_EscEvery.j1 k x0 x3 true)) else (dragomanlaw6_EscEvery.j1 k x0 x3 true)) else (dragomanlaw6_EscEvery.j1 k x0 x3 true)) else (dragomanlaw6_EscEvery.j1 k x0 x3 true))) else (none)) else (none)))
def dragomanlaw6_EscEvery.j1 : Nat → Int → ByteArray → Bool → Option (Bool)
  | 0, _, _, _ => none
  | k + 1, x0, x3, x81 => if x81 = true then (some false) else ((dragomanlaw6_hex.f k (Go.bits .and .i64 x0 65535) 4).bind fun t577 => (if 3 + t577.size ≤ 9223372036854775807 then (if ((⟨#[34, 92, 117]⟩ : ByteArray) ++ t577).size + 1 ≤ 9223372036854775807 then ((esc_TUnquote.f (((⟨#[34, 92, 117]⟩ : ByteArray) ++ t577) ++ (⟨#[34]⟩ : ByteArray)) 0).bind fun bt578 => (if x0 > 65535 then (some true) else (if bt578.2.2 = (-1) then (some (bt578.1.toList == x3.toList)) else (some false)))) else (none)) else (none)))
end
def dragomanlaw6_EscEvery.f (k : Nat) (a0 : Int) : Option (Bool) := (dragomanlaw6_awake.f).bind fun t564 => (if t564 = true then ((dragomanref1_Good.f a0).bind fun t565 => (if t565 = true then ((dragomanref1_Put.f a0).bind fun t566 => ((dragomanlaw6_hex.f k a0 4).bind fun t567 => (if 3 + t567.size ≤ 9223372036854775807 then (if ((⟨#[34, 92, 117]⟩ : ByteArray) ++ t567).size + 1 ≤ 9223372036854775807 then (if a0 > 65535 then ((dragomanlaw6_hex.f k (wrap64 (55296 + (wrap64 (Int.tdiv (wrap64 (a0 - 65536)) 1024)))) 4).bind fun t568 => (if 3 + t568.size ≤ 9223372036854775807 then (if ((⟨#[34, 92, 117]⟩ : ByteArray) ++ t568).size + 2 ≤ 9223372036854775807 then ((dragomanlaw6_hex.f k (wrap64 (56320 + (Int.tmod (wrap64 (a0 - 65536)) 1024))) 4).bind fun t569 => (if (((⟨#[34, 92, 117]⟩ : ByteArray) ++ t568) ++ (⟨#[92, 117]⟩ : ByteArray)).size + t569.size ≤ 9223372036854775807 then (if ((((⟨#[34, 92, 117]⟩ : ByteArray) ++ t568) ++ (⟨#[92, 117]⟩ : ByteArray)) ++ t569).size + 1 ≤ 9223372036854775807 then (dragomanlaw6_EscEvery.j0 k a0 t566 (((((⟨#[34, 92, 117]⟩ : ByteArray) ++ t568) ++ (⟨#[92, 117]⟩ : ByteArray)) ++ t569) ++ (⟨#[34]⟩ : ByteArray))) else (none)) else (none))) else (none)) else (none))) else (dragomanlaw6_EscEvery.j0 k a0 t566 (((⟨#[34, 92, 117]⟩ : ByteArray) ++ t567) ++ (⟨#[34]⟩ : ByteArray)))) else (none)) else (none)))) else (some true))) else (some false))
set_option maxHeartbeats 8000000 in
set_option maxRecDepth 100000 in
theorem dragomanlaw6_EscEvery.calls (k : Nat) (a0 : Int) (r : Bool) (w : World) (h : dragomanlaw6_EscEvery.f k a0 = some r) :
    Calls Tryd.prog 7 #[.int .i64 a0] w fun e w' => e = .returned (.bool r) ∧ Below w.heap.size w w' := by
  have HB := Aside0.mk (Below.refl w.heap.size w)
  have H : ((dragomanlaw6_awake.f).bind fun t564 => (if t564 = true then ((dragomanref1_Good.f a0).bind fun t565 => (if t565 = true then ((dragomanref1_Put.f a0).bind fun t566 => ((dragomanlaw6_hex.f k a0 4).bind fun t567 => (if 3 + t567.size ≤ 9223372036854775807 then (if ((⟨#[34, 92, 117]⟩ : ByteArray) ++ t567).size + 1 ≤ 9223372036854775807 then (if a0 > 65535 then ((dragomanlaw6_hex.f k (wrap64 (55296 + (wrap64 (Int.tdiv (wrap64 (a0 - 65536)) 1024)))) 4).bind fun t568 => (if 3 + t568.size ≤ 9223372036854775807 then (if ((⟨#[34, 92, 117]⟩ : ByteArray) ++ t568).size + 2 ≤ 9223372036854775807 then ((dragomanlaw6_hex.f k (wrap64 (56320 + (Int.tmod (wrap64 (a0 - 65536)) 1024))) 4).bind fun t569 => (if (((⟨#[34, 92, 117]⟩ : ByteArray) ++ t568) ++ (⟨#[92, 117]⟩ : ByteArray)).size + t569.size ≤ 9223372036854775807 then (if ((((⟨#[34, 92, 117]⟩ : ByteArray) ++ t568) ++ (⟨#[92, 117]⟩ : ByteArray)) ++ t569).size + 1 ≤ 9223372036854775807 then (dragomanlaw6_EscEvery.j0 k a0 t566 (((((⟨#[34, 92, 117]⟩ : ByteArray) ++ t568) ++ (⟨#[92, 117]⟩ : ByteArray)) ++ t569) ++ (⟨#[34]⟩ : ByteArray))) else (none)) else (none))) else (none)) else (none))) else (dragomanlaw6_EscEvery.j0 k a0 t566 (((⟨#[34, 92, 117]⟩ : ByteArray) ++ t567) ++ (⟨#[34]⟩ : ByteArray)))) else (none)) else (none)))) else (some true))) else (some false))) = some r := h
  clear h
  replace H := Option.bind_eq_some_iff.mp H
  obtain ⟨t564, A20, H⟩ := H
  replace H : (if t564 = true then ((dragomanref1_Good.f a0).bind fun t565 => (if t565 = true then ((dragomanref1_Put.f a0).bind fun t566 => ((dragomanlaw6_hex.f k a0 4).bind fun t567 => (if 3 + t567.size ≤ 9223372036854775807 then (if ((⟨#[34, 92, 117]⟩ : ByteArray) ++ t567).size + 1 ≤ 9223372036854775807 then (if a0 > 65535 then ((dragomanlaw6_hex.f k (wrap64 (55296 + (wrap64 (Int.tdiv (wrap64 (a0 - 65536)) 1024)))) 4).bind fun t568 => (if 3 + t568.size ≤ 9223372036854775807 then (if ((⟨#[34, 92, 117]⟩ : ByteArray) ++ t568).size + 2 ≤ 9223372036854775807 then ((dragomanlaw6_hex.f k (wrap64 (56320 + (Int.tmod (wrap64 (a0 - 65536)) 1024))) 4).bind fun t569 => (if (((⟨#[34, 92, 117]⟩ : ByteArray) ++ t568) ++ (⟨#[92, 117]⟩ : ByteArray)).size + t569.size ≤ 9223372036854775807 then (if ((((⟨#[34, 92, 117]⟩ : ByteArray) ++ t568) ++ (⟨#[92, 117]⟩ : ByteArray)) ++ t569).size + 1 ≤ 9223372036854775807 then (dragomanlaw6_EscEvery.j0 k a0 t566 (((((⟨#[34, 92, 117]⟩ : ByteArray) ++ t568) ++ (⟨#[92, 117]⟩ : ByteArray)) ++ t569) ++ (⟨#[34]⟩ : ByteArray))) else (none)) else (none))) else (none)) else (none))) else (dragomanlaw6_EscEvery.j0 k a0 t566 (((⟨#[34, 92, 117]⟩ : ByteArray) ++ t567) ++ (⟨#[34]⟩ : ByteArray)))) else (none)) else (none)))) else (some true))) else (some false)) = some r := H
  have A2 := Aside0.mk A20
  clear A20
  by_cases c3 : t564 = true
  · subst c3
    have H1 : ((dragomanref1_Good.f a0).bind fun t565 => (if t565 = true then ((dragomanref1_Put.f a0).bind fun t566 => ((dragomanlaw6_hex.f k a0 4).bind fun t567 => (if 3 + t567.size ≤ 9223372036854775807 then (if ((⟨#[34, 92, 117]⟩ : ByteArray) ++ t567).size + 1 ≤ 9223372036854775807 then (if a0 > 65535 then ((dragomanlaw6_hex.f k (wrap64 (55296 + (wrap64 (Int.tdiv (wrap64 (a0 - 65536)) 1024)))) 4).bind fun t568 => (if 3 + t568.size ≤ 9223372036854775807 then (if ((⟨#[34, 92, 117]⟩ : ByteArray) ++ t568).size + 2 ≤ 9223372036854775807 then ((dragomanlaw6_hex.f k (wrap64 (56320 + (Int.tmod (wrap64 (a0 - 65536)) 1024))) 4).bind fun t569 => (if (((⟨#[34, 92, 117]⟩ : ByteArray) ++ t568) ++ (⟨#[92, 117]⟩ : ByteArray)).size + t569.size ≤ 9223372036854775807 then (if ((((⟨#[34, 92, 117]⟩ : ByteArray) ++ t568) ++ (⟨#[92, 117]⟩ : ByteArray)) ++ t569).size + 1 ≤ 9223372036854775807 then (dragomanlaw6_EscEvery.j0 k a0 t566 (((((⟨#[34, 92, 117]⟩ : ByteArray) ++ t568) ++ (⟨#[92, 117]⟩ : ByteArray)) ++ t569) ++ (⟨#[34]⟩ : ByteArray))) else (none)) else (none))) else (none)) else (none))) else (dragomanlaw6_EscEvery.j0 k a0 t566 (((⟨#[34, 92, 117]⟩ : ByteArray) ++ t567) ++ (⟨#[34]⟩ : ByteArray)))) else (none)) else (none)))) else (some true))) = some r := by rw [if_pos rfl] at H; exact H
    clear H
    have H := H1
    clear H1
    replace H := Option.bind_eq_some_iff.mp H
    obtain ⟨t565, A40, H⟩ := H
    replace H : (if t565 = true then ((dragomanref1_Put.f a0).bind fun t566 => ((dragomanlaw6_hex.f k a0 4).bind fun t567 => (if 3 + t567.size ≤ 9223372036854775807 then (if ((⟨#[34, 92, 117]⟩ : ByteArray) ++ t567).size + 1 ≤ 9223372036854775807 then (if a0 > 65535 then ((dragomanlaw6_hex.f k (wrap64 (55296 + (wrap64 (Int.tdiv (wrap64 (a0 - 65536)) 1024)))) 4).bind fun t568 => (if 3 + t568.size ≤ 9223372036854775807 then (if ((⟨#[34, 92, 117]⟩ : ByteArray) ++ t568).size + 2 ≤ 9223372036854775807 then ((dragomanlaw6_hex.f k (wrap64 (56320 + (Int.tmod (wrap64 (a0 - 65536)) 1024))) 4).bind fun t569 => (if (((⟨#[34, 92, 117]⟩ : ByteArray) ++ t568) ++ (⟨#[92, 117]⟩ : ByteArray)).size + t569.size ≤ 9223372036854775807 then (if ((((⟨#[34, 92, 117]⟩ : ByteArray) ++ t568) ++ (⟨#[92, 117]⟩ : ByteArray)) ++ t569).size + 1 ≤ 9223372036854775807 then (dragomanlaw6_EscEvery.j0 k a0 t566 (((((⟨#[34, 92, 117]⟩ : ByteArray) ++ t568) ++ (⟨#[92, 117]⟩ : ByteArray)) ++ t569) ++ (⟨#[34]⟩ : ByteArray))) else (none)) else (none))) else (none)) else (none))) else (dragomanlaw6_EscEvery.j0 k a0 t566 (((⟨#[34, 92, 117]⟩ : ByteArray) ++ t567) ++ (⟨#[34]⟩ : ByteArray)))) else (none)) else (none)))) else (some true)) = some r := H
    have A4 := Aside0.mk A40
    clear A40
    by_cases c5 : t565 = true
    · subst c5
      have H1 : ((dragomanref1_Put.f a0).bind fun t566 => ((dragomanlaw6_hex.f k a0 4).bind fun t567 => (if 3 + t567.size ≤ 9223372036854775807 then (if ((⟨#[34, 92, 117]⟩ : ByteArray) ++ t567).size + 1 ≤ 9223372036854775807 then (if a0 > 65535 then ((dragomanlaw6_hex.f k (wrap64 (55296 + (wrap64 (Int.tdiv (wrap64 (a0 - 65536)) 1024)))) 4).bind fun t568 => (if 3 + t568.size ≤ 9223372036854775807 then (if ((⟨#[34, 92, 117]⟩ : ByteArray) ++ t568).size + 2 ≤ 9223372036854775807 then ((dragomanlaw6_hex.f k (wrap64 (56320 + (Int.tmod (wrap64 (a0 - 65536)) 1024))) 4).bind fun t569 => (if (((⟨#[34, 92, 117]⟩ : ByteArray) ++ t568) ++ (⟨#[92, 117]⟩ : ByteArray)).size + t569.size ≤ 9223372036854775807 then (if ((((⟨#[34, 92, 117]⟩ : ByteArray) ++ t568) ++ (⟨#[92, 117]⟩ : ByteArray)) ++ t569).size + 1 ≤ 9223372036854775807 then (dragomanlaw6_EscEvery.j0 k a0 t566 (((((⟨#[34, 92, 117]⟩ : ByteArray) ++ t568) ++ (⟨#[92, 117]⟩ : ByteArray)) ++ t569) ++ (⟨#[34]⟩ : ByteArray))) else (none)) else (none))) else (none)) else (none))) else (dragomanlaw6_EscEvery.j0 k a0 t566 (((⟨#[34, 92, 117]⟩ : ByteArray) ++ t567) ++ (⟨#[34]⟩ : ByteArray)))) else (none)) else (none)))) = some r := by rw [if_pos rfl] at H; exact H
      clear H
      have H := H1
      clear H1
      replace H := Option.bind_eq_some_iff.mp H
      obtain ⟨t566, A60, H⟩ := H
      replace H : ((dragomanlaw6_hex.f k a0 4).bind fun t567 => (if 3 + t567.size ≤ 9223372036854775807 then (if ((⟨#[34, 92, 117]⟩ : ByteArray) ++ t567).size + 1 ≤ 9223372036854775807 then (if a0 > 65535 then ((dragomanlaw6_hex.f k (wrap64 (55296 + (wrap64 (Int.tdiv (wrap64 (a0 - 65536)) 1024)))) 4).bind fun t568 => (if 3 + t568.size ≤ 9223372036854775807 then (if ((⟨#[34, 92, 117]⟩ : ByteArray) ++ t568).size + 2 ≤ 9223372036854775807 then ((dragomanlaw6_hex.f k (wrap64 (56320 + (Int.tmod (wrap64 (a0 - 65536)) 1024))) 4).bind fun t569 => (if (((⟨#[34, 92, 117]⟩ : ByteArray) ++ t568) ++ (⟨#[92, 117]⟩ : ByteArray)).size + t569.size ≤ 9223372036854775807 then (if ((((⟨#[34, 92, 117]⟩ : ByteArray) ++ t568) ++ (⟨#[92, 117]⟩ : ByteArray)) ++ t569).size + 1 ≤ 9223372036854775807 then (dragomanlaw6_EscEvery.j0 k a0 t566 (((((⟨#[34, 92, 117]⟩ : ByteArray) ++ t568) ++ (⟨#[92, 117]⟩ : ByteArray)) ++ t569) ++ (⟨#[34]⟩ : ByteArray))) else (none)) else (none))) else (none)) else (none))) else (dragomanlaw6_EscEvery.j0 k a0 t566 (((⟨#[34, 92, 117]⟩ : ByteArray) ++ t567) ++ (⟨#[34]⟩ : ByteArray)))) else (none)) else (none))) = some r := H
      have A6 := Aside0.mk A60
      clear A60
      replace H := Option.bind_eq_some_iff.mp H
      obtain ⟨t567, A70, H⟩ := H
      replace H : (if 3 + t567.size ≤ 9223372036854775807 then (if ((⟨#[34, 92, 117]⟩ : ByteArray) ++ t567).size + 1 ≤ 9223372036854775807 then (if a0 > 65535 then ((dragomanlaw6_hex.f k (wrap64 (55296 + (wrap64 (Int.tdiv (wrap64 (a0 - 65536)) 1024)))) 4).bind fun t568 => (if 3 + t568.size ≤ 9223372036854775807 then (if ((⟨#[34, 92, 117]⟩ : ByteArray) ++ t568).size + 2 ≤ 9223372036854775807 then ((dragomanlaw6_hex.f k (wrap64 (56320 + (Int.tmod (wrap64 (a0 - 65536)) 1024))) 4).bind fun t569 => (if (((⟨#[34, 92, 117]⟩ : ByteArray) ++ t568) ++ (⟨#[92, 117]⟩ : ByteArray)).size + t569.size ≤ 9223372036854775807 then (if ((((⟨#[34, 92, 117]⟩ : ByteArray) ++ t568) ++ (⟨#[92, 117]⟩ : ByteArray)) ++ t569).size + 1 ≤ 9223372036854775807 then (dragomanlaw6_EscEvery.j0 k a0 t566 (((((⟨#[34, 92, 117]⟩ : ByteArray) ++ t568) ++ (⟨#[92, 117]⟩ : ByteArray)) ++ t569) ++ (⟨#[34]⟩ : ByteArray))) else (none)) else (none))) else (none)) else (none))) else (dragomanlaw6_EscEvery.j0 k a0 t566 (((⟨#[34, 92, 117]⟩ : ByteArray) ++ t567) ++ (⟨#[34]⟩ : ByteArray)))) else (none)) else (none)) = some r := H
      have A7 := Aside0.mk A70
      clear A70
      by_cases c8 : 3 + t567.size ≤ 9223372036854775807
      · rw [if_pos c8] at H
        have c8b0 := eq_true c8
        have c8b1 : decide (3 + t567.size ≤ 9223372036854775807) = true := decide_eq_true c8
        try have c8b2 : (9223372036854775807 < 3 + t567.size) = False := eq_false (Nat.not_lt.2 c8)
        by_cases c9 : ((⟨#[34, 92, 117]⟩ : ByteArray) ++ t567).size + 1 ≤ 9223372036854775807
        · rw [if_pos c9] at H
          have c9b0 := eq_true c9
          have c9b1 : decide (((⟨#[34, 92, 117]⟩ : ByteArray) ++ t567).size + 1 ≤ 9223372036854775807) = true := decide_eq_true c9
          try have c9b2 : (9223372036854775807 < ((⟨#[34, 92, 117]⟩ : ByteArray) ++ t567).size + 1) = False := eq_false (Nat.not_lt.2 c9)
          try (have c9b4 := c9b2; simp only [ByteArray.size_append, show (⟨#[34, 92, 117]⟩ : ByteArray).size = 3 from rfl] at c9b4)
          have HC10 := Aside0.mk H
          clear H
          go_enter Tryd.func7, Tryd.ntmps7
          go_upto_if 26 with (first | ((with_reducible refine gate_callee (f := 15) rfl ?_); refine goesL_ (some 14) rfl rfl Tryd.func15 (by kernel_rfl) rfl #[] rfl (by (try simp only [List.map_toArray, List.map_cons, List.map_nil]); first | done | rfl | (simp only [List.length_drop, List.length_take]; rfl)) ?_; (with_reducible refine (dragomanlaw6_awake.calls  true _ A2.out).mono ?_); rintro e w11 ⟨rfl, hb⟩; refine ⟨_, rfl, ?_⟩; have n0_ := Aside0.mk (below_step (by repeat (first | (with_reducible first | exact HB.out | apply below_alloc | apply pw_below_drewN | apply below_drew1) | exact HB.out)) hb); clear HB; have HB := n0_; clear n0_; (try clear hb); (try clear hb2); (try clear hk); (try clear hi)) | ((with_reducible refine gate_callee (f := 26) rfl ?_); refine goesL_ (some 17) rfl rfl Tryd.func26 (by kernel_rfl) rfl #[.int .i64 a0] rfl (by (try simp only [List.map_toArray, List.map_cons, List.map_nil]); first | done | rfl | (simp only [List.length_drop, List.length_take]; rfl)) ?_; (with_reducible refine (dragomanref1_Good.calls a0 true _ A4.out).mono ?_); rintro e w' ⟨rfl, ⟨nd, rfl⟩⟩; refine ⟨_, rfl, ?_⟩) | ((with_reducible refine gate_callee (f := 27) rfl ?_); refine goesL_ (some 20) rfl rfl Tryd.func27 (by kernel_rfl) rfl #[.int .i64 a0] rfl (by (try simp only [List.map_toArray, List.map_cons, List.map_nil]); first | done | rfl | (simp only [List.length_drop, List.length_take]; rfl)) ?_; (with_reducible refine (dragomanref1_Put.calls a0 t566 _ A6.out).mono ?_); rintro e w12 ⟨rfl, hb⟩; refine ⟨_, rfl, ?_⟩; have n0_ := Aside0.mk (below_step (by repeat (first | (with_reducible first | exact HB.out | apply below_alloc | apply pw_below_drewN | apply below_drew1) | exact HB.out)) hb); clear HB; have HB := n0_; clear n0_; (try clear hb); (try clear hb2); (try clear hk); (try clear hi)) | ((with_reducible refine gate_callee (f := 28) rfl ?_); refine goesL_ (some 22) rfl rfl Tryd.func28 (by kernel_rfl) rfl #[.int .i64 a0, .int .i64 4] rfl (by (try simp only [List.map_toArray, List.map_cons, List.map_nil]); first | done | rfl | (simp only [List.length_drop, List.length_take]; rfl)) ?_; (with_reducible refine (dragomanlaw6_hex.calls k a0 4 t567 _ A7.out).mono ?_); rintro e w' ⟨rfl, ⟨nd, rfl⟩⟩; refine ⟨_, rfl, ?_⟩))
          (try simp only [Act.put, List.setIfInBounds_toArray, List.set_cons_zero, List.set_cons_succ])
          go_cut [4] (fun v4 wc => ∃ (kq : Nat) (x4_9 : ByteArray), v4 = .string x4_9 ∧ Aside0 (dragomanlaw6_EscEvery.j0 kq a0 t566 x4_9 = some r) ∧ Aside0 (kq ≤ k) ∧ Aside0 (Below w.heap.size w wc))
          case first =>
            have H := HC10.out
            clear HC10
            by_cases c13 : a0 > 65535
            · rw [if_pos c13] at H
              have c13b0 : decide (65535 < a0) = true := decide_eq_true c13
              clear c13
              (first | rw [c13b0] | (simp only [i64_w, i32_w]; rw [c13b0]) | skip)
              replace H := Option.bind_eq_some_iff.mp H
              obtain ⟨t568, A140, H⟩ := H
              replace H : (if 3 + t568.size ≤ 9223372036854775807 then (if ((⟨#[34, 92, 117]⟩ : ByteArray) ++ t568).size + 2 ≤ 9223372036854775807 then ((dragomanlaw6_hex.f k (wrap64 (56320 + (Int.tmod (wrap64 (a0 - 65536)) 1024))) 4).bind fun t569 => (if (((⟨#[34, 92, 117]⟩ : ByteArray) ++ t568) ++ (⟨#[92, 117]⟩ : ByteArray)).size + t569.size ≤ 9223372036854775807 then (if ((((⟨#[34, 92, 117]⟩ : ByteArray) ++ t568) ++ (⟨#[92, 117]⟩ : ByteArray)) ++ t569).size + 1 ≤ 9223372036854775807 then (dragomanlaw6_EscEvery.j0 k a0 t566 (((((⟨#[34, 92, 117]⟩ : ByteArray) ++ t568) ++ (⟨#[92, 117]⟩ : ByteArray)) ++ t569) ++ (⟨#[34]⟩ : ByteArray))) else (none)) else (none))) else (none)) else (none)) = some r := H
              have A14 := Aside0.mk A140
              clear A140
              by_cases c15 : 3 + t568.size ≤ 9223372036854775807
              · rw [if_pos c15] at H
                have c15b0 := eq_true c15
                have c15b1 : decide (3 + t568.size ≤ 9223372036854775807) = true := decide_eq_true c15
                try have c15b2 : (9223372036854775807 < 3 + t568.size) = False := eq_false (Nat.not_lt.2 c15)
                by_cases c16 : ((⟨#[34, 92, 117]⟩ : ByteArray) ++ t568).size + 2 ≤ 9223372036854775807
                · rw [if_pos c16] at H
                  have c16b0 := eq_true c16
                  have c16b1 : decide (((⟨#[34, 92, 117]⟩ : ByteArray) ++ t568).size + 2 ≤ 9223372036854775807) = true := decide_eq_true c16
                  try have c16b2 : (9223372036854775807 < ((⟨#[34, 92, 117]⟩ : ByteArray) ++ t568).size + 2) = False := eq_false (Nat.not_lt.2 c16)
                  try (have c16b4 := c16b2; simp only [ByteArray.size_append, show (⟨#[34, 92, 117]⟩ : ByteArray).size = 3 from rfl] at c16b4)
                  replace H := Option.bind_eq_some_iff.mp H
                  obtain ⟨t569, A170, H⟩ := H
                  replace H : (if (((⟨#[34, 92, 117]⟩ : ByteArray) ++ t568) ++ (⟨#[92, 117]⟩ : ByteArray)).size + t569.size ≤ 9223372036854775807 then (if ((((⟨#[34, 92, 117]⟩ : ByteArray) ++ t568) ++ (⟨#[92, 117]⟩ : ByteArray)) ++ t569).size + 1 ≤ 9223372036854775807 then (dragomanlaw6_EscEvery.j0 k a0 t566 (((((⟨#[34, 92, 117]⟩ : ByteArray) ++ t568) ++ (⟨#[92, 117]⟩ : ByteArray)) ++ t569) ++ (⟨#[34]⟩ : ByteArray))) else (none)) else (none)) = some r := H
                  have A17 := Aside0.mk A170
                  clear A170
                  by_cases c18 : (((⟨#[34, 92, 117]⟩ : ByteArray) ++ t568) ++ (⟨#[92, 117]⟩ : ByteArray)).size + t569.size ≤ 9223372036854775807
                  · rw [if_pos c18] at H
                    have c18b0 := eq_true c18
                    have c18b1 : decide ((((⟨#[34, 92, 117]⟩ : ByteArray) ++ t568) ++ (⟨#[92, 117]⟩ : ByteArray)).size + t569.size ≤ 9223372036854775807) = true := decide_eq_true c18
                    try have c18b2 : (9223372036854775807 < (((⟨#[34, 92, 117]⟩ : ByteArray) ++ t568) ++ (⟨#[92, 117]⟩ : ByteArray)).size + t569.size) = False := eq_false (Nat.not_lt.2 c18)
                    try (have c18b4 := c18b2; simp only [ByteArray.size_append, show (⟨#[34, 92, 117]⟩ : ByteArray).size = 3 from rfl, show (⟨#[92, 117]⟩ : ByteArray).size = 2 from rfl] at c18b4)
                    by_cases c19 : ((((⟨#[34, 92, 117]⟩ : ByteArray) ++ t568) ++ (⟨#[92, 117]⟩ : ByteArray)) ++ t569).size + 1 ≤ 9223372036854775807
                    · rw [if_pos c19] at H
                      have c19b0 := eq_true c19
                      have c19b1 : decide (((((⟨#[34, 92, 117]⟩ : ByteArray) ++ t568) ++ (⟨#[92, 117]⟩ : ByteArray)) ++ t569).size + 1 ≤ 9223372036854775807) = true := decide_eq_true c19
                      try have c19b2 : (9223372036854775807 < ((((⟨#[34, 92, 117]⟩ : ByteArray) ++ t568) ++ (⟨#[92, 117]⟩ : ByteArray)) ++ t569).size + 1) = False := eq_false (Nat.not_lt.2 c19)
                      try (have c19b4 := c19b2; simp only [ByteArray.size_append, show (⟨#[34, 92, 117]⟩ : ByteArray).size = 3 from rfl, show (⟨#[92, 117]⟩ : ByteArray).size = 2 from rfl] at c19b4)
                      have H' := Aside0.mk H
                      clear H
                      go_wp2_with (first | ((with_reducible refine gate_callee (f := 28) rfl ?_); refine goesL_ (some 31) rfl rfl Tryd.func28 (by kernel_rfl) rfl #[.int .i64 (wrap64 (55296 + (wrap64 (Int.tdiv (wrap64 (a0 - 65536)) 1024)))), .int .i64 4] rfl (by (try simp only [List.map_toArray, List.map_cons, List.map_nil]); first | done | rfl | (simp only [List.length_drop, List.length_take]; rfl)) ?_; (with_reducible refine (dragomanlaw6_hex.calls k (wrap64 (55296 + (wrap64 (Int.tdiv (wrap64 (a0 - 65536)) 1024)))) 4 t568 _ A14.out).mono ?_); rintro e w' ⟨rfl, ⟨nd, rfl⟩⟩; refine ⟨_, rfl, ?_⟩) | ((with_reducible refine gate_callee (f := 28) rfl ?_); refine goesL_ (some 38) rfl rfl Tryd.func28 (by kernel_rfl) rfl #[.int .i64 (wrap64 (56320 + (Int.tmod (wrap64 (a0 - 65536)) 1024))), .int .i64 4] rfl (by (try simp only [List.map_toArray, List.map_cons, List.map_nil]); first | done | rfl | (simp only [List.length_drop, List.length_take]; rfl)) ?_; (with_reducible refine (dragomanlaw6_hex.calls k (wrap64 (56320 + (Int.tmod (wrap64 (a0 - 65536)) 1024))) 4 t569 _ A17.out).mono ?_); rintro e w' ⟨rfl, ⟨nd, rfl⟩⟩; refine ⟨_, rfl, ?_⟩))
                      go_meet
                      case rel => exact ⟨_, (((((⟨#[34, 92, 117]⟩ : ByteArray) ++ t568) ++ (⟨#[92, 117]⟩ : ByteArray)) ++ t569) ++ (⟨#[34]⟩ : ByteArray)), (by first | rfl | (simp; done) | (simp [*]; done)), H', ⟨by first | omega | exact Nat.le_refl _⟩, ⟨by repeat (first | (with_reducible first | exact HB.out | apply below_alloc | apply pw_below_drewN | apply below_drew1) | exact HB.out)⟩⟩
                    · rw [if_neg c19] at H
                      exact absurd H (by simp)
                  · rw [if_neg c18] at H
                    exact absurd H (by simp)
                · rw [if_neg c16] at H
                  exact absurd H (by simp)
              · rw [if_neg c15] at H
                exact absurd H (by simp)
            · rw [if_neg c13] at H
              have c13b0 : decide (65535 < a0) = false := decide_eq_false c13
              clear c13
              (first | rw [c13b0] | (simp only [i64_w, i32_w]; rw [c13b0]) | skip)
              have H' := Aside0.mk H
              clear H
              go_wp2
              go_meet
              case rel => exact ⟨_, (((⟨#[34, 92, 117]⟩ : ByteArray) ++ t567) ++ (⟨#[34]⟩ : ByteArray)), (by first | rfl | (simp; done) | (simp [*]; done)), H', ⟨by first | omega | exact Nat.le_refl _⟩, ⟨by repeat (first | (with_reducible first | exact HB.out | apply below_alloc | apply pw_below_drewN | apply below_drew1) | exact HB.out)⟩⟩
          case rest =>
            clear HC10
            try clear c1
            try clear c2
            try clear p2
            try clear c3
            try clear c5
            try clear p6
            try clear c7
            try clear c8
            try clear c8b0
            try clear c8b1
            try clear c8b2
            try clear c9
            try clear c9b0
            try clear c9b1
            try clear c9b2
            try clear c13
            try clear c13b0
            try clear c15
            try clear c15b0
            try clear c15b1
            try clear c15b2
            try clear c16
            try clear c16b0
            try clear c16b1
            try clear c16b2
            try clear c18
            try clear c18b0
            try clear c18b1
            try clear c18b2
            try clear c19
            try clear c19b0
            try clear c19b1
            try clear c19b2
            obtain ⟨kq, x4_9, rfl, HA, HJ9, HB⟩ := hcut
            cases kq with
            | zero => exact absurd HA.out (by simp [dragomanlaw6_EscEvery.j0])
            | succ kj9 =>
              have H := HA.out
              clear HA
              simp only [dragomanlaw6_EscEvery.j0] at H
              replace H := Option.bind_eq_some_iff.mp H
              obtain ⟨⟨t570, t571, t572⟩, A200, H⟩ := H
              replace H : ((dragomanlaw6_hex.f kj9 a0 8).bind fun t573 => (if 3 + t573.size ≤ 9223372036854775807 then (if ((⟨#[34, 92, 85]⟩ : ByteArray) ++ t573).size + 1 ≤ 9223372036854775807 then ((esc_TUnquote.f (((⟨#[34, 92, 85]⟩ : ByteArray) ++ t573) ++ (⟨#[34]⟩ : ByteArray)) 0).bind fun bt574 => (if t572 = (-1) then (if t570.toList = t566.toList then (if t571 = (x4_9.size : Int) then (if bt574.2.2 = (-1) then (if bt574.1.toList = t566.toList then (dragomanlaw6_EscEvery.j1 kj9 a0 t566 (bt574.2.1 != 12)) else (dragomanlaw6_EscEvery.j1 kj9 a0 t566 true)) else (dragomanlaw6_EscEvery.j1 kj9 a0 t566 true)) else (dragomanlaw6_EscEvery.j1 kj9 a0 t566 true)) else (dragomanlaw6_EscEvery.j1 kj9 a0 t566 true)) else (dragomanlaw6_EscEvery.j1 kj9 a0 t566 true))) else (none)) else (none))) = some r := H
              have A20 := Aside0.mk A200
              clear A200
              replace H := Option.bind_eq_some_iff.mp H
              obtain ⟨t573, A210, H⟩ := H
              replace H : (if 3 + t573.size ≤ 9223372036854775807 then (if ((⟨#[34, 92, 85]⟩ : ByteArray) ++ t573).size + 1 ≤ 9223372036854775807 then ((esc_TUnquote.f (((⟨#[34, 92, 85]⟩ : ByteArray) ++ t573) ++ (⟨#[34]⟩ : ByteArray)) 0).bind fun bt574 => (if t572 = (-1) then (if t570.toList = t566.toList then (if t571 = (x4_9.size : Int) then (if bt574.2.2 = (-1) then (if bt574.1.toList = t566.toList then (dragomanlaw6_EscEvery.j1 kj9 a0 t566 (bt574.2.1 != 12)) else (dragomanlaw6_EscEvery.j1 kj9 a0 t566 true)) else (dragomanlaw6_EscEvery.j1 kj9 a0 t566 true)) else (dragomanlaw6_EscEvery.j1 kj9 a0 t566 true)) else (dragomanlaw6_EscEvery.j1 kj9 a0 t566 true)) else (dragomanlaw6_EscEvery.j1 kj9 a0 t566 true))) else (none)) else (none)) = some r := H
              have A21 := Aside0.mk A210
              clear A210
              by_cases c22 : 3 + t573.size ≤ 9223372036854775807
              · rw [if_pos c22] at H
                have c22b0 := eq_true c22
                have c22b1 : decide (3 + t573.size ≤ 9223372036854775807) = true := decide_eq_true c22
                try have c22b2 : (9223372036854775807 < 3 + t573.size) = False := eq_false (Nat.not_lt.2 c22)
                by_cases c23 : ((⟨#[34, 92, 85]⟩ : ByteArray) ++ t573).size + 1 ≤ 9223372036854775807
                · rw [if_pos c23] at H
                  have c23b0 := eq_true c23
                  have c23b1 : decide (((⟨#[34, 92, 85]⟩ : ByteArray) ++ t573).size + 1 ≤ 9223372036854775807) = true := decide_eq_true c23
                  try have c23b2 : (9223372036854775807 < ((⟨#[34, 92, 85]⟩ : ByteArray) ++ t573).size + 1) = False := eq_false (Nat.not_lt.2 c23)
                  try (have c23b4 := c23b2; simp only [ByteArray.size_append, show (⟨#[34, 92, 85]⟩ : ByteArray).size = 3 from rfl] at c23b4)
                  replace H := Option.bind_eq_some_iff.mp H
                  obtain ⟨⟨t574, t575, t576⟩, A240, H⟩ := H
                  replace H : (if t572 = (-1) then (if t570.toList = t566.toList then (if t571 = (x4_9.size : Int) then (if t576 = (-1) then (if t574.toList = t566.toList then (dragomanlaw6_EscEvery.j1 kj9 a0 t566 (t575 != 12)) else (dragomanlaw6_EscEvery.j1 kj9 a0 t566 true)) else (dragomanlaw6_EscEvery.j1 kj9 a0 t566 true)) else (dragomanlaw6_EscEvery.j1 kj9 a0 t566 true)) else (dragomanlaw6_EscEvery.j1 kj9 a0 t566 true)) else (dragomanlaw6_EscEvery.j1 kj9 a0 t566 true)) = some r := H
                  have A24 := Aside0.mk A240
                  clear A240
                  have HC25 := Aside0.mk H
                  clear H
                  go_upto_region 11 with (first | ((with_reducible refine gate_callee (f := 16) rfl ?_); refine goesL_ (some 43) rfl rfl Tryd.func16 (by kernel_rfl) rfl #[.string x4_9, .int .i64 0] rfl (by (try simp only [List.map_toArray, List.map_cons, List.map_nil]); first | done | rfl | (simp only [List.length_drop, List.length_take]; rfl)) ?_; (with_reducible refine (esc_Unquote.calls x4_9 0 t570 t571 t572 _ A20.out).mono ?_); rintro e w26 ⟨rfl, hb⟩; refine ⟨_, rfl, ?_⟩; have n0_ := Aside0.mk (below_step (by repeat (first | (with_reducible first | exact HB.out | apply below_alloc | apply pw_below_drewN | apply below_drew1) | exact HB.out)) hb); clear HB; have HB := n0_; clear n0_; (try clear hb); (try clear hb2); (try clear hk); (try clear hi)) | ((with_reducible refine gate_callee (f := 28) rfl ?_); refine goesL_ (some 49) rfl rfl Tryd.func28 (by kernel_rfl) rfl #[.int .i64 a0, .int .i64 8] rfl (by (try simp only [List.map_toArray, List.map_cons, List.map_nil]); first | done | rfl | (simp only [List.length_drop, List.length_take]; rfl)) ?_; (with_reducible refine (dragomanlaw6_hex.calls kj9 a0 8 t573 _ A21.out).mono ?_); rintro e w' ⟨rfl, ⟨nd, rfl⟩⟩; refine ⟨_, rfl, ?_⟩) | ((with_reducible refine gate_callee (f := 17) rfl ?_); refine goesL_ (some 52) rfl rfl Tryd.func17 (by kernel_rfl) rfl #[.string (((⟨#[34, 92, 85]⟩ : ByteArray) ++ t573) ++ (⟨#[34]⟩ : ByteArray)), .int .i64 0] rfl (by (try simp only [List.map_toArray, List.map_cons, List.map_nil]); first | done | rfl | (simp only [List.length_drop, List.length_take]; rfl)) ?_; (with_reducible refine (esc_TUnquote.calls (((⟨#[34, 92, 85]⟩ : ByteArray) ++ t573) ++ (⟨#[34]⟩ : ByteArray)) 0 t574 t575 t576 _ A24.out).mono ?_); rintro e w27 ⟨rfl, hb⟩; refine ⟨_, rfl, ?_⟩; have n0_ := Aside0.mk (below_step (by repeat (first | (with_reducible first | exact HB.out | apply below_alloc | apply pw_below_drewN | apply below_drew1) | exact HB.out)) hb); clear HB; have HB := n0_; clear n0_; (try clear hb); (try clear hb2); (try clear hk); (try clear hi)))
                  (try simp only [Act.put, List.setIfInBounds_toArray, List.set_cons_zero, List.set_cons_succ])
                  go_cut [81] (fun v81 wc => ∃ (kq : Nat) (x81_24 : Bool), v81 = .bool x81_24 ∧ Aside0 (dragomanlaw6_EscEvery.j1 kq a0 t566 x81_24 = some r) ∧ Aside0 (kq ≤ kj9) ∧ Aside0 (Below w.heap.size w wc))
                  case first =>
                    have H := HC25.out
                    clear HC25
                    by_cases c28 : t572 = (-1)
                    · rw [if_pos c28] at H
                      have c28b0 : (t572 == (-1)) = true := beq_iff_eq.mpr c28
                      have c28b1 : (t572 != (-1)) = false := bne_eq_false_iff_eq.mpr c28
                      clear c28
                      (first | rw [c28b0] | (simp only [i64_w, i32_w]; rw [c28b0]) | skip)
                      by_cases c29 : t570.toList = t566.toList
                      · rw [if_pos c29] at H
                        have c29b0 : (t570.toList == t566.toList) = true := beq_iff_eq.mpr c29
                        have c29b1 : (t570.toList != t566.toList) = false := bne_eq_false_iff_eq.mpr c29
                        clear c29
                        by_cases c30 : t571 = (x4_9.size : Int)
                        · rw [if_pos c30] at H
                          have c30b0 : (t571 == (x4_9.size : Int)) = true := beq_iff_eq.mpr c30
                          have c30b1 : (t571 != (x4_9.size : Int)) = false := bne_eq_false_iff_eq.mpr c30
                          clear c30
                          by_cases c31 : t576 = (-1)
                          · rw [if_pos c31] at H
                            have c31b0 : (t576 == (-1)) = true := beq_iff_eq.mpr c31
                            have c31b1 : (t576 != (-1)) = false := bne_eq_false_iff_eq.mpr c31
                            clear c31
                            by_cases c32 : t574.toList = t566.toList
                            · rw [if_pos c32] at H
                              have c32b0 : (t574.toList == t566.toList) = true := beq_iff_eq.mpr c32
                              have c32b1 : (t574.toList != t566.toList) = false := bne_eq_false_iff_eq.mpr c32
                              clear c32
                              have H' := Aside0.mk H
                              clear H
                              go_wp2
                              go_meet
                              case rel => exact ⟨_, ((t575 != 12)), (by first | rfl | (simp; done) | (simp [*]; done)), H', ⟨by have := HJ9.out; first | omega | exact Nat.le_refl _⟩, ⟨by repeat (first | (with_reducible first | exact HB.out | apply below_alloc | apply pw_below_drewN | apply below_drew1) | exact HB.out)⟩⟩
                            · rw [if_neg c32] at H
                              have c32b0 : (t574.toList == t566.toList) = false := beq_eq_false_iff_ne.mpr c32
                              have c32b1 : (t574.toList != t566.toList) = true := bne_iff_ne.mpr c32
                              have H' := Aside0.mk H
                              clear H
                              go_wp2
                              go_meet
                              case rel => exact ⟨_, (true), (by first | rfl | (simp; done) | (simp [*]; done)), H', ⟨by have := HJ9.out; first | omega | exact Nat.le_refl _⟩, ⟨by repeat (first | (with_reducible first | exact HB.out | apply below_alloc | apply pw_below_drewN | apply below_drew1) | exact HB.out)⟩⟩
                          · rw [if_neg c31] at H
                            have c31b0 : (t576 == (-1)) = false := beq_eq_false_iff_ne.mpr c31
                            have c31b1 : (t576 != (-1)) = true := bne_iff_ne.mpr c31
                            have H' := Aside0.mk H
                            clear H
                            go_wp2
                            go_meet
                            case rel => exact ⟨_, (true), (by first | rfl | (simp; done) | (simp [*]; done)), H', ⟨by have := HJ9.out; first | omega | exact Nat.le_refl _⟩, ⟨by repeat (first | (with_reducible first | exact HB.out | apply below_alloc | apply pw_below_drewN | apply below_drew1) | exact HB.out)⟩⟩
                        · rw [if_neg c30] at H
                          have c30b0 : (t571 == (x4_9.size : Int)) = false := beq_eq_false_iff_ne.mpr c30
                          have c30b1 : (t571 != (x4_9.size : Int)) = true := bne_iff_ne.mpr c30
                          have H' := Aside0.mk H
                          clear H
                          go_wp2
                          go_meet
                          case rel => exact ⟨_, (true), (by first | rfl | (simp; done) | (simp [*]; done)), H', ⟨by have := HJ9.out; first | omega | exact Nat.le_refl _⟩, ⟨by repeat (first | (with_reducible first | exact HB.out | apply below_alloc | apply pw_below_drewN | apply below_drew1) | exact HB.out)⟩⟩
                      · rw [if_neg c29] at H
                        have c29b0 : (t570.toList == t566.toList) = false := beq_eq_false_iff_ne.mpr c29
                        have c29b1 : (t570.toList != t566.toList) = true := bne_iff_ne.mpr c29
                        have H' := Aside0.mk H
                        clear H
                        go_wp2
                        go_meet
                        case rel => exact ⟨_, (true), (by first | rfl | (simp; done) | (simp [*]; done)), H', ⟨by have := HJ9.out; first | omega | exact Nat.le_refl _⟩, ⟨by repeat (first | (with_reducible first | exact HB.out | apply below_alloc | apply pw_below_drewN | apply below_drew1) | exact HB.out)⟩⟩
                    · rw [if_neg c28] at H
                      have c28b0 : (t572 == (-1)) = false := beq_eq_false_iff_ne.mpr c28
                      have c28b1 : (t572 != (-1)) = true := bne_iff_ne.mpr c28
                      (first | rw [c28b0] | (simp only [i64_w, i32_w]; rw [c28b0]) | skip)
                      have H' := Aside0.mk H
                      clear H
                      go_wp2
                      go_meet
                      case rel => exact ⟨_, (true), (by first | rfl | (simp; done) | (simp [*]; done)), H', ⟨by have := HJ9.out; first | omega | exact Nat.le_refl _⟩, ⟨by repeat (first | (with_reducible first | exact HB.out | apply below_alloc | apply pw_below_drewN | apply below_drew1) | exact HB.out)⟩⟩
                  case rest =>
                    clear HC25
                    try clear c1
                    try clear c2
                    try clear p2
                    try clear c3
                    try clear c5
                    try clear p6
                    try clear c7
                    try clear c8
                    try clear c8b0
                    try clear c8b1
                    try clear c8b2
                    try clear c9
                    try clear c9b0
                    try clear c9b1
                    try clear c9b2
                    try clear c13
                    try clear c13b0
                    try clear c15
                    try clear c15b0
                    try clear c15b1
                    try clear c15b2
                    try clear c16
                    try clear c16b0
                    try clear c16b1
                    try clear c16b2
                    try clear c17
                    try clear c18
                    try clear c18b0
                    try clear c18b1
                    try clear c18b2
                    try clear c19
                    try clear c19b0
                    try clear c19b1
                    try clear c19b2
                    try clear c22
                    try clear c22b0
                    try clear c22b1
                    try clear c22b2
                    try clear c23
                    try clear c23b0
                    try clear c23b1
                    try clear c23b2
                    try clear c26
                    try clear c27
                    try clear c28
                    try clear c28b0
                    try clear c28b1
                    try clear c29
                    try clear c29b0
                    try clear c29b1
                    try clear c30
                    try clear c30b0
                    try clear c30b1
                    try clear c31
                    try clear c31b0
                    try clear c31b1
                    try clear c32
                    try clear c32b0
                    try clear c32b1
                    try clear p2
                    try clear p6
                    obtain ⟨kq, x81_24, rfl, HA, HJ24, HB⟩ := hcut
                    cases kq with
                    | zero => exact absurd HA.out (by simp [dragomanlaw6_EscEvery.j1])
                    | succ kj24 =>
                      have H := HA.out
                      clear HA
                      simp only [dragomanlaw6_EscEvery.j1] at H
                      by_cases c33 : x81_24 = true
                      · subst c33
                        have H1 : (some false) = some r := by rw [if_pos rfl] at H; exact H
                        clear H
                        have H := H1
                        clear H1
                        obtain rfl := Option.some.inj H
                        go_wp2
                        go_ret
                        exact ⟨by first | rfl | (simp [errW_none, errW_some] <;> rfl) | (simp [*, errW_none, errW_some, bne]; done) | (simp [*, errW_none, errW_some] <;> rfl), by repeat (first | (with_reducible first | exact HB.out | apply below_alloc | apply pw_below_drewN | apply below_drew1) | exact HB.out)⟩
                      · replace c33 := Bool.eq_false_iff.mpr c33
                        subst c33
                        have H1 : ((dragomanlaw6_hex.f kj24 (Go.bits .and .i64 a0 65535) 4).bind fun t577 => (if 3 + t577.size ≤ 9223372036854775807 then (if ((⟨#[34, 92, 117]⟩ : ByteArray) ++ t577).size + 1 ≤ 9223372036854775807 then ((esc_TUnquote.f (((⟨#[34, 92, 117]⟩ : ByteArray) ++ t577) ++ (⟨#[34]⟩ : ByteArray)) 0).bind fun bt578 => (if a0 > 65535 then (some true) else (if bt578.2.2 = (-1) then (some (bt578.1.toList == t566.toList)) else (some false)))) else (none)) else (none))) = some r := by rw [if_neg (show ¬ (false = true) by decide)] at H; exact H
                        clear H
                        have H := H1
                        clear H1
                        replace H := Option.bind_eq_some_iff.mp H
                        obtain ⟨t577, A340, H⟩ := H
                        replace H : (if 3 + t577.size ≤ 9223372036854775807 then (if ((⟨#[34, 92, 117]⟩ : ByteArray) ++ t577).size + 1 ≤ 9223372036854775807 then ((esc_TUnquote.f (((⟨#[34, 92, 117]⟩ : ByteArray) ++ t577) ++ (⟨#[34]⟩ : ByteArray)) 0).bind fun bt578 => (if a0 > 65535 then (some true) else (if bt578.2.2 = (-1) then (some (bt578.1.toList == t566.toList)) else (some false)))) else (none)) else (none)) = some r := H
                        have A34 := Aside0.mk A340
                        clear A340
                        by_cases c35 : 3 + t577.size ≤ 9223372036854775807
                        · rw [if_pos c35] at H
                          have c35b0 := eq_true c35
                          have c35b1 : decide (3 + t577.size ≤ 9223372036854775807) = true := decide_eq_true c35
                          try have c35b2 : (9223372036854775807 < 3 + t577.size) = False := eq_false (Nat.not_lt.2 c35)
                          by_cases c36 : ((⟨#[34, 92, 117]⟩ : ByteArray) ++ t577).size + 1 ≤ 9223372036854775807
                          · rw [if_pos c36] at H
                            have c36b0 := eq_true c36
                            have c36b1 : decide (((⟨#[34, 92, 117]⟩ : ByteArray) ++ t577).size + 1 ≤ 9223372036854775807) = true := decide_eq_true c36
                            try have c36b2 : (9223372036854775807 < ((⟨#[34, 92, 117]⟩ : ByteArray) ++ t577).size + 1) = False := eq_false (Nat.not_lt.2 c36)
                            try (have c36b4 := c36b2; simp only [ByteArray.size_append, show (⟨#[34, 92, 117]⟩ : ByteArray).size = 3 from rfl] at c36b4)
                            replace H := Option.bind_eq_some_iff.mp H
                            obtain ⟨⟨t578, t579, t580⟩, A370, H⟩ := H
                            replace H : (if a0 > 65535 then (some true) else (if t580 = (-1) then (some (t578.toList == t566.toList)) else (some false))) = some r := H
                            have A37 := Aside0.mk A370
                            clear A370
                            by_cases c38 : a0 > 65535
                            · rw [if_pos c38] at H
                              have c38b0 : decide (65535 < a0) = true := decide_eq_true c38
                              clear c38
                              obtain rfl := Option.some.inj H
                              go_wp2_with (first | ((with_reducible refine gate_callee (f := 28) rfl ?_); refine goesL_ (some 85) rfl rfl Tryd.func28 (by kernel_rfl) rfl #[.int .i64 (Go.bits .and .i64 a0 65535), .int .i64 4] rfl (by (try simp only [List.map_toArray, List.map_cons, List.map_nil]); first | done | rfl | (simp only [List.length_drop, List.length_take]; rfl)) ?_; (with_reducible refine (dragomanlaw6_hex.calls kj24 (Go.bits .and .i64 a0 65535) 4 t577 _ A34.out).mono ?_); rintro e w' ⟨rfl, ⟨nd, rfl⟩⟩; refine ⟨_, rfl, ?_⟩) | ((with_reducible refine gate_callee (f := 17) rfl ?_); refine goesL_ (some 88) rfl rfl Tryd.func17 (by kernel_rfl) rfl #[.string (((⟨#[34, 92, 117]⟩ : ByteArray) ++ t577) ++ (⟨#[34]⟩ : ByteArray)), .int .i64 0] rfl (by (try simp only [List.map_toArray, List.map_cons, List.map_nil]); first | done | rfl | (simp only [List.length_drop, List.length_take]; rfl)) ?_; (with_reducible refine (esc_TUnquote.calls (((⟨#[34, 92, 117]⟩ : ByteArray) ++ t577) ++ (⟨#[34]⟩ : ByteArray)) 0 t578 t579 t580 _ A37.out).mono ?_); rintro e w39 ⟨rfl, hb⟩; refine ⟨_, rfl, ?_⟩; have n0_ := Aside0.mk (below_step (by repeat (first | (with_reducible first | exact HB.out | apply below_alloc | apply pw_below_drewN | apply below_drew1) | exact HB.out)) hb); clear HB; have HB := n0_; clear n0_; (try clear hb); (try clear hb2); (try clear hk); (try clear hi)))
                              go_ret
                              exact ⟨by first | rfl | (simp [errW_none, errW_some] <;> rfl) | (simp [*, errW_none, errW_some, bne]; done) | (simp [*, errW_none, errW_some] <;> rfl), by repeat (first | (with_reducible first | exact HB.out | apply below_alloc | apply pw_below_drewN | apply below_drew1) | exact HB.out)⟩
                            · rw [if_neg c38] at H
                              have c38b0 : decide (65535 < a0) = false := decide_eq_false c38
                              clear c38
                              by_cases c40 : t580 = (-1)
                              · rw [if_pos c40] at H
                                have c40b0 : (t580 == (-1)) = true := beq_iff_eq.mpr c40
                                have c40b1 : (t580 != (-1)) = false := bne_eq_false_iff_eq.mpr c40
                                clear c40
                                obtain rfl := Option.some.inj H
                                go_wp2_with (first | ((with_reducible refine gate_callee (f := 28) rfl ?_); refine goesL_ (some 85) rfl rfl Tryd.func28 (by kernel_rfl) rfl #[.int .i64 (Go.bits .and .i64 a0 65535), .int .i64 4] rfl (by (try simp only [List.map_toArray, List.map_cons, List.map_nil]); first | done | rfl | (simp only [List.length_drop, List.length_take]; rfl)) ?_; (with_reducible refine (dragomanlaw6_hex.calls kj24 (Go.bits .and .i64 a0 65535) 4 t577 _ A34.out).mono ?_); rintro e w' ⟨rfl, ⟨nd, rfl⟩⟩; refine ⟨_, rfl, ?_⟩) | ((with_reducible refine gate_callee (f := 17) rfl ?_); refine goesL_ (some 88) rfl rfl Tryd.func17 (by kernel_rfl) rfl #[.string (((⟨#[34, 92, 117]⟩ : ByteArray) ++ t577) ++ (⟨#[34]⟩ : ByteArray)), .int .i64 0] rfl (by (try simp only [List.map_toArray, List.map_cons, List.map_nil]); first | done | rfl | (simp only [List.length_drop, List.length_take]; rfl)) ?_; (with_reducible refine (esc_TUnquote.calls (((⟨#[34, 92, 117]⟩ : ByteArray) ++ t577) ++ (⟨#[34]⟩ : ByteArray)) 0 t578 t579 t580 _ A37.out).mono ?_); rintro e w41 ⟨rfl, hb⟩; refine ⟨_, rfl, ?_⟩; have n0_ := Aside0.mk (below_step (by repeat (first | (with_reducible first | exact HB.out | apply below_alloc | apply pw_below_drewN | apply below_drew1) | exact HB.out)) hb); clear HB; have HB := n0_; clear n0_; (try clear hb); (try clear hb2); (try clear hk); (try clear hi)))
                                go_ret
                                exact ⟨by first | rfl | (simp [errW_none, errW_some] <;> rfl) | (simp [*, errW_none, errW_some, bne]; done) | (simp [*, errW_none, errW_some] <;> rfl), by repeat (first | (with_reducible first | exact HB.out | apply below_alloc | apply pw_below_drewN | apply below_drew1) | exact HB.out)⟩
                              · rw [if_neg c40] at H
                                have c40b0 : (t580 == (-1)) = false := beq_eq_false_iff_ne.mpr c40
                                have c40b1 : (t580 != (-1)) = true := bne_iff_ne.mpr c40
                                obtain rfl := Option.some.inj H
                                go_wp2_with (first | ((with_reducible refine gate_callee (f := 28) rfl ?_); refine goesL_ (some 85) rfl rfl Tryd.func28 (by kernel_rfl) rfl #[.int .i64 (Go.bits .and .i64 a0 65535), .int .i64 4] rfl (by (try simp only [List.map_toArray, List.map_cons, List.map_nil]); first | done | rfl | (simp only [List.length_drop, List.length_take]; rfl)) ?_; (with_reducible refine (dragomanlaw6_hex.calls kj24 (Go.bits .and .i64 a0 65535) 4 t577 _ A34.out).mono ?_); rintro e w' ⟨rfl, ⟨nd, rfl⟩⟩; refine ⟨_, rfl, ?_⟩) | ((with_reducible refine gate_callee (f := 17) rfl ?_); refine goesL_ (some 88) rfl rfl Tryd.func17 (by kernel_rfl) rfl #[.string (((⟨#[34, 92, 117]⟩ : ByteArray) ++ t577) ++ (⟨#[34]⟩ : ByteArray)), .int .i64 0] rfl (by (try simp only [List.map_toArray, List.map_cons, List.map_nil]); first | done | rfl | (simp only [List.length_drop, List.length_take]; rfl)) ?_; (with_reducible refine (esc_TUnquote.calls (((⟨#[34, 92, 117]⟩ : ByteArray) ++ t577) ++ (⟨#[34]⟩ : ByteArray)) 0 t578 t579 t580 _ A37.out).mono ?_); rintro e w42 ⟨rfl, hb⟩; refine ⟨_, rfl, ?_⟩; have n0_ := Aside0.mk (below_step (by repeat (first | (with_reducible first | exact HB.out | apply below_alloc | apply pw_below_drewN | apply below_drew1) | exact HB.out)) hb); clear HB; have HB := n0_; clear n0_; (try clear hb); (try clear hb2); (try clear hk); (try clear hi)))
                                go_ret
                                exact ⟨by first | rfl | (simp [errW_none, errW_some] <;> rfl) | (simp [*, errW_none, errW_some, bne]; done) | (simp [*, errW_none, errW_some] <;> rfl), by repeat (first | (with_reducible first | exact HB.out | apply below_alloc | apply pw_below_drewN | apply below_drew1) | exact HB.out)⟩
                          · rw [if_neg c36] at H
                            exact absurd H (by simp)
                        · rw [if_neg c35] at H
                          exact absurd H (by simp)
                · rw [if_neg c23] at H
                  exact absurd H (by simp)
              · rw [if_neg c22] at H
                exact absurd H (by simp)
        · rw [if_neg c9] at H
          exact absurd H (by simp)
      · rw [if_neg c8] at H
        exact absurd H (by simp)
    · replace c5 := Bool.eq_false_iff.mpr c5
      subst c5
      have H1 : (some true) = some r := by rw [if_neg (show ¬ (false = true) by decide)] at H; exact H
      clear H
      have H := H1
      clear H1
      obtain rfl := Option.some.inj H
      go_enter Tryd.func7, Tryd.ntmps7
      go_wp2_with (first | ((with_reducible refine gate_callee (f := 15) rfl ?_); refine goesL_ (some 14) rfl rfl Tryd.func15 (by kernel_rfl) rfl #[] rfl (by (try simp only [List.map_toArray, List.map_cons, List.map_nil]); first | done | rfl | (simp only [List.length_drop, List.length_take]; rfl)) ?_; (with_reducible refine (dragomanlaw6_awake.calls  true _ A2.out).mono ?_); rintro e w43 ⟨rfl, hb⟩; refine ⟨_, rfl, ?_⟩; have n0_ := Aside0.mk (below_step (by repeat (first | (with_reducible first | exact HB.out | apply below_alloc | apply pw_below_drewN | apply below_drew1) | exact HB.out)) hb); clear HB; have HB := n0_; clear n0_; (try clear hb); (try clear hb2); (try clear hk); (try clear hi)) | ((with_reducible refine gate_callee (f := 26) rfl ?_); refine goesL_ (some 17) rfl rfl Tryd.func26 (by kernel_rfl) rfl #[.int .i64 a0] rfl (by (try simp only [List.map_toArray, List.map_cons, List.map_nil]); first | done | rfl | (simp only [List.length_drop, List.length_take]; rfl)) ?_; (with_reducible refine (dragomanref1_Good.calls a0 false _ A4.out).mono ?_); rintro e w' ⟨rfl, ⟨nd, rfl⟩⟩; refine ⟨_, rfl, ?_⟩))
      go_ret
      exact ⟨by first | rfl | (simp [errW_none, errW_some] <;> rfl) | (simp [*, errW_none, errW_some, bne]; done) | (simp [*, errW_none, errW_some] <;> rfl), by repeat (first | (with_reducible first | exact HB.out | apply below_alloc | apply pw_below_drewN | apply below_drew1) | exact HB.out)⟩
  · replace c3 := Bool.eq_false_iff.mpr c3
    subst c3
    have H1 : (some false) = some r := by rw [if_neg (show ¬ (false = true) by decide)] at H; exact H
    clear H
    have H := H1
    clear H1
    obtain rfl := Option.some.inj H
    go_enter Tryd.func7, Tryd.ntmps7
    go_wp2_with (first | ((with_reducible refine gate_callee (f := 15) rfl ?_); refine goesL_ (some 14) rfl rfl Tryd.func15 (by kernel_rfl) rfl #[] rfl (by (try simp only [List.map_toArray, List.map_cons, List.map_nil]); first | done | rfl | (simp only [List.length_drop, List.length_take]; rfl)) ?_; (with_reducible refine (dragomanlaw6_awake.calls  false _ A2.out).mono ?_); rintro e w44 ⟨rfl, hb⟩; refine ⟨_, rfl, ?_⟩; have n0_ := Aside0.mk (below_step (by repeat (first | (with_reducible first | exact HB.out | apply below_alloc | apply pw_below_drewN | apply below_drew1) | exact HB.out)) hb); clear HB; have HB := n0_; clear n0_; (try clear hb); (try clear hb2); (try clear hk); (try clear hi)))
    go_ret
    exact ⟨by first | rfl | (simp [errW_none, errW_some] <;> rfl) | (simp [*, errW_none, errW_some, bne]; done) | (simp [*, errW_none, errW_some] <;> rfl), by repeat (first | (with_reducible first | exact HB.out | apply below_alloc | apply pw_below_drewN | apply below_drew1) | exact HB.out)⟩
/-- THE ONE PURE STATEMENT of dragomanlaw6_EscEvery: yours. -/
def dragomanlaw6_EscEvery.Pure : Prop := ∀ (a0 : Int), (Lit.int .i64 a0).wf = true → ∃ k, dragomanlaw6_EscEvery.f k a0 = some true
theorem dragomanlaw6_EscEvery.walk (P : dragomanlaw6_EscEvery.Pure) (a0 : Int) (w : World) (w0 : (Lit.int .i64 a0).wf = true) :
    Calls Tryd.prog 7 #[.int .i64 a0] w fun e w' => e = .returned (.bool true) ∧ Below w.heap.size w w' := by
  obtain ⟨k, h⟩ := P a0 w0
  refine (dragomanlaw6_EscEvery.calls k a0 true w h).mono ?_
  rintro e w' ⟨rfl, hd⟩
  exact ⟨rfl, hd⟩
end Go.Proofs.YtoanbmggffkmgaaDoor.P
end
section
namespace Go.Proofs.YtoanbmggffkmgaaDoor.Pure
open Go.RowKit Go.Proofs.YtoanbmggffkmgaaDoor.P Go.Proofs.YtoanbmggffkmgaaDoor.La Go.Proofs.YtoanbmggffkmgaaDoorW.PrintWords Go.Proofs.YtoanbmggffkmgaaDoorW.PrintLast
/-- The law's own digits of base 16. -/
def hd (v : Int) : Int := [48, 49, 50, 51, 52, 53, 54, 55, 56, 57, 97, 66, 99, 68, 101, 70].getD v.toNat 0
def hexM : Nat → Int → List Int
  | 0, _ => []
  | i + 1, n => hd (n / 16 ^ i % 16) :: hexM i n
theorem hd_fin : ∀ v : Fin 16, hexVal (hd (v.val : Int)) = some (v.val : Int) ∧ 0 ≤ hd (v.val : Int) ∧ hd (v.val : Int) < 128 ∧ hd (v.val : Int) ≠ 34 := by decide
theorem hd_val {v : Int} (h0 : 0 ≤ v) (h1 : v < 16) : hexVal (hd v) = some v ∧ 0 ≤ hd v ∧ hd v < 128 ∧ hd v ≠ 34 := by
  obtain ⟨n, rfl⟩ := Int.eq_ofNat_of_zero_le h0
  exact hd_fin ⟨n, by omega⟩
theorem hexM_len (i : Nat) (n : Int) : (hexM i n).length = i := by
  induction i with
  | zero => rfl
  | succ i ih => simp [hexM, ih]
theorem hexM_bytes (i : Nat) (n : Int) : Bytes (hexM i n) := by
  induction i with
  | zero => intro x hx; cases hx
  | succ i ih =>
    intro x hx
    rcases List.mem_cons.1 hx with rfl | hx
    · have := hd_val (v := n / 16 ^ i % 16) (Int.emod_nonneg _ (by decide)) (Int.emod_lt_of_pos _ (by decide))
      omega
    · exact ih x hx
theorem pow16 (i : Nat) : (0 : Int) < 16 ^ i := Int.pow_pos (by decide)
theorem div_pow (n : Int) (i : Nat) : n / 16 ^ i / 16 = n / 16 ^ (i + 1) := by
  rw [Int.ediv_ediv_of_nonneg (Int.le_of_lt (pow16 i)), Int.pow_succ]
theorem emod_pow (n : Int) (i : Nat) : n % 16 ^ (i + 1) = n % 16 ^ i + 16 ^ i * (n / 16 ^ i % 16) := by
  rw [Int.emod_def n, Int.emod_def n, Int.emod_def (n / 16 ^ i), div_pow, Int.mul_sub, Int.pow_succ, Int.mul_assoc]
  omega
theorem hexM_read (i : Nat) (x n : Int) : hexI x (hexM i n) = some (x * 16 ^ i + n % 16 ^ i) := by
  induction i generalizing x with
  | zero => simp [hexM, hexI, Int.emod_one]
  | succ i ih =>
    have hv := hd_val (v := n / 16 ^ i % 16) (Int.emod_nonneg _ (by decide)) (Int.emod_lt_of_pos _ (by decide))
    simp only [hexM, hexI]
    rw [hv.1, Option.bind_some, ih]
    congr 1
    have e := emod_pow n i
    rw [e, Int.pow_succ, Int.add_mul]
    have e2 : x * 16 * 16 ^ i = x * (16 ^ i * 16) := by rw [Int.mul_assoc, Int.mul_comm 16]
    rw [e2, Int.mul_comm (n / 16 ^ i % 16)]
    omega
theorem hex_table (v : Int) (h0 : 0 ≤ v) (h1 : v < 16) : bytesOf ((⟨#[48, 49, 50, 51, 52, 53, 54, 55, 56, 57, 97, 66, 99, 68, 101, 70]⟩ : ByteArray).extract v.toNat (v + 1).toNat) = [hd v] := by
  have : ∀ n : Fin 16, bytesOf ((⟨#[48, 49, 50, 51, 52, 53, 54, 55, 56, 57, 97, 66, 99, 68, 101, 70]⟩ : ByteArray).extract n.val (n.val + 1)) = [hd (n.val : Int)] := by
    intro n
    rw [bytesOf_extract]
    revert n
    decide
  obtain ⟨n, rfl⟩ := Int.eq_ofNat_of_zero_le h0
  have h := this ⟨n, by omega⟩
  rw [Int.toNat_natCast, show ((n : Int) + 1).toNat = n + 1 by omega]
  exact h
theorem and15 {x : Int} (h₀ : 0 ≤ x) (h₁ : x < 2 ^ 62) : Go.bits .and .i64 x 15 = x % 16 := bits_mask .i64 62 (by decide) wraps_i64 4 (by decide) x h₀ h₁
theorem and65535 {x : Int} (h₀ : 0 ≤ x) (h₁ : x < 2 ^ 62) : Go.bits .and .i64 x 65535 = x % 65536 := bits_mask .i64 62 (by decide) wraps_i64 16 (by decide) x h₀ h₁
theorem hex_l0 (n : Int) (h0 : 0 ≤ n) (h1 : n < 2 ^ 40) (d : Nat) (hd8 : d ≤ 8) (m : Nat) : ∀ i : Nat, i + m = d → ∀ acc : ByteArray, bytesOf acc = hexM i n → Ev (fun k => dragomanlaw6_hex.l0 k (n / 16 ^ i) (d : Int) acc (i : Int)) (strOfNums (hexM d n)) := by
  induction m with
  | zero =>
    intro i hi acc hacc
    obtain rfl : i = d := by omega
    refine Ev.step (fun k => by rw [dragomanlaw6_hex.l0, if_neg (by omega)]) ?_
    rw [← hacc, strOfNums_of]
    exact Ev.now _
  | succ m ih =>
    intro i hi acc hacc
    have hq0 : 0 ≤ n / 16 ^ i := Int.ediv_nonneg h0 (Int.le_of_lt (pow16 i))
    have hq1 : n / 16 ^ i ≤ n := Int.ediv_le_self _ h0
    have hand := and15 hq0 (by omega)
    have hv0 : 0 ≤ n / 16 ^ i % 16 := Int.emod_nonneg _ (by decide)
    have hv1 : n / 16 ^ i % 16 < 16 := Int.emod_lt_of_pos _ (by decide)
    have htab := hex_table _ hv0 hv1
    have hw : wrap64 (n / 16 ^ i % 16 + 1) = n / 16 ^ i % 16 + 1 := wrap_id (by omega) (by omega)
    have hsz : ((⟨#[48, 49, 50, 51, 52, 53, 54, 55, 56, 57, 97, 66, 99, 68, 101, 70]⟩ : ByteArray).extract (n / 16 ^ i % 16).toNat (n / 16 ^ i % 16 + 1).toNat).size = 1 := by rw [← size_of, htab]; rfl
    have hasz : acc.size = i := by rw [← size_of, hacc, hexM_len]
    have hnext := ih (i + 1) (by omega) ((⟨#[48, 49, 50, 51, 52, 53, 54, 55, 56, 57, 97, 66, 99, 68, 101, 70]⟩ : ByteArray).extract (n / 16 ^ i % 16).toNat (n / 16 ^ i % 16 + 1).toNat ++ acc) (by rw [bytesOf_append, htab, hacc]; rfl)
    rw [← div_pow] at hnext
    have HW := Lib.hid hw
    clear hw
    refine Ev.step (fun k => by rw [dragomanlaw6_hex.l0, if_pos (by omega), hand, if_pos hv0, HW.out, if_pos (by omega), if_pos (by omega), hsz, if_pos (by omega), wrap_id (n := (i : Int) + 1) (by omega) (by omega), show (i : Int) + 1 = ((i + 1 : Nat) : Int) by omega]) ?_
    exact hnext
theorem hex_ev (n : Int) (h0 : 0 ≤ n) (h1 : n < 2 ^ 40) (d : Nat) (hd8 : d ≤ 8) : Ev (fun k => dragomanlaw6_hex.f k n (d : Int)) (strOfNums (hexM d n)) := by
  have := hex_l0 n h0 h1 d hd8 d 0 (by omega) ⟨#[]⟩ rfl
  rw [Int.pow_zero, Int.ediv_one] at this
  exact this
theorem jbody_esc {L : List Int} {k i : Nat} {acc : List Int} {p : Int × Nat} (hi : i < L.length) (h : L.getD i 0 = 92) (hj : jesc (L.drop i) = some p) : jbody L (k + 1) i acc = jbody L k (i + p.2) (acc ++ enc p.1) := by
  rw [jbody, if_neg (by omega), h, if_neg (by decide), if_neg (by decide), if_pos rfl, hj]
theorem jbody_end {L : List Int} {k i : Nat} {acc : List Int} (hi : i < L.length) (h : L.getD i 0 = 34) : jbody L (k + 1) i acc = (true, acc, i + 1) := by
  rw [jbody, if_neg (by omega), if_pos h]
theorem tbody_esc {L : List Int} {k i : Nat} {acc : List Int} {p : List Int × Nat} (hi : i < L.length) (h : L.getD i 0 = 92) (hj : tesc false (L.drop i) = some p) : tbody L 34 false (k + 1) i acc = tbody L 34 false k (i + p.2) (acc ++ p.1) := by
  have h2 : (L.drop i).getD 0 0 = 92 := by rw [← h]; simp [List.getD_eq_getElem?_getD, List.getElem?_drop]
  have h3 : tend false 34 (L.drop i) = none := by
    unfold tend
    rw [if_neg (by decide), if_pos]
    cases hl : L.drop i with
    | nil => rfl
    | cons b t =>
      rw [hl] at h2
      have : b = 92 := h2
      simp [lead, this]
  rw [tbody, if_neg (by omega), h3]
  simp only
  rw [titem, if_pos ⟨h2, rfl⟩, hj]
theorem tbody_end {L : List Int} {k i : Nat} {acc : List Int} (hi : i < L.length) (h : L.getD i 0 = 34) : tbody L 34 false (k + 1) i acc = (true, acc, i + 1) := by
  have h3 : tend false 34 (L.drop i) = some ([], 1) := by
    unfold tend
    rw [if_neg (by decide), if_neg]
    intro e
    have := (lead_take 34 (L.drop i) 1).1 (by rw [take_one_drop hi, h]; rfl)
    omega
  rw [tbody, if_neg (by omega), h3]
  simp
theorem one_more {L : List Int} (h2 : L.getD 0 0 = 34) (h3 : L.getD 1 0 ≠ 34) : ¬ 3 ≤ lead 34 (L.drop 0) := by
  rw [List.drop_zero]
  cases L with
  | nil => simp [lead]
  | cons a t =>
    cases t with
    | nil => simp only [lead]; split <;> omega
    | cons b r =>
      have hb : b ≠ 34 := h3
      simp only [lead, if_neg hb]
      split <;> omega
theorem drop_hex (n : Nat) (r : Int) (t : List Int) : (hexM n r ++ t).drop n = t := List.drop_left' (hexM_len n r)
theorem digs_cons {a b : Int} {n : Nat} (r : Int) (t : List Int) : digsAt (a :: b :: (hexM n r ++ t)) 2 n = some (r % 16 ^ n) := by
  unfold digsAt
  have hl : (a :: b :: (hexM n r ++ t)).length = 2 + n + t.length := by simp [hexM_len]; omega
  rw [if_pos (by omega)]
  have : ((a :: b :: (hexM n r ++ t)).drop 2).take n = hexM n r := by
    show (hexM n r ++ t).take n = _
    rw [List.take_append_of_le_length (by rw [hexM_len]; omega), List.take_of_length_le (by rw [hexM_len]; omega)]
  rw [this, hexM_read]
  simp
theorem jesc_one {r : Int} (h0 : 0 ≤ r) (h1 : r ≤ 65535) (hg : good r) (t : List Int) : jesc (92 :: 117 :: (hexM 4 r ++ t)) = some (r, 6) := by
  have hd := digs_cons (a := 92) (b := 117) (n := 4) r t
  rw [show r % 16 ^ 4 = r by omega] at hd
  unfold jesc
  rw [if_neg (by simp), if_neg (by show ¬ (shortJ 117).isSome = true; decide), if_neg (by rw [hd]; show ¬ ((117 : Int) ≠ 117 ∨ true = false); decide), hd, Option.getD_some, if_pos (by unfold good at hg; omega), if_pos hg]
theorem jesc_two {r : Int} (h0 : 65536 ≤ r) (h1 : r ≤ 1114111) (t : List Int) : jesc (92 :: 117 :: (hexM 4 (55296 + (r - 65536) / 1024) ++ 92 :: 117 :: (hexM 4 (56320 + (r - 65536) % 1024) ++ t))) = some (r, 12) := by
  have hd := digs_cons (a := 92) (b := 117) (n := 4) (55296 + (r - 65536) / 1024) (92 :: 117 :: (hexM 4 (56320 + (r - 65536) % 1024) ++ t))
  rw [show (55296 + (r - 65536) / 1024) % 16 ^ 4 = 55296 + (r - 65536) / 1024 by omega] at hd
  have hdr : (92 :: 117 :: (hexM 4 (55296 + (r - 65536) / 1024) ++ 92 :: 117 :: (hexM 4 (56320 + (r - 65536) % 1024) ++ t))).drop 6 = 92 :: 117 :: (hexM 4 (56320 + (r - 65536) % 1024) ++ t) := by
    show (hexM 4 (55296 + (r - 65536) / 1024) ++ 92 :: 117 :: (hexM 4 (56320 + (r - 65536) % 1024) ++ t)).drop 4 = _
    exact drop_hex 4 _ _
  have hd2 := digs_cons (a := 92) (b := 117) (n := 4) (56320 + (r - 65536) % 1024) t
  rw [show (56320 + (r - 65536) % 1024) % 16 ^ 4 = 56320 + (r - 65536) % 1024 by omega, ← hdr, digsAt_drop _ (by simp [hexM_len])] at hd2
  unfold jesc
  rw [if_neg (by simp), if_neg (by show ¬ (shortJ 117).isSome = true; decide), if_neg (by rw [hd]; show ¬ ((117 : Int) ≠ 117 ∨ true = false); decide), hd, Option.getD_some, if_neg (by omega), hd2, Option.getD_some, hdr, if_neg]
  · congr 2
    omega
  · simp only [Option.isSome_some, Bool.true_eq_false, false_or, List.take_succ_cons, List.take_zero, ne_eq, not_true_eq_false]
    omega
theorem tesc_four (r : Int) (t : List Int) : tesc false (92 :: 117 :: (hexM 4 r ++ t)) = if good (r % 65536) then some (enc (r % 65536), 6) else none := by
  have hd := digs_cons (a := 92) (b := 117) (n := 4) r t
  unfold tesc
  rw [if_neg (by simp)]
  unfold tesc0
  rw [if_neg (by simp), if_neg (by show ¬ (shortT 117).isSome = true; decide), show (92 :: 117 :: (hexM 4 r ++ t)).getD 1 0 = 117 from rfl, if_pos rfl]
  unfold tdig
  rw [hd]
  rfl
theorem tesc_eight {r : Int} (h0 : 0 ≤ r) (h1 : r ≤ 1114111) (hg : good r) (t : List Int) : tesc false (92 :: 85 :: (hexM 8 r ++ t)) = some (enc r, 10) := by
  have hd := digs_cons (a := 92) (b := 85) (n := 8) r t
  rw [show r % 16 ^ 8 = r by omega] at hd
  unfold tesc
  rw [if_neg (by simp)]
  unfold tesc0
  rw [if_neg (by simp), if_neg (by show ¬ (shortT 85).isSome = true; decide), if_neg (by show ¬ (85 : Int) = 117; decide), show (92 :: 85 :: (hexM 8 r ++ t)).getD 1 0 = 85 from rfl, if_pos rfl]
  unfold tdig
  rw [hd, Option.bind_some, if_pos hg]
theorem unq_one {j : ByteArray} {L : List Int} (hj : bytesOf j = L) (hl : L.length ≤ 1000) {p : Int × Nat} (h0 : L.getD 0 0 = 34) (h1 : L.getD 1 0 = 92) (he : jesc (L.drop 1) = some p) (hp : 1 + p.2 < L.length) (h2 : L.getD (1 + p.2) 0 = 34) :
    esc_Unquote.f j 0 = some (strOfNums (enc p.1), ((2 + p.2 : Nat) : Int), -1) := by
  have hs : j.size = L.length := by rw [← size_of, hj]
  unfold esc_Unquote.f unqT
  rw [if_pos (by omega), hj, if_neg (by rw [Int.toNat_zero, h0]; omega), show L.length + 1 = (L.length - 1) + 1 + 1 by omega, Int.toNat_zero, Nat.zero_add, jbody_esc (by omega) h1 he, jbody_end (by omega) h2, List.nil_append]
  simp only [show 1 + p.2 + 1 = 2 + p.2 by omega]
theorem tunq_one {j : ByteArray} {L : List Int} (hj : bytesOf j = L) (hl : L.length ≤ 1000) (h0 : L.getD 0 0 = 34) (h1 : L.getD 1 0 = 92) : ∃ r, esc_TUnquote.f j 0 = some r ∧ ∀ p, tesc false (L.drop 1) = some p → 1 + p.2 < L.length → L.getD (1 + p.2) 0 = 34 → r = (strOfNums p.1, ((2 + p.2 : Nat) : Int), -1) := by
  have hs : j.size = L.length := by rw [← size_of, hj]
  have hld := one_more (L := L) h0 (by rw [h1]; decide)
  have hL : 2 ≤ L.length := by
    cases L with
    | nil => simp at h0
    | cons a t =>
      cases t with
      | nil => simp at h1
      | cons b t => simp
  refine ⟨tunqT L 0, ?_, ?_⟩
  · unfold esc_TUnquote.f
    rw [if_pos, hj]
    · rfl
    · rw [hj]; exact ⟨by omega, by omega, .inr (.inr (.inl ⟨h0, hld⟩))⟩
  · intro p he hp h2
    have : tstr L 0 = (true, p.1, 1 + p.2 + 1) := by
      unfold tstr
      rw [h0, if_neg hld, show L.length + 1 = (L.length - 1) + 1 + 1 by omega, Nat.zero_add, tbody_esc (by omega) h1 he, tbody_end (by omega) h2, List.nil_append]
    unfold tunqT
    rw [if_neg (by rw [h0]; omega), this]
    simp only [if_true, show 1 + p.2 + 1 = 2 + p.2 by omega]
theorem bytes_str (a : ByteArray) (n : Nat) (r : Int) : bytesOf (a ++ strOfNums (hexM n r)) = bytesOf a ++ hexM n r := by
  rw [bytesOf_append, strOfNums_bytes (hexM_bytes n r)]
theorem size_str (n : Nat) (r : Int) : (strOfNums (hexM n r)).size = n := by rw [← size_of, strOfNums_bytes (hexM_bytes n r), hexM_len]
theorem every_j1 (r : Int) (hg : good r) : Ev (fun k => dragomanlaw6_EscEvery.j1 k r (strOfNums (enc r)) false) true := by
  have hr0 : 0 ≤ r := hg.1
  have hr1 : r ≤ 1114111 := hg.2.1
  have hand := and65535 hr0 (by omega)
  refine Ev.step (fun k => by rw [dragomanlaw6_EscEvery.j1, if_neg (by decide), hand]) ?_
  refine Ev.bind (hex_ev _ (by omega) (by omega) 4 (by omega)) ?_
  have hb : bytesOf (((⟨#[34, 92, 117]⟩ : ByteArray) ++ strOfNums (hexM 4 (r % 65536))) ++ (⟨#[34]⟩ : ByteArray)) = 34 :: 92 :: 117 :: (hexM 4 (r % 65536) ++ [34]) := by
    rw [bytesOf_append, bytes_str]; rfl
  have hs : ((⟨#[34, 92, 117]⟩ : ByteArray) ++ strOfNums (hexM 4 (r % 65536))).size = 7 := by rw [ByteArray.size_append, size_str]; rfl
  obtain ⟨q, hq, hq2⟩ := tunq_one hb (by simp [hexM_len]) rfl rfl
  simp only [size_str, hs, hq, Option.bind_some]
  refine Ev.congr (fun k => by rw [if_pos (by omega), if_pos (by omega)]) ?_
  by_cases h : r > 65535
  · simp only [if_pos h]
    exact Ev.now _
  · have e := tesc_four (r % 65536) [34]
    rw [show r % 65536 % 65536 = r by omega, if_pos hg] at e
    have := hq2 _ e (by simp [hexM_len]) rfl
    simp only [if_neg h, this, if_true, beq_self_eq_true]
    exact Ev.now _
theorem every_j0 (r : Int) (hg : good r) (j : ByteArray) (hu : esc_Unquote.f j 0 = some (strOfNums (enc r), (j.size : Int), -1)) : Ev (fun k => dragomanlaw6_EscEvery.j0 k r (strOfNums (enc r)) j) true := by
  have hr0 : 0 ≤ r := hg.1
  have hr1 : r ≤ 1114111 := hg.2.1
  refine Ev.step (fun k => by rw [dragomanlaw6_EscEvery.j0, hu, Option.bind_some]) ?_
  refine Ev.bind (hex_ev _ (by omega) (by omega) 8 (by omega)) ?_
  have hb : bytesOf (((⟨#[34, 92, 85]⟩ : ByteArray) ++ strOfNums (hexM 8 r)) ++ (⟨#[34]⟩ : ByteArray)) = 34 :: 92 :: 85 :: (hexM 8 r ++ [34]) := by
    rw [bytesOf_append, bytes_str]; rfl
  have hs : ((⟨#[34, 92, 85]⟩ : ByteArray) ++ strOfNums (hexM 8 r)).size = 11 := by rw [ByteArray.size_append, size_str]; rfl
  obtain ⟨q, hq, hq2⟩ := tunq_one hb (by simp [hexM_len]) rfl rfl
  have e := hq2 _ (tesc_eight hr0 hr1 hg [34]) (by simp [hexM_len]) rfl
  simp only [size_str, hs, hq, Option.bind_some, e, if_true]
  refine Ev.congr (fun k => by rw [if_pos (by omega), if_pos (by omega)]) ?_
  exact every_j1 r hg
theorem EscEvery : dragomanlaw6_EscEvery.Pure := by
  intro r hwf
  refine Ev.rounds ?_
  refine Ev.congr (fun k => by rw [dragomanlaw6_EscEvery.f, show dragomanlaw6_awake.f = some true from rfl, Option.bind_some, if_pos rfl, ref_good_eq, Option.bind_some]) ?_
  by_cases hg : good r
  case neg => rw [decide_eq_false hg]; simp only [Bool.false_eq_true, if_false]; exact Ev.now _
  have hr0 : 0 ≤ r := hg.1
  have hr1 : r ≤ 1114111 := hg.2.1
  rw [decide_eq_true hg]
  simp only [if_true, ref_put_eq, Option.bind_some, enc0, if_pos hg]
  refine Ev.bind (hex_ev _ (by omega) (by omega) 4 (by omega)) ?_
  have hs : ∀ x, ((⟨#[34, 92, 117]⟩ : ByteArray) ++ strOfNums (hexM 4 x)).size = 7 := fun x => by rw [ByteArray.size_append, size_str]; rfl
  simp only [size_str, hs]
  refine Ev.congr (fun k => by rw [if_pos (by omega), if_pos (by omega)]) ?_
  by_cases h : r > 65535
  case neg =>
    simp only [if_neg h]
    refine every_j0 r hg _ ?_
    have hb : bytesOf (((⟨#[34, 92, 117]⟩ : ByteArray) ++ strOfNums (hexM 4 r)) ++ (⟨#[34]⟩ : ByteArray)) = 34 :: 92 :: 117 :: (hexM 4 r ++ [34]) := by
      rw [bytesOf_append, bytes_str]; rfl
    have := unq_one hb (by simp [hexM_len]) rfl rfl (jesc_one hr0 (by omega) hg [34]) (by simp [hexM_len]) rfl
    rw [this, ByteArray.size_append, hs]
    rfl
  simp only [if_pos h]
  have w1 : wrap64 (r - 65536) = r - 65536 := wrap_id (by omega) (by omega)
  have d1 : Int.tdiv (r - 65536) 1024 = (r - 65536) / 1024 := Int.tdiv_eq_ediv_of_nonneg (by omega)
  have m1 : Int.tmod (r - 65536) 1024 = (r - 65536) % 1024 := Int.tmod_eq_emod_of_nonneg (by omega)
  have w2 : wrap64 ((r - 65536) / 1024) = (r - 65536) / 1024 := wrap_id (by omega) (by omega)
  have w3 : wrap64 (55296 + (r - 65536) / 1024) = 55296 + (r - 65536) / 1024 := wrap_id (by omega) (by omega)
  have w4 : wrap64 (56320 + (r - 65536) % 1024) = 56320 + (r - 65536) % 1024 := wrap_id (by omega) (by omega)
  simp only [w1, d1, m1, w2, w3, w4]
  clear w1 d1 m1 w2 w3 w4
  refine Ev.bind (hex_ev _ (by omega) (by omega) 4 (by omega)) ?_
  simp only [size_str, hs]
  refine Ev.congr (fun k => by rw [if_pos (by omega), if_pos (by omega)]) ?_
  refine Ev.bind (hex_ev _ (by omega) (by omega) 4 (by omega)) ?_
  have hs2 : ∀ x, (((⟨#[34, 92, 117]⟩ : ByteArray) ++ strOfNums (hexM 4 x)) ++ (⟨#[92, 117]⟩ : ByteArray)).size = 9 := fun x => by rw [ByteArray.size_append, hs]; rfl
  have hs3 : ∀ x y, ((((⟨#[34, 92, 117]⟩ : ByteArray) ++ strOfNums (hexM 4 x)) ++ (⟨#[92, 117]⟩ : ByteArray)) ++ strOfNums (hexM 4 y)).size = 13 := fun x y => by rw [ByteArray.size_append, hs2, size_str]
  simp only [size_str, hs2, hs3]
  refine Ev.congr (fun k => by rw [if_pos (by omega), if_pos (by omega)]) ?_
  refine every_j0 r hg _ ?_
  have hb : bytesOf (((((⟨#[34, 92, 117]⟩ : ByteArray) ++ strOfNums (hexM 4 (55296 + (r - 65536) / 1024))) ++ (⟨#[92, 117]⟩ : ByteArray)) ++ strOfNums (hexM 4 (56320 + (r - 65536) % 1024))) ++ (⟨#[34]⟩ : ByteArray))
      = 34 :: 92 :: 117 :: (hexM 4 (55296 + (r - 65536) / 1024) ++ 92 :: 117 :: (hexM 4 (56320 + (r - 65536) % 1024) ++ [34])) := by
    rw [bytesOf_append, bytes_str, bytesOf_append, bytes_str, List.append_assoc, List.append_assoc, List.append_assoc]; rfl
  have := unq_one hb (by simp [hexM_len]) rfl rfl (jesc_two (by omega) hr1 [34]) (by simp [hexM_len]) rfl
  rw [this, ByteArray.size_append, hs3]
  rfl
end Go.Proofs.YtoanbmggffkmgaaDoor.Pure
end
