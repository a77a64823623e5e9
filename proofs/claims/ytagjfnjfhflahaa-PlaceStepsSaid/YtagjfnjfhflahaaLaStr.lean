/- Plain facts about where a byte stands in a text and how often, told by lists of numbers; no condition beyond those that each theorem names. -/
import Derived.Test.YtagjfnjfhflahaaLaBytes
import Derived.Lib.Bytealg
namespace Go.Proofs.Ytagjfnjfhflahaa.La
open Go.RowKit Go.Proofs.YtagjfnjfhflahaaW.PrintWords Go.Proofs.YtagjfnjfhflahaaW.PrintLast Go.Proofs.YtagjfnjfhflahaaW.PrintMore

/-- Where a number stands first; -1: nowhere. -/
def idx : List Int → Int → Int
  | [], _ => -1
  | b :: l, c => if b = c then 0 else if idx l c = -1 then -1 else idx l c + 1

/-- How often a number stands there. -/
def cntB : List Int → Int → Nat
  | [], _ => 0
  | b :: l, c => if b = c then cntB l c + 1 else cntB l c

theorem u8_of {c : Int} (h0 : 0 ≤ c) (h1 : c < 256) : ((c.toNat.toUInt8).toNat : Int) = c := by
  simp only [Nat.toUInt8_eq, UInt8.toNat_ofNat']
  omega

theorem u8_eq_iff {b : UInt8} {c : Int} (h0 : 0 ≤ c) (h1 : c < 256) : b = c.toNat.toUInt8 ↔ (b.toNat : Int) = c := by
  rw [← UInt8.toNat_inj]
  have := u8_of h0 h1
  omega

theorem idx_of (l : List UInt8) {c : Int} (h0 : 0 ≤ c) (h1 : c < 256) : Lib.indexByte l c.toNat.toUInt8 = idx (l.map fun b => (b.toNat : Int)) c := by
  induction l with
  | nil => rfl
  | cons b l ih =>
    simp only [Lib.indexByte, List.map_cons, idx, ih, beq_iff_eq, u8_eq_iff h0 h1]

theorem cntB_of (l : List UInt8) {c : Int} (h0 : 0 ≤ c) (h1 : c < 256) : Lib.countByte l c.toNat.toUInt8 = cntB (l.map fun b => (b.toNat : Int)) c := by
  unfold Lib.countByte
  induction l with
  | nil => rfl
  | cons b l ih =>
    simp only [List.count_cons, List.map_cons, cntB, ih, beq_iff_eq, u8_eq_iff h0 h1]
    split <;> rfl

theorem idx_ge (l : List Int) (c : Int) : -1 ≤ idx l c ∧ idx l c < l.length := by
  induction l with
  | nil => simp [idx]
  | cons b l ih =>
    simp only [idx, List.length_cons]
    (repeat' split) <;> omega

theorem cntB_le (l : List Int) (c : Int) : cntB l c ≤ l.length := by
  induction l with
  | nil => simp [cntB]
  | cons b l ih =>
    simp only [cntB, List.length_cons]
    split <;> omega

theorem cntB_append (l m : List Int) (c : Int) : cntB (l ++ m) c = cntB l c + cntB m c := by
  induction l with
  | nil => simp [cntB]
  | cons b l ih =>
    simp only [List.cons_append, cntB, ih]
    split <;> omega

end Go.Proofs.Ytagjfnjfhflahaa.La
