/- The parts of this claim's proof, in one text: what each Go function answers and that its call comes to it; plain facts of lists of numbers. Conditions as each theorem names them. -/
import Derived.ArgAppend
import Derived.Below
import Derived.BigCall
import Derived.BigQuiet
import Derived.Deep.AppendLies
import Derived.Deep.CutBlock
import Derived.Deep.DeepCutAuto
import Derived.Deep.Draws
import Derived.Deep.LoopGhost
import Derived.Deep.OwnRows
import Derived.Deep.QuietTactic
import Derived.Deep.RegionHeld3
import Derived.Deep.RegionWith
import Derived.KernelRfl
import Derived.Laws.BitsLemmas
import Derived.Laws.BytesArg
import Derived.Laws.IdiomCopy
import Derived.Laws.MakeOwn
import Derived.Laws.OwnMore
import Derived.Laws.RangeAny
import Derived.Laws.Rows
import Derived.Laws.Runes
import Derived.Laws.Slices
import Derived.Lib.AppendStr
import Derived.Lib.Bytealg
import Derived.Lib.Bytes
import Derived.Lib.ConvBytes
import Derived.Lib.Hide
import Derived.Maps.AppendAt
import Derived.OrdersHeld
import Derived.Outline
import Derived.OwnWalk
import Derived.RowKit
import Derived.RowKit3
import Derived.Shelf.LaysM
import Derived.Shelf.Small.Strs
import Derived.Shelf.Small.Utf8
import Derived.Shelf.Strings.AsciiSet
import Derived.Shelf.Strings.Builder1
import Derived.Shelf.Strings.Builder2
import Derived.Shelf.Strings.Builder2Cap
import Derived.Shelf.Strings.BuilderF
import Derived.Shelf.Strings.BuilderK
import Derived.Shelf.Strings.Count
import Derived.Shelf.Strings.IndexAny
import Derived.Shelf.Strings.IndexAnyAll
import Derived.Shelf.Strings.LastIndex
import Derived.Shelf.Strings.OnBuilder
import Derived.Shelf.Strings.Prefix
import Derived.Shelf.Strings.Replace
import Derived.Shelf.Strings.RuneCount
import Derived.Shelf.Strings.Runes
import Derived.Shelf.Strings.Search1
import Derived.Shelf.Strings.Search2
import Derived.Shelf.Strings.Search3
import Derived.Shelf.Strings.Shaped
import Derived.Shelf.Strings.Split
import Derived.Shelf.Strings.SplitShaped
import Derived.Shelf.Unicode.Decode
import Derived.Shelf.Unicode.DecodeAny
import Derived.Shelf.Unicode.DecodeSlow
import Derived.Shelf.Utf8.RuneCount
import Derived.Tactics
import Derived.WalkKit
import Derived.WalkSmall
import Derived.WideLaws
import Derived.Test.YtjmmdphkgioooaaDoorProg
import Derived.Test.YtjmmdphkgioooaaDoorWApart
import Derived.Test.YtjmmdphkgioooaaDoorWArr
import Derived.Test.YtjmmdphkgioooaaDoorWAt
import Derived.Test.YtjmmdphkgioooaaDoorWEqStruct
import Derived.Test.YtjmmdphkgioooaaDoorWFoot
import Derived.Test.YtjmmdphkgioooaaDoorWFootNe
import Derived.Test.YtjmmdphkgioooaaDoorWFour
import Derived.Test.YtjmmdphkgioooaaDoorWGuard
import Derived.Test.YtjmmdphkgioooaaDoorWInv
import Derived.Test.YtjmmdphkgioooaaDoorWInvWords
import Derived.Test.YtjmmdphkgioooaaDoorWKept
import Derived.Test.YtjmmdphkgioooaaDoorWLast
import Derived.Test.YtjmmdphkgioooaaDoorWMake0
import Derived.Test.YtjmmdphkgioooaaDoorWMore
import Derived.Test.YtjmmdphkgioooaaDoorWN
import Derived.Test.YtjmmdphkgioooaaDoorWNEv
import Derived.Test.YtjmmdphkgioooaaDoorWQPut
import Derived.Test.YtjmmdphkgioooaaDoorWRepsOne
import Derived.Test.YtjmmdphkgioooaaDoorWShare
import Derived.Test.YtjmmdphkgioooaaDoorWTab
import Derived.Test.YtjmmdphkgioooaaDoorWWords
import Derived.Test.YtjmmdphkgioooaaDoorWZeros
section
namespace Go.Proofs.YtjmmdphkgioooaaDoor.La
open Go.RowKit Go.Proofs.YtjmmdphkgioooaaDoorW.PrintWords Go.Proofs.YtjmmdphkgioooaaDoorW.PrintLast Go.Proofs.YtjmmdphkgioooaaDoorW.PrintMore
theorem bytesOf_data (s : ByteArray) : bytesOf s = s.data.toList.map fun b => (b.toNat : Int) := rfl
theorem toList_data' (s : ByteArray) : s.toList = s.data.toList := ByteArray.toList_eq s
theorem map_toNat_inj {l m : List UInt8} (h : l.map (fun b => (b.toNat : Int)) = m.map fun b => (b.toNat : Int)) : l = m := by
 induction l generalizing m with
 | nil => cases m with
  | nil => rfl
  | cons a t => simp at h
 | cons a t ih => cases m with
  | nil => simp at h
  | cons b u =>
   simp only [List.map_cons, List.cons.injEq] at h
   obtain ⟨h1, h2⟩ := h
   have : a = b := UInt8.toNat_inj.1 (by omega)
   rw [this, ih h2]
theorem bytesOf_inj {s t : ByteArray} (h : bytesOf s = bytesOf t) : s = t := by
 have h1 := map_toNat_inj h
 cases s with | mk a => cases t with | mk b =>
 congr 1
 exact Array.toList_inj.1 h1
theorem toList_eq_iff (s t : ByteArray) : s.toList = t.toList ↔ bytesOf s = bytesOf t := by
 rw [toList_data', toList_data']
 exact ⟨fun h => by rw [bytesOf_data, bytesOf_data, h], fun h => map_toNat_inj h⟩
theorem toList_nil_iff (s : ByteArray) : s.toList = ([] : List UInt8) ↔ bytesOf s = [] := by
 rw [toList_data', bytesOf_data]
 simp
theorem bytesOf_append (s t : ByteArray) : bytesOf (s ++ t) = bytesOf s ++ bytesOf t := by
 simp [bytesOf_data, ByteArray.data_append]
theorem bytesOf_extract (s : ByteArray) (i j : Nat) : bytesOf (s.extract i j) = ((bytesOf s).take j).drop i := by
 simp [bytesOf_data, ByteArray.data_extract, Array.toList_extract, List.map_drop, List.map_take, List.extract, List.take_drop]
 by_cases h : i ≤ j
 ·rw [show i + (j - i) = j by omega]
 ·rw [show j - i = 0 by omega]
  simp
  omega
theorem bytesOf_drop (s : ByteArray) (i : Nat) : bytesOf (s.extract i s.size) = (bytesOf s).drop i := by
 rw [bytesOf_extract, List.take_of_length_le (by rw [bytesOf_length]; omega)]
theorem bytesOf_take (s : ByteArray) (j : Nat) : bytesOf (s.extract 0 j) = (bytesOf s).take j := by
 rw [bytesOf_extract, List.drop_zero]
def Bytes (l : List Int) : Prop := ∀ x ∈ l, 0 ≤ x ∧ x < 256
theorem bytes_of (s : ByteArray) : Bytes (bytesOf s) := by
 intro x hx
 rw [bytesOf_data] at hx
 obtain ⟨b, _, rfl⟩ := List.mem_map.1 hx
 have := b.toNat_lt
 omega
theorem Bytes.drop {l : List Int} (h : Bytes l) (n : Nat) : Bytes (l.drop n) := fun x hx => h x (List.mem_of_mem_drop hx)
theorem Bytes.take {l : List Int} (h : Bytes l) (n : Nat) : Bytes (l.take n) := fun x hx => h x (List.mem_of_mem_take hx)
theorem Bytes.append {l m : List Int} (h : Bytes l) (k : Bytes m) : Bytes (l ++ m) := fun x hx => (List.mem_append.1 hx).elim (h x) (k x)
theorem Bytes.left {l m : List Int} (h : Bytes (l ++ m)) : Bytes l := fun x hx => h x (List.mem_append.2 (.inl hx))
theorem strOfNums_bytes {l : List Int} (h : Bytes l) : bytesOf (strOfNums l) = l := by
 have : (strOfNums l).data.toList = l.map fun n => UInt8.ofNat n.toNat := by
  have := Go.Lib.strOfNums_toList l
  rw [toList_data'] at this
  exact this
 rw [bytesOf_data, this, List.map_map]
 induction l with
 | nil => rfl
 | cons a t ih =>
  have ha := h a List.mem_cons_self
  rw [List.map_cons, ih (fun x hx => h x (List.mem_cons_of_mem _ hx)) (by
   have := Go.Lib.strOfNums_toList t
   rw [toList_data'] at this
   exact this)]
  simp only [Function.comp_apply, UInt8.toNat_ofNat', List.cons.injEq, and_true]
  omega
theorem strOfNums_of (s : ByteArray) : strOfNums (bytesOf s) = s := bytesOf_inj (strOfNums_bytes (bytes_of s))
theorem size_of (s : ByteArray) : (bytesOf s).length = s.size := bytesOf_length s
theorem size_strOfNums {l : List Int} (h : Bytes l) : (strOfNums l).size = l.length := by rw [← size_of, strOfNums_bytes h]
theorem bt_get (s : ByteArray) (i : Int) : bt s i = (bytesOf s).getD i.toNat 0 := (rd_bytesOf s i).symm
theorem size_append' (s t : ByteArray) : (s ++ t).size = s.size + t.size := by
 rw [← size_of, bytesOf_append, List.length_append, size_of, size_of]
theorem size_drop (s : ByteArray) (i : Nat) : (s.extract i s.size).size = s.size - i := by
 rw [← size_of, bytesOf_drop, List.length_drop, size_of]
theorem size_take (s : ByteArray) {j : Nat} (h : j ≤ s.size) : (s.extract 0 j).size = j := by
 rw [← size_of, bytesOf_take, List.length_take, size_of]
 omega
theorem wrap_id {n : Int} (h0 : -9223372036854775808 ≤ n) (h1 : n < 9223372036854775808) : wrap64 n = n := by
 unfold wrap64
 omega
theorem wf64 {n : Int} (h : (Lit.int .i64 n).wf = true) : -9223372036854775808 ≤ n ∧ n ≤ 9223372036854775807 := by
 have hmin : IntKind.i64.min = -9223372036854775808 := rfl
 have hmax : IntKind.i64.max = 9223372036854775807 := rfl
 simp only [Lit.wf, Bool.and_eq_true, decide_eq_true_eq, hmin, hmax] at h
 exact h
end Go.Proofs.YtjmmdphkgioooaaDoor.La
end
section
namespace Go.Proofs.YtjmmdphkgioooaaDoor.La
def good (r : Int) : Prop := 0 ≤ r ∧ r ≤ 1114111 ∧ (r < 55296 ∨ 57343 < r)
theorem good_iff {r : Int} : good r ↔ 0 ≤ r ∧ r ≤ 1114111 ∧ (r < 55296 ∨ 57343 < r) := Iff.rfl
instance (r : Int) : Decidable (good r) := by unfold good; infer_instance
def enc (r : Int) : List Int :=
 if r < 128 then [r] else if r < 2048 then [192 + r / 64, 128 + r % 64]
 else if r < 65536 then [224 + r / 4096, 128 + r / 64 % 64, 128 + r % 64]
 else [240 + r / 262144, 128 + r / 4096 % 64, 128 + r / 64 % 64, 128 + r % 64]
def tk2 (a b : Int) : Int := (a - 192) * 64 + (b - 128)
def tk3 (a b c : Int) : Int := (a - 224) * 4096 + (b - 128) * 64 + (c - 128)
def tk4 (a b c d : Int) : Int := (a - 240) * 262144 + (b - 128) * 4096 + (c - 128) * 64 + (d - 128)
/-- The letter that a list begins with, and how many bytes it has; 0, 0: none. -/
def tk : List Int → Int × Int
 | [] => (0, 0)
 | a :: t =>
  if a < 128 then (a, 1)
  else if a < 192 then (0, 0)
  else if a < 224 then
   match t with
   | b :: _ => if 128 ≤ b ∧ b < 192 ∧ 128 ≤ tk2 a b then (tk2 a b, 2) else (0, 0)
   | [] => (0, 0)
  else if a < 240 then
   match t with
   | b :: c :: _ => if 128 ≤ b ∧ b < 192 ∧ 128 ≤ c ∧ c < 192 ∧ 2048 ≤ tk3 a b c ∧ (tk3 a b c < 55296 ∨ 57343 < tk3 a b c) then (tk3 a b c, 3) else (0, 0)
   | _ => (0, 0)
  else if a < 248 then
   match t with
   | b :: c :: d :: _ => if 128 ≤ b ∧ b < 192 ∧ 128 ≤ c ∧ c < 192 ∧ 128 ≤ d ∧ d < 192 ∧ 65536 ≤ tk4 a b c d ∧ tk4 a b c d ≤ 1114111 then (tk4 a b c d, 4) else (0, 0)
   | _ => (0, 0)
  else (0, 0)
theorem enc_len (r : Int) : 1 ≤ (enc r).length ∧ (enc r).length ≤ 4 := by
 unfold enc
 split
 ·simp
 ·split
  ·simp
  ·split <;> simp
theorem enc_bytes {r : Int} (h : good r) : ∀ x ∈ enc r, 0 ≤ x ∧ x < 256 := by
 unfold good at h
 intro x hx
 unfold enc at hx
 split at hx
 ·simp at hx; omega
 ·split at hx
  ·simp at hx; omega
  ·split at hx <;> (simp at hx; omega)
theorem tk_enc {r : Int} (h : good r) (m : List Int) : tk (enc r ++ m) = (r, ((enc r).length : Int)) := by
 unfold good at h
 unfold enc
 split
 ·rename_i h1
  simp [tk, h1]
 ·rename_i h1
  split
  ·rename_i h2
   have e1 : ¬ (192 + r / 64 < 128) := by omega
   have e2 : ¬ (192 + r / 64 < 192) := by omega
   have e3 : 192 + r / 64 < 224 := by omega
   have e4 : tk2 (192 + r / 64) (128 + r % 64) = r := by unfold tk2; omega
   simp only [List.cons_append, List.nil_append, tk, if_neg e1, if_neg e2, if_pos e3, e4]
   rw [if_pos (by omega)]
   simp
  ·rename_i h2
   split
   ·rename_i h3
    have e1 : ¬ (224 + r / 4096 < 128) := by omega
    have e2 : ¬ (224 + r / 4096 < 192) := by omega
    have e3 : ¬ (224 + r / 4096 < 224) := by omega
    have e3' : 224 + r / 4096 < 240 := by omega
    have e4 : tk3 (224 + r / 4096) (128 + r / 64 % 64) (128 + r % 64) = r := by unfold tk3; omega
    simp only [List.cons_append, List.nil_append, tk, if_neg e1, if_neg e2, if_neg e3, if_pos e3', e4]
    rw [if_pos (by omega)]
    simp
   ·rename_i h3
    have e1 : ¬ (240 + r / 262144 < 128) := by omega
    have e2 : ¬ (240 + r / 262144 < 192) := by omega
    have e3 : ¬ (240 + r / 262144 < 224) := by omega
    have e3' : ¬ (240 + r / 262144 < 240) := by omega
    have e3'' : 240 + r / 262144 < 248 := by omega
    have e4 : tk4 (240 + r / 262144) (128 + r / 4096 % 64) (128 + r / 64 % 64) (128 + r % 64) = r := by unfold tk4; omega
    simp only [List.cons_append, List.nil_append, tk, if_neg e1, if_neg e2, if_neg e3, if_neg e3', if_pos e3'', e4]
    rw [if_pos (by omega)]
    simp
/-- What is read was written. -/
theorem tk_inv (l : List Int) (hl : ∀ x ∈ l, 0 ≤ x ∧ x < 256) : tk l = (0, 0) ∨ (good (tk l).1 ∧ (tk l).2 = ((enc (tk l).1).length : Int) ∧ ∃ m, l = enc (tk l).1 ++ m) := by
 match l with
 | [] => exact .inl rfl
 | a :: t =>
  have ha := hl a List.mem_cons_self
  simp only [tk]
  split
  ·rename_i h1
   refine .inr ⟨by unfold good; omega, ?_, t, ?_⟩ <;> simp [enc, h1]
  ·rename_i h1
   split
   ·exact .inl rfl
   ·rename_i h2
    split
    ·rename_i h3
     match t with
     | [] => exact .inl rfl
     | b :: t =>
      simp only
      split
      ·rename_i h4
       have hr : ¬ (tk2 a b < 128) := by omega
       have hr' : tk2 a b < 2048 := by unfold tk2; omega
       refine .inr ⟨by unfold good; omega, ?_, t, ?_⟩
       ·simp [enc, hr, hr']
       ·simp only [enc, if_neg hr, if_pos hr']
        have e1 : 192 + tk2 a b / 64 = a := by unfold tk2; omega
        have e2 : 128 + tk2 a b % 64 = b := by unfold tk2; omega
        rw [e1, e2]
        rfl
      ·exact .inl rfl
    ·rename_i h3
     split
     ·rename_i h4
      match t with
      | [] => exact .inl rfl
      | [_] => exact .inl rfl
      | b :: c :: t =>
       simp only
       split
       ·rename_i h5
        have hr : ¬ (tk3 a b c < 128) := by omega
        have hr' : ¬ (tk3 a b c < 2048) := by omega
        have hr'' : tk3 a b c < 65536 := by unfold tk3; omega
        refine .inr ⟨by unfold good; omega, ?_, t, ?_⟩
        ·simp [enc, hr, hr', hr'']
        ·simp only [enc, if_neg hr, if_neg hr', if_pos hr'']
         have e1 : 224 + tk3 a b c / 4096 = a := by unfold tk3; omega
         have e2 : 128 + tk3 a b c / 64 % 64 = b := by unfold tk3; omega
         have e3 : 128 + tk3 a b c % 64 = c := by unfold tk3; omega
         rw [e1, e2, e3]
         rfl
       ·exact .inl rfl
     ·rename_i h4
      split
      ·rename_i h4'
       match t with
       | [] => exact .inl rfl
       | [_] => exact .inl rfl
       | [_, _] => exact .inl rfl
       | b :: c :: d :: t =>
        simp only
        split
        ·rename_i h5
         have hr : ¬ (tk4 a b c d < 128) := by omega
         have hr' : ¬ (tk4 a b c d < 2048) := by omega
         have hr'' : ¬ (tk4 a b c d < 65536) := by omega
         refine .inr ⟨by unfold good; omega, ?_, t, ?_⟩
         ·simp [enc, hr, hr', hr'']
         ·simp only [enc, if_neg hr, if_neg hr', if_neg hr'']
          have e1 : 240 + tk4 a b c d / 262144 = a := by unfold tk4; omega
          have e2 : 128 + tk4 a b c d / 4096 % 64 = b := by unfold tk4; omega
          have e3 : 128 + tk4 a b c d / 64 % 64 = c := by unfold tk4; omega
          have e4 : 128 + tk4 a b c d % 64 = d := by unfold tk4; omega
          rw [e1, e2, e3, e4]
          rfl
        ·exact .inl rfl
      ·exact .inl rfl
/-- How far the reading goes on. -/
def stp (l : List Int) : Nat := if (tk l).2 = 0 then 1 else (tk l).2.toNat
theorem tk_bound (l : List Int) (hl : ∀ x ∈ l, 0 ≤ x ∧ x < 256) : 0 ≤ (tk l).2 ∧ (tk l).2 ≤ 4 ∧ (tk l).2 ≤ l.length ∧ 0 ≤ (tk l).1 ∧ (tk l).1 ≤ 1114111 := by
 rcases tk_inv l hl with h | ⟨hg, hn, m, hm⟩
 ·rw [h]; simp
 ·have := enc_len (tk l).1
  have h2 : l.length = (enc (tk l).1).length + m.length := by
   have := congrArg List.length hm
   rwa [List.length_append] at this
  unfold good at hg
  omega
theorem stp_pos (l : List Int) (hl : ∀ x ∈ l, 0 ≤ x ∧ x < 256) : 1 ≤ stp l ∧ stp l ≤ 4 := by
 have := tk_bound l hl
 unfold stp
 split <;> omega
theorem stp_pos' (l : List Int) : 1 ≤ stp l := by
 unfold stp
 split
 ·omega
 ·have : 0 ≤ (tk l).2 := by
   match l with
   | [] => simp [tk]
   | a :: t =>
    unfold tk
    (repeat' split) <;> simp
  omega
theorem stp_le {l : List Int} (hl : ∀ x ∈ l, 0 ≤ x ∧ x < 256) (h : l ≠ []) : stp l ≤ l.length := by
 have := tk_bound l hl
 have : 0 < l.length := List.length_pos_iff.2 h
 unfold stp
 split <;> omega
theorem drop_lt {l : List Int} (h : l ≠ []) : (l.drop (stp l)).length < l.length := by
 have := stp_pos' l
 have : 0 < l.length := List.length_pos_iff.2 h
 rw [List.length_drop]
 omega
/-- How many letters. -/
def cnt (l : List Int) : Nat := if _h : l = [] then 0 else cnt (l.drop (stp l)) + 1
termination_by l.length
decreasing_by exact drop_lt (by assumption)
/-- Where the first byte stands that begins none. -/
def bad (l : List Int) : Option Nat := if _h : l = [] then none else if (tk l).2 = 0 then some 0 else (bad (l.drop (stp l))).map (· + stp l)
termination_by l.length
decreasing_by exact drop_lt (by assumption)
theorem cnt_nil : cnt [] = 0 := by rw [cnt]; simp
theorem cnt_step {l : List Int} (h : l ≠ []) : cnt l = cnt (l.drop (stp l)) + 1 := by rw [cnt, dif_neg h]
theorem bad_nil : bad [] = none := by rw [bad]; simp
theorem bad_none {l : List Int} (h : l ≠ []) (h0 : (tk l).2 = 0) : bad l = some 0 := by rw [bad, dif_neg h, if_pos h0]
theorem bad_step {l : List Int} (h : l ≠ []) (h0 : (tk l).2 ≠ 0) : bad l = (bad (l.drop (stp l))).map (· + stp l) := by rw [bad, dif_neg h, if_neg h0]
theorem cnt_le (l : List Int) : cnt l ≤ l.length := by
 by_cases h : l = []
 ·subst h; rw [cnt_nil]; simp
 ·have := cnt_le (l.drop (stp l))
  have := drop_lt h
  rw [cnt_step h]
  omega
termination_by l.length
decreasing_by exact drop_lt h
end Go.Proofs.YtjmmdphkgioooaaDoor.La
end
section
namespace Go.Proofs.YtjmmdphkgioooaaDoor.P
open Go.RowKit Go.Proofs.YtjmmdphkgioooaaDoorW.PrintWords Go.Proofs.YtjmmdphkgioooaaDoorW.PrintLast Go.Proofs.YtjmmdphkgioooaaDoorW.PrintMore
attribute [local go_sem] max2_int min2_int max_two min_two max_three min_three max_four min_four   -- for this text's walks alone
set_option linter.unusedVariables false
set_option linter.unusedSimpArgs false
def errW : Option Int → Value
 | none => .nilIface
 | some c => .iface 0 (.int .i64 c)
theorem errW_none : errW none = .nilIface := rfl
theorem errW_some (c : Int) : errW (some c) = .iface 0 (.int .i64 c) := rfl
/-! #### struct type 57 -/
structure S57 where
 f0 : ByteArray
 f1 : Int
def z57 : S57 := ⟨(⟨#[]⟩ : ByteArray), (0 : Int)⟩
def k57 : Kd S57 := Kd.iso (Kd.pair Kd.string (Kd.int .i64)) (fun x : S57 => (x.f0, x.f1))
theorem k57_open {w : World} {x : S57} {cs : List Value} (h : k57.K w x cs) : cs = [.string x.f0, .int .i64 x.f1] := by
 obtain ⟨_, _, rfl, rfl, rfl⟩ := h
 exact rfl
theorem k57_mkM (w : World) (base : Nat) (ok : Nat → Prop) (x : S57)  : k57.M w base ok x [.string x.f0, .int .i64 x.f1] := ⟨[.string x.f0], [.int .i64 x.f1], rfl, rfl, rfl⟩
def rd_T57 (xs : List S57) (i : Int) : S57 := xs.getD i.toNat z57
theorem at_T57 {w : World} {A : Option Addr} {n : Nat} {xs : List S57} (h : Kd.C k57 w A n xs) (i : Int) (h0 : 0 ≤ i) (h1 : i < n) : ∃ ad , A = some ad ∧ w.cell? (ad.add (i.toNat * 2)) = some (.string (rd_T57 xs i).f0) ∧ w.cell? ⟨(ad.add (i.toNat * 2)).block, (ad.add (i.toNat * 2)).off + 1, none⟩ = some (.int .i64 (rd_T57 xs i).f1) := by
 obtain ⟨ad, c, e, _, hK, hc0⟩ := Kd.C_get h z57 i h0 h1
 have hc : ∀ j u, c[j]? = some u → w.cell? (ad.add (i.toNat * 2 + j)) = some u := hc0
 obtain rfl := k57_open hK
 exact ⟨ad, e, hc 0 _ rfl, by rw [← add_field _ _ 1 (by omega)]; exact hc 1 _ rfl⟩
end Go.Proofs.YtjmmdphkgioooaaDoor.P
end
section
namespace Go.Proofs.YtjmmdphkgioooaaDoor.P
open Go.RowKit Go.Proofs.YtjmmdphkgioooaaDoorW.PrintWords Go.Proofs.YtjmmdphkgioooaaDoorW.PrintLast Go.Proofs.YtjmmdphkgioooaaDoorW.PrintMore
attribute [local go_sem] max2_int min2_int max_two min_two max_three min_three max_four min_four   -- for this text's walks alone
set_option linter.unusedVariables false
set_option linter.unusedSimpArgs false
/-! ### utf_begins: function 39 -/
def utf_begins.f (a0 : Int) : Option (Int × Int) := if a0 < 128 then (some (1, wrap64 (a0))) else (if a0 < 192 then (some (0, 0)) else (if a0 < 224 then (some (2, wrap64 (Go.bits .andNot .u8 a0 192))) else (if a0 < 240 then (some (3, wrap64 (Go.bits .andNot .u8 a0 224))) else (if a0 < 248 then (some (4, wrap64 (Go.bits .andNot .u8 a0 240))) else (some (0, 0))))))
set_option maxHeartbeats 8000000 in
set_option maxRecDepth 100000 in
theorem utf_begins.calls (a0 : Int) (r1 : Int) (r2 : Int) (w : World) (h : utf_begins.f a0 = some (r1, r2)) :
  Calls Tryd.prog 39 #[.int .u8 a0] w fun e w' => e = .returned (.tuple #[.int .i64 r1, .int .i64 r2]) ∧ Drawn0 w w' := by
 have H : (if a0 < 128 then (some (1, wrap64 (a0))) else (if a0 < 192 then (some (0, 0)) else (if a0 < 224 then (some (2, wrap64 (Go.bits .andNot .u8 a0 192))) else (if a0 < 240 then (some (3, wrap64 (Go.bits .andNot .u8 a0 224))) else (if a0 < 248 then (some (4, wrap64 (Go.bits .andNot .u8 a0 240))) else (some (0, 0))))))) = some (r1, r2) := h
 clear h
 by_cases c2 : a0 < 128
 ·rw [if_pos c2] at H
  have c2b0 : decide (a0 < 128) = true := decide_eq_true c2
  clear c2
  simp only [Option.some.injEq, Prod.mk.injEq] at H
  obtain ⟨rfl, rfl⟩ := H
  go_enter Tryd.func39, Tryd.ntmps39
  go_wp2
  go_ret2
  exact ⟨by first | rfl | (simp; done) | (simp [*]; done), by repeat (first | exact Drawn0.refl _ | apply Drawn0.step)⟩
 ·rw [if_neg c2] at H
  have c2b0 : decide (a0 < 128) = false := decide_eq_false c2
  clear c2
  by_cases c3 : a0 < 192
  ·rw [if_pos c3] at H
   have c3b0 : decide (a0 < 192) = true := decide_eq_true c3
   clear c3
   simp only [Option.some.injEq, Prod.mk.injEq] at H
   obtain ⟨rfl, rfl⟩ := H
   go_enter Tryd.func39, Tryd.ntmps39
   go_wp2
   go_ret2
   exact ⟨by first | rfl | (simp; done) | (simp [*]; done), by repeat (first | exact Drawn0.refl _ | apply Drawn0.step)⟩
  ·rw [if_neg c3] at H
   have c3b0 : decide (a0 < 192) = false := decide_eq_false c3
   clear c3
   by_cases c4 : a0 < 224
   ·rw [if_pos c4] at H
    have c4b0 : decide (a0 < 224) = true := decide_eq_true c4
    clear c4
    simp only [Option.some.injEq, Prod.mk.injEq] at H
    obtain ⟨rfl, rfl⟩ := H
    go_enter Tryd.func39, Tryd.ntmps39
    go_wp2
    go_ret2
    exact ⟨by first | rfl | (simp; done) | (simp [*]; done), by repeat (first | exact Drawn0.refl _ | apply Drawn0.step)⟩
   ·rw [if_neg c4] at H
    have c4b0 : decide (a0 < 224) = false := decide_eq_false c4
    clear c4
    by_cases c5 : a0 < 240
    ·rw [if_pos c5] at H
     have c5b0 : decide (a0 < 240) = true := decide_eq_true c5
     clear c5
     simp only [Option.some.injEq, Prod.mk.injEq] at H
     obtain ⟨rfl, rfl⟩ := H
     go_enter Tryd.func39, Tryd.ntmps39
     go_wp2
     go_ret2
     exact ⟨by first | rfl | (simp; done) | (simp [*]; done), by repeat (first | exact Drawn0.refl _ | apply Drawn0.step)⟩
    ·rw [if_neg c5] at H
     have c5b0 : decide (a0 < 240) = false := decide_eq_false c5
     clear c5
     by_cases c6 : a0 < 248
     ·rw [if_pos c6] at H
      have c6b0 : decide (a0 < 248) = true := decide_eq_true c6
      clear c6
      simp only [Option.some.injEq, Prod.mk.injEq] at H
      obtain ⟨rfl, rfl⟩ := H
      go_enter Tryd.func39, Tryd.ntmps39
      go_wp2
      go_ret2
      exact ⟨by first | rfl | (simp; done) | (simp [*]; done), by repeat (first | exact Drawn0.refl _ | apply Drawn0.step)⟩
     ·rw [if_neg c6] at H
      have c6b0 : decide (a0 < 248) = false := decide_eq_false c6
      clear c6
      simp only [Option.some.injEq, Prod.mk.injEq] at H
      obtain ⟨rfl, rfl⟩ := H
      go_enter Tryd.func39, Tryd.ntmps39
      go_wp2
      go_ret2
      exact ⟨by first | rfl | (simp; done) | (simp [*]; done), by repeat (first | exact Drawn0.refl _ | apply Drawn0.step)⟩
end Go.Proofs.YtjmmdphkgioooaaDoor.P
end
section
namespace Go.Proofs.YtjmmdphkgioooaaDoor.P
open Go.RowKit Go.Proofs.YtjmmdphkgioooaaDoorW.PrintWords Go.Proofs.YtjmmdphkgioooaaDoorW.PrintLast Go.Proofs.YtjmmdphkgioooaaDoorW.PrintMore
attribute [local go_sem] max2_int min2_int max_two min_two max_three min_three max_four min_four   -- for this text's walks alone
set_option linter.unusedVariables false
set_option linter.unusedSimpArgs false
/-! ### utf_Good: function 40 -/
def utf_Good.f (a0 : Int) : Option (Bool) := if a0 ≥ 0 then (if a0 ≤ 1114111 then (if a0 < 55296 then (some true) else (some (decide (a0 > 57343)))) else (some false)) else (some false)
set_option maxHeartbeats 8000000 in
set_option maxRecDepth 100000 in
theorem utf_Good.calls (a0 : Int) (r : Bool) (w : World) (h : utf_Good.f a0 = some r) :
  Calls Tryd.prog 40 #[.int .i64 a0] w fun e w' => e = .returned (.bool r) ∧ Drawn0 w w' := by
 have H : (if a0 ≥ 0 then (if a0 ≤ 1114111 then (if a0 < 55296 then (some true) else (some (decide (a0 > 57343)))) else (some false)) else (some false)) = some r := h
 clear h
 by_cases c2 : a0 ≥ 0
 ·rw [if_pos c2] at H
  have c2b0 : decide (0 ≤ a0) = true := decide_eq_true c2
  clear c2
  by_cases c3 : a0 ≤ 1114111
  ·rw [if_pos c3] at H
   have c3b0 : decide (a0 ≤ 1114111) = true := decide_eq_true c3
   clear c3
   by_cases c4 : a0 < 55296
   ·rw [if_pos c4] at H
    have c4b0 : decide (a0 < 55296) = true := decide_eq_true c4
    clear c4
    obtain rfl := Option.some.inj H
    go_enter Tryd.func40, Tryd.ntmps40
    go_wp2
    go_ret
    exact ⟨by first | rfl | (simp; done) | (simp [*]; done), by repeat (first | exact Drawn0.refl _ | apply Drawn0.step)⟩
   ·rw [if_neg c4] at H
    have c4b0 : decide (a0 < 55296) = false := decide_eq_false c4
    clear c4
    obtain rfl := Option.some.inj H
    go_enter Tryd.func40, Tryd.ntmps40
    go_wp2
    go_ret
    exact ⟨by first | rfl | (simp; done) | (simp [*]; done), by repeat (first | exact Drawn0.refl _ | apply Drawn0.step)⟩
  ·rw [if_neg c3] at H
   have c3b0 : decide (a0 ≤ 1114111) = false := decide_eq_false c3
   clear c3
   obtain rfl := Option.some.inj H
   go_enter Tryd.func40, Tryd.ntmps40
   go_wp2
   go_ret
   exact ⟨by first | rfl | (simp; done) | (simp [*]; done), by repeat (first | exact Drawn0.refl _ | apply Drawn0.step)⟩
 ·rw [if_neg c2] at H
  have c2b0 : decide (0 ≤ a0) = false := decide_eq_false c2
  clear c2
  obtain rfl := Option.some.inj H
  go_enter Tryd.func40, Tryd.ntmps40
  go_wp2
  go_ret
  exact ⟨by first | rfl | (simp; done) | (simp [*]; done), by repeat (first | exact Drawn0.refl _ | apply Drawn0.step)⟩
end Go.Proofs.YtjmmdphkgioooaaDoor.P
end
section
namespace Go.Proofs.YtjmmdphkgioooaaDoor.P
open Go.RowKit Go.Proofs.YtjmmdphkgioooaaDoorW.PrintWords Go.Proofs.YtjmmdphkgioooaaDoorW.PrintLast Go.Proofs.YtjmmdphkgioooaaDoorW.PrintMore
attribute [local go_sem] max2_int min2_int max_two min_two max_three min_three max_four min_four   -- for this text's walks alone
set_option linter.unusedVariables false
set_option linter.unusedSimpArgs false
/-! ### utf_size: function 41 -/
def utf_size.f (a0 : Int) : Option (Int) := if a0 < 128 then (some 1) else (if a0 < 2048 then (some 2) else (if a0 < 65536 then (some 3) else (some 4)))
set_option maxHeartbeats 8000000 in
set_option maxRecDepth 100000 in
theorem utf_size.calls (a0 : Int) (r : Int) (w : World) (h : utf_size.f a0 = some r) :
  Calls Tryd.prog 41 #[.int .i64 a0] w fun e w' => e = .returned (.int .i64 r) ∧ Drawn0 w w' := by
 have H : (if a0 < 128 then (some 1) else (if a0 < 2048 then (some 2) else (if a0 < 65536 then (some 3) else (some 4)))) = some r := h
 clear h
 by_cases c2 : a0 < 128
 ·rw [if_pos c2] at H
  have c2b0 : decide (a0 < 128) = true := decide_eq_true c2
  clear c2
  obtain rfl := Option.some.inj H
  go_enter Tryd.func41, Tryd.ntmps41
  go_wp2
  go_ret
  exact ⟨by first | rfl | (simp; done) | (simp [*]; done), by repeat (first | exact Drawn0.refl _ | apply Drawn0.step)⟩
 ·rw [if_neg c2] at H
  have c2b0 : decide (a0 < 128) = false := decide_eq_false c2
  clear c2
  by_cases c3 : a0 < 2048
  ·rw [if_pos c3] at H
   have c3b0 : decide (a0 < 2048) = true := decide_eq_true c3
   clear c3
   obtain rfl := Option.some.inj H
   go_enter Tryd.func41, Tryd.ntmps41
   go_wp2
   go_ret
   exact ⟨by first | rfl | (simp; done) | (simp [*]; done), by repeat (first | exact Drawn0.refl _ | apply Drawn0.step)⟩
  ·rw [if_neg c3] at H
   have c3b0 : decide (a0 < 2048) = false := decide_eq_false c3
   clear c3
   by_cases c4 : a0 < 65536
   ·rw [if_pos c4] at H
    have c4b0 : decide (a0 < 65536) = true := decide_eq_true c4
    clear c4
    obtain rfl := Option.some.inj H
    go_enter Tryd.func41, Tryd.ntmps41
    go_wp2
    go_ret
    exact ⟨by first | rfl | (simp; done) | (simp [*]; done), by repeat (first | exact Drawn0.refl _ | apply Drawn0.step)⟩
   ·rw [if_neg c4] at H
    have c4b0 : decide (a0 < 65536) = false := decide_eq_false c4
    clear c4
    obtain rfl := Option.some.inj H
    go_enter Tryd.func41, Tryd.ntmps41
    go_wp2
    go_ret
    exact ⟨by first | rfl | (simp; done) | (simp [*]; done), by repeat (first | exact Drawn0.refl _ | apply Drawn0.step)⟩
end Go.Proofs.YtjmmdphkgioooaaDoor.P
end
section
namespace Go.Proofs.YtjmmdphkgioooaaDoor.P
open Go.RowKit Go.Proofs.YtjmmdphkgioooaaDoorW.PrintWords Go.Proofs.YtjmmdphkgioooaaDoorW.PrintLast Go.Proofs.YtjmmdphkgioooaaDoorW.PrintMore
attribute [local go_sem] max2_int min2_int max_two min_two max_three min_three max_four min_four   -- for this text's walks alone
set_option linter.unusedVariables false
set_option linter.unusedSimpArgs false
/-! ### utf_Take: function 30 -/
mutual
def utf_Take.j0 : Nat → ByteArray → Int → Int → Bool → Option (Int × Int)
 | 0, _, _, _, _ => none
 | k + 1, x0, x4, x5, x22 => if x22 = true then (some (0, 0)) else (utf_Take.l0 k x0 x4 x5 1)
def utf_Take.l0 : Nat → ByteArray → Int → Int → Int → Option (Int × Int)
 | 0, _, _, _, _ => none
 | k + 1, x0, x4, x5, x6 => if x6 < x4 then (if 0 ≤ x6 then (if x6 < (x0.size : Int) then (if (Go.bits .and .u8 (bt x0 x6) 192) = 128 then (utf_Take.l0 k x0 x4 (Go.bits .or .i64 (wrap64 (x5 * 64)) (wrap64 (Go.bits .and .u8 (bt x0 x6) 63))) (wrap64 (x6 + 1))) else (some (0, 0))) else (none)) else (none)) else ((utf_Good.f x5).bind fun t210 => (if t210 = true then ((utf_size.f x5).bind fun t211 => (if t211 = x4 then (some (x5, x4)) else (some (0, 0)))) else (some (0, 0))))
end
def utf_Take.f (k : Nat) (a0 : ByteArray) : Option (Int × Int) := if a0.toList = ([] : List UInt8) then (some (0, 0)) else (if 0 < (a0.size : Int) then ((utf_begins.f (bt a0 0)).bind fun bt208 => (if bt208.1 = 0 then (utf_Take.j0 k a0 bt208.1 bt208.2 true) else (utf_Take.j0 k a0 bt208.1 bt208.2 (decide (bt208.1 > (a0.size : Int)))))) else (none))
set_option maxHeartbeats 8000000 in
set_option maxRecDepth 100000 in
theorem utf_Take.calls (k : Nat) (a0 : ByteArray) (r1 : Int) (r2 : Int) (w : World) (h : utf_Take.f k a0 = some (r1, r2)) :
  Calls Tryd.prog 30 #[.string a0] w fun e w' => e = .returned (.tuple #[.int .i64 r1, .int .i64 r2]) ∧ Drawn0 w w' := by
 have H : (if a0.toList = ([] : List UInt8) then (some (0, 0)) else (if 0 < (a0.size : Int) then ((utf_begins.f (bt a0 0)).bind fun bt208 => (if bt208.1 = 0 then (utf_Take.j0 k a0 bt208.1 bt208.2 true) else (utf_Take.j0 k a0 bt208.1 bt208.2 (decide (bt208.1 > (a0.size : Int)))))) else (none))) = some (r1, r2) := h
 clear h
 by_cases c2 : a0.toList = ([] : List UInt8)
 ·rw [if_pos c2] at H
  have c2b0 : (a0.toList == ([] : List UInt8)) = true := beq_iff_eq.mpr c2
  have c2b1 : (a0.toList != ([] : List UInt8)) = false := bne_eq_false_iff_eq.mpr c2
  clear c2
  simp only [Option.some.injEq, Prod.mk.injEq] at H
  obtain ⟨rfl, rfl⟩ := H
  go_enter Tryd.func30, Tryd.ntmps30
  go_wp2
  go_ret2
  exact ⟨by first | rfl | (simp; done) | (simp [*]; done), by repeat (first | exact Drawn0.refl _ | apply Drawn0.step)⟩
 ·rw [if_neg c2] at H
  have c2b0 : (a0.toList == ([] : List UInt8)) = false := beq_eq_false_iff_ne.mpr c2
  have c2b1 : (a0.toList != ([] : List UInt8)) = true := bne_iff_ne.mpr c2
  by_cases c3 : 0 < (a0.size : Int)
  ·rw [if_pos c3] at H
   have c3b0 : decide (0 < (a0.size : Int)) = true := decide_eq_true c3
   have c3b1 : decide (0 < a0.size) = true := decide_eq_true (by omega)
   clear c3
   replace H := Option.bind_eq_some_iff.mp H
   obtain ⟨⟨t208, t209⟩, A50, H⟩ := H
   replace H : (if t208 = 0 then (utf_Take.j0 k a0 t208 t209 true) else (utf_Take.j0 k a0 t208 t209 (decide (t208 > (a0.size : Int))))) = some (r1, r2) := H
   have A5 := Aside0.mk A50
   clear A50
   have HC6 := Aside0.mk H
   clear H
   have p4 : 0 ≤ (0 : Int) := (by omega)
   have q4 : 0 < a0.size := (by have : (0 : Int) < (a0.size : Int) := of_decide_eq_true (by first | (with_reducible assumption) | assumption); omega)
   have hx4 : ∀ h : 0 < a0.size, ((a0[0]'h).toNat : Int) = bt a0 0 := bt_at a0 0
   clear p4
   have qi4 : (0 < (a0.size : Int)) = True := eq_true (of_decide_eq_true (by first | (with_reducible assumption) | assumption))
   replace q4 := eq_true q4
   go_enter Tryd.func30, Tryd.ntmps30
   go_upto_region 4 with (first | ((with_reducible refine gate_callee (f := 39) rfl ?_); refine goesL_ (some 12) rfl rfl Tryd.func39 (by kernel_rfl) rfl #[.int .u8 (bt a0 0)] rfl (by (try simp only [List.map_toArray, List.map_cons, List.map_nil]); first | done | rfl | (simp only [List.length_drop, List.length_take]; rfl)) ?_; (with_reducible refine (utf_begins.calls (bt a0 0) t208 t209 _ A5.out).mono ?_); rintro e w' ⟨rfl, ⟨nd, rfl⟩⟩; refine ⟨_, rfl, ?_⟩))
   (try simp only [Act.put, List.setIfInBounds_toArray, List.set_cons_zero, List.set_cons_succ])
   go_cut [22] (fun v22 wc => ∃ (kq : Nat) (x22_5 : Bool), v22 = .bool x22_5 ∧ Aside0 (utf_Take.j0 kq a0 t208 t209 x22_5 = some (r1, r2)) ∧ Aside0 (kq ≤ k) ∧ Drawn0 w wc)
   case first =>
    have H := HC6.out
    clear HC6
    by_cases c7 : t208 = 0
    ·rw [if_pos c7] at H
     have c7b0 : (t208 == 0) = true := beq_iff_eq.mpr c7
     have c7b1 : (t208 != 0) = false := bne_eq_false_iff_eq.mpr c7
     clear c7
     (first | rw [c7b0] | (simp only [i64_w, i32_w]; rw [c7b0]) | skip)
     have H' := Aside0.mk H
     clear H
     go_wp2
     go_meet
     case rel => exact ⟨_, (true), (by first | rfl | (simp; done) | (simp [*]; done)), H', ⟨by first | omega | exact Nat.le_refl _⟩, by repeat (first | exact Drawn0.refl _ | apply Drawn0.step)⟩
    ·rw [if_neg c7] at H
     have c7b0 : (t208 == 0) = false := beq_eq_false_iff_ne.mpr c7
     have c7b1 : (t208 != 0) = true := bne_iff_ne.mpr c7
     (first | rw [c7b0] | (simp only [i64_w, i32_w]; rw [c7b0]) | skip)
     have H' := Aside0.mk H
     clear H
     go_wp2
     go_meet
     case rel => exact ⟨_, (decide (t208 > (a0.size : Int))), (by first | rfl | (simp; done) | (simp [*]; done)), H', ⟨by first | omega | exact Nat.le_refl _⟩, by repeat (first | exact Drawn0.refl _ | apply Drawn0.step)⟩
   case rest =>
    clear HC6
    try clear c2
    try clear c2b0
    try clear c2b1
    try clear p2
    try clear c3
    try clear c3b0
    try clear c3b1
    try clear p4
    try clear q4
    try clear hx4
    try clear qi4
    try clear c7
    try clear c7b0
    try clear c7b1
    try clear p4
    try clear q4
    obtain ⟨kq, x22_5, rfl, HA, HJ5, ⟨mc5, rfl⟩⟩ := hcut
    cases kq with
    | zero => exact absurd HA.out (by simp [utf_Take.j0])
    | succ kj5 =>
     have H := HA.out
     clear HA
     simp only [utf_Take.j0] at H
     by_cases c8 : x22_5 = true
     ·subst c8
      have H1 : (some (0, 0)) = some (r1, r2) := by rw [if_pos rfl] at H; exact H
      clear H
      have H := H1
      clear H1
      simp only [Option.some.injEq, Prod.mk.injEq] at H
      obtain ⟨rfl, rfl⟩ := H
      go_wp2
      go_ret2
      exact ⟨by first | rfl | (simp; done) | (simp [*]; done), by repeat (first | exact Drawn0.refl _ | apply Drawn0.step)⟩
     ·replace c8 := Bool.eq_false_iff.mpr c8
      subst c8
      have H1 : (utf_Take.l0 kj5 a0 t208 t209 1) = some (r1, r2) := by rw [if_neg (show ¬ (false = true) by decide)] at H; exact H
      clear H
      have H := H1
      clear H1
      have H' := Aside0.mk H
      clear H
      go_wp2
      go_loopg [5, 6] kj5 (fun kq v5 v6 w' => ∃ (x5_2 : Int) (x6_2 : Int), v5 = .int .i64 x5_2 ∧ v6 = .int .i64 x6_2 ∧ Aside0 (utf_Take.l0 kq a0 t208 x5_2 x6_2 = some (r1, r2)) ∧ Aside0 (kq ≤ kj5) ∧ Drawn0 w w')
      case atStart => exact ⟨(t209), (1), (by first | rfl | (simp; done) | (simp [*]; done)), (by first | rfl | (simp; done) | (simp [*]; done)), H', ⟨Nat.le_refl _⟩, by repeat (first | exact Drawn0.refl _ | apply Drawn0.step)⟩
      case round =>
       clear H'
       try clear c2
       try clear c2b0
       try clear c2b1
       try clear p2
       try clear c3
       try clear c3b0
       try clear c3b1
       try clear p4
       try clear q4
       try clear hx4
       try clear qi4
       try clear c5
       try clear c7
       try clear c7b0
       try clear c7b1
       try clear c8
       try clear p2
       try clear p4
       try clear q4
       obtain ⟨x5_2, x6_2, rfl, rfl, HA, HK2, ⟨m2, rfl⟩⟩ := hrel
       cases gk with
       | zero => exact absurd HA.out (by simp [utf_Take.l0])
       | succ k2 =>
        have H := HA.out
        clear HA
        simp only [utf_Take.l0] at H
        by_cases c9 : x6_2 < t208
        ·rw [if_pos c9] at H
         have c9b0 : decide (x6_2 < t208) = true := decide_eq_true c9
         clear c9
         by_cases c10 : 0 ≤ x6_2
         ·rw [if_pos c10] at H
          have c10b0 : decide (0 ≤ x6_2) = true := decide_eq_true c10
          clear c10
          by_cases c11 : x6_2 < (a0.size : Int)
          ·rw [if_pos c11] at H
           have c11b0 : decide (x6_2 < (a0.size : Int)) = true := decide_eq_true c11
           clear c11
           by_cases c13 : (Go.bits .and .u8 (bt a0 x6_2) 192) = 128
           ·rw [if_pos c13] at H
            have c13b0 : ((Go.bits .and .u8 (bt a0 x6_2) 192) == 128) = true := beq_iff_eq.mpr c13
            have c13b1 : ((Go.bits .and .u8 (bt a0 x6_2) 192) != 128) = false := bne_eq_false_iff_eq.mpr c13
            clear c13
            have H' := Aside0.mk H
            clear H
            have p12 : 0 ≤ (x6_2 : Int) := of_decide_eq_true (by first | (with_reducible assumption) | assumption)
            have q12 : x6_2 < (a0.size : Int) := of_decide_eq_true (by first | (with_reducible assumption) | assumption)
            have hx12 := bt_at a0 x6_2
            replace p12 := eq_true p12
            replace q12 := eq_true q12
            have p14 : 0 ≤ (x6_2 : Int) := of_decide_eq_true (by first | (with_reducible assumption) | assumption)
            have q14 : x6_2 < (a0.size : Int) := of_decide_eq_true (by first | (with_reducible assumption) | assumption)
            have hx14 := bt_at a0 x6_2
            replace p14 := eq_true p14
            replace q14 := eq_true q14
            go_wp2
            go_roundg k2
            case measure => have := HJ5.out; have := HK2.out; omega
            case rel => exact ⟨(Go.bits .or .i64 (wrap64 (x5_2 * 64)) (wrap64 (Go.bits .and .u8 (bt a0 x6_2) 63))), (wrap64 (x6_2 + 1)), (by first | rfl | (simp; done) | (simp [*]; done)), (by first | rfl | (simp; done) | (simp [*]; done)), H', ⟨by have := HJ5.out; have := HK2.out; omega⟩, by repeat (first | exact Drawn0.refl _ | apply Drawn0.step)⟩
           ·rw [if_neg c13] at H
            have c13b0 : ((Go.bits .and .u8 (bt a0 x6_2) 192) == 128) = false := beq_eq_false_iff_ne.mpr c13
            have c13b1 : ((Go.bits .and .u8 (bt a0 x6_2) 192) != 128) = true := bne_iff_ne.mpr c13
            simp only [Option.some.injEq, Prod.mk.injEq] at H
            obtain ⟨rfl, rfl⟩ := H
            have p12 : 0 ≤ (x6_2 : Int) := of_decide_eq_true (by first | (with_reducible assumption) | assumption)
            have q12 : x6_2 < (a0.size : Int) := of_decide_eq_true (by first | (with_reducible assumption) | assumption)
            have hx12 := bt_at a0 x6_2
            replace p12 := eq_true p12
            replace q12 := eq_true q12
            go_wp2
            go_ret2
            exact ⟨by first | rfl | (simp; done) | (simp [*]; done), by repeat (first | exact Drawn0.refl _ | apply Drawn0.step)⟩
          ·rw [if_neg c11] at H
           exact absurd H (by simp)
         ·rw [if_neg c10] at H
          exact absurd H (by simp)
        ·rw [if_neg c9] at H
         have c9b0 : decide (x6_2 < t208) = false := decide_eq_false c9
         clear c9
         replace H := Option.bind_eq_some_iff.mp H
         obtain ⟨t210, A150, H⟩ := H
         replace H : (if t210 = true then ((utf_size.f x5_2).bind fun t211 => (if t211 = t208 then (some (x5_2, t208)) else (some (0, 0)))) else (some (0, 0))) = some (r1, r2) := H
         have A15 := Aside0.mk A150
         clear A150
         by_cases c16 : t210 = true
         ·subst c16
          have H1 : ((utf_size.f x5_2).bind fun t211 => (if t211 = t208 then (some (x5_2, t208)) else (some (0, 0)))) = some (r1, r2) := by rw [if_pos rfl] at H; exact H
          clear H
          have H := H1
          clear H1
          replace H := Option.bind_eq_some_iff.mp H
          obtain ⟨t211, A170, H⟩ := H
          replace H : (if t211 = t208 then (some (x5_2, t208)) else (some (0, 0))) = some (r1, r2) := H
          have A17 := Aside0.mk A170
          clear A170
          by_cases c18 : t211 = t208
          ·rw [if_pos c18] at H
           have c18b0 : (t211 == t208) = true := beq_iff_eq.mpr c18
           have c18b1 : (t211 != t208) = false := bne_eq_false_iff_eq.mpr c18
           clear c18
           simp only [Option.some.injEq, Prod.mk.injEq] at H
           obtain ⟨rfl, rfl⟩ := H
           go_wp2_with (first | ((with_reducible refine gate_callee (f := 40) rfl ?_); refine goesL_ (some 42) rfl rfl Tryd.func40 (by kernel_rfl) rfl #[.int .i64 x5_2] rfl (by (try simp only [List.map_toArray, List.map_cons, List.map_nil]); first | done | rfl | (simp only [List.length_drop, List.length_take]; rfl)) ?_; (with_reducible refine (utf_Good.calls x5_2 true _ A15.out).mono ?_); rintro e w' ⟨rfl, ⟨nd, rfl⟩⟩; refine ⟨_, rfl, ?_⟩) | (go_at_call 41; (with_reducible refine (utf_size.calls x5_2 t211 _ A17.out).mono ?_); rintro e w' ⟨rfl, ⟨nd, rfl⟩⟩))
           go_ret2
           exact ⟨by first | rfl | (simp; done) | (simp [*]; done), by repeat (first | exact Drawn0.refl _ | apply Drawn0.step)⟩
          ·rw [if_neg c18] at H
           have c18b0 : (t211 == t208) = false := beq_eq_false_iff_ne.mpr c18
           have c18b1 : (t211 != t208) = true := bne_iff_ne.mpr c18
           simp only [Option.some.injEq, Prod.mk.injEq] at H
           obtain ⟨rfl, rfl⟩ := H
           go_wp2_with (first | ((with_reducible refine gate_callee (f := 40) rfl ?_); refine goesL_ (some 42) rfl rfl Tryd.func40 (by kernel_rfl) rfl #[.int .i64 x5_2] rfl (by (try simp only [List.map_toArray, List.map_cons, List.map_nil]); first | done | rfl | (simp only [List.length_drop, List.length_take]; rfl)) ?_; (with_reducible refine (utf_Good.calls x5_2 true _ A15.out).mono ?_); rintro e w' ⟨rfl, ⟨nd, rfl⟩⟩; refine ⟨_, rfl, ?_⟩) | (go_at_call 41; (with_reducible refine (utf_size.calls x5_2 t211 _ A17.out).mono ?_); rintro e w' ⟨rfl, ⟨nd, rfl⟩⟩))
           go_ret2
           exact ⟨by first | rfl | (simp; done) | (simp [*]; done), by repeat (first | exact Drawn0.refl _ | apply Drawn0.step)⟩
         ·replace c16 := Bool.eq_false_iff.mpr c16
          subst c16
          have H1 : (some (0, 0)) = some (r1, r2) := by rw [if_neg (show ¬ (false = true) by decide)] at H; exact H
          clear H
          have H := H1
          clear H1
          simp only [Option.some.injEq, Prod.mk.injEq] at H
          obtain ⟨rfl, rfl⟩ := H
          go_wp2_with (first | ((with_reducible refine gate_callee (f := 40) rfl ?_); refine goesL_ (some 42) rfl rfl Tryd.func40 (by kernel_rfl) rfl #[.int .i64 x5_2] rfl (by (try simp only [List.map_toArray, List.map_cons, List.map_nil]); first | done | rfl | (simp only [List.length_drop, List.length_take]; rfl)) ?_; (with_reducible refine (utf_Good.calls x5_2 false _ A15.out).mono ?_); rintro e w' ⟨rfl, ⟨nd, rfl⟩⟩; refine ⟨_, rfl, ?_⟩))
          go_ret2
          exact ⟨by first | rfl | (simp; done) | (simp [*]; done), by repeat (first | exact Drawn0.refl _ | apply Drawn0.step)⟩
  ·rw [if_neg c3] at H
   exact absurd H (by simp)
end Go.Proofs.YtjmmdphkgioooaaDoor.P
end
section
namespace Go.Proofs.YtjmmdphkgioooaaDoor.La
open Go.RowKit Go.Proofs.YtjmmdphkgioooaaDoor.P Go.Proofs.YtjmmdphkgioooaaDoorW.PrintWords Go.Proofs.YtjmmdphkgioooaaDoorW.PrintLast Go.Proofs.YtjmmdphkgioooaaDoorW.PrintMore
theorem wraps_i64 (n : Int) (h₀ : 0 ≤ n) (h₁ : n < 2 ^ 62) : IntKind.i64.wrap n = n := by rw [IntKind.wrap_i64]; omega
theorem i64_or6 {x y : Int} (hx₀ : 0 ≤ x) (hx : x % 64 = 0) (hx₁ : x < 2 ^ 62) (h₀ : 0 ≤ y) (h₁ : y < 64) : Go.bits .or .i64 x y = x + y :=
 bits_join .i64 62 (by decide) wraps_i64 6 x y hx₀ hx hx₁ h₀ h₁ (by omega)
theorem byte_cont : ∀ b : Fin 256, decide (Go.bits .and .u8 (b.val : Int) 192 = 128) = decide (128 ≤ b.val ∧ b.val < 192) := by decide +kernel
theorem cont_iff {b : Int} (h0 : 0 ≤ b) (h1 : b < 256) : Go.bits .and .u8 b 192 = 128 ↔ 128 ≤ b ∧ b < 192 := by
 obtain ⟨n, rfl⟩ := Int.eq_ofNat_of_zero_le h0
 have := decide_eq_decide.1 (byte_cont ⟨n, by omega⟩)
 simp only at this
 rw [this]
 omega
theorem byte_not : ∀ b : Fin 256, (192 ≤ b.val → b.val < 224 → Go.bits .andNot .u8 (b.val : Int) 192 = (b.val : Int) - 192) ∧ (224 ≤ b.val → b.val < 240 → Go.bits .andNot .u8 (b.val : Int) 224 = (b.val : Int) - 224) ∧ (240 ≤ b.val → b.val < 248 → Go.bits .andNot .u8 (b.val : Int) 240 = (b.val : Int) - 240) := by
 decide +kernel
theorem not192 {b : Int} (h0 : 192 ≤ b) (h1 : b < 224) : Go.bits .andNot .u8 b 192 = b - 192 := by
 obtain ⟨n, rfl⟩ := Int.eq_ofNat_of_zero_le (show 0 ≤ b by omega)
 exact (byte_not ⟨n, by omega⟩).1 (by simp only; omega) (by simp only; omega)
theorem not224 {b : Int} (h0 : 224 ≤ b) (h1 : b < 240) : Go.bits .andNot .u8 b 224 = b - 224 := by
 obtain ⟨n, rfl⟩ := Int.eq_ofNat_of_zero_le (show 0 ≤ b by omega)
 exact (byte_not ⟨n, by omega⟩).2.1 (by simp only; omega) (by simp only; omega)
theorem not240 {b : Int} (h0 : 240 ≤ b) (h1 : b < 248) : Go.bits .andNot .u8 b 240 = b - 240 := by
 obtain ⟨n, rfl⟩ := Int.eq_ofNat_of_zero_le (show 0 ≤ b by omega)
 exact (byte_not ⟨n, by omega⟩).2.2 (by simp only; omega) (by simp only; omega)
theorem good_eq (r : Int) : utf_Good.f r = some (decide (good r)) := by
 unfold utf_Good.f
 split
 ·split
  ·split
   ·rw [decide_eq_true (good_iff.2 (by omega))]
   ·exact congrArg some (decide_eq_decide.2 (by rw [good_iff]; omega))
  ·rw [decide_eq_false (fun h => by rw [good_iff] at h; omega)]
 ·rw [decide_eq_false (fun h => by rw [good_iff] at h; omega)]
def siz (r : Int) : Int := if r < 128 then 1 else if r < 2048 then 2 else if r < 65536 then 3 else 4
theorem size_eq (r : Int) : utf_size.f r = some (siz r) := by
 unfold utf_size.f siz
 (repeat' split) <;> rfl
theorem begins_eq {b : Int} (h0 : 0 ≤ b) (h1 : b < 256) : utf_begins.f b = some (if b < 128 then (1, b) else if b < 192 then (0, 0) else if b < 224 then (2, b - 192) else if b < 240 then (3, b - 224) else if b < 248 then (4, b - 240) else (0, 0)) := by
 unfold utf_begins.f
 split
 ·rw [wrap_id (by omega) (by omega)]
 ·split
  ·rfl
  ·split
   ·rw [not192 (by omega) (by omega), wrap_id (by omega) (by omega)]
   ·split
    ·rw [not224 (by omega) (by omega), wrap_id (by omega) (by omega)]
    ·split
     ·rw [not240 (by omega) (by omega), wrap_id (by omega) (by omega)]
     ·rfl
theorem siz1 {r : Int} : siz r = 1 ↔ r < 128 := by unfold siz; (repeat' split) <;> omega
theorem siz2 {r : Int} : siz r = 2 ↔ 128 ≤ r ∧ r < 2048 := by unfold siz; (repeat' split) <;> omega
theorem siz3 {r : Int} : siz r = 3 ↔ 2048 ≤ r ∧ r < 65536 := by unfold siz; (repeat' split) <;> omega
theorem siz4 {r : Int} : siz r = 4 ↔ 65536 ≤ r := by unfold siz; (repeat' split) <;> omega
def ends (r n : Int) : Int × Int := if good r ∧ siz r = n then (r, n) else (0, 0)
theorem l0_end (k : Nat) (s : ByteArray) {n r i : Int} (h : ¬ i < n) : utf_Take.l0 (k + 1) s n r i = some (ends r n) := by
 simp only [utf_Take.l0]
 rw [if_neg h, good_eq, Option.bind_some, size_eq, Option.bind_some]
 unfold ends
 by_cases hg : good r
 ·rw [if_pos (decide_eq_true hg)]
  by_cases hs : siz r = n
  ·rw [if_pos hs, if_pos ⟨hg, hs⟩]
  ·rw [if_neg hs, if_neg (fun h => hs h.2)]
 ·rw [if_neg (by simpa using hg), if_neg (fun h => hg h.1)]
theorem l0_bad (k : Nat) (s : ByteArray) {n r i : Int} (h : i < n) (h0 : 0 ≤ i) (hs : i < s.size) (hb : ¬ (128 ≤ bt s i ∧ bt s i < 192)) : utf_Take.l0 (k + 1) s n r i = some (0, 0) := by
 have hr := bt_range s i
 simp only [utf_Take.l0]
 rw [if_pos h, if_pos h0, if_pos hs, if_neg (fun he => hb ((cont_iff (by omega) (by omega)).1 he))]
theorem l0_more (k : Nat) (s : ByteArray) {n r i : Int} (h : i < n) (h0 : 0 ≤ i) (hs : i < s.size) (hb : 128 ≤ bt s i ∧ bt s i < 192) (r0 : 0 ≤ r) (r1 : r < 2097152) (i1 : i < 10) : utf_Take.l0 (k + 1) s n r i = utf_Take.l0 k s n (r * 64 + (bt s i - 128)) (i + 1) := by
 simp only [utf_Take.l0]
 rw [if_pos h, if_pos h0, if_pos hs, if_pos ((cont_iff (by omega) (by omega)).2 hb), u8_and63 _ (by omega) (by omega), wrap_id (n := r * 64) (by omega) (by omega), wrap_id (n := bt s i % 64) (by omega) (by omega), wrap_id (n := i + 1) (by omega) (by omega),
  i64_or6 (by omega) (by omega) (by omega) (by omega) (by omega), show bt s i % 64 = bt s i - 128 by omega]
theorem take_eq (k : Nat) (s : ByteArray) : utf_Take.f (k + 6) s = some (tk (bytesOf s)) := by
 have hB := bytes_of s
 have hS := size_of s
 generalize hl : bytesOf s = l at hB hS
 have hbt : ∀ i, bt s i = l.getD i.toNat 0 := fun i => by rw [bt_get, hl]
 unfold utf_Take.f
 match l with
 | [] => rw [if_pos ((toList_nil_iff s).2 hl)]; rfl
 | a :: t =>
  have ha := hB a List.mem_cons_self
  have h0 : bt s 0 = a := by rw [hbt]; rfl
  rw [if_neg (fun h => by rw [toList_nil_iff, hl] at h; cases h), if_pos (by rw [← hS]; simp), h0, begins_eq ha.1 ha.2, Option.bind_some]
  have hsz : (s.size : Int) = (t.length : Int) + 1 := by rw [← hS]; simp
  simp only [tk]
  by_cases c1 : a < 128
  ·simp only [if_pos c1]
   rw [if_neg (by decide), decide_eq_false (by omega)]
   simp only [utf_Take.j0]
   rw [if_neg (by decide), l0_end _ _ (by decide)]
   unfold ends
   rw [if_pos ⟨good_iff.2 (by omega), siz1.2 c1⟩]
  ·simp only [if_neg c1]
   by_cases c2 : a < 192
   ·simp only [if_pos c2]
    rw [if_pos trivial]
    simp only [utf_Take.j0]
    rw [if_pos trivial]
   ·simp only [if_neg c2]
    by_cases c3 : a < 224
    ·simp only [if_pos c3]
     rw [if_neg (by decide)]
     simp only [utf_Take.j0]
     match t with
     | [] =>
      simp at hsz
      dsimp only
      rw [if_pos (decide_eq_true (by omega))]
     | b :: t =>
      simp at hsz
      dsimp only
      have hb : bt s 1 = b := by rw [hbt]; rfl
      rw [if_neg (by simp; omega)]
      have hr := hB b (by simp)
      by_cases k1 : 128 ≤ b ∧ b < 192
      ·rw [l0_more _ _ (by decide) (by decide) (by omega) (by rw [hb]; exact k1) (by omega) (by omega) (by decide), l0_end _ _ (by decide), hb]
       have e : (a - 192) * 64 + (b - 128) = tk2 a b := rfl
       rw [e]
       unfold ends
       simp only [siz2, good_iff]
       have e1 : 0 ≤ tk2 a b ∧ tk2 a b < 2048 := by unfold tk2; omega
       by_cases k2 : 128 ≤ tk2 a b
       ·rw [if_pos (by omega), if_pos (by omega)]
       ·rw [if_neg (by omega), if_neg (by omega)]
      ·rw [l0_bad _ _ (by decide) (by decide) (by omega) (by rw [hb]; exact k1), if_neg (by omega)]
    ·simp only [if_neg c3]
     by_cases c4 : a < 240
     ·simp only [if_pos c4]
      rw [if_neg (by decide)]
      simp only [utf_Take.j0]
      match t with
      | [] =>
       simp at hsz
       dsimp only
       rw [if_pos (decide_eq_true (by omega))]
      | [b] =>
       simp at hsz
       dsimp only
       rw [if_pos (decide_eq_true (by omega))]
      | b :: c :: t =>
       simp at hsz
       dsimp only
       have hb : bt s 1 = b := by rw [hbt]; rfl
       have hc : bt s 2 = c := by rw [hbt]; rfl
       rw [if_neg (by simp; omega)]
       have hr := hB b (by simp)
       have hr2 := hB c (by simp)
       by_cases k1 : 128 ≤ b ∧ b < 192
       ·rw [l0_more _ _ (by decide) (by decide) (by omega) (by rw [hb]; exact k1) (by omega) (by omega) (by decide), hb]
        by_cases k2 : 128 ≤ c ∧ c < 192
        ·rw [l0_more _ _ (by decide) (by decide) (by omega) (by rw [show (1 : Int) + 1 = 2 by decide, hc]; exact k2) (by omega) (by omega) (by decide), l0_end _ _ (by decide), show (1 : Int) + 1 = 2 by decide, hc]
         have e : ((a - 224) * 64 + (b - 128)) * 64 + (c - 128) = tk3 a b c := by unfold tk3; omega
         rw [e]
         unfold ends
         simp only [siz3, good_iff]
         have e1 : 0 ≤ tk3 a b c ∧ tk3 a b c < 65536 := by unfold tk3; omega
         by_cases k3 : 2048 ≤ tk3 a b c ∧ (tk3 a b c < 55296 ∨ 57343 < tk3 a b c)
         ·rw [if_pos (by omega), if_pos (by omega)]
         ·rw [if_neg (by omega), if_neg (by omega)]
        ·rw [l0_bad _ _ (by decide) (by decide) (by omega) (by rw [show (1 : Int) + 1 = 2 by decide, hc]; exact k2), if_neg (by omega)]
       ·rw [l0_bad _ _ (by decide) (by decide) (by omega) (by rw [hb]; exact k1), if_neg (by omega)]
     ·simp only [if_neg c4]
      by_cases c5 : a < 248
      ·simp only [if_pos c5]
       rw [if_neg (by decide)]
       simp only [utf_Take.j0]
       match t with
       | [] =>
        simp at hsz
        dsimp only
        rw [if_pos (decide_eq_true (by omega))]
       | [b] =>
        simp at hsz
        dsimp only
        rw [if_pos (decide_eq_true (by omega))]
       | [b, c] =>
        simp at hsz
        dsimp only
        rw [if_pos (decide_eq_true (by omega))]
       | b :: c :: d :: t =>
        simp at hsz
        dsimp only
        have hb : bt s 1 = b := by rw [hbt]; rfl
        have hc : bt s 2 = c := by rw [hbt]; rfl
        have hd : bt s 3 = d := by rw [hbt]; rfl
        rw [if_neg (by simp; omega)]
        have hr := hB b (by simp)
        have hr2 := hB c (by simp)
        have hr3 := hB d (by simp)
        by_cases k1 : 128 ≤ b ∧ b < 192
        ·rw [l0_more _ _ (by decide) (by decide) (by omega) (by rw [hb]; exact k1) (by omega) (by omega) (by decide), hb]
         by_cases k2 : 128 ≤ c ∧ c < 192
         ·rw [l0_more _ _ (by decide) (by decide) (by omega) (by rw [show (1 : Int) + 1 = 2 by decide, hc]; exact k2) (by omega) (by omega) (by decide), show (1 : Int) + 1 = 2 by decide, hc]
          by_cases k3 : 128 ≤ d ∧ d < 192
          ·rw [l0_more _ _ (by decide) (by decide) (by omega) (by rw [show (2 : Int) + 1 = 3 by decide, hd]; exact k3) (by omega) (by omega) (by decide), l0_end _ _ (by decide), show (2 : Int) + 1 = 3 by decide, hd]
           have e : (((a - 240) * 64 + (b - 128)) * 64 + (c - 128)) * 64 + (d - 128) = tk4 a b c d := by unfold tk4; omega
           rw [e]
           unfold ends
           simp only [siz4, good_iff]
           have e1 : 0 ≤ tk4 a b c d := by unfold tk4; omega
           by_cases k3 : 65536 ≤ tk4 a b c d ∧ tk4 a b c d ≤ 1114111
           ·rw [if_pos (by omega), if_pos (by omega)]
           ·rw [if_neg (by omega), if_neg (by omega)]
          ·rw [l0_bad _ _ (by decide) (by decide) (by omega) (by rw [show (2 : Int) + 1 = 3 by decide, hd]; exact k3), if_neg (by omega)]
         ·rw [l0_bad _ _ (by decide) (by decide) (by omega) (by rw [show (1 : Int) + 1 = 2 by decide, hc]; exact k2), if_neg (by omega)]
        ·rw [l0_bad _ _ (by decide) (by decide) (by omega) (by rw [hb]; exact k1), if_neg (by omega)]
      ·simp only [if_neg c5]
       rw [if_pos trivial]
       simp only [utf_Take.j0]
       rw [if_pos trivial]
theorem take_ev (s : ByteArray) : Ev (fun k => utf_Take.f k s) (tk (bytesOf s)) := ⟨6, fun k hk => by
 obtain ⟨m, rfl⟩ : ∃ m, k = m + 6 := ⟨k - 6, by omega⟩
 exact take_eq m s⟩
end Go.Proofs.YtjmmdphkgioooaaDoor.La
end
section
namespace Go.Proofs.YtjmmdphkgioooaaDoor.P
open Go.RowKit Go.Proofs.YtjmmdphkgioooaaDoorW.PrintWords Go.Proofs.YtjmmdphkgioooaaDoorW.PrintLast Go.Proofs.YtjmmdphkgioooaaDoorW.PrintMore
attribute [local go_sem] max2_int min2_int max_two min_two max_three min_three max_four min_four   -- for this text's walks alone
set_option linter.unusedVariables false
set_option linter.unusedSimpArgs false
/-! ### utf_Valid: function 19 -/
def utf_Valid.l0 : Nat → ByteArray → Int → Option (Int × Bool)
 | 0, _, _ => none
 | k + 1, x0, x4 => if x4 < (x0.size : Int) then (if 0 ≤ x4 then (if x4 ≤ (x0.size : Int) then ((utf_Take.f k (x0.extract (x4 : Int).toNat x0.size)).bind fun bt212 => (if bt212.2 = 0 then (some (x4, false)) else (utf_Valid.l0 k x0 (wrap64 (x4 + bt212.2))))) else (none)) else (none)) else (some ((x0.size : Int), true))
def utf_Valid.f (k : Nat) (a0 : ByteArray) : Option (Int × Bool) := utf_Valid.l0 k a0 0
set_option maxHeartbeats 8000000 in
set_option maxRecDepth 100000 in
theorem utf_Valid.calls (k : Nat) (a0 : ByteArray) (r1 : Int) (r2 : Bool) (w : World) (h : utf_Valid.f k a0 = some (r1, r2)) :
  Calls Tryd.prog 19 #[.string a0] w fun e w' => e = .returned (.tuple #[.int .i64 r1, .bool r2]) ∧ Drawn0 w w' := by
 have H : (utf_Valid.l0 k a0 0) = some (r1, r2) := h
 clear h
 have H' := Aside0.mk H
 clear H
 go_enter Tryd.func19, Tryd.ntmps19
 go_wp2
 go_loopg [4] k (fun kq v4 w' => ∃ (x4_1 : Int), v4 = .int .i64 x4_1 ∧ Aside0 (utf_Valid.l0 kq a0 x4_1 = some (r1, r2)) ∧ Aside0 (kq ≤ k) ∧ Drawn0 w w')
 case atStart => exact ⟨(0), (by first | rfl | (simp; done) | (simp [*]; done)), H', ⟨Nat.le_refl _⟩, by repeat (first | exact Drawn0.refl _ | apply Drawn0.step)⟩
 case round =>
  clear H'
  try clear c1
  obtain ⟨x4_1, rfl, HA, HK1, ⟨m1, rfl⟩⟩ := hrel
  cases gk with
  | zero => exact absurd HA.out (by simp [utf_Valid.l0])
  | succ k1 =>
   have H := HA.out
   clear HA
   simp only [utf_Valid.l0] at H
   by_cases c2 : x4_1 < (a0.size : Int)
   ·rw [if_pos c2] at H
    have c2b0 : decide (x4_1 < (a0.size : Int)) = true := decide_eq_true c2
    clear c2
    by_cases c3 : 0 ≤ x4_1
    ·rw [if_pos c3] at H
     have c3b0 := eq_true c3
     have c3b1 : decide (0 ≤ x4_1) = true := decide_eq_true c3
     clear c3
     by_cases c4 : x4_1 ≤ (a0.size : Int)
     ·rw [if_pos c4] at H
      have c4b0 := eq_true c4
      have c4b1 : decide (x4_1 ≤ (a0.size : Int)) = true := decide_eq_true c4
      clear c4
      replace H := Option.bind_eq_some_iff.mp H
      obtain ⟨⟨t212, t213⟩, A50, H⟩ := H
      replace H : (if t213 = 0 then (some (x4_1, false)) else (utf_Valid.l0 k1 a0 (wrap64 (x4_1 + t213)))) = some (r1, r2) := H
      have A5 := Aside0.mk A50
      clear A50
      by_cases c6 : t213 = 0
      ·rw [if_pos c6] at H
       have c6b0 : (t213 == 0) = true := beq_iff_eq.mpr c6
       have c6b1 : (t213 != 0) = false := bne_eq_false_iff_eq.mpr c6
       clear c6
       simp only [Option.some.injEq, Prod.mk.injEq] at H
       obtain ⟨rfl, rfl⟩ := H
       go_wp2_with (first | ((with_reducible refine gate_callee (f := 30) rfl ?_); refine goesL_ (some 15) rfl rfl Tryd.func30 (by kernel_rfl) rfl #[.string (a0.extract (x4_1 : Int).toNat a0.size)] rfl (by (try simp only [List.map_toArray, List.map_cons, List.map_nil]); first | done | rfl | (simp only [List.length_drop, List.length_take]; rfl)) ?_; (with_reducible refine (utf_Take.calls k1 (a0.extract (x4_1 : Int).toNat a0.size) t212 t213 _ A5.out).mono ?_); rintro e w' ⟨rfl, ⟨nd, rfl⟩⟩; refine ⟨_, rfl, ?_⟩))
       go_ret2
       exact ⟨by first | rfl | (simp; done) | (simp [*]; done), by repeat (first | exact Drawn0.refl _ | apply Drawn0.step)⟩
      ·rw [if_neg c6] at H
       have c6b0 : (t213 == 0) = false := beq_eq_false_iff_ne.mpr c6
       have c6b1 : (t213 != 0) = true := bne_iff_ne.mpr c6
       have H' := Aside0.mk H
       clear H
       go_wp2_with (first | ((with_reducible refine gate_callee (f := 30) rfl ?_); refine goesL_ (some 15) rfl rfl Tryd.func30 (by kernel_rfl) rfl #[.string (a0.extract (x4_1 : Int).toNat a0.size)] rfl (by (try simp only [List.map_toArray, List.map_cons, List.map_nil]); first | done | rfl | (simp only [List.length_drop, List.length_take]; rfl)) ?_; (with_reducible refine (utf_Take.calls k1 (a0.extract (x4_1 : Int).toNat a0.size) t212 t213 _ A5.out).mono ?_); rintro e w' ⟨rfl, ⟨nd, rfl⟩⟩; refine ⟨_, rfl, ?_⟩))
       go_roundg k1
       case measure => have := HK1.out; omega
       case rel => exact ⟨(wrap64 (x4_1 + t213)), (by first | rfl | (simp; done) | (simp [*]; done)), H', ⟨by have := HK1.out; omega⟩, by repeat (first | exact Drawn0.refl _ | apply Drawn0.step)⟩
     ·rw [if_neg c4] at H
      exact absurd H (by simp)
    ·rw [if_neg c3] at H
     exact absurd H (by simp)
   ·rw [if_neg c2] at H
    have c2b0 : decide (x4_1 < (a0.size : Int)) = false := decide_eq_false c2
    clear c2
    simp only [Option.some.injEq, Prod.mk.injEq] at H
    obtain ⟨rfl, rfl⟩ := H
    go_wp2
    go_ret2
    exact ⟨by first | rfl | (simp; done) | (simp [*]; done), by repeat (first | exact Drawn0.refl _ | apply Drawn0.step)⟩
end Go.Proofs.YtjmmdphkgioooaaDoor.P
end
section
namespace Go.Proofs.YtjmmdphkgioooaaDoor.P
open Go.RowKit Go.Proofs.YtjmmdphkgioooaaDoorW.PrintWords Go.Proofs.YtjmmdphkgioooaaDoorW.PrintLast Go.Proofs.YtjmmdphkgioooaaDoorW.PrintMore
attribute [local go_sem] max2_int min2_int max_two min_two max_three min_three max_four min_four   -- for this text's walks alone
set_option linter.unusedVariables false
set_option linter.unusedSimpArgs false
/-! ### utf_step: function 81 -/
def utf_step.f (k : Nat) (a0 : ByteArray) : Option (Int) := (utf_Take.f k a0).bind fun bt215 => (some (mx bt215.2 1))
set_option maxHeartbeats 8000000 in
set_option maxRecDepth 100000 in
theorem utf_step.calls (k : Nat) (a0 : ByteArray) (r : Int) (w : World) (h : utf_step.f k a0 = some r) :
  Calls Tryd.prog 81 #[.string a0] w fun e w' => e = .returned (.int .i64 r) ∧ Below w.heap.size w w' := by
 have HB := Aside0.mk (Below.refl w.heap.size w)
 have H : ((utf_Take.f k a0).bind fun bt215 => (some (mx bt215.2 1))) = some r := h
 clear h
 replace H := Option.bind_eq_some_iff.mp H
 obtain ⟨⟨t215, t216⟩, A20, H⟩ := H
 replace H : (some (mx t216 1)) = some r := H
 have A2 := Aside0.mk A20
 clear A20
 obtain ⟨ji3, hji3⟩ : ∃ j_ : Int, (mx t216 1) = j_ := ⟨_, rfl⟩
 replace H : (some ji3) = some r := by first | (rw [hji3] at H; exact H) | (simp only [hji3] at H ⊢; exact H)
 (try rw [hji3] at A2)
 (try (have hji3l : 1 ≤ ji3 := by (rw [← hji3]; unfold mx; (repeat' split) <;> omega)))
 (try (have hji3m : 0 ≤ ji3 := by omega))
 have hji3_ : (if t216 < 1 then 1 else t216) = ji3 := hji3
 obtain rfl := Option.some.inj H
 go_enter Tryd.func81, Tryd.ntmps81
 go_wp2_with (first | ((with_reducible refine gate_callee (f := 30) rfl ?_); refine goesL_ (some 7) rfl rfl Tryd.func30 (by kernel_rfl) rfl #[.string a0] rfl (by (try simp only [List.map_toArray, List.map_cons, List.map_nil]); first | done | rfl | (simp only [List.length_drop, List.length_take]; rfl)) ?_; (with_reducible refine (utf_Take.calls k a0 t215 t216 _ A2.out).mono ?_); rintro e w' ⟨rfl, ⟨nd, rfl⟩⟩; refine ⟨_, rfl, ?_⟩))
 go_ret
 exact ⟨by first | rfl | (simp [errW_none, errW_some] <;> rfl) | (simp [*, errW_none, errW_some, bne]; done) | (simp only [← hji3]; first | rfl | (simp [errW_none, errW_some] <;> rfl)) | (simp [*, errW_none, errW_some] <;> rfl), by repeat (first | (with_reducible first | exact HB.out | apply below_alloc | apply pw_below_drewN | apply below_drew1) | exact HB.out)⟩
end Go.Proofs.YtjmmdphkgioooaaDoor.P
end
section
namespace Go.Proofs.YtjmmdphkgioooaaDoor.P
open Go.RowKit Go.Proofs.YtjmmdphkgioooaaDoorW.PrintWords Go.Proofs.YtjmmdphkgioooaaDoorW.PrintLast Go.Proofs.YtjmmdphkgioooaaDoorW.PrintMore
attribute [local go_sem] max2_int min2_int max_two min_two max_three min_three max_four min_four   -- for this text's walks alone
set_option linter.unusedVariables false
set_option linter.unusedSimpArgs false
/-! ### utf_Count: function 74 -/
def utf_Count.l0 : Nat → ByteArray → Int → Int → Option (Int)
 | 0, _, _, _ => none
 | k + 1, x0, x3, x4 => if x4 < (x0.size : Int) then (if 0 ≤ x4 then (if x4 ≤ (x0.size : Int) then ((utf_step.f k (x0.extract (x4 : Int).toNat x0.size)).bind fun t217 => (utf_Count.l0 k x0 (wrap64 (x3 + 1)) (wrap64 (x4 + t217)))) else (none)) else (none)) else (some x3)
def utf_Count.f (k : Nat) (a0 : ByteArray) : Option (Int) := utf_Count.l0 k a0 0 0
set_option maxHeartbeats 8000000 in
set_option maxRecDepth 100000 in
theorem utf_Count.calls (k : Nat) (a0 : ByteArray) (r : Int) (w : World) (h : utf_Count.f k a0 = some r) :
  Calls Tryd.prog 74 #[.string a0] w fun e w' => e = .returned (.int .i64 r) ∧ Below w.heap.size w w' := by
 have HB := Aside0.mk (Below.refl w.heap.size w)
 have H : (utf_Count.l0 k a0 0 0) = some r := h
 clear h
 have H' := Aside0.mk H
 clear H
 go_enter Tryd.func74, Tryd.ntmps74
 go_wp2
 go_loopg [3, 4] k (fun kq v3 v4 w' => ∃ (x3_1 : Int) (x4_1 : Int), v3 = .int .i64 x3_1 ∧ v4 = .int .i64 x4_1 ∧ Aside0 (utf_Count.l0 kq a0 x3_1 x4_1 = some r) ∧ Aside0 (kq ≤ k) ∧ Aside0 (Below w.heap.size w w'))
 case atStart => exact ⟨(0), (0), (by first | rfl | (simp; done) | (simp [*]; done)), (by first | rfl | (simp; done) | (simp [*]; done)), H', ⟨Nat.le_refl _⟩, ⟨by repeat (first | (with_reducible first | exact HB.out | apply below_alloc | apply pw_below_drewN | apply below_drew1) | exact HB.out)⟩⟩
 case round =>
  clear H'
  obtain ⟨x3_1, x4_1, rfl, rfl, HA, HK1, HB⟩ := hrel
  cases gk with
  | zero => exact absurd HA.out (by simp [utf_Count.l0])
  | succ k1 =>
   have H := HA.out
   clear HA
   simp only [utf_Count.l0] at H
   by_cases c2 : x4_1 < (a0.size : Int)
   ·rw [if_pos c2] at H
    have c2b0 : decide (x4_1 < (a0.size : Int)) = true := decide_eq_true c2
    clear c2
    by_cases c3 : 0 ≤ x4_1
    ·rw [if_pos c3] at H
     have c3b0 := eq_true c3
     have c3b1 : decide (0 ≤ x4_1) = true := decide_eq_true c3
     clear c3
     by_cases c4 : x4_1 ≤ (a0.size : Int)
     ·rw [if_pos c4] at H
      have c4b0 := eq_true c4
      have c4b1 : decide (x4_1 ≤ (a0.size : Int)) = true := decide_eq_true c4
      clear c4
      replace H := Option.bind_eq_some_iff.mp H
      obtain ⟨t217, A50, H⟩ := H
      replace H : (utf_Count.l0 k1 a0 (wrap64 (x3_1 + 1)) (wrap64 (x4_1 + t217))) = some r := H
      have A5 := Aside0.mk A50
      clear A50
      have H' := Aside0.mk H
      clear H
      go_wp2_with (first | ((with_reducible refine gate_callee (f := 81) rfl ?_); refine goesL_ (some 13) rfl rfl Tryd.func81 (by kernel_rfl) rfl #[.string (a0.extract (x4_1 : Int).toNat a0.size)] rfl (by (try simp only [List.map_toArray, List.map_cons, List.map_nil]); first | done | rfl | (simp only [List.length_drop, List.length_take]; rfl)) ?_; (with_reducible refine (utf_step.calls k1 (a0.extract (x4_1 : Int).toNat a0.size) t217 _ A5.out).mono ?_); rintro e w6 ⟨rfl, hb⟩; refine ⟨_, rfl, ?_⟩; have n0_ := Aside0.mk (below_step (by repeat (first | (with_reducible first | exact HB.out | apply below_alloc | apply pw_below_drewN | apply below_drew1) | exact HB.out)) hb); clear HB; have HB := n0_; clear n0_; (try clear hb); (try clear hb2); (try clear hk); (try clear hi)))
      go_roundg k1
      case measure => have := HK1.out; omega
      case rel => exact ⟨(wrap64 (x3_1 + 1)), (wrap64 (x4_1 + t217)), (by first | rfl | (simp; done) | (simp [*]; done)), (by first | rfl | (simp; done) | (simp [*]; done)), H', ⟨by have := HK1.out; omega⟩, ⟨by repeat (first | (with_reducible first | exact HB.out | apply below_alloc | apply pw_below_drewN | apply below_drew1) | exact HB.out)⟩⟩
     ·rw [if_neg c4] at H
      exact absurd H (by simp)
    ·rw [if_neg c3] at H
     exact absurd H (by simp)
   ·rw [if_neg c2] at H
    have c2b0 : decide (x4_1 < (a0.size : Int)) = false := decide_eq_false c2
    clear c2
    obtain rfl := Option.some.inj H
    go_wp2
    go_ret
    exact ⟨by first | rfl | (simp [errW_none, errW_some] <;> rfl) | (simp [*, errW_none, errW_some, bne]; done) | (simp [*, errW_none, errW_some] <;> rfl), by repeat (first | (with_reducible first | exact HB.out | apply below_alloc | apply pw_below_drewN | apply below_drew1) | exact HB.out)⟩
end Go.Proofs.YtjmmdphkgioooaaDoor.P
end
section
namespace Go.Proofs.YtjmmdphkgioooaaDoor.La
open Go.RowKit Go.Proofs.YtjmmdphkgioooaaDoor.P Go.Proofs.YtjmmdphkgioooaaDoorW.PrintWords Go.Proofs.YtjmmdphkgioooaaDoorW.PrintLast Go.Proofs.YtjmmdphkgioooaaDoorW.PrintMore
def badR (size at_ : Nat) : Option Nat → Int × Bool
 | none => ((size : Int), true)
 | some p => (((at_ + p : Nat) : Int), false)
theorem stp_int {l : List Int} (hl : Bytes l) (h : (tk l).2 ≠ 0) : (tk l).2 = (stp l : Int) := by
 have := tk_bound l hl
 unfold stp
 rw [if_neg h]
 omega
theorem valid_l0 (s : ByteArray) (hs : s.size ≤ 140737488355328) (n : Nat) : ∀ (i : Nat), i ≤ s.size → s.size - i = n → Ev (fun k => utf_Valid.l0 k s (i : Int)) (badR s.size i (bad ((bytesOf s).drop i))) := by
 induction n using Nat.strongRecOn with
 | _ n ih =>
 intro i hi hn
 have hL : ((bytesOf s).drop i).length = s.size - i := by rw [List.length_drop, size_of]
 have hBd : Bytes ((bytesOf s).drop i) := (bytes_of s).drop i
 refine Ev.step (fun k => by rw [utf_Valid.l0]) ?_
 by_cases h : i < s.size
 ·have h1 : (i : Int) < (s.size : Int) := by omega
  have h2 : (0 : Int) ≤ (i : Int) := by omega
  have h3 : (i : Int) ≤ (s.size : Int) := by omega
  have hne : (bytesOf s).drop i ≠ [] := fun e => by rw [e] at hL; simp at hL; omega
  simp only [if_pos h1, if_pos h2, if_pos h3, Int.toNat_natCast]
  refine Ev.bind (take_ev _) ?_
  rw [bytesOf_drop]
  by_cases h0 : (tk ((bytesOf s).drop i)).2 = 0
  ·simp only [if_pos h0, bad_none hne h0, badR]
   exact Ev.now _
  ·simp only [if_neg h0]
   have hb := tk_bound _ hBd
   have hp := stp_pos _ hBd
   have hst := stp_le hBd hne
   rw [stp_int hBd h0, wrap_id (by omega) (by omega), bad_step hne h0, List.drop_drop]
   have e : (i : Int) + (stp ((bytesOf s).drop i) : Int) = ((i + stp ((bytesOf s).drop i) : Nat) : Int) := by omega
   rw [e]
   have := ih (s.size - (i + stp ((bytesOf s).drop i))) (by omega) (i + stp ((bytesOf s).drop i)) (by omega) rfl
   generalize stp ((bytesOf s).drop i) = q at *
   cases hc : bad ((bytesOf s).drop (i + q)) with
   | none => rw [hc] at this; exact this
   | some p =>
    rw [hc] at this
    simp only [Option.map_some, badR] at this ⊢
    rw [show i + (p + q) = i + q + p by omega]
    exact this
 ·obtain rfl : i = s.size := by omega
  simp only [if_neg (show ¬ ((s.size : Int) < (s.size : Int)) by omega)]
  rw [List.drop_eq_nil_of_le (by rw [size_of]; omega), bad_nil]
  exact Ev.now _
theorem valid_ev (s : ByteArray) (hs : s.size ≤ 140737488355328) : Ev (fun k => utf_Valid.f k s) (badR s.size 0 (bad (bytesOf s))) :=
 valid_l0 s hs _ 0 (by omega) rfl
theorem mx_stp {l : List Int} (hl : Bytes l) : mx (tk l).2 1 = (stp l : Int) := by
 have := tk_bound l hl
 unfold mx stp
 split <;> split <;> omega
theorem step_ev (s : ByteArray) : Ev (fun k => utf_step.f k s) ((stp (bytesOf s) : Int)) := by
 refine Ev.congr (fun k => by rw [utf_step.f]) (Ev.bind (take_ev s) ?_)
 rw [mx_stp (bytes_of s)]
 exact Ev.now _
theorem count_l0 (s : ByteArray) (hs : s.size ≤ 140737488355328) (n : Nat) : ∀ (c i : Nat), i ≤ s.size → s.size - i = n → c ≤ i → Ev (fun k => utf_Count.l0 k s (c : Int) (i : Int)) (((c + cnt ((bytesOf s).drop i) : Nat) : Int)) := by
 induction n using Nat.strongRecOn with
 | _ n ih =>
 intro c i hi hn hc
 have hL : ((bytesOf s).drop i).length = s.size - i := by rw [List.length_drop, size_of]
 have hBd : Bytes ((bytesOf s).drop i) := (bytes_of s).drop i
 refine Ev.step (fun k => by rw [utf_Count.l0]) ?_
 by_cases h : i < s.size
 ·have h1 : (i : Int) < (s.size : Int) := by omega
  have h2 : (0 : Int) ≤ (i : Int) := by omega
  have h3 : (i : Int) ≤ (s.size : Int) := by omega
  have hne : (bytesOf s).drop i ≠ [] := fun e => by rw [e] at hL; simp at hL; omega
  simp only [if_pos h1, if_pos h2, if_pos h3, Int.toNat_natCast]
  refine Ev.bind (step_ev _) ?_
  rw [bytesOf_drop]
  have hp := stp_pos _ hBd
  have hst := stp_le hBd hne
  rw [wrap_id (by omega) (by omega), wrap_id (by omega) (by omega), cnt_step hne, List.drop_drop]
  have e : (i : Int) + (stp ((bytesOf s).drop i) : Int) = ((i + stp ((bytesOf s).drop i) : Nat) : Int) := by omega
  rw [e, show (c : Int) + 1 = ((c + 1 : Nat) : Int) by omega]
  have := ih (s.size - (i + stp ((bytesOf s).drop i))) (by omega) (c + 1) (i + stp ((bytesOf s).drop i)) (by omega) rfl (by omega)
  rw [show c + (cnt ((bytesOf s).drop (i + stp ((bytesOf s).drop i))) + 1) = c + 1 + cnt ((bytesOf s).drop (i + stp ((bytesOf s).drop i))) by omega]
  exact this
 ·obtain rfl : i = s.size := by omega
  simp only [if_neg (show ¬ ((s.size : Int) < (s.size : Int)) by omega)]
  rw [List.drop_eq_nil_of_le (by rw [size_of]; omega), cnt_nil]
  exact Ev.now _
theorem count_ev (s : ByteArray) (hs : s.size ≤ 140737488355328) : Ev (fun k => utf_Count.f k s) ((cnt (bytesOf s) : Int)) := by
 have := count_l0 s hs _ 0 0 (by omega) rfl (by omega)
 rw [Nat.zero_add] at this
 exact this
end Go.Proofs.YtjmmdphkgioooaaDoor.La
end
section
namespace Go.Proofs.YtjmmdphkgioooaaDoor.La
open Go.RowKit Go.Proofs.YtjmmdphkgioooaaDoor.P Go.Proofs.YtjmmdphkgioooaaDoorW.PrintWords Go.Proofs.YtjmmdphkgioooaaDoorW.PrintLast Go.Proofs.YtjmmdphkgioooaaDoorW.PrintMore
theorem drop_bt {t : ByteArray} {i : Nat} (h : i < t.size) : (bytesOf t).drop i = bt t (i : Int) :: (bytesOf t).drop (i + 1) := by
 have hl : i < (bytesOf t).length := by rw [size_of]; exact h
 rw [List.drop_eq_getElem_cons hl, bt_get]
 simp [List.getD_eq_getElem?_getD, hl]
end Go.Proofs.YtjmmdphkgioooaaDoor.La
end
section
namespace Go.Proofs.YtjmmdphkgioooaaDoor.La
open Go.RowKit Go.Proofs.YtjmmdphkgioooaaDoorW.PrintWords Go.Proofs.YtjmmdphkgioooaaDoorW.PrintLast Go.Proofs.YtjmmdphkgioooaaDoorW.PrintMore
/-- Where a number stands first; -1: nowhere. -/
def idx : List Int → Int → Int
 | [], _ => -1
 | b :: l, c => if b = c then 0 else if idx l c = -1 then -1 else idx l c + 1
/-- How often a number stands there. -/
def cntB : List Int → Int → Nat
 | [], _ => 0
 | b :: l, c => if b = c then cntB l c + 1 else cntB l c
theorem u8_of {c : Int} (h0 : 0 ≤ c) (h1 : c < 256) : ((c.toNat.toUInt8).toNat : Int) = c := by
 simp only [Nat.toUInt8_eq, UInt8.toNat_ofNat']
 omega
theorem u8_eq_iff {b : UInt8} {c : Int} (h0 : 0 ≤ c) (h1 : c < 256) : b = c.toNat.toUInt8 ↔ (b.toNat : Int) = c := by
 rw [← UInt8.toNat_inj]
 have := u8_of h0 h1
 omega
theorem idx_of (l : List UInt8) {c : Int} (h0 : 0 ≤ c) (h1 : c < 256) : Lib.indexByte l c.toNat.toUInt8 = idx (l.map fun b => (b.toNat : Int)) c := by
 induction l with
 | nil => rfl
 | cons b l ih =>
  simp only [Lib.indexByte, List.map_cons, idx, ih, beq_iff_eq, u8_eq_iff h0 h1]
theorem cntB_of (l : List UInt8) {c : Int} (h0 : 0 ≤ c) (h1 : c < 256) : Lib.countByte l c.toNat.toUInt8 = cntB (l.map fun b => (b.toNat : Int)) c := by
 unfold Lib.countByte
 induction l with
 | nil => rfl
 | cons b l ih =>
  simp only [List.count_cons, List.map_cons, cntB, ih, beq_iff_eq, u8_eq_iff h0 h1]
  split <;> rfl
theorem idx_ge (l : List Int) (c : Int) : -1 ≤ idx l c ∧ idx l c < l.length := by
 induction l with
 | nil => simp [idx]
 | cons b l ih =>
  simp only [idx, List.length_cons]
  (repeat' split) <;> omega
theorem cntB_le (l : List Int) (c : Int) : cntB l c ≤ l.length := by
 induction l with
 | nil => simp [cntB]
 | cons b l ih =>
  simp only [cntB, List.length_cons]
  split <;> omega
theorem cntB_append (l m : List Int) (c : Int) : cntB (l ++ m) c = cntB l c + cntB m c := by
 induction l with
 | nil => simp [cntB]
 | cons b l ih =>
  simp only [List.cons_append, cntB, ih]
  split <;> omega
end Go.Proofs.YtjmmdphkgioooaaDoor.La
end
section
namespace Go.Proofs.YtjmmdphkgioooaaDoor.La
open Go.RowKit Go.Proofs.YtjmmdphkgioooaaDoor.P Go.Proofs.YtjmmdphkgioooaaDoorW.PrintWords Go.Proofs.YtjmmdphkgioooaaDoorW.PrintLast Go.Proofs.YtjmmdphkgioooaaDoorW.PrintMore
/-- What stands between quotes, behind the first quote: its text, and how many bytes it has with the last quote. -/
def qd : List Int → Option (List Int × Nat)
 | [] => none
 | [b] => if b = 34 then some ([], 1) else none
 | b :: c :: t => if b = 34 then (if c = 34 then (qd t).map (fun p => (34 :: p.1, p.2 + 2)) else some ([], 1)) else (qd (c :: t)).map (fun p => (b :: p.1, p.2 + 1))
/-- How long the row's end is that stands here. -/
def lend (l : List Int) : Nat := if l.take 1 = [10] then 1 else if l.take 2 = [13, 10] then 2 else 0
/-- A byte that no field without quotes has. -/
def odd4 (b : Int) : Bool := b == 44 || b == 10 || b == 13 || b == 34
def pln (l : List Int) : List Int := l.takeWhile (fun b => !odd4 b)
/-- A field's text and how many bytes it has. -/
def raw (l : List Int) : Option (List Int × Nat) := if l.take 1 = [34] then (qd (l.drop 1)).map (fun p => (p.1, p.2 + 1)) else some (pln l, (pln l).length)
/-- Stands here what may not stand behind a field? -/
def fbad (l : List Int) : Prop := l ≠ [] ∧ ¬ l.take 1 = [44] ∧ lend l = 0
instance (l : List Int) : Decidable (fbad l) := by unfold fbad; infer_instance
/-- A field: its text and its bytes' number, or an error and its place. -/
def fieldS (l : List Int) (i : Nat) : (Int × Nat) ⊕ (List Int × Nat) :=
 match raw l with
 | none => .inl (4, i + l.length)
 | some p => if fbad (l.drop p.2) then .inl (4, i + p.2) else if 4096 < p.1.length then .inl (2, i) else .inr p
/-- A row, of so many fields yet. -/
def rowS : Nat → List S57 → List Int → Nat → (Int × Nat) ⊕ (List S57 × List Int × Nat)
 | 0, _, _, i => .inl (2, i)
 | k + 1, acc, l, i =>
  match fieldS l i with
  | .inl e => .inl e
  | .inr p => if (l.drop p.2).take 1 = [44] then rowS k (acc ++ [⟨strOfNums p.1, (i : Int)⟩]) (l.drop (p.2 + 1)) (i + p.2 + 1)
   else .inr (acc ++ [⟨strOfNums p.1, (i : Int)⟩], l.drop (p.2 + lend (l.drop p.2)), i + p.2 + lend (l.drop p.2))
/-- All rows, of so many yet. -/
def wholeS : Nat → List (List S57) → List Int → Nat → (Int × Nat) ⊕ List (List S57)
 | 0, rows, l, i => if l = [] then .inr rows else .inl (2, i)
 | k + 1, rows, l, i => if l = [] then .inr rows else
  match rowS 64 [] l i with
  | .inl e => .inl e
  | .inr (r, l2, j) => if rows ≠ [] ∧ r.length ≠ (rows.headD []).length then .inl (7, i) else wholeS k (rows ++ [r]) l2 j
theorem qd_none_of {l : List Int} (h : (34 : Int) ∉ l) : qd l = none := by
 induction l using qd.induct with
 | case1 => rfl
 | case2 => simp at h
 | case3 b hb => simp [qd, hb]
 | case4 t => simp at h
 | case5 c t hc => simp at h
 | case6 b c t hb ih => rw [qd, if_neg hb, ih (fun h' => h (List.mem_cons_of_mem _ h'))]; rfl
/-- Up to the first quote. -/
theorem qd_pre (a l : List Int) (h : (34 : Int) ∉ a) (hl : l ≠ []) : qd (a ++ l) = (qd l).map (fun p => (a ++ p.1, p.2 + a.length)) := by
 induction a with
 | nil => cases h' : qd l <;> simp [h']
 | cons b a ih =>
  have hb : ¬ b = 34 := fun h' => h (by rw [h']; exact List.mem_cons_self)
  have ih := ih (fun h' => h (List.mem_cons_of_mem _ h'))
  cases hal : a ++ l with
  | nil => simp [hl] at hal
  | cons c t =>
   rw [List.cons_append, hal, qd, if_neg hb, ← hal, ih]
   cases h' : qd l <;> simp; omega
theorem qd_end (l : List Int) (h : ¬ l.take 1 = [34]) : qd (34 :: l) = some ([], 1) := by
 cases l with
 | nil => rfl
 | cons c t =>
  have hc : ¬ c = 34 := fun h' => h (by rw [h']; rfl)
  rw [qd, if_pos rfl, if_neg hc]
theorem qd_two (l : List Int) : qd (34 :: 34 :: l) = (qd l).map (fun p => (34 :: p.1, p.2 + 2)) := by rw [qd, if_pos rfl, if_pos rfl]
theorem qd_len {l : List Int} : ∀ {p}, qd l = some p → p.1.length + 1 ≤ p.2 ∧ p.2 ≤ l.length := by
 induction l using qd.induct with
 | case1 => intro p h; cases h
 | case2 =>
  intro p h
  obtain rfl := Option.some.inj h
  simp
 | case3 b hb => intro p h; rw [qd, if_neg hb] at h; cases h
 | case4 t ih =>
  intro p h
  rw [qd_two] at h
  obtain ⟨q, hq, rfl⟩ := Option.map_eq_some_iff.1 h
  have := ih hq
  simp only [List.length_cons]; omega
 | case5 c t hc =>
  intro p h
  rw [qd, if_pos rfl, if_neg hc] at h
  obtain rfl := Option.some.inj h
  simp
 | case6 b c t hb ih =>
  intro p h
  rw [qd, if_neg hb] at h
  obtain ⟨q, hq, rfl⟩ := Option.map_eq_some_iff.1 h
  have := ih hq
  simp only [List.length_cons] at this ⊢; omega
theorem qd_bytes {l : List Int} (hl : Bytes l) : ∀ {p}, qd l = some p → Bytes p.1 := by
 induction l using qd.induct with
 | case1 => intro p h; cases h
 | case2 =>
  intro p h
  obtain rfl := Option.some.inj h
  intro x hx; cases hx
 | case3 b hb => intro p h; rw [qd, if_neg hb] at h; cases h
 | case4 t ih =>
  intro p h
  rw [qd_two] at h
  obtain ⟨q, hq, rfl⟩ := Option.map_eq_some_iff.1 h
  have := ih (fun x hx => hl x (List.mem_cons_of_mem _ (List.mem_cons_of_mem _ hx))) hq
  intro x hx
  rcases List.mem_cons.1 hx with rfl | hx
  ·omega
  ·exact this x hx
 | case5 c t hc =>
  intro p h
  rw [qd, if_pos rfl, if_neg hc] at h
  obtain rfl := Option.some.inj h
  intro x hx; cases hx
 | case6 b c t hb ih =>
  intro p h
  rw [qd, if_neg hb] at h
  obtain ⟨q, hq, rfl⟩ := Option.map_eq_some_iff.1 h
  have := ih (fun x hx => hl x (List.mem_cons_of_mem _ hx)) hq
  intro x hx
  rcases List.mem_cons.1 hx with rfl | hx
  ·exact hl _ List.mem_cons_self
  ·exact this x hx
theorem lend_le (l : List Int) : lend l ≤ l.length := by
 unfold lend
 split
 ·rename_i h
  have := congrArg List.length h
  simp at this; omega
 ·split
  ·rename_i h
   have := congrArg List.length h
   simp at this; omega
  ·omega
theorem pln_len (l : List Int) : (pln l).length ≤ l.length := (List.takeWhile_prefix _).length_le
theorem pln_take (l : List Int) : l.take (pln l).length = pln l := (List.prefix_iff_eq_take.1 (List.takeWhile_prefix _)).symm
theorem raw_len {l : List Int} {p : List Int × Nat} (h : raw l = some p) : p.1.length ≤ p.2 ∧ p.2 ≤ l.length := by
 unfold raw at h
 split at h
 ·rename_i h1
  obtain ⟨q, hq, rfl⟩ := Option.map_eq_some_iff.1 h
  have := qd_len hq
  have h2 := congrArg List.length h1
  simp at this h2 ⊢; omega
 ·obtain rfl := Option.some.inj h
  have := pln_len l
  simp; omega
theorem raw_bytes {l : List Int} {p : List Int × Nat} (hl : Bytes l) (h : raw l = some p) : Bytes p.1 := by
 unfold raw at h
 split at h
 ·obtain ⟨q, hq, rfl⟩ := Option.map_eq_some_iff.1 h
  exact qd_bytes (p := q) (hl.drop 1) hq
 ·obtain rfl := Option.some.inj h
  intro x hx
  exact hl x ((List.takeWhile_prefix _).subset hx)
theorem fieldS_len {l : List Int} {i : Nat} {p : List Int × Nat} (h : fieldS l i = .inr p) : p.1.length ≤ 4096 ∧ p.1.length ≤ p.2 ∧ p.2 ≤ l.length := by
 unfold fieldS at h
 cases hr : raw l with
 | none => rw [hr] at h; cases h
 | some q =>
  rw [hr] at h
  have := raw_len hr
  simp only at h
  split at h
  ·cases h
  ·split at h
   ·cases h
   ·obtain rfl := Sum.inr.inj h
    omega
/-- A text with its quotes doubled. -/
def dbl (s : List Int) : List Int := s.flatMap (fun b => if b = 34 then [34, 34] else [b])
theorem dbl_cons (b : Int) (s : List Int) : dbl (b :: s) = (if b = 34 then [34, 34] else [b]) ++ dbl s := rfl
theorem dbl_nil : dbl [] = [] := rfl
theorem dbl_append (s t : List Int) : dbl (s ++ t) = dbl s ++ dbl t := by simp [dbl]
theorem dbl_len (s : List Int) : s.length ≤ (dbl s).length ∧ (dbl s).length ≤ 2 * s.length := by
 induction s with
 | nil => simp [dbl]
 | cons b s ih =>
  rw [dbl_cons, List.length_append, List.length_cons]
  split <;> simp <;> omega
theorem dbl_bytes {s : List Int} (h : Bytes s) : Bytes (dbl s) := by
 intro x hx
 obtain ⟨b, hb, hx⟩ := List.mem_flatMap.1 hx
 have := h b hb
 split at hx <;> simp at hx <;> omega
theorem dbl_id {s : List Int} (h : (34 : Int) ∉ s) : dbl s = s := by
 induction s with
 | nil => rfl
 | cons b s ih =>
  have hb : ¬ b = 34 := fun h' => h (by rw [h']; exact List.mem_cons_self)
  rw [dbl_cons, if_neg hb, ih (fun h' => h (List.mem_cons_of_mem _ h'))]; rfl
theorem qd_dbl (s r : List Int) (hr : ¬ r.take 1 = [34]) : qd (dbl s ++ 34 :: r) = some (s, (dbl s).length + 1) := by
 induction s with
 | nil => rw [dbl_nil, List.nil_append, qd_end r hr]; rfl
 | cons b s ih =>
  rw [dbl_cons]
  by_cases hb : b = 34
  ·rw [if_pos hb, List.append_assoc]
   show qd (34 :: 34 :: (dbl s ++ 34 :: r)) = _
   rw [qd_two, ih, hb]; simp
  ·rw [if_neg hb, List.append_assoc, qd_pre [b] _ (by simp; exact fun h => hb h.symm) (by simp), ih]; simp
theorem raw_quoted (s r : List Int) (hr : ¬ r.take 1 = [34]) : raw (34 :: (dbl s ++ 34 :: r)) = some (s, (dbl s).length + 2) := by
 unfold raw
 rw [if_pos (by rfl), List.drop_one, List.tail_cons, qd_dbl s r hr]; rfl
theorem pln_pre (s r : List Int) (hs : ∀ b ∈ s, odd4 b = false) (hr : ∀ b ∈ r.head?, odd4 b = true) : pln (s ++ r) = s := by
 induction s with
 | nil =>
  cases r with
  | nil => rfl
  | cons c r => simp [pln, hr c (by simp)]
 | cons b s ih =>
  have h1 := ih (fun x hx => hs x (List.mem_cons_of_mem _ hx))
  have h2 := hs b List.mem_cons_self
  unfold pln at h1 ⊢
  simp [h2, h1]
theorem raw_plain (s r : List Int) (hs : ∀ b ∈ s, odd4 b = false) (hr : ∀ b ∈ r.head?, odd4 b = true) (h34 : ¬ r.take 1 = [34]) : raw (s ++ r) = some (s, s.length) := by
 unfold raw
 rw [if_neg, pln_pre s r hs hr]
 intro h
 cases s with
 | nil => exact h34 h
 | cons b s =>
  have h1 := hs b List.mem_cons_self
  rw [(List.cons.inj h).1] at h1
  exact absurd h1 (by decide)
/-- A field that is good, and what stands behind it. -/
theorem fieldS_of {l : List Int} {i : Nat} {p : List Int × Nat} (h : raw l = some p) (h1 : ¬ fbad (l.drop p.2)) (h2 : p.1.length ≤ 4096) : fieldS l i = .inr p := by
 unfold fieldS
 rw [h]
 simp only
 rw [if_neg h1, if_neg (by omega)]
theorem idx_none {l : List Int} {c : Int} (h : idx l c < 0) : c ∉ l := by
 induction l with
 | nil => simp
 | cons b l ih =>
  have := idx_ge l c
  simp only [idx] at h
  split at h
  ·omega
  ·rename_i hb
   split at h
   ·rename_i h1
    intro hc
    rcases List.mem_cons.1 hc with rfl | hc
    ·exact hb rfl
    ·exact ih (by omega) hc
   ·omega
theorem idx_some {l : List Int} {c : Int} (h : 0 ≤ idx l c) : ∃ n : Nat, idx l c = n ∧ n < l.length ∧ l = l.take n ++ c :: l.drop (n + 1) ∧ c ∉ l.take n := by
 induction l with
 | nil => simp [idx] at h
 | cons b l ih =>
  have := idx_ge l c
  simp only [idx] at h ⊢
  split
  ·rename_i hb
   exact ⟨0, rfl, by simp, by simp [hb], by simp⟩
  ·rename_i hb
   rw [if_neg hb] at h
   split at h
   ·omega
   ·rename_i h1
    rw [if_neg h1]
    obtain ⟨n, h2, h3, h4, h5⟩ := ih (by omega)
    refine ⟨n + 1, by omega, by simp; omega, ?_, ?_⟩
    ·rw [List.take_succ_cons, List.drop_succ_cons, List.cons_append, ← h4]
    ·rw [List.take_succ_cons]
     intro hc
     rcases List.mem_cons.1 hc with rfl | hc
     ·exact hb rfl
     ·exact h5 hc
def toI (l : List UInt8) : List Int := l.map fun b => (b.toNat : Int)
theorem toI_append (l m : List UInt8) : toI (l ++ m) = toI l ++ toI m := by simp [toI]
theorem mk_of (l : List UInt8) : (⟨l.toArray⟩ : ByteArray) = strOfNums (toI l) := by
 apply bytesOf_inj
 have hB : Bytes (toI l) := by
  intro x hx
  obtain ⟨b, _, rfl⟩ := List.mem_map.1 hx
  have := b.toNat_lt
  omega
 rw [strOfNums_bytes hB]
 simp [bytesOf_data, toI]
/-- The rest of a text between quotes, a piece of it being read. -/
theorem qd_step {L : List Int} {j n : Nat} {res : Option (List Int × Nat)} {acc : List Int} {m : Nat} (hr : res = (qd (L.drop j)).map (fun p => (acc ++ p.1, p.2 + m))) (hn : n < (L.drop j).length) (hd : L.drop j = (L.drop j).take n ++ 34 :: (L.drop j).drop (n + 1)) (h34 : (34 : Int) ∉ (L.drop j).take n) :
  (¬ (L.drop (j + n + 1)).take 1 = [34] → res = some (acc ++ (L.drop j).take n, n + 1 + m)) ∧
  ((L.drop (j + n + 1)).take 1 = [34] → res = (qd (L.drop (j + n + 2))).map (fun p => ((acc ++ (L.drop j).take n) ++ [34] ++ p.1, p.2 + (m + n + 2)))) := by
 have e1 : (L.drop j).drop (n + 1) = L.drop (j + n + 1) := by rw [List.drop_drop]; congr 1
 have hl : ((L.drop j).take n).length = n := by rw [List.length_take]; omega
 rw [e1] at hd
 have hq : qd (L.drop j) = (qd (34 :: L.drop (j + n + 1))).map (fun p => ((L.drop j).take n ++ p.1, p.2 + n)) := by
  have := qd_pre ((L.drop j).take n) (34 :: L.drop (j + n + 1)) h34 (by simp)
  rw [hl, ← hd] at this
  exact this
 constructor
 ·intro h
  rw [hr, hq, qd_end _ h]
  simp; omega
 ·intro h
  have e2 : L.drop (j + n + 1) = 34 :: L.drop (j + n + 2) := by
   match hx : L.drop (j + n + 1), h with
   | a :: t, h =>
    obtain rfl : a = 34 := by simpa using h
    have : L.drop (j + n + 2) = (L.drop (j + n + 1)).drop 1 := by rw [List.drop_drop]
    rw [this, hx]; rfl
  rw [hr, hq, e2, qd_two]
  cases qd (L.drop (j + n + 2)) with
  | none => rfl
  | some p => simp; omega
end Go.Proofs.YtjmmdphkgioooaaDoor.La
end
section
namespace Go.Proofs.YtjmmdphkgioooaaDoor.La
open Go.RowKit Go.Proofs.YtjmmdphkgioooaaDoor.P Go.Proofs.YtjmmdphkgioooaaDoorW.PrintWords Go.Proofs.YtjmmdphkgioooaaDoorW.PrintLast Go.Proofs.YtjmmdphkgioooaaDoorW.PrintMore
/-- What may stand behind a field. -/
def Behind (r : List Int) : Prop := r = [] ∨ r.take 1 = [44] ∨ lend r ≠ 0
/-- The bytes p.1 are read as the field p.2. -/
def Wr (p : List Int × List Int) : Prop := (∀ r, Behind r → raw (p.1 ++ r) = some (p.2, p.1.length)) ∧ p.2.length ≤ 4096
theorem lend_head {r : List Int} (h : lend r ≠ 0) : r.take 1 = [10] ∨ r.take 1 = [13] := by
 unfold lend at h
 split at h
 ·rename_i h1; exact .inl h1
 ·split at h
  ·rename_i h1
   match r, h1 with
   | a :: b :: t, h1 => simp at h1; exact .inr (by simp [h1.1])
  ·exact absurd rfl h
theorem behind_head {r : List Int} (h : Behind r) : ∀ b ∈ r.head?, odd4 b = true := by
 intro b hb
 match r, hb with
 | a :: t, hb =>
  obtain rfl : a = b := by simpa using hb
  rcases h with h | h | h
  ·cases h
  ·simp at h; simp [odd4, h]
  ·rcases lend_head h with h | h <;> simp at h <;> simp [odd4, h]
theorem behind_34 {r : List Int} (h : Behind r) : ¬ r.take 1 = [34] := by
 intro h34
 rcases h with h | h | h
 ·rw [h] at h34; cases h34
 ·rw [h] at h34; simp at h34
 ·rcases lend_head h with h | h <;> rw [h] at h34 <;> simp at h34
theorem behind_fbad {r : List Int} (h : Behind r) : ¬ fbad r := by
 rintro ⟨h1, h2, h3⟩
 rcases h with h | h | h
 ·exact h1 h
 ·exact h2 h
 ·exact h h3
/-- A field without quotes. -/
theorem wr_plain {s : List Int} (hs : ∀ b ∈ s, odd4 b = false) (hl : s.length ≤ 4096) : Wr (s, s) :=
 ⟨fun r hr => raw_plain s r hs (behind_head hr) (behind_34 hr), hl⟩
/-- A field between quotes. -/
theorem wr_quoted {s : List Int} (hl : s.length ≤ 4096) : Wr (34 :: (dbl s ++ [34]), s) :=
 ⟨fun r hr => by
  have h := raw_quoted s r (behind_34 hr)
  have e : 34 :: (dbl s ++ 34 :: r) = (34 :: (dbl s ++ [34])) ++ r := by simp
  rw [e] at h
  rw [h]
  simp, hl⟩
def joinC : List (List Int) → List Int
 | [] => []
 | [a] => a
 | a :: b :: t => a ++ 44 :: joinC (b :: t)
theorem fieldS_wr {p : List Int × List Int} (h : Wr p) {r : List Int} (hr : Behind r) (i : Nat) : fieldS (p.1 ++ r) i = .inr (p.2, p.1.length) := by
 refine fieldS_of (h.1 r hr) ?_ h.2
 simp only [List.drop_left']
 exact behind_fbad hr
theorem rowS_of : ∀ (fs : List (List Int × List Int)) (R : List Int), fs ≠ [] → (∀ p ∈ fs, Wr p) → (R = [] ∨ lend R ≠ 0) → ∀ (k : Nat) (acc : List S57) (i : Nat), fs.length ≤ k →
  ∃ row, rowS k acc (joinC (fs.map Prod.fst) ++ R) i = .inr (acc ++ row, R.drop (lend R), i + (joinC (fs.map Prod.fst)).length + lend R) ∧ row.map S57.f0 = fs.map (fun p => strOfNums p.2)
 | [], _, hne, _, _, _, _, _, _ => absurd rfl hne
 | [p], R, _, hg, hR, 0, _, _, hk => by simp at hk
 | [p], R, _, hg, hR, k + 1, acc, i, hk => by
  refine ⟨[⟨strOfNums p.2, (i : Int)⟩], ?_, rfl⟩
  have hb : Behind R := hR.elim .inl (fun h => .inr (.inr h))
  have h44 : ¬ R.take 1 = [44] := by
   rcases hR with h | h
   ·rw [h]; simp
   ·rcases lend_head h with h | h <;> rw [h] <;> simp
  simp only [List.map_cons, List.map_nil, joinC]
  rw [rowS, fieldS_wr (hg p List.mem_cons_self) hb]
  simp only [List.drop_left']
  rw [if_neg h44, ← List.drop_drop, List.drop_left']
  rfl
 | p :: q :: t, R, _, hg, hR, 0, _, _, hk => by simp at hk
 | p :: q :: t, R, _, hg, hR, k + 1, acc, i, hk => by
  have hb : Behind (44 :: (joinC ((q :: t).map Prod.fst) ++ R)) := .inr (.inl rfl)
  obtain ⟨row, h1, h2⟩ := rowS_of (q :: t) R (by simp) (fun x hx => hg x (List.mem_cons_of_mem _ hx)) hR k (acc ++ [⟨strOfNums p.2, (i : Int)⟩]) (i + p.1.length + 1) (by simp at hk ⊢; omega)
  refine ⟨⟨strOfNums p.2, (i : Int)⟩ :: row, ?_, by rw [List.map_cons, h2]; rfl⟩
  have e : joinC ((p :: q :: t).map Prod.fst) ++ R = p.1 ++ 44 :: (joinC ((q :: t).map Prod.fst) ++ R) := by simp [joinC]
  rw [e, rowS, fieldS_wr (hg p List.mem_cons_self) hb]
  simp only [List.drop_left']
  rw [if_pos (show List.take 1 (44 :: (joinC ((q :: t).map Prod.fst) ++ R)) = [44] from rfl), ← List.drop_drop, List.drop_left' rfl, List.drop_one, List.tail_cons, h1]
  simp [joinC]
  omega
/-- A line: its fields, its end. -/
abbrev Line := List (List Int × List Int) × List Int
def Line.text (l : Line) : List Int := joinC (l.1.map Prod.fst) ++ l.2
def Line.good (l : Line) : Prop := l.1 ≠ [] ∧ (∀ p ∈ l.1, Wr p) ∧ (l.2 = [10] ∨ l.2 = [13, 10]) ∧ l.1.length ≤ 64
/-- The last line may end without an end, if it has bytes. -/
def Line.last (l : Line) : Prop := l.good ∨ (l.1 ≠ [] ∧ (∀ p ∈ l.1, Wr p) ∧ l.2 = [] ∧ l.1.length ≤ 64 ∧ l.text ≠ [])
def textOf (ls : List Line) : List Int := ls.flatMap Line.text
def Lines : List Line → Prop
 | [] => True
 | [l] => l.last
 | l :: m :: t => l.good ∧ Lines (m :: t)
/-- What the rows are; none: a row of another length. -/
def rowsOf : List (List ByteArray) → List (List (List Int × List Int)) → Option (List (List ByteArray))
 | rows, [] => some rows
 | rows, l :: t => if rows ≠ [] ∧ l.length ≠ (rows.headD []).length then none else rowsOf (rows ++ [l.map (fun p => strOfNums p.2)]) t
theorem lend_end {e : List Int} (h : e = [10] ∨ e = [13, 10]) (r : List Int) : lend (e ++ r) = e.length ∧ lend (e ++ r) ≠ 0 := by
 rcases h with rfl | rfl
 ·exact ⟨rfl, by show (1 : Nat) ≠ 0; omega⟩
 ·exact ⟨rfl, by show (2 : Nat) ≠ 0; omega⟩
theorem row_line {l : Line} {r : List Int} (h : l.good ∨ (l.last ∧ r = [])) (acc : List S57) (i : Nat) :
  l.text ++ r ≠ [] ∧ ∃ row, rowS 64 acc (l.text ++ r) i = .inr (acc ++ row, r, i + l.text.length) ∧ row.map S57.f0 = l.1.map (fun p => strOfNums p.2) := by
 have key : l.1 ≠ [] → (∀ p ∈ l.1, Wr p) → l.1.length ≤ 64 → (l.2 = [10] ∨ l.2 = [13, 10]) ∨ (l.2 = [] ∧ r = []) →
   ∃ row, rowS 64 acc (l.text ++ r) i = .inr (acc ++ row, r, i + l.text.length) ∧ row.map S57.f0 = l.1.map (fun p => strOfNums p.2) := by
  intro h1 h2 h3 h4
  have hR : l.2 ++ r = [] ∨ lend (l.2 ++ r) ≠ 0 := by
   rcases h4 with h4 | ⟨h4, h5⟩
   ·exact .inr (lend_end h4 r).2
   ·exact .inl (by rw [h4, h5]; rfl)
  have hd : (l.2 ++ r).drop (lend (l.2 ++ r)) = r ∧ lend (l.2 ++ r) = l.2.length := by
   rcases h4 with h4 | ⟨h4, h5⟩
   ·rw [(lend_end h4 r).1]; simp
   ·rw [h4, h5]; exact ⟨rfl, rfl⟩
  obtain ⟨row, h5, h6⟩ := rowS_of l.1 (l.2 ++ r) h1 h2 hR 64 acc i h3
  refine ⟨row, ?_, h6⟩
  unfold Line.text
  rw [List.append_assoc, h5, hd.1, hd.2, List.length_append, Nat.add_assoc]
 rcases h with h | ⟨h | h, hr⟩
 ·refine ⟨?_, key h.1 h.2.1 h.2.2.2 (.inl h.2.2.1)⟩
  unfold Line.text
  rcases h.2.2.1 with h | h <;> rw [h] <;> simp
 ·refine ⟨?_, key h.1 h.2.1 h.2.2.2 (.inl h.2.2.1)⟩
  unfold Line.text
  rcases h.2.2.1 with h | h <;> rw [h] <;> simp
 ·exact ⟨by simp [h.2.2.2.2], key h.1 h.2.1 h.2.2.2.1 (.inr ⟨h.2.2.1, hr⟩)⟩
theorem lines_cons {l : Line} {t : List Line} (h : Lines (l :: t)) : (l.good ∨ (l.last ∧ textOf t = [])) ∧ Lines t := by
 cases t with
 | nil => exact ⟨.inr ⟨h, rfl⟩, trivial⟩
 | cons m t => exact ⟨.inl h.1, h.2⟩
theorem whole_lines : ∀ (ls : List Line), Lines ls → ∀ (k : Nat) (rows : List (List S57)) (i : Nat), ls.length ≤ k →
  match rowsOf (rows.map (·.map S57.f0)) (ls.map Prod.fst) with
  | none => ∃ j, wholeS k rows (textOf ls) i = .inl (7, j)
  | some r => ∃ rows', wholeS k rows (textOf ls) i = .inr rows' ∧ rows'.map (·.map S57.f0) = r
 | [], _, k, rows, i, _ => by
  show ∃ rows', _
  exact ⟨rows, by cases k <;> rfl, rfl⟩
 | l :: t, h, 0, rows, i, hk => by simp at hk
 | l :: t, h, k + 1, rows, i, hk => by
  obtain ⟨h1, h2⟩ := lines_cons h
  have hline := row_line (l := l) (r := textOf t) h1 [] i
  obtain ⟨hne, row, hrow, hfst⟩ := hline
  have htext : textOf (l :: t) = l.text ++ textOf t := rfl
  have hlen : row.length = l.1.length := by simpa using congrArg List.length hfst
  have hcond : (rows ≠ [] ∧ row.length ≠ (rows.headD []).length) ↔ (rows.map (·.map S57.f0) ≠ [] ∧ l.1.length ≠ ((rows.map (·.map S57.f0)).headD []).length) := by
   rw [hlen]
   cases rows with
   | nil => simp
   | cons a b => simp
  simp only [List.map_cons, rowsOf]
  rw [htext, wholeS, if_neg hne, hrow]
  simp only [List.nil_append]
  by_cases hc : rows ≠ [] ∧ row.length ≠ (rows.headD []).length
  ·rw [if_pos (hcond.1 hc), if_pos hc]
   exact ⟨i, rfl⟩
  ·rw [if_neg (fun h => hc (hcond.2 h)), if_neg hc]
   have ih := whole_lines t h2 k (rows ++ [row]) (i + l.text.length) (by simp at hk; omega)
   rw [List.map_append, List.map_cons, List.map_nil, hfst] at ih
   exact ih
end Go.Proofs.YtjmmdphkgioooaaDoor.La
end
section
namespace Go.Proofs.YtjmmdphkgioooaaDoor.P
open Go.RowKit Go.Proofs.YtjmmdphkgioooaaDoorW.PrintWords Go.Proofs.YtjmmdphkgioooaaDoorW.PrintLast Go.Proofs.YtjmmdphkgioooaaDoorW.PrintMore
attribute [local go_sem] max2_int min2_int max_two min_two max_three min_three max_four min_four   -- for this text's walks alone
set_option linter.unusedVariables false
set_option linter.unusedSimpArgs false
/-! ### stringslite_HasPrefix: function 77 -/
def stringslite_HasPrefix.f (a0 : ByteArray) (a1 : ByteArray) : Option (Bool) := if (a0.size : Int) ≥ (a1.size : Int) then (if 0 ≤ (a1.size : Int) then (if (a1.size : Int) ≤ (a0.size : Int) then (some ((a0.extract 0 ((a1.size : Int) : Int).toNat).toList == a1.toList)) else (none)) else (none)) else (some false)
set_option maxHeartbeats 8000000 in
set_option maxRecDepth 100000 in
theorem stringslite_HasPrefix.calls (a0 : ByteArray) (a1 : ByteArray) (r : Bool) (w : World) (h : stringslite_HasPrefix.f a0 a1 = some r) :
  Calls Tryd.prog 77 #[.string a0, .string a1] w fun e w' => e = .returned (.bool r) ∧ Drawn0 w w' := by
 have H : (if (a0.size : Int) ≥ (a1.size : Int) then (if 0 ≤ (a1.size : Int) then (if (a1.size : Int) ≤ (a0.size : Int) then (some ((a0.extract 0 ((a1.size : Int) : Int).toNat).toList == a1.toList)) else (none)) else (none)) else (some false)) = some r := h
 clear h
 by_cases c3 : (a0.size : Int) ≥ (a1.size : Int)
 ·rw [if_pos c3] at H
  have c3b0 : decide ((a1.size : Int) ≤ (a0.size : Int)) = true := decide_eq_true c3
  have c3b1 : decide (a1.size ≤ a0.size) = true := decide_eq_true (Int.ofNat_le.mp c3)
  clear c3
  by_cases c4 : 0 ≤ (a1.size : Int)
  ·rw [if_pos c4] at H
   have c4b0 := eq_true c4
   have c4b1 : decide (0 ≤ (a1.size : Int)) = true := decide_eq_true c4
   clear c4
   by_cases c5 : (a1.size : Int) ≤ (a0.size : Int)
   ·rw [if_pos c5] at H
    have c5b0 := eq_true c5
    have c5b1 : decide ((a1.size : Int) ≤ (a0.size : Int)) = true := decide_eq_true c5
    clear c5
    obtain rfl := Option.some.inj H
    go_enter Tryd.func77, Tryd.ntmps77
    go_wp2
    go_ret
    exact ⟨by first | rfl | (simp; done) | (simp [*]; done), by repeat (first | exact Drawn0.refl _ | apply Drawn0.step)⟩
   ·rw [if_neg c5] at H
    exact absurd H (by simp)
  ·rw [if_neg c4] at H
   exact absurd H (by simp)
 ·rw [if_neg c3] at H
  have c3b0 : decide ((a1.size : Int) ≤ (a0.size : Int)) = false := decide_eq_false c3
  have c3b1 : decide (a1.size ≤ a0.size) = false := decide_eq_false (fun h => c3 (Int.ofNat_le.mpr h))
  clear c3
  obtain rfl := Option.some.inj H
  go_enter Tryd.func77, Tryd.ntmps77
  go_wp2
  go_ret
  exact ⟨by first | rfl | (simp; done) | (simp [*]; done), by repeat (first | exact Drawn0.refl _ | apply Drawn0.step)⟩
end Go.Proofs.YtjmmdphkgioooaaDoor.P
end
section
namespace Go.Proofs.YtjmmdphkgioooaaDoor.P
open Go.RowKit Go.Proofs.YtjmmdphkgioooaaDoorW.PrintWords Go.Proofs.YtjmmdphkgioooaaDoorW.PrintLast Go.Proofs.YtjmmdphkgioooaaDoorW.PrintMore
attribute [local go_sem] max2_int min2_int max_two min_two max_three min_three max_four min_four   -- for this text's walks alone
set_option linter.unusedVariables false
set_option linter.unusedSimpArgs false
/-! ### strings_HasPrefix: function 68 -/
def strings_HasPrefix.f (a0 : ByteArray) (a1 : ByteArray) : Option (Bool) := (stringslite_HasPrefix.f a0 a1).bind fun t237 => (some t237)
set_option maxHeartbeats 8000000 in
set_option maxRecDepth 100000 in
theorem strings_HasPrefix.calls (a0 : ByteArray) (a1 : ByteArray) (r : Bool) (w : World) (h : strings_HasPrefix.f a0 a1 = some r) :
  Calls Tryd.prog 68 #[.string a0, .string a1] w fun e w' => e = .returned (.bool r) ∧ Drawn0 w w' := by
 have H : ((stringslite_HasPrefix.f a0 a1).bind fun t237 => (some t237)) = some r := h
 clear h
 replace H := Option.bind_eq_some_iff.mp H
 obtain ⟨t237, A30, H⟩ := H
 replace H : (some t237) = some r := H
 have A3 := Aside0.mk A30
 clear A30
 obtain rfl := Option.some.inj H
 go_enter Tryd.func68, Tryd.ntmps68
 go_wp2_with (first | ((with_reducible refine gate_callee (f := 77) rfl ?_); refine goesL_ (some 7) rfl rfl Tryd.func77 (by kernel_rfl) rfl #[.string a0, .string a1] rfl (by (try simp only [List.map_toArray, List.map_cons, List.map_nil]); first | done | rfl | (simp only [List.length_drop, List.length_take]; rfl)) ?_; (with_reducible refine (stringslite_HasPrefix.calls a0 a1 t237 _ A3.out).mono ?_); rintro e w' ⟨rfl, ⟨nd, rfl⟩⟩; refine ⟨_, rfl, ?_⟩))
 go_ret
 exact ⟨by first | rfl | (simp; done) | (simp [*]; done), by repeat (first | exact Drawn0.refl _ | apply Drawn0.step)⟩
end Go.Proofs.YtjmmdphkgioooaaDoor.P
end
section
namespace Go.Proofs.YtjmmdphkgioooaaDoor.La
open Go.RowKit Go.Proofs.YtjmmdphkgioooaaDoor.P Go.Proofs.YtjmmdphkgioooaaDoorW.PrintWords Go.Proofs.YtjmmdphkgioooaaDoorW.PrintLast Go.Proofs.YtjmmdphkgioooaaDoorW.PrintMore
theorem hasPrefix_eq (s p : ByteArray) : strings_HasPrefix.f s p = some (decide ((bytesOf s).take p.size = bytesOf p)) := by
 unfold strings_HasPrefix.f stringslite_HasPrefix.f
 by_cases h : (s.size : Int) ≥ (p.size : Int)
 ·rw [if_pos h, if_pos (by omega), if_pos h, Option.bind_some]
  congr 1
  rw [Bool.eq_iff_iff, beq_iff_eq, decide_eq_true_eq, toList_eq_iff, bytesOf_take, Int.toNat_natCast]
 ·rw [if_neg h, Option.bind_some]
  congr 1
  rw [eq_comm, decide_eq_false_iff_not]
  intro e
  have := congrArg List.length e
  rw [List.length_take, size_of, size_of] at this
  omega
theorem pre_at (t : ByteArray) (i : Nat) (p : ByteArray) : strings_HasPrefix.f (t.extract i t.size) p = some (decide (((bytesOf t).drop i).take p.size = bytesOf p)) := by rw [hasPrefix_eq, bytesOf_drop]
end Go.Proofs.YtjmmdphkgioooaaDoor.La
end
section
namespace Go.Proofs
open Go.Shelf
def Tryd.lays169_ren : Go.Shelf.Ren := ⟨fun | 169 => 23 | n => n, fun | 70 => 41 | 9 => 9 | 0 => 0 | 72 => 44 | 37 => 42 | 127 => 63 | 3 => 3 | 5 => 5 | n => n, fun | n => n⟩
theorem Tryd.lays169 : Go.Proofs.Lays.n169 Tryd.prog Tryd.lays169_ren := {
 mixed := by kernel_rfl
 f169 := Tryd.func23.trans (congrArg some (by kernel_rfl))
 t0 := Tryd.underlying0
 a0 := Tryd.isAgg0
 z0 := Tryd.sizeOf0
 v0 := Tryd.zeroValue0
 t3 := Tryd.underlying3
 a3 := Tryd.isAgg3
 z3 := Tryd.sizeOf3
 v3 := Tryd.zeroValue3
 t9 := Tryd.underlying9
 a9 := Tryd.isAgg9
 z9 := Tryd.sizeOf9
 v9 := Tryd.zeroValue9
 t37 := Tryd.underlying42
 a37 := Tryd.isAgg42
 z37 := Tryd.sizeOf42
 v37 := Tryd.zeroValue42
 t70 := Tryd.underlying41
 a70 := Tryd.isAgg41
 z70 := Tryd.sizeOf41
 v70 := Tryd.zeroValue41
 t72 := Tryd.underlying44
 a72 := Tryd.isAgg44
 z72 := Tryd.sizeOf44
 v72 := Tryd.zeroValue44
 t127 := Tryd.underlying63
 a127 := Tryd.isAgg63
 z127 := Tryd.sizeOf63
 v127 := Tryd.zeroValue63 }
theorem Tryd.Builder_Extra_169 : Builder.Extra Tryd.prog Tryd.lays169_ren := {
 sizeBuilder := by kernel_rfl
 liesBuilder := by kernel_rfl
 t5 := Tryd.underlying5
 a5 := Tryd.isAgg5
 z5 := Tryd.sizeOf5
 v5 := Tryd.zeroValue5
 infoByte := by kernel_rfl
 cellsByte := by kernel_rfl
 sizeByte := by kernel_rfl
 neB5 := by decide }
def Tryd.lays119_ren : Go.Shelf.Ren := ⟨fun | 119 => 57 | n => n, fun | 21 => 21 | 4 => 4 | n => n, fun | n => n⟩
theorem Tryd.lays119 : Go.Proofs.Lays.n119 Tryd.prog Tryd.lays119_ren := {
 mixed := by kernel_rfl
 f119 := Tryd.func57.trans (congrArg some (by kernel_rfl))
 t4 := Tryd.underlying4
 a4 := Tryd.isAgg4
 z4 := Tryd.sizeOf4
 v4 := Tryd.zeroValue4
 t21 := Tryd.underlying21
 a21 := Tryd.isAgg21
 z21 := Tryd.sizeOf21
 v21 := Tryd.zeroValue21 }
theorem Tryd.utf8_ValidRune (r : Int) (w : World) :
  Calls Tryd.prog 57 #[.int .i32 r] w fun e w' => e = .returned (.bool (Lib.validRune r)) ∧ w' = w := Any.utf8_ValidRune Tryd.lays119 r w
def Tryd.lays137_ren : Go.Shelf.Ren := ⟨fun | 137 => 56 | 217 => 71 | 266 => 78 | n => n, fun | 9 => 9 | 5 => 5 | 3 => 3 | n => n, fun | n => n⟩
theorem Tryd.lays137 : Go.Proofs.Lays.n137 Tryd.prog Tryd.lays137_ren := {
 mixed := by kernel_rfl
 f137 := Tryd.func56.trans (congrArg some (by kernel_rfl))
 f217 := Tryd.func71.trans (congrArg some (by kernel_rfl))
 f266 := Tryd.func78.trans (congrArg some (by kernel_rfl))
 t3 := Tryd.underlying3
 a3 := Tryd.isAgg3
 z3 := Tryd.sizeOf3
 v3 := Tryd.zeroValue3
 t5 := Tryd.underlying5
 a5 := Tryd.isAgg5
 z5 := Tryd.sizeOf5
 v5 := Tryd.zeroValue5
 t9 := Tryd.underlying9
 a9 := Tryd.isAgg9
 z9 := Tryd.sizeOf9
 v9 := Tryd.zeroValue9 }
open Go.RowKit in
theorem Tryd.strings_IndexByte (s : ByteArray) (c : Int) (w : World) :
  Calls Tryd.prog 56 #[.string s, .int .u8 c] w fun e w' => e = .returned (.int .i64 (Lib.indexByte s.data.toList c.toNat.toUInt8)) ∧ w' = w := Any.strings_IndexByte Tryd.lays137 s c w
open Go.RowKit in
theorem Tryd.Builder_String_any_k (B b : Nat) (l : List UInt8) (w : World) (h : Lib.IsBuilderF 44 5 B b (Lib.byteCells l) w) (hBw : B ≤ w.heap.size) :
  Calls Tryd.prog 23 #[.pointer (some ⟨b, 0, none⟩)] w fun e w' => e = .returned (.string ⟨l.toArray⟩) ∧ (Lib.IsBuilderF 44 5 B b (Lib.byteCells l) w' ∧ Below B w w' ∧ Lib.OthersKept 5 (some b) w w') := Any.Builder_String_any_k Tryd.lays169 Tryd.Builder_Extra_169 B b l w h hBw
def Tryd.lays143_ren : Go.Shelf.Ren := ⟨fun | 143 => 49 | 219 => 62 | 217 => 71 | 225 => 59 | 224 => 58 | 267 => 72 | 266 => 78 | 314 => 79 | n => n, fun | 9 => 9 | 3 => 3 | 4 => 4 | 5 => 5 | 46 => 69 | 146 => 104 | 51 => 103 | n => n, fun | 1 => 0 | n => n⟩
theorem Tryd.lays143 : Go.Proofs.Lays.n143 Tryd.prog Tryd.lays143_ren := {
 mixed := by kernel_rfl
 f143 := Tryd.func49.trans (congrArg some (by kernel_rfl))
 f217 := Tryd.func71.trans (congrArg some (by kernel_rfl))
 f219 := Tryd.func62.trans (congrArg some (by kernel_rfl))
 f224 := Tryd.func58.trans (congrArg some (by kernel_rfl))
 f225 := Tryd.func59.trans (congrArg some (by kernel_rfl))
 f266 := Tryd.func78.trans (congrArg some (by kernel_rfl))
 f267 := Tryd.func72.trans (congrArg some (by kernel_rfl))
 f314 := Tryd.func79.trans (congrArg some (by kernel_rfl))
 t3 := Tryd.underlying3
 a3 := Tryd.isAgg3
 z3 := Tryd.sizeOf3
 v3 := Tryd.zeroValue3
 t4 := Tryd.underlying4
 a4 := Tryd.isAgg4
 z4 := Tryd.sizeOf4
 v4 := Tryd.zeroValue4
 t5 := Tryd.underlying5
 a5 := Tryd.isAgg5
 z5 := Tryd.sizeOf5
 v5 := Tryd.zeroValue5
 t9 := Tryd.underlying9
 a9 := Tryd.isAgg9
 z9 := Tryd.sizeOf9
 v9 := Tryd.zeroValue9
 t46 := Tryd.underlying69
 a46 := Tryd.isAgg69
 z46 := Tryd.sizeOf69
 v46 := Tryd.zeroValue69
 t51 := Tryd.underlying103
 a51 := Tryd.isAgg103
 z51 := Tryd.sizeOf103
 v51 := Tryd.zeroValue103
 t146 := Tryd.underlying104
 a146 := Tryd.isAgg104
 z146 := Tryd.sizeOf104
 v146 := Tryd.zeroValue104
 g1 := by kernel_rfl }
open Go.RowKit Go.Lib in
theorem Tryd.strings_Index_one (s : ByteArray) (c : UInt8) (w : World) :
  Calls Tryd.prog 49 #[.string s, .string ⟨#[c]⟩] w fun e w' => e = .returned (.int .i64 (Lib.indexByte s.data.toList c)) ∧ w' = w := Any.strings_Index_one Tryd.lays143 s c w
def Tryd.lays138_ren : Go.Shelf.Ren := ⟨fun | 138 => 48 | 195 => 60 | 218 => 61 | 143 => 49 | 219 => 62 | 217 => 71 | 225 => 59 | 224 => 58 | 267 => 72 | 266 => 78 | 314 => 79 | n => n, fun | 9 => 9 | 3 => 3 | 4 => 4 | 5 => 5 | 0 => 0 | 46 => 69 | 146 => 104 | 51 => 103 | n => n, fun | 1 => 0 | n => n⟩
theorem Tryd.lays138 : Go.Proofs.Lays.n138 Tryd.prog Tryd.lays138_ren := {
 mixed := by kernel_rfl
 f138 := Tryd.func48.trans (congrArg some (by kernel_rfl))
 f143 := Tryd.func49.trans (congrArg some (by kernel_rfl))
 f195 := Tryd.func60.trans (congrArg some (by kernel_rfl))
 f217 := Tryd.func71.trans (congrArg some (by kernel_rfl))
 f218 := Tryd.func61.trans (congrArg some (by kernel_rfl))
 f219 := Tryd.func62.trans (congrArg some (by kernel_rfl))
 f224 := Tryd.func58.trans (congrArg some (by kernel_rfl))
 f225 := Tryd.func59.trans (congrArg some (by kernel_rfl))
 f266 := Tryd.func78.trans (congrArg some (by kernel_rfl))
 f267 := Tryd.func72.trans (congrArg some (by kernel_rfl))
 f314 := Tryd.func79.trans (congrArg some (by kernel_rfl))
 t0 := Tryd.underlying0
 a0 := Tryd.isAgg0
 z0 := Tryd.sizeOf0
 v0 := Tryd.zeroValue0
 t3 := Tryd.underlying3
 a3 := Tryd.isAgg3
 z3 := Tryd.sizeOf3
 v3 := Tryd.zeroValue3
 t4 := Tryd.underlying4
 a4 := Tryd.isAgg4
 z4 := Tryd.sizeOf4
 v4 := Tryd.zeroValue4
 t5 := Tryd.underlying5
 a5 := Tryd.isAgg5
 z5 := Tryd.sizeOf5
 v5 := Tryd.zeroValue5
 t9 := Tryd.underlying9
 a9 := Tryd.isAgg9
 z9 := Tryd.sizeOf9
 v9 := Tryd.zeroValue9
 t46 := Tryd.underlying69
 a46 := Tryd.isAgg69
 z46 := Tryd.sizeOf69
 v46 := Tryd.zeroValue69
 t51 := Tryd.underlying103
 a51 := Tryd.isAgg103
 z51 := Tryd.sizeOf103
 v51 := Tryd.zeroValue103
 t146 := Tryd.underlying104
 a146 := Tryd.isAgg104
 z146 := Tryd.sizeOf104
 v146 := Tryd.zeroValue104
 g1 := by kernel_rfl }
open Go.RowKit Go.Lib in
theorem Tryd.strings_Count_one (s : ByteArray) (c : UInt8) (w : World) :
  Calls Tryd.prog 48 #[.string s, .string ⟨#[c]⟩] w fun e w' => e = .returned (.int .i64 (Lib.countByte s.data.toList c)) ∧ w' = w := Any.strings_Count_one Tryd.lays138 s c w
def Tryd.lays152_ren : Go.Shelf.Ren := ⟨fun | 152 => 44 | 137 => 56 | 119 => 57 | 224 => 58 | 225 => 59 | 217 => 71 | 266 => 78 | n => n, fun | 9 => 9 | 21 => 21 | 3 => 3 | 4 => 4 | 5 => 5 | 0 => 0 | 46 => 69 | n => n, fun | n => n⟩
theorem Tryd.lays152 : Go.Proofs.Lays.n152 Tryd.prog Tryd.lays152_ren := {
 mixed := by kernel_rfl
 f119 := Tryd.func57.trans (congrArg some (by kernel_rfl))
 f137 := Tryd.func56.trans (congrArg some (by kernel_rfl))
 f152 := Tryd.func44.trans (congrArg some (by kernel_rfl))
 f217 := Tryd.func71.trans (congrArg some (by kernel_rfl))
 f224 := Tryd.func58.trans (congrArg some (by kernel_rfl))
 f225 := Tryd.func59.trans (congrArg some (by kernel_rfl))
 f266 := Tryd.func78.trans (congrArg some (by kernel_rfl))
 t0 := Tryd.underlying0
 a0 := Tryd.isAgg0
 z0 := Tryd.sizeOf0
 v0 := Tryd.zeroValue0
 t3 := Tryd.underlying3
 a3 := Tryd.isAgg3
 z3 := Tryd.sizeOf3
 v3 := Tryd.zeroValue3
 t4 := Tryd.underlying4
 a4 := Tryd.isAgg4
 z4 := Tryd.sizeOf4
 v4 := Tryd.zeroValue4
 t5 := Tryd.underlying5
 a5 := Tryd.isAgg5
 z5 := Tryd.sizeOf5
 v5 := Tryd.zeroValue5
 t9 := Tryd.underlying9
 a9 := Tryd.isAgg9
 z9 := Tryd.sizeOf9
 v9 := Tryd.zeroValue9
 t21 := Tryd.underlying21
 a21 := Tryd.isAgg21
 z21 := Tryd.sizeOf21
 v21 := Tryd.zeroValue21
 t46 := Tryd.underlying69
 a46 := Tryd.isAgg69
 z46 := Tryd.sizeOf69
 v46 := Tryd.zeroValue69 }
open Go.RowKit Go.Lib in
theorem Tryd.strings_IndexRune_ascii (s : ByteArray) (r : Int) (w : World) (h0 : 0 ≤ r) (h1 : r < 128) :
  Calls Tryd.prog 44 #[.string s, .int .i32 r] w fun e w' => e = .returned (.int .i64 (Lib.indexByte s.data.toList r.toNat.toUInt8)) ∧ w' = w := Any.strings_IndexRune_ascii Tryd.lays152 s r w h0 h1
def Tryd.lays226_ren : Go.Shelf.Ren := ⟨fun | 226 => 45 | n => n, fun | 3 => 3 | 4 => 4 | n => n, fun | n => n⟩
theorem Tryd.lays226 : Go.Proofs.Lays.n226 Tryd.prog Tryd.lays226_ren := {
 mixed := by kernel_rfl
 f226 := Tryd.func45.trans (congrArg some (by kernel_rfl))
 t3 := Tryd.underlying3
 a3 := Tryd.isAgg3
 z3 := Tryd.sizeOf3
 v3 := Tryd.zeroValue3
 t4 := Tryd.underlying4
 a4 := Tryd.isAgg4
 z4 := Tryd.sizeOf4
 v4 := Tryd.zeroValue4 }
open Go.RowKit Go.Lib in
theorem Tryd.strings_shouldUseASCIISet (n : Int) (w : World) :
  Calls Tryd.prog 45 #[.int .i64 n] w fun e w' => e = .returned (.bool (decide (8 < n))) ∧ w' = w := Any.strings_shouldUseASCIISet Tryd.lays226 n w
def Tryd.lays153_ren : Go.Shelf.Ren := ⟨fun | 153 => 34 | 152 => 44 | 226 => 45 | 227 => 46 | 228 => 47 | 137 => 56 | 119 => 57 | 224 => 58 | 225 => 59 | 217 => 71 | 266 => 78 | n => n, fun | 9 => 9 | 3 => 3 | 4 => 4 | 5 => 5 | 21 => 21 | 117 => 78 | 116 => 77 | 0 => 0 | 46 => 69 | 124 => 92 | n => n, fun | n => n⟩
theorem Tryd.lays153 : Go.Proofs.Lays.n153 Tryd.prog Tryd.lays153_ren := {
 mixed := by kernel_rfl
 f119 := Tryd.func57.trans (congrArg some (by kernel_rfl))
 f137 := Tryd.func56.trans (congrArg some (by kernel_rfl))
 f152 := Tryd.func44.trans (congrArg some (by kernel_rfl))
 f153 := Tryd.func34.trans (congrArg some (by kernel_rfl))
 f217 := Tryd.func71.trans (congrArg some (by kernel_rfl))
 f224 := Tryd.func58.trans (congrArg some (by kernel_rfl))
 f225 := Tryd.func59.trans (congrArg some (by kernel_rfl))
 f226 := Tryd.func45.trans (congrArg some (by kernel_rfl))
 f227 := Tryd.func46.trans (congrArg some (by kernel_rfl))
 f228 := Tryd.func47.trans (congrArg some (by kernel_rfl))
 f266 := Tryd.func78.trans (congrArg some (by kernel_rfl))
 t0 := Tryd.underlying0
 a0 := Tryd.isAgg0
 z0 := Tryd.sizeOf0
 v0 := Tryd.zeroValue0
 t3 := Tryd.underlying3
 a3 := Tryd.isAgg3
 z3 := Tryd.sizeOf3
 v3 := Tryd.zeroValue3
 t4 := Tryd.underlying4
 a4 := Tryd.isAgg4
 z4 := Tryd.sizeOf4
 v4 := Tryd.zeroValue4
 t5 := Tryd.underlying5
 a5 := Tryd.isAgg5
 z5 := Tryd.sizeOf5
 v5 := Tryd.zeroValue5
 t9 := Tryd.underlying9
 a9 := Tryd.isAgg9
 z9 := Tryd.sizeOf9
 v9 := Tryd.zeroValue9
 t21 := Tryd.underlying21
 a21 := Tryd.isAgg21
 z21 := Tryd.sizeOf21
 v21 := Tryd.zeroValue21
 t46 := Tryd.underlying69
 a46 := Tryd.isAgg69
 z46 := Tryd.sizeOf69
 v46 := Tryd.zeroValue69
 t116 := Tryd.underlying77
 a116 := Tryd.isAgg77
 z116 := Tryd.sizeOf77
 t117 := Tryd.underlying78
 a117 := Tryd.isAgg78
 z117 := Tryd.sizeOf78
 v117 := Tryd.zeroValue78
 t124 := Tryd.underlying92
 a124 := Tryd.isAgg92
 z124 := Tryd.sizeOf92
 v124 := Tryd.zeroValue92 }
open Go.RowKit Go.Lib in
theorem Tryd.strings_IndexAny_long (hv116 : ∀ w, (zeroValue 77).run Tryd.prog w = .ok (.agg (Array.replicate 256 (.bool false))) w) (s chars : ByteArray) (w : World) (h2 : 2 ≤ chars.size) (h8 : 8 < s.size) (hs : s.size < 4294967281) (hcs : chars.size < 4294967281) (hascii : ∀ (j : Nat) b, chars.data.toList[j]? = some b → b.toNat < 128) :
  Calls Tryd.prog 34 #[.string s, .string chars] w fun e w' => e = .returned (.int .i64 (Lib.indexAny s.data.toList chars.data.toList)) ∧ w' = ((w.alloc (.cells (Lib.setCells chars.data.toList) 77)).alloc (.cells (Lib.setCells chars.data.toList) 77)) := Any.strings_IndexAny_long Tryd.lays153 hv116 (by kernel_rfl) s chars w h2 h8 hs hcs hascii
end Go.Proofs
end
section
namespace Go.Proofs.YtjmmdphkgioooaaDoor.P
open Go.RowKit Go.Proofs.YtjmmdphkgioooaaDoor.La Go.Proofs.YtjmmdphkgioooaaDoorW.PrintWords Go.Proofs.YtjmmdphkgioooaaDoorW.PrintLast Go.Proofs.YtjmmdphkgioooaaDoorW.PrintMore
abbrev IsB (B b : Nat) (bs : List Value) (w : World) : Prop := Lib.IsBuilderF 44 5 B b bs w
abbrev AtB (B b : Nat) (bs : List Value) (w : World) : Prop := Lib.BuilderAtF 44 5 B b (.pointer (some ⟨b, 0, none⟩)) bs w
theorem bsize : (Tryd.prog.info? 44).map (·.size) = some 2 := by kernel_rfl
theorem blies : liesAt Tryd.prog Tryd.prog.depth 44 (2 / Tryd.prog.cellsOf 44) 0 44 1 = true := by kernel_rfl
theorem bbyte : (Tryd.prog.info? 5).map (fun i => (i.zero, i.size, i.bytes)) = some (some (.int .u8 0), 1, 1) := by kernel_rfl
set_option maxHeartbeats 2000000 in
set_option maxRecDepth 100000 in
theorem bcheck_new (b : Nat) (w : World) (h0 : w.cell? ⟨b, 0, none⟩ = some (.pointer none)) (hsh : w.shape? b = some (44, 2)) (hfz : w.frozen? ⟨b, 0, none⟩ = false) :
  Calls Tryd.prog 33 #[.pointer (some ⟨b, 0, none⟩)] w fun e w' => e = .returned (.tuple #[]) ∧ w' = w.setCell ⟨b, 0, none⟩ (.pointer (some ⟨b, 0, none⟩)) := by
 obtain ⟨j, hj, hjs⟩ := Option.map_eq_some_iff.1 bsize
 go_enter Tryd.func33, Tryd.ntmps33
 go_wp2
 rw [Lib.run_to_unsafe w ⟨b, 0, none⟩ Tryd.underlying41 Tryd.underlying73 hj (by rw [hjs]; decide) hsh (Nat.zero_lt_succ 1)]
 simp only [Result.andThen]
 rw [Oper.upon_value]
 go_wp2
 rw [run_callFunc_extern Tryd.func43 (by kernel_rfl) (by kernel_rfl) (by kernel_rfl) (e := Extern.AbiNoEscape.same) (by kernel_rfl)]
 rw [Lib.run_noEscape]
 simp only [Result.andThen]
 rw [Oper.upon_value]
 go_wp2
 rw [Lib.run_from_unsafe w ⟨b, 0, none⟩ Tryd.underlying73 Tryd.underlying41 hj hsh blies]
 simp only [Result.andThen]
 rw [Oper.upon_value]
 go_wp2
 go_end0
 exact ⟨rfl, rfl⟩
set_option maxHeartbeats 2000000 in
set_option maxRecDepth 100000 in
theorem bcheck_used (b : Nat) (w : World) (h0 : w.cell? ⟨b, 0, none⟩ = some (.pointer (some ⟨b, 0, none⟩))) :
  Calls Tryd.prog 33 #[.pointer (some ⟨b, 0, none⟩)] w fun e w' => e = .returned (.tuple #[]) ∧ w' = w := by
 obtain ⟨j, hj, _⟩ := Option.map_eq_some_iff.1 bsize
 go_enter Tryd.func33, Tryd.ntmps33
 go_wp2
 rw [Lib.run_neq_ptr_same w _ Tryd.underlying41 hj]
 go_wp2
 go_end0
 exact ⟨rfl, rfl⟩
theorem bcheck (B b : Nat) (bs : List Value) (w : World) (h : IsB B b bs w) :
  Calls Tryd.prog 33 #[.pointer (some ⟨b, 0, none⟩)] w fun e w' => e = .returned (.tuple #[]) ∧ AtB B b bs w' ∧ Below B w w' := by
 rcases h with h | h
 ·refine (bcheck_new b w h.cell0 h.shape h.frozen0).mono ?_
  rintro e w' ⟨rfl, rfl⟩
  exact ⟨rfl, h.used _, (Below.refl B w).setCell (p := ⟨b, 0, none⟩) h.1 _⟩
 ·refine (bcheck_used b w h.cell0).mono ?_
  rintro e w' ⟨rfl, rfl⟩
  exact ⟨rfl, h, Below.refl B _⟩
theorem bblk_lt {w : World} {g : Nat} {o : Obj} (h : w.heap[g]? = some o) : g < w.heap.size := by
 rcases Nat.lt_or_ge g w.heap.size with hlt | hge
 ·exact hlt
 ·rw [Array.getElem?_eq_none hge] at h; cases h
set_option maxHeartbeats 4000000 in
set_option maxRecDepth 100000 in
/-- WriteString. -/
theorem bwrite (B b : Nat) (bs : List Value) (s : ByteArray) (w : World) (h : IsB B b bs w) (hlen : bs.length + s.size ≤ 140737488355328) (hBw : B ≤ w.heap.size) :
  Calls Tryd.prog 22 #[.pointer (some ⟨b, 0, none⟩), .string s] w fun e w' => e = .returned (.tuple #[.int .i64 s.size, .nilIface]) ∧ AtB B b (bs ++ Lib.strCells s) w' ∧ Below B w w' := by
 obtain ⟨i0, hi, hz0, hz1, hz2⟩ := info_parts bbyte
 go_enter Tryd.func22, Tryd.ntmps22
 go_wp2_with (go_at_call 33; refine (bcheck B b bs _ h).mono ?_)
 rintro e w1 ⟨rfl, h1, hb1⟩
 obtain ⟨hB, v, hbk, hown, hne⟩ := h1
 have c0 : w1.cell? ⟨b, 0, none⟩ = some (.pointer (some ⟨b, 0, none⟩)) := by rw [Lib.cell_of_heap hbk]; rfl
 have c1 : w1.cell? ⟨b, 1, none⟩ = some v := by rw [Lib.cell_of_heap hbk]; rfl
 go_wp2_with (at_builtin; refine Lib.wpList_append_own_stringF _ rfl _ _ 42 9 rfl B 5 i0 Tryd.underlying42 Tryd.underlying9 hi hz0 hz1 hz2 _ _ _ rfl hown s rfl ?c3 ?c4 ?c5 ?_)
 case c3 => unfold maxLen; omega
 case c4 => omega
 case c5 => have := hb1.size; omega
 intro v' w2 hown' hgrow _
 have hlt := bblk_lt hbk
 have hb2 : w2.heap[b]? = some (.cells #[.pointer (some ⟨b, 0, none⟩), v] 44 (0, 0)) := by
  rw [hgrow.block b hlt (fun e => hne e.symm)]
  exact hbk
 have d0 : w2.cell? ⟨b, 0, none⟩ = some (.pointer (some ⟨b, 0, none⟩)) := by rw [Lib.cell_of_heap hb2]; rfl
 have d1 : w2.cell? ⟨b, 1, none⟩ = some v := by rw [Lib.cell_of_heap hb2]; rfl
 have f1 : w2.frozen? ⟨b, 1, none⟩ = false := Lib.frozen_of_heap hb2 1
 obtain ⟨ao, n', cap, rfl⟩ : ∃ ao n' cap, v' = .slice ao n' cap := by
  rcases hown'.2 with ⟨hv, _⟩ | ⟨g, cap, cur, fz, hv, _⟩
  ·exact ⟨_, _, _, hv⟩
  ·exact ⟨_, _, _, hv⟩
 go_wp2
 go_ret2
 exact ⟨rfl, Lib.BuilderAtF.put (T := 44) (e := 5) hB hb2 (bs' := bs ++ Lib.strCells s) (by simpa [Lib.strCells_length] using hown') (by decide), (hb1.grown hgrow (by have := hb1.size; omega) (fun k hk => (hown.lt k hk).1)).setCell (p := ⟨b, 1, none⟩) hB _⟩
set_option maxHeartbeats 4000000 in
set_option maxRecDepth 100000 in
/-- WriteByte. -/
theorem bbyte_ (B b : Nat) (bs : List Value) (c : Int) (w : World) (h : IsB B b bs w) (hlen : bs.length + 1 ≤ 140737488355328) (hBw : B ≤ w.heap.size) :
  Calls Tryd.prog 82 #[.pointer (some ⟨b, 0, none⟩), .int .u8 c] w fun e w' => e = .returned .nilIface ∧ AtB B b (bs ++ [.int .u8 c]) w' ∧ Below B w w' := by
 obtain ⟨i0, hi, hz0, hz1, hz2⟩ := info_parts bbyte
 go_enter Tryd.func82, Tryd.ntmps82
 go_wp2_with (go_at_call 33; refine (bcheck B b bs _ h).mono ?_)
 rintro e w1 ⟨rfl, h1, hb1⟩
 obtain ⟨hB, v, hbk, hown, hne⟩ := h1
 have c0 : w1.cell? ⟨b, 0, none⟩ = some (.pointer (some ⟨b, 0, none⟩)) := by rw [Lib.cell_of_heap hbk]; rfl
 have c1 : w1.cell? ⟨b, 1, none⟩ = some v := by rw [Lib.cell_of_heap hbk]; rfl
 go_wp2_with (at_builtin; refine wpList_append_ownF _ rfl _ _ 42 rfl B 5 i0 (.int .u8 0) 1 1 Tryd.underlying42 hi hz0 hz1 hz2 rfl (by decide) _ _ _ rfl (hown.alloc _) ⟨w1.heap.size, 0, none⟩ 1 1 [.int .u8 c] rfl rfl ?c1 ?c2 ?c3 ?c4 ?c5 ?_)
 case c1 =>
  intro j u hj
  match j, hj with
  | 0, hj => simp at hj; subst hj; simp [Addr.add]
 case c2 => intro u hu; simp at hu; subst hu; rfl
 case c3 => unfold maxLen; omega
 case c4 => omega
 case c5 => have := hb1.size; simp; omega
 intro v' w2 hown' hgrow _
 have hlt := bblk_lt hbk
 have hb2 : w2.heap[b]? = some (.cells #[.pointer (some ⟨b, 0, none⟩), v] 44 (0, 0)) := by
  rw [hgrow.block b (by simp; omega) (fun e => hne e.symm), Lib.alloc_old w1 _ b hlt]
  exact hbk
 have d0 : w2.cell? ⟨b, 0, none⟩ = some (.pointer (some ⟨b, 0, none⟩)) := by rw [Lib.cell_of_heap hb2]; rfl
 have d1 : w2.cell? ⟨b, 1, none⟩ = some v := by rw [Lib.cell_of_heap hb2]; rfl
 have f1 : w2.frozen? ⟨b, 1, none⟩ = false := Lib.frozen_of_heap hb2 1
 obtain ⟨g, cap, rfl⟩ : ∃ g cap, v' = .slice (some ⟨g, 0, none⟩) (bs.length + 1) cap := by
  rcases hown'.2 with ⟨_, h0⟩ | ⟨g, cap, cur, fz, hv, _⟩
  ·omega
  ·exact ⟨g, cap, hv⟩
 go_wp2
 go_ret
 exact ⟨rfl, Lib.BuilderAtF.put (T := 44) (e := 5) hB hb2 (bs' := bs ++ [.int .u8 c]) (by simpa using hown') (by decide), ((hb1.alloc (by have := hb1.size; omega) _).grown hgrow (by have := hb1.size; simp; omega) (fun k hk => (hown.lt k hk).1)).setCell (p := ⟨b, 1, none⟩) hB _⟩
theorem AtB_far {B b g i : Nat} {p : Value} {bs : List Value} {w : World} (h : Lib.BuilderAtF 44 5 B b p bs w) (hg : g < B) (u : Value) : Lib.BuilderAtF 44 5 B b p bs (w.setCell ⟨g, i, none⟩ u) := by
 obtain ⟨hB, v, hb, hown, hne⟩ := h
 refine ⟨hB, v, ?_, ?_, hne⟩
 ·rw [Below.heap_setCell _ _ _ _ (show b ≠ g by omega)]; exact hb
 ·refine hown.kept (row := some g) ⟨rfl, rfl, rfl, by simp [World.setCell], fun k _ hk => Below.heap_setCell _ _ _ _ (fun e => hk (by simp [e]))⟩ (Or.inr fun e => ?_)
  have := (hown.lt g e).1
  omega
theorem IsB.far {B b g i : Nat} {bs : List Value} {w : World} (h : IsB B b bs w) (hg : g < B) (u : Value) : IsB B b bs (w.setCell ⟨g, i, none⟩ u) :=
 h.elim (fun x => .inl (AtB_far x hg u)) (fun x => .inr (AtB_far x hg u))
theorem IsB.drewN {B b : Nat} {bs : List Value} {w : World} (h : IsB B b bs w) (n : Nat) : IsB B b bs (w.drewN n) := h
theorem builder_more {B b : Nat} {l : List UInt8} {s : ByteArray} {w : World} (h : AtB B b (Lib.byteCells l ++ Lib.strCells s) w) : IsB B b (Lib.byteCells (l ++ s.data.toList)) w := by
 rw [Lib.strCells_eq, ← Lib.byteCells_append] at h
 exact .inr h
/-- String. -/
theorem bstring (B b : Nat) (l : List UInt8) (w : World) (h : IsB B b (Lib.byteCells l) w) (hBw : B ≤ w.heap.size) :
  Calls Tryd.prog 23 #[.pointer (some ⟨b, 0, none⟩)] w fun e w' => e = .returned (.string ⟨l.toArray⟩) ∧ Below B w w' :=
 (Tryd.Builder_String_any_k B b l w h hBw).mono fun _ _ h => ⟨h.1, h.2.2.1⟩
end Go.Proofs.YtjmmdphkgioooaaDoor.P
end
section
namespace Go.Proofs.YtjmmdphkgioooaaDoor.P
open Go.RowKit Go.Proofs.YtjmmdphkgioooaaDoor.La Go.Proofs.YtjmmdphkgioooaaDoorW.PrintWords Go.Proofs.YtjmmdphkgioooaaDoorW.PrintLast Go.Proofs.YtjmmdphkgioooaaDoorW.PrintMore
def strings_IndexByte.f (a0 : ByteArray) (a1 : Int) : Option Int := if 0 ≤ a1 ∧ a1 < 256 then some (idx (bytesOf a0) a1) else none
theorem strings_IndexByte.calls (a0 : ByteArray) (a1 : Int) (r : Int) (w : World) (h : strings_IndexByte.f a0 a1 = some r) :
  Calls Tryd.prog 56 #[.string a0, .int .u8 a1] w fun e w' => e = .returned (.int .i64 r) ∧ Drawn0 w w' := by
 unfold strings_IndexByte.f at h
 split at h
 ·rename_i hc
  obtain rfl := Option.some.inj h
  refine (Tryd.strings_IndexByte a0 a1 w).mono fun e w' he => ?_
  obtain ⟨rfl, rfl⟩ := he
  exact ⟨by rw [idx_of _ hc.1 hc.2]; rfl, Drawn0.refl _⟩
 ·cases h
def strings_Count.f (a0 a1 : ByteArray) : Option Int := if a1.size = 1 then some (cntB (bytesOf a0) (bt a1 0) : Int) else none
theorem strings_Count.calls (a0 a1 : ByteArray) (r : Int) (w : World) (h : strings_Count.f a0 a1 = some r) :
  Calls Tryd.prog 48 #[.string a0, .string a1] w fun e w' => e = .returned (.int .i64 r) ∧ Drawn0 w w' := by
 unfold strings_Count.f at h
 split at h
 ·rename_i hc
  obtain rfl := Option.some.inj h
  have hb := bt_range a1 0
  have ha : a1 = ⟨#[(bt a1 0).toNat.toUInt8]⟩ := by
   apply bytesOf_inj
   have hl : (bytesOf a1).length = 1 := by rw [size_of, hc]
   match hm : bytesOf a1, hl with
   | [x], _ =>
    have h1 : bt a1 0 = x := by rw [bt_get, hm]; rfl
    have h2 := bytes_of a1 x (by rw [hm]; exact List.mem_cons_self)
    rw [h1]
    simp only [bytesOf_data, List.map_cons, List.map_nil, u8_of h2.1 h2.2]
  have := Tryd.strings_Count_one a0 (bt a1 0).toNat.toUInt8 w
  rw [← ha] at this
  refine this.mono fun e w' he => ?_
  obtain ⟨rfl, rfl⟩ := he
  exact ⟨by rw [cntB_of _ hb.1 (by omega)]; rfl, Drawn0.refl _⟩
 ·cases h
end Go.Proofs.YtjmmdphkgioooaaDoor.P
end
section
namespace Go.Proofs.YtjmmdphkgioooaaDoor.P
open Go.RowKit Go.Proofs.YtjmmdphkgioooaaDoor.La Go.Proofs.YtjmmdphkgioooaaDoorW.PrintWords Go.Proofs.YtjmmdphkgioooaaDoorW.PrintLast Go.Proofs.YtjmmdphkgioooaaDoorW.PrintMore
theorem cwrap (n : Int) (h₀ : 0 ≤ n) (h₁ : n < 2 ^ 62) : IntKind.i64.wrap n = n := by rw [IntKind.wrap_i64]; omega
/-- What a call that writes block g may have done: the blocks that were there are as they were, but for g. -/
def Mv (g : Nat) (w w' : World) : Prop := Below g w w' ∧ ∀ k, k < w.heap.size → k ≠ g → w'.heap[k]? = w.heap[k]?
theorem Mv.refl (g : Nat) (w : World) : Mv g w w := ⟨Below.refl _ _, fun _ _ _ => rfl⟩
theorem Mv.trans {g : Nat} {a b c : World} (h : Mv g a b) (k : Mv g b c) : Mv g a c :=
 ⟨h.1.trans k.1, fun i hi hg => (k.2 i (Nat.lt_of_lt_of_le hi h.1.size) hg).trans (h.2 i hi hg)⟩
theorem Mv.of_below {g : Nat} {w w' : World} (h : Below w.heap.size w w') (hg : g ≤ w.heap.size) : Mv g w w' := ⟨h.mono hg, fun i hi _ => h.block i hi⟩
theorem Mv.then {g : Nat} {w W w1 : World} (h : Mv g w W) (hb : Below w.heap.size W w1) (hg : g ≤ w.heap.size) : Mv g w w1 :=
 ⟨h.1.trans (hb.mono hg), fun k hk hne => (hb.block k hk).trans (h.2 k hk hne)⟩
theorem Mv.set (g : Nat) (w : World) (j : Nat) (u : Value) : Mv g w (w.setCell ⟨g, j, none⟩ u) :=
 ⟨(Below.refl g w).setCell (p := ⟨g, j, none⟩) (Nat.le_refl _) _, fun _ _ hk => Below.heap_setCell _ _ _ _ hk⟩
theorem Mv.drewN {g : Nat} {w W : World} (h : Mv g w W) (n : Nat) : Mv g w (W.drewN n) := ⟨pw_below_drewN h.1 n, h.2⟩
theorem Mv.low {g B : Nat} {w W : World} (h : Mv g w W) (hB : B ≤ g) : Below B w W := h.1.mono hB
theorem cblk_set {w : World} {g t : Nat} {cs : Array Value} (h : w.heap[g]? = some (.cells cs t (0, 0))) (i : Nat) (u : Value) : (w.setCell ⟨g, i, none⟩ u).heap[g]? = some (.cells (cs.setIfInBounds i u) t (0, 0)) := by
 simp [World.setCell, Array.getElem?_modify, h]
theorem cblk_lt {w : World} {g : Nat} {o : Obj} (h : w.heap[g]? = some o) : g < w.heap.size := by
 rcases Nat.lt_or_ge g w.heap.size with hlt | hge
 ·exact hlt
 ·rw [Array.getElem?_eq_none hge] at h; cases h
theorem cblk_cell {w : World} {g t : Nat} {cs : Array Value} (h : w.heap[g]? = some (.cells cs t (0, 0))) (i : Nat) : w.cell? ⟨g, i, none⟩ = cs[i]? := cell_of_row w g i cs t (0, 0) h
theorem cblk_free {w : World} {g t : Nat} {cs : Array Value} (h : w.heap[g]? = some (.cells cs t (0, 0))) (i : Nat) : w.frozen? ⟨g, i, none⟩ = false := by simp [World.frozen?, h]
/-- Block g holds a reader: its text, its place, its rows. -/
def Cur (w : World) (g : Nat) (text : ByteArray) (at_ : Int) (rv : Value) : Prop := w.heap[g]? = some (.cells #[.string text, .int .i64 at_, rv] 89 (0, 0))
theorem Cur.open_ {w : World} {g : Nat} {text : ByteArray} {at_ : Int} {rv : Value} (h : Cur w g text at_ rv) :
  w.cell? ⟨g, 0, none⟩ = some (.string text) ∧ w.cell? ⟨g, 1, none⟩ = some (.int .i64 at_) ∧ w.cell? ⟨g, 2, none⟩ = some rv ∧ w.frozen? ⟨g, 1, none⟩ = false ∧ w.frozen? ⟨g, 2, none⟩ = false ∧ g < w.heap.size :=
 ⟨by rw [cblk_cell h]; rfl, by rw [cblk_cell h]; rfl, by rw [cblk_cell h]; rfl, cblk_free h 1, cblk_free h 2, cblk_lt h⟩
theorem Cur.drewN {w : World} {g : Nat} {text : ByteArray} {at_ : Int} {rv : Value} (h : Cur w g text at_ rv) (n : Nat) : Cur (w.drewN n) g text at_ rv := h
theorem Cur.below {w w1 : World} {g : Nat} {text : ByteArray} {at_ : Int} {rv : Value} (h : Cur w g text at_ rv) (hb : Below w.heap.size w w1) : Cur w1 g text at_ rv := (hb.block g (cblk_lt h)).trans h
theorem Cur.moved {w : World} {g : Nat} {text : ByteArray} {at_ : Int} {rv : Value} (h : Cur w g text at_ rv) (at1 : Int) : Cur (w.setCell ⟨g, 1, none⟩ (.int .i64 at1)) g text at1 rv := cblk_set h 1 (.int .i64 at1)
theorem Cur.put {w : World} {g : Nat} {text : ByteArray} {at_ : Int} {rv : Value} (h : Cur w g text at_ rv) (rv1 : Value) : Cur (w.setCell ⟨g, 2, none⟩ rv1) g text at_ rv1 := cblk_set h 2 rv1
/-- What is thrown. -/
def thrown (e at_ : Int) : Ending := .panicked [{ v := .iface 85 (.agg #[.int .i64 e, .int .i64 at_]), recovered := false }]
theorem cfail (e at_ : Int) (w : World) : Calls Tryd.prog 66 #[.int .i64 e, .int .i64 at_] w fun x w' => x = thrown e at_ ∧ w' = w := by
 go_enter Tryd.func66, Tryd.ntmps66
 go_wp2
 exact ⟨rfl, rfl, rfl⟩
set_option maxRecDepth 100000 in
set_option maxHeartbeats 4000000 in
theorem cend {w : World} {g : Nat} {text : ByteArray} {i : Nat} {rv : Value} (hC : Cur w g text i rv) (hi : i ≤ text.size) :
  Calls Tryd.prog 69 #[.pointer (some ⟨g, 0, none⟩)] w fun x w' => x = .returned (.int .i64 (lend ((bytesOf text).drop i) : Nat)) ∧ Drawn0 w w' := by
 obtain ⟨c0, c1, c2, f1, f2, hlt⟩ := hC.open_
 have c3b0 := eq_true (show (0 : Int) ≤ (i : Int) by omega)
 have c3b1 : decide ((0 : Int) ≤ (i : Int)) = true := decide_eq_true (by omega)
 have c4b0 := eq_true (show (i : Int) ≤ (text.size : Int) by omega)
 have c4b1 : decide ((i : Int) ≤ (text.size : Int)) = true := decide_eq_true (by omega)
 have H1 := Lib.hid (pre_at text (i : Int).toNat ⟨#[10]⟩)
 have H2 := Lib.hid (pre_at text (i : Int).toNat ⟨#[13, 10]⟩)
 rw [Int.toNat_natCast] at H1 H2
 have HL := Lib.hid (show lend ((bytesOf text).drop i) = if decide (((bytesOf text).drop i).take (⟨#[10]⟩ : ByteArray).size = bytesOf ⟨#[10]⟩) = true then 1 else if decide (((bytesOf text).drop i).take (⟨#[13, 10]⟩ : ByteArray).size = bytesOf ⟨#[13, 10]⟩) = true then 2 else 0 by
  simp only [decide_eq_true_eq]; rfl)
 generalize decide (((bytesOf text).drop i).take (⟨#[10]⟩ : ByteArray).size = bytesOf ⟨#[10]⟩) = r1 at H1 HL
 generalize decide (((bytesOf text).drop i).take (⟨#[13, 10]⟩ : ByteArray).size = bytesOf ⟨#[13, 10]⟩) = r2 at H2 HL
 generalize lend ((bytesOf text).drop i) = L at HL ⊢
 go_enter Tryd.func69, Tryd.ntmps69
 go_wp2_with fail
 go_quiet (fail)
 go_wp2_with fail
 refine (strings_HasPrefix.calls _ _ r1 _ H1.out).mono ?_
 rintro e w' ⟨rfl, n1, rfl⟩
 cases r1 with
 | true =>
  go_wp2
  go_ret
  exact ⟨by rw [HL.out]; rfl, _, rfl⟩
 | false =>
  go_wp2_with fail
  refine (strings_HasPrefix.calls _ _ r2 _ H2.out).mono ?_
  rintro e w' ⟨rfl, n2, rfl⟩
  cases r2 with
  | true =>
   go_wp2
   go_ret
   exact ⟨by rw [HL.out]; rfl, _, rfl⟩
  | false =>
   go_wp2
   go_ret
   exact ⟨by rw [HL.out]; rfl, _, rfl⟩
/-- The state of the loop that reads what stands between quotes. -/
def QInv (w : World) (g : Nat) (text : ByteArray) (i : Nat) (rv : Value) (res : Option (List Int × Nat)) (k : Nat) (wr : World) : Prop :=
 ∃ (j : Nat) (l : List UInt8), Cur wr g text j rv ∧ Mv g w wr ∧ IsB w.heap.size w.heap.size (Lib.byteCells l) wr ∧ i + 1 ≤ j ∧ j ≤ text.size ∧ text.size - j < k ∧ l.length ≤ j ∧
  res = (qd ((bytesOf text).drop j)).map (fun p => (toI l ++ p.1, p.2 + (j - (i + 1))))
set_option maxRecDepth 100000 in
set_option maxHeartbeats 8000000 in
theorem cquoted {w : World} {g : Nat} {text : ByteArray} {i : Nat} {rv : Value} (hC : Cur w g text i rv) (hi : i < text.size) (hs : text.size ≤ 70000) :
  Calls Tryd.prog 75 #[.pointer (some ⟨g, 0, none⟩)] w fun x w' => Mv g w w' ∧
   match qd ((bytesOf text).drop (i + 1)) with
   | none => x = thrown 4 text.size
   | some p => x = .returned (.string (strOfNums p.1)) ∧ Cur w' g text ((i + 1 + p.2 : Nat) : Int) rv := by
 obtain ⟨c0, c1, c2, f1, f2, hlt⟩ := hC.open_
 have hC1 := (hC.moved ((i : Int) + 1)).below (below_alloc (Below.refl _ _) (.cells #[.pointer none, .slice none 0 0] 44))
 have hM1 : Mv g w ((w.setCell ⟨g, 1, none⟩ (.int .i64 ((i : Int) + 1))).alloc (.cells #[.pointer none, .slice none 0 0] 44)) :=
  (Mv.set g w 1 _).trans (Mv.of_below (below_alloc (Below.refl _ _) _) (by rw [World.size_setCell]; omega))
 have hb1 : IsB w.heap.size w.heap.size [] ((w.setCell ⟨g, 1, none⟩ (.int .i64 ((i : Int) + 1))).alloc (.cells #[.pointer none, .slice none 0 0] 44)) := by
  have := Lib.IsBuilderF.of (Lib.fresh_isBuilder 44 5 (w.setCell ⟨g, 1, none⟩ (.int .i64 ((i : Int) + 1))))
  rw [World.size_setCell] at this
  exact this
 generalize hres : qd ((bytesOf text).drop (i + 1)) = res
 go_enter Tryd.func75, Tryd.ntmps75
 go_wp2_with fail
 generalize (w.setCell ⟨g, 1, none⟩ (.int .i64 ((i : Int) + 1))).alloc (.cells #[.pointer none, .slice none 0 0] 44) = w1 at hC1 hM1 hb1 ⊢
 clear c0 c1 c2 f1 f2 hC
 go_loopg [] (text.size + 1) (fun k wr => QInv w g text i rv res k wr)
 case atStart =>
  refine ⟨i + 1, [], by rw [Int.natCast_add]; exact hC1, hM1, hb1, Nat.le_refl _, hi, by omega, by simp, ?_⟩
  rw [← hres]
  cases qd ((bytesOf text).drop (i + 1)) <;> simp [toI]
 case round =>
  clear hC1 hM1 hb1 hres
  obtain ⟨j, l, hC, hM, hb, h1, h2, h3, h4, hr⟩ := hrel
  obtain ⟨c0, c1, c2, f1, f2, hlt2⟩ := hC.open_
  cases gk with
  | zero => omega
  | succ k =>
  have c3b0 := eq_true (show (0 : Int) ≤ (j : Int) by omega)
  have c3b1 : decide ((0 : Int) ≤ (j : Int)) = true := decide_eq_true (by omega)
  have c4b0 := eq_true (show (j : Int) ≤ (text.size : Int) by omega)
  have c4b1 : decide ((j : Int) ≤ (text.size : Int)) = true := decide_eq_true (by omega)
  have HI := Lib.hid (show strings_IndexByte.f (text.extract j text.size) 34 = some (idx ((bytesOf text).drop j) 34) by
   unfold strings_IndexByte.f; rw [if_pos (by omega), bytesOf_drop])
  have hdl : ((bytesOf text).drop j).length = text.size - j := by rw [List.length_drop, size_of]
  go_wp2_with fail
  go_quiet (first | (go_at_call 56; (with_reducible refine (strings_IndexByte.calls (text.extract j text.size) 34 _ _ HI.out).mono ?_); rintro e w' ⟨rfl, ⟨nd, rfl⟩⟩; (try first | exact ⟨rfl, _, World.drewN_drewN _ _ _⟩ | exact ⟨rfl, _, Eq.trans (World.drewN_drewN _ _ _) (congrArg (World.drewN _) (Nat.add_assoc _ _ _))⟩)))
  by_cases hneg : idx ((bytesOf text).drop j) 34 < 0
  ·have hq := qd_none_of (idx_none hneg)
   rw [hq] at hr
   have d1 : decide (idx ((bytesOf text).drop j) 34 < 0) = true := decide_eq_true hneg
   go_wp2_with fail
   refine (cfail _ _ _).mono ?_
   rintro e w3 ⟨rfl, rfl⟩
   exact ⟨rfl, hM.drewN _, by rw [hr]; rfl⟩
  ·obtain ⟨n, hn, hnl, hd, h34⟩ := idx_some (Int.not_lt.1 hneg)
   have hst := Lib.hid (qd_step hr hnl hd h34)
   have d1 : decide (idx ((bytesOf text).drop j) 34 < 0) = false := decide_eq_false hneg
   rw [hn] at d1 ⊢
   rw [hdl] at hnl
   clear hr hd h34 hneg
   have c5b0 := eq_true (show (j : Int) ≤ (j : Int) + (n : Int) by omega)
   have c5b1 : decide ((j : Int) ≤ (j : Int) + (n : Int)) = true := decide_eq_true (by omega)
   have c6b0 := eq_true (show (j : Int) + (n : Int) ≤ (text.size : Int) by omega)
   have c6b1 : decide ((j : Int) + (n : Int) ≤ (text.size : Int)) = true := decide_eq_true (by omega)
   have hjn : ((j : Int) + (n : Int)).toNat = j + n := by omega
   have hes : bytesOf (text.extract j ((j : Int) + (n : Int)).toNat) = ((bytesOf text).drop j).take n := by
    rw [hjn, bytesOf_extract, List.drop_take, Nat.add_sub_cancel_left]
   have hez : (text.extract j ((j : Int) + (n : Int)).toNat).size = n := by
    rw [← size_of, hes, List.length_take, hdl]; omega
   have hcl : (Lib.byteCells l).length + (text.extract j ((j : Int) + (n : Int)).toNat).size ≤ 140737488355328 := by
    rw [hez, Lib.byteCells_length]; omega
   have hlow : w.heap.size ≤ wr.heap.size := hM.1.size
   have hw1 : IntKind.i64.wrap ((j : Int) + (n : Int)) = (j : Int) + (n : Int) := cwrap _ (by omega) (by omega)
   go_wp2_with fail
   go_region_held3 (fun w' => w'.cell? ⟨g, 0, none⟩ = some (.string text) ∧ w'.cell? ⟨g, 1, none⟩ = some (.int .i64 (j : Int))) (first | go_keep | (simp [*]; done) | (go_simp; done)) (first | (go_at_call 22; refine (bwrite w.heap.size w.heap.size _ _ _ (IsB.drewN hb _) hcl hlow).mono ?_; rintro e w5 ⟨rfl, hb5, hl5⟩; have hC5 := (show w5.heap[g]? = _ from (hl5.block g hlt)).trans hC; have e0 := (Cur.open_ hC5).1; have e1 := (Cur.open_ hC5).2.1))
   have hm5 : Mv g w w5 := (hM.drewN _).then hl5 (by omega)
   have hb6 := builder_more hb5
   have hL6 : toI (l ++ (text.extract j ((j : Int) + (n : Int)).toNat).data.toList) = toI l ++ ((bytesOf text).drop j).take n := by
    rw [toI_append, ← hes]; rfl
   have hl6 : (l ++ (text.extract j ((j : Int) + (n : Int)).toNat).data.toList).length = l.length + n := by
    rw [List.length_append, ← Lib.size_eq, hez]
   generalize l ++ (text.extract j ((j : Int) + (n : Int)).toNat).data.toList = l6 at hb6 hL6 hl6
   clear hb5 hcl hez hes hl5 hb hC c0 c1 c2 f1 f2 hw1 c5b0 c5b1 c6b0 c6b1
   obtain ⟨c0, c1, c2, f1, f2, hlt5⟩ := Cur.open_ hC5
   obtain ⟨m, hm⟩ : ∃ m : Nat, m = j + n + 1 := ⟨_, rfl⟩
   have hC7 := Cur.moved hC5 (m : Int)
   have hm7 : Mv g w (w5.setCell ⟨g, 1, none⟩ (.int .i64 (m : Int))) := hm5.trans (Mv.set g w5 1 _)
   have hb7 := hb6.far (i := 1) hlt (.int .i64 (m : Int))
   have hw1 : IntKind.i64.wrap ((n : Int) + 1) = (n : Int) + 1 := cwrap _ (by omega) (by omega)
   have hw2 : IntKind.i64.wrap ((j : Int) + ((n : Int) + 1)) = (m : Int) := by rw [cwrap _ (by omega) (by omega)]; omega
   have hdm : (bytesOf text).drop (j + n + 1) = (bytesOf text).drop m := by rw [hm]
   rw [hdm] at hst
   have HM := Lib.hid hm
   clear hm hdm
   go_wp2_with fail
   generalize w5.setCell ⟨g, 1, none⟩ (.int .i64 (m : Int)) = w7 at hC7 hm7 hb7 ⊢
   clear c0 c1 c2 f1 f2 hC5 hm5 hb6 e0 e1 c3b0 c3b1 c4b0 c4b1 hw1 hw2
   obtain ⟨c0, c1, c2, f1, f2, hlt7⟩ := Cur.open_ hC7
   have hmz : m ≤ text.size := by have := HM.out; omega
   have c3b0 := eq_true (show (0 : Int) ≤ (m : Int) by omega)
   have c3b1 : decide ((0 : Int) ≤ (m : Int)) = true := decide_eq_true (by omega)
   have c4b0 := eq_true (show (m : Int) ≤ (text.size : Int) by omega)
   have c4b1 : decide ((m : Int) ≤ (text.size : Int)) = true := decide_eq_true (by omega)
   obtain ⟨r, hr⟩ : ∃ r : Bool, decide (((bytesOf text).drop m).take (⟨#[34]⟩ : ByteArray).size = bytesOf ⟨#[34]⟩) = r := ⟨_, rfl⟩
   have HP := Lib.hid ((pre_at text m ⟨#[34]⟩).trans (by rw [hr]))
   have HR := Lib.hid hr
   clear hr
   go_wp2_with fail
   cases r with
   | true =>
    have hst := Lib.hid (hst.out.2 (of_decide_eq_true HR.out))
    go_quiet (first | (go_at_call 68; (with_reducible refine (strings_HasPrefix.calls (text.extract m text.size) (⟨#[34]⟩ : ByteArray) true _ HP.out).mono ?_); rintro e w' ⟨rfl, ⟨nd, rfl⟩⟩; (try first | exact ⟨rfl, _, World.drewN_drewN _ _ _⟩ | exact ⟨rfl, _, Eq.trans (World.drewN_drewN _ _ _) (congrArg (World.drewN _) (Nat.add_assoc _ _ _))⟩)))
    go_wp2_with fail
    refine (bbyte_ w.heap.size w.heap.size _ 34 _ (IsB.drewN hb7 _) (by rw [Lib.byteCells_length]; omega) (Nat.le_trans (Nat.le_of_eq rfl) hm7.1.size)).mono ?_
    rintro e w8 ⟨rfl, hb8, hl8⟩
    have hC8 : Cur w8 g text m rv := (show w8.heap[g]? = _ from (hl8.block g hlt)).trans hC7
    have hm8 : Mv g w w8 := (hm7.drewN _).then hl8 (by omega)
    have hb9 := builder_more (s := ⟨#[34]⟩) hb8
    clear hb8 hb7 hC7 hm7 hl8 c0 c1 c2 f1 f2
    obtain ⟨c0, c1, c2, f1, f2, hlt8⟩ := Cur.open_ hC8
    have hC9 := Cur.moved hC8 ((m : Int) + 1)
    have hm9 : Mv g w (w8.setCell ⟨g, 1, none⟩ (.int .i64 ((m : Int) + 1))) := hm8.trans (Mv.set g w8 1 _)
    have hb10 := hb9.far (i := 1) hlt (.int .i64 ((m : Int) + 1))
    have hw2 : IntKind.i64.wrap ((m : Int) + 1) = (m : Int) + 1 := cwrap _ (by omega) (by omega)
    go_wp2_with fail
    go_roundg k
    case rel =>
     have hmj := HM.out
     have hmlt : m < text.size := by
      have h1 := congrArg List.length (show ((bytesOf text).drop m).take 1 = [34] from of_decide_eq_true HR.out)
      rw [List.length_take, List.length_drop, size_of] at h1
      simp at h1; omega
     refine ⟨m + 1, l6 ++ [34], by rw [Int.natCast_add]; exact hC9, hm9, hb10, by omega, by omega, by omega, by rw [List.length_append, hl6]; simp; omega, ?_⟩
     rw [hst.out, toI_append, hL6, hmj]
     congr 1
     funext p
     simp only [List.append_assoc, Prod.mk.injEq]
     exact ⟨rfl, by omega⟩
    case measure => omega
   | false =>
    have hst := Lib.hid (hst.out.1 (of_decide_eq_false HR.out))
    go_quiet (first | (go_at_call 68; (with_reducible refine (strings_HasPrefix.calls (text.extract m text.size) (⟨#[34]⟩ : ByteArray) false _ HP.out).mono ?_); rintro e w' ⟨rfl, ⟨nd, rfl⟩⟩; (try first | exact ⟨rfl, _, World.drewN_drewN _ _ _⟩ | exact ⟨rfl, _, Eq.trans (World.drewN_drewN _ _ _) (congrArg (World.drewN _) (Nat.add_assoc _ _ _))⟩)))
    go_wp2_with fail
    refine (bstring w.heap.size w.heap.size l6 _ (IsB.drewN hb7 _) (Nat.le_trans (Nat.le_of_eq rfl) hm7.1.size)).mono ?_
    rintro e w8 ⟨rfl, hl8⟩
    have hC8 : Cur w8 g text m rv := (show w8.heap[g]? = _ from (hl8.block g hlt)).trans hC7
    have hm8 : Mv g w w8 := (hm7.drewN _).then hl8 (by omega)
    have hmj := HM.out
    have hres := hst.out
    clear hst HM
    subst hres
    go_wp2_with fail
    go_ret
    refine ⟨hm8, by rw [mk_of, hL6]; rfl, ?_⟩
    rw [show (i : Int) + 1 + ((n : Int) + 1 + ((j - (i + 1) : Nat) : Int)) = (m : Int) by omega]
    exact hC8
end Go.Proofs.YtjmmdphkgioooaaDoor.P
end
section
namespace Go.Proofs.YtjmmdphkgioooaaDoor.P
open Go.RowKit Go.Proofs.YtjmmdphkgioooaaDoor.La Go.Proofs.YtjmmdphkgioooaaDoorW.PrintWords Go.Proofs.YtjmmdphkgioooaaDoorW.PrintLast Go.Proofs.YtjmmdphkgioooaaDoorW.PrintMore
/-- The bytes of a letter that is no ASCII. -/
theorem decode_bytes (s : ByteArray) (pos : Nat) (h : pos < s.size) (ha : 128 ≤ (s[pos]'h).toNat) : pos + (Utf8.decode s pos).2 ≤ s.size ∧ ∀ k, k < (Utf8.decode s pos).2 → 128 ≤ (s.get! (pos + k)).toNat := by
 have h0 : 128 ≤ (s.get! (pos + 0)).toNat := by rw [get_at s pos h]; exact ha
 have hn : ¬ (s.get! (pos + 0)).toNat < 128 := by omega
 unfold Utf8.decode
 simp only [hn, if_false]
 repeat' split
 all_goals (try simp only [Bool.and_eq_true, beq_iff_eq, decide_eq_true_eq] at *)
 all_goals refine ⟨by omega, fun k hk => ?_⟩
 all_goals
  match k with
  | 0 => exact h0
  | 1 => omega
  | 2 => omega
  | 3 => omega
  | k + 4 => omega
set_option maxRecDepth 100000 in
set_option maxHeartbeats 8000000 in
theorem idxRune_high (chars : ByteArray) (h4 : chars.size = 4) (hc : ∀ (j : Nat) b, chars.data.toList[j]? = some b → b.toNat < 128) (r : Int) (h0 : 128 ≤ r) (h1 : r ≤ 2147483647) (w : World) :
  Calls Tryd.prog 44 #[.string chars, .int .i32 r] w fun e w' => e = .returned (.int .i64 (-1)) ∧ Below w.heap.size w w' := by
 have HA := Lib.hid hc
 clear hc
 have d1 : decide (r < 128) = false := decide_eq_false (by omega)
 have d2 : decide (0 ≤ r) = true := decide_eq_true (by omega)
 by_cases hre : r = 65533
 ·have d3 : (r == 65533) = true := beq_iff_eq.2 hre
  clear hre
  go_enter Tryd.func44, Tryd.ntmps44
  go_wp2_with fail
  go_loopg [] 4 (fun g wx => ∃ i : Nat, i + g = 4 ∧ wx = w.iter chars i)
  case atStart => exact ⟨0, rfl, rfl⟩
  case round =>
   obtain ⟨i, hig, rfl⟩ := hrel
   cases gk with
   | zero =>
    obtain rfl : i = 4 := by omega
    have hnx := run_next_end (P := Tryd.prog) w chars 4
    go_wp2
    go_ret
    exact ⟨rfl, below_alloc (Below.refl _ _) _⟩
   | succ g =>
    have hi : i < chars.size := by omega
    obtain ⟨x, hx⟩ : ∃ x : UInt8, chars[i]'hi = x := ⟨_, rfl⟩
    have hx128 : x.toNat < 128 := HA.out i x (by rw [← hx]; exact Lib.data_getElem? chars i hi)
    have hnx := fun ty => run_next_ascii (P := Tryd.prog) w chars i ty hi (by rw [hx]; exact hx128)
    rw [hx] at hnx
    have d4 : ((x.toNat : Int) == 65533) = false := beq_eq_false_iff_ne.2 (by omega)
    clear hx
    go_wp2_with fail
    go_roundg g
    case measure => omega
    case rel => exact ⟨i + 1, by omega, rfl⟩
 ·have d3 : (r == 65533) = false := beq_eq_false_iff_ne.2 hre
  clear hre
  cases hv : Lib.validRune r with
  | false =>
   go_enter Tryd.func44, Tryd.ntmps44
   go_wp2_with fail
   refine (Tryd.utf8_ValidRune r w).mono ?_
   rintro e w' ⟨rfl, rfl⟩
   rw [hv]
   go_wp2
   go_ret
   exact ⟨rfl, Below.refl _ _⟩
  | true =>
   go_enter Tryd.func44, Tryd.ntmps44
   go_wp2_with fail
   refine (Tryd.utf8_ValidRune r w).mono ?_
   rintro e w' ⟨rfl, rfl⟩
   rw [hv]
   have hv2 := (validRune_eq r).trans (show _ = true from hv)
   obtain ⟨e2, e4, el⟩ := encode_facts r hv2 h0
   go_wp2_with fail
   go_step3
   go_wp2_with fail
   generalize Utf8.encode r = rs at e2 e4 el ⊢
   obtain ⟨m, hm⟩ : ∃ m : Nat, rs.size = m + 1 := ⟨rs.size - 1, by omega⟩
   have hlt : m < rs.size := by omega
   have hlc : m < chars.size := by omega
   obtain ⟨y, hy⟩ : ∃ y : UInt8, rs[m]'hlt = y := ⟨_, rfl⟩
   have hy128 : 128 ≤ y.toNat := by
    have := el (by omega)
    simp only [hm, Nat.add_sub_cancel] at this
    rw [← hy]; exact this
   rw [show (rs.size : Int) - 1 = (m : Int) by omega]
   obtain ⟨x, hx⟩ : ∃ x : UInt8, chars[m]'hlc = x := ⟨_, rfl⟩
   have hx128 : x.toNat < 128 := HA.out m x (by rw [← hx]; exact Lib.data_getElem? chars m hlc)
   have hxy : ((x.toNat : Int) != (y.toNat : Int)) = true := bne_iff_ne.2 (by omega)
   have HB := Lib.hid (show strings_IndexByte.f (chars.extract (m + 1) chars.size) (y.toNat : Int) = some (-1) by
    have h1 := y.toNat_lt
    unfold strings_IndexByte.f
    rw [if_pos (by omega)]
    have h2 := idx_ge (bytesOf (chars.extract (m + 1) chars.size)) (y.toNat : Int)
    have h3 : ¬ 0 ≤ idx (bytesOf (chars.extract (m + 1) chars.size)) (y.toNat : Int) := by
     intro h
     obtain ⟨n, _, h4, h5, _⟩ := idx_some h
     have h6 : (y.toNat : Int) ∈ bytesOf (chars.extract (m + 1) chars.size) := by rw [h5]; simp
     rw [bytesOf_drop] at h6
     have h7 := List.mem_of_mem_drop h6
     rw [bytesOf_data] at h7
     obtain ⟨b, hb, hbe⟩ := List.mem_map.1 h7
     obtain ⟨j, hj, hjb⟩ := List.getElem_of_mem hb
     have := HA.out j b (by rw [List.getElem?_eq_getElem hj, hjb])
     omega
    congr 1; omega)
   have q1 := eq_true (show (0 : Int) ≤ (m : Int) by omega)
   have q2 := eq_true (show (m : Int) < (chars.size : Int) by omega)
   have q3 := eq_true (show (m : Int) < (rs.size : Int) by omega)
   have q4 := eq_true hlt
   have q5 := eq_true hlc
   have q6 : decide ((m : Int) < (chars.size : Int)) = true := decide_eq_true (by omega)
   have q7 : decide ((m : Int) < (rs.size : Int)) = true := decide_eq_true (by omega)
   have q8 := eq_true (show (0 : Int) ≤ (m : Int) + 1 by omega)
   have q9 := eq_true (show (m : Int) + 1 ≤ (chars.size : Int) by omega)
   have hw1 : IntKind.i64.wrap ((m : Int) + 1) = (m : Int) + 1 := by rw [IntKind.wrap_i64]; omega
   have hx1 : ∀ h : m < chars.size, (chars[m]'h) = x := fun _ => hx
   have hy1 : ∀ h : m < rs.size, (rs[m]'h) = y := fun _ => hy
   clear hx hy el hm h4 e2 e4 d1 d2 d3
   go_loopg [9, 10] 1 (fun g i f wx => g = 1 ∧ i = .int .i64 (m : Int) ∧ f = .int .i64 0 ∧ wx = w')
   case atStart => exact ⟨rfl, rfl, rfl, rfl⟩
   case round =>
    obtain ⟨rfl, rfl, rfl, rfl⟩ := hrel
    go_wp2_with fail
    go_step3
    go_wp2_with fail
    go_quiet (fail)
    go_wp2_with fail
    go_quiet (first | (go_at_call 56; (with_reducible refine (strings_IndexByte.calls (chars.extract (m + 1) chars.size) (y.toNat : Int) (-1) _ HB.out).mono ?_); rintro e w' ⟨rfl, ⟨nd, rfl⟩⟩; (try first | exact ⟨rfl, _, World.drewN_drewN _ _ _⟩ | exact ⟨rfl, _, Eq.trans (World.drewN_drewN _ _ _) (congrArg (World.drewN _) (Nat.add_assoc _ _ _))⟩)))
    go_wp2_with fail
    rw [Exit.noGoto_ret]
    show Exit.noGoto _ Exit.ret _ _
    rw [Exit.noGoto_ret]
    show Exit.noGoto _ Exit.ret _ _
    rw [Exit.noGoto_ret]
    iterate 4 (show Exit.noGoto _ Exit.ret _ _; rw [Exit.noGoto_ret])
    go_ret
    exact ⟨rfl, pw_below_drewN (Below.refl _ _) _⟩
theorem noAny_high {s chars : ByteArray} {i n : Nat} (h : Lib.NoAny s.data.toList chars.data.toList i) (hc : ∀ (j : Nat) b, chars.data.toList[j]? = some b → b.toNat < 128) (hn : i + n ≤ s.size) (hb : ∀ k, k < n → 128 ≤ (s.get! (i + k)).toNat) : Lib.NoAny s.data.toList chars.data.toList (i + n) := by
 intro j b hj hjb
 by_cases hlt : j < i
 ·exact h j b hlt hjb
 ·have h1 := hb (j - i) (by omega)
  rw [show i + (j - i) = j by omega] at h1
  have hjz : j < s.size := by omega
  have h2 : s.get! j = b := by
   have e1 := get_at s j hjz
   rw [Nat.add_zero] at e1
   have e2 := Lib.data_getElem? s j hjz
   rw [e2] at hjb
   rw [e1]; exact Option.some.inj hjb
  rw [h2] at h1
  cases hcon : chars.data.toList.contains b with
  | false => rfl
  | true =>
   have hm := List.contains_iff_mem.1 hcon
   obtain ⟨q, hq, hqb⟩ := List.getElem_of_mem hm
   have := hc q b (by rw [List.getElem?_eq_getElem hq, hqb])
   omega
set_option maxRecDepth 100000 in
set_option maxHeartbeats 8000000 in
theorem idxAny_short (s chars : ByteArray) (h4 : chars.size = 4) (hc : ∀ (j : Nat) b, chars.data.toList[j]? = some b → b.toNat < 128) (h8 : s.size ≤ 8) (w : World) :
  Calls Tryd.prog 34 #[.string s, .string chars] w fun e w' => e = .returned (.int .i64 (Lib.indexAny s.data.toList chars.data.toList)) ∧ Below w.heap.size w w' := by
 have HA := Lib.hid hc
 have H4 := Lib.hid h4
 have hemp : chars.toList.isEmpty = false := by
  rw [Lib.toList_data]
  cases h : chars.data.toList with
  | nil => have := Lib.size_eq chars; rw [h, List.length_nil] at this; omega
  | cons _ _ => rfl
 have hn1 : ((chars.size : Int) == 1) = false := beq_eq_false_iff_ne.2 (by omega)
 have h8z : decide ((8 : Int) < (s.size : Int)) = false := decide_eq_false (by omega)
 clear hc h4
 go_enter Tryd.func34, Tryd.ntmps34
 go_wp2_with (go_at_call 45; refine (Tryd.strings_shouldUseASCIISet _ _).mono ?_; rintro e w' ⟨rfl, hw⟩; rw [hw, h8z])
 go_loopg [] (s.size + 1) (fun k wx => ∃ i : Nat, i ≤ s.size ∧ s.size - i < k ∧ Below w.heap.size w wx ∧ w.heap.size < wx.heap.size ∧ wx.heap[w.heap.size]? = some (.stringIter s i) ∧ Lib.NoAny s.data.toList chars.data.toList i)
 case atStart => exact ⟨0, by omega, by omega, below_alloc (Below.refl _ _) _, by simp [World.iter], World.iter_heap w s 0, Lib.NoAny.zero _ _⟩
 case round =>
  obtain ⟨i, h1, h2, hB, hlt, hk, hno⟩ := hrel
  have HN := Lib.hid hno
  clear hno
  cases gk with
  | zero => omega
  | succ k =>
  by_cases hi : i < s.size
  ·obtain ⟨x, hx⟩ : ∃ x : UInt8, s[i]'hi = x := ⟨_, rfl⟩
   by_cases hx128 : x.toNat < 128
   ·have hnx := fun ty => Lib.run_next_ascii_at (P := Tryd.prog) wr w.heap.size s i ty hk hi (by rw [hx]; exact hx128)
    rw [hx] at hnx
    have HX := Lib.hid (show s.data.toList[i]? = some x by rw [← hx]; exact Lib.data_getElem? s i hi)
    have hk2 := Lib.iterAt_heap wr w.heap.size s i (i + 1) hk
    have hB2 := Lib.below_iterAt hB (Nat.le_refl _) s (i + 1)
    have hlt2 : w.heap.size < (wr.iterAt w.heap.size s (i + 1)).heap.size := by rw [Lib.iterAt_size]; exact hlt
    have hcon := Lib.contains_iff_indexByte chars.data.toList x
    have hback : ((x.toNat : Int)).toNat.toUInt8 = x := by simp
    clear hx
    cases hin : chars.data.toList.contains x with
    | false =>
     rw [hin] at hcon
     have hlt3 : decide ((0 : Int) ≤ Lib.indexByte chars.data.toList x) = false := hcon.symm
     clear hcon
     go_wp2_with (go_at_call 44; refine (Tryd.strings_IndexRune_ascii _ _ _ (by omega) (by omega)).mono ?_; rintro e w' ⟨rfl, hw⟩; rw [hw, hback])
     go_roundg k
     case measure => omega
     case rel => exact ⟨i + 1, by omega, by omega, hB2, hlt2, hk2, HN.out.succ HX.out hin⟩
    | true =>
     rw [hin] at hcon
     have hge : decide ((0 : Int) ≤ Lib.indexByte chars.data.toList x) = true := hcon.symm
     clear hcon
     go_wp2_with (go_at_call 44; refine (Tryd.strings_IndexRune_ascii _ _ _ (by omega) (by omega)).mono ?_; rintro e w' ⟨rfl, hw⟩; rw [hw, hback])
     go_ret
     exact ⟨by rw [Lib.indexAny_hit HN.out HX.out hin]; rfl, hB2⟩
   ·obtain ⟨d1, d2⟩ := decode_high s i hi (by rw [hx]; omega)
    have d3 := decode_le s i
    obtain ⟨d4, d5⟩ := decode_bytes s i hi (by rw [hx]; omega)
    have hnx := fun ty => Lib.run_next_any_at (P := Tryd.prog) wr w.heap.size s i ty hk hi
    have HN2 := Lib.hid (noAny_high HN.out HA.out d4 d5)
    clear d5
    generalize (Utf8.decode s i).1 = r at d1 d3 hnx
    generalize (Utf8.decode s i).2 = n at d2 d4 hnx HN2
    have hk2 := Lib.iterAt_heap wr w.heap.size s i (i + n) hk
    have hB2 := Lib.below_iterAt hB (Nat.le_refl _) s (i + n)
    have hlt2 : w.heap.size < (wr.iterAt w.heap.size s (i + n)).heap.size := by rw [Lib.iterAt_size]; exact hlt
    go_wp2_with (go_at_call 44; refine (idxRune_high chars H4.out HA.out (r : Int) (by omega) (by omega) _).mono ?_; rintro e w5 ⟨rfl, hb5⟩)
    have hk3 := (hb5.block _ hlt2).trans hk2
    have hB3 := below_step hB2 hb5
    have hlt3 := Nat.lt_of_lt_of_le hlt2 hb5.size
    go_wp2
    go_roundg k
    case measure => omega
    case rel => exact ⟨i + n, by omega, by omega, hB3, hlt3, hk3, HN2.out⟩
  ·obtain rfl : i = s.size := by omega
   have hnx := fun ty => Lib.run_next_end_at (P := Tryd.prog) wr w.heap.size s s.size ty hk (by omega)
   go_wp2
   go_ret
   exact ⟨by rw [Lib.indexAny_none (by rw [← Lib.size_eq]; exact HN.out)]; rfl, hB⟩
end Go.Proofs.YtjmmdphkgioooaaDoor.P
end
section
namespace Go.Proofs.YtjmmdphkgioooaaDoor.P
open Go.RowKit Go.Proofs.YtjmmdphkgioooaaDoor.La Go.Proofs.YtjmmdphkgioooaaDoorW.PrintWords Go.Proofs.YtjmmdphkgioooaaDoorW.PrintLast Go.Proofs.YtjmmdphkgioooaaDoorW.PrintMore
theorem contains4 (b : UInt8) : ([44, 10, 13, 34] : List UInt8).contains b = odd4 (b.toNat : Int) := by
 have h : ∀ c : UInt8, (b == c) = ((b.toNat : Int) == (c.toNat : Int)) := by
  intro c
  rw [Bool.eq_iff_iff, beq_iff_eq, beq_iff_eq, ← UInt8.toNat_inj]
  omega
 simp only [List.contains_cons, List.contains_nil, Bool.or_false, odd4]
 rw [h 44, h 10, h 13, h 34]
 simp only [Bool.or_assoc]
 rfl
theorem idx4 (l : List UInt8) : Lib.indexAny l [44, 10, 13, 34] = if (pln (toI l)).length = l.length then -1 else ((pln (toI l)).length : Int) := by
 induction l with
 | nil => rfl
 | cons b l ih =>
  have hl := pln_len (toI l)
  have htl : (toI l).length = l.length := List.length_map _
  have hp : pln (toI (b :: l)) = if odd4 (b.toNat : Int) = true then [] else (b.toNat : Int) :: pln (toI l) := by
   show List.takeWhile _ ((b.toNat : Int) :: toI l) = _
   rw [List.takeWhile_cons]
   cases odd4 (b.toNat : Int) <;> rfl
  rw [Lib.indexAny, contains4, hp, ih]
  cases odd4 (b.toNat : Int) with
  | true => simp
  | false =>
   simp only [Bool.false_eq_true, if_false, List.length_cons]
   by_cases he : (pln (toI l)).length = l.length
   ·simp [he]
   ·have e1 : ((((pln (toI l)).length : Nat) : Int) == -1) = false := beq_eq_false_iff_ne.2 (by omega)
    simp only [he, if_false, e1, Bool.false_eq_true]
    split <;> omega
theorem asciiInfo : (Tryd.prog.info? 77).map (fun i => (i.zero, i.size)) = some (some (.agg (Array.replicate 256 (.bool false))), 256) := by kernel_rfl
theorem idxAny4 (s : ByteArray) (hs : s.size < 4294967281) (w : World) :
  Calls Tryd.prog 34 #[.string s, .string ⟨#[44, 10, 13, 34]⟩] w fun e w' => e = .returned (.int .i64 (if (pln (bytesOf s)).length = s.size then -1 else ((pln (bytesOf s)).length : Int))) ∧ Below w.heap.size w w' := by
 have hc : ∀ (j : Nat) (b : UInt8), (⟨#[44, 10, 13, 34]⟩ : ByteArray).data.toList[j]? = some b → b.toNat < 128 := by
  intro j b h
  match j, h with
  | 0, h => obtain rfl := Option.some.inj h; decide
  | 1, h => obtain rfl := Option.some.inj h; decide
  | 2, h => obtain rfl := Option.some.inj h; decide
  | 3, h => obtain rfl := Option.some.inj h; decide
 have e : Lib.indexAny s.data.toList (⟨#[44, 10, 13, 34]⟩ : ByteArray).data.toList = (if (pln (bytesOf s)).length = s.size then -1 else ((pln (bytesOf s)).length : Int)) := by
  rw [Lib.size_eq]; exact idx4 s.data.toList
 rw [← e]
 by_cases h8 : s.size ≤ 8
 ·exact idxAny_short s _ rfl hc h8 w
 ·refine (Tryd.strings_IndexAny_long (zero_of_info asciiInfo).1 s _ w (by decide) (by omega) hs (by decide) hc).mono fun e w' h => ⟨h.1, ?_⟩
  rw [h.2]
  exact below_alloc (below_alloc (Below.refl _ _) _) _
set_option maxRecDepth 100000 in
set_option maxHeartbeats 8000000 in
theorem cplain {w : World} {g : Nat} {text : ByteArray} {i : Nat} {rv : Value} (hC : Cur w g text i rv) (hi : i ≤ text.size) (hs : text.size ≤ 70000) :
  Calls Tryd.prog 76 #[.pointer (some ⟨g, 0, none⟩)] w fun x w' => x = .returned (.string (strOfNums (pln ((bytesOf text).drop i)))) ∧ Mv g w w' ∧ Cur w' g text ((i + (pln ((bytesOf text).drop i)).length : Nat) : Int) rv := by
 obtain ⟨c0, c1, c2, f1, f2, hlt⟩ := hC.open_
 have c3b0 := eq_true (show (0 : Int) ≤ (i : Int) by omega)
 have c3b1 : decide ((0 : Int) ≤ (i : Int)) = true := decide_eq_true (by omega)
 have c4b0 := eq_true (show (i : Int) ≤ (text.size : Int) by omega)
 have c4b1 : decide ((i : Int) ≤ (text.size : Int)) = true := decide_eq_true (by omega)
 have hrb := bytesOf_drop text i
 have hpl := pln_len ((bytesOf text).drop i)
 have hpt := pln_take ((bytesOf text).drop i)
 have hpB : Bytes (pln ((bytesOf text).drop i)) := fun x hx => bytes_of text x (List.mem_of_mem_drop ((List.takeWhile_prefix _).subset hx))
 generalize hP : pln ((bytesOf text).drop i) = P at hpl hpt hpB ⊢
 rw [List.length_drop, size_of] at hpl
 have hrz : (text.extract i text.size).size = text.size - i := by rw [← size_of, hrb, List.length_drop, size_of]
 go_enter Tryd.func76, Tryd.ntmps76
 go_wp2_with fail
 go_quiet (fail)
 generalize text.extract i text.size = rest at hrb hrz ⊢
 go_wp2_with fail
 refine (idxAny4 rest (by omega) _).mono ?_
 rintro e w1 ⟨rfl, hb1⟩
 have hC1 := (hC.drewN nq).below hb1
 have hm1 : Mv g w w1 := ((Mv.refl g w).drewN nq).trans (Mv.of_below hb1 (Nat.le_of_lt hlt))
 clear c0 c1 c2 f1 f2
 obtain ⟨c0, c1, c2, f1, f2, hlt1⟩ := hC1.open_
 have hpb : rest.extract 0 P.length = strOfNums P := by
  apply bytesOf_inj
  rw [strOfNums_bytes hpB, bytesOf_take, hrb, hpt]
 rw [hrb, hP]
 obtain ⟨n, hn⟩ : ∃ n : Nat, P.length = n := ⟨_, rfl⟩
 rw [hn] at hpl hpb ⊢
 have HPB := Lib.hid hpb
 have HN := Lib.hid hn
 have hC2 := hC1.moved ((i : Int) + (n : Int))
 have hm2 : Mv g w (w1.setCell ⟨g, 1, none⟩ (.int .i64 ((i : Int) + (n : Int)))) := hm1.trans (Mv.set g w1 1 _)
 have hw1 : IntKind.i64.wrap ((i : Int) + (n : Int)) = (i : Int) + (n : Int) := cwrap _ (by omega) (by omega)
 have q1 := eq_true (show (0 : Int) ≤ (n : Int) by omega)
 have q2 := eq_true (show (n : Int) ≤ (rest.size : Int) by omega)
 clear hpb hn hrb hP hpt
 by_cases he : n = rest.size
 ·rw [if_pos he]
  have HE := Lib.hid he
  rw [he] at hC2 hm2 hw1 q1 q2
  clear he hrz hpl
  have d1 : decide ((-1 : Int) < 0) = true := rfl
  go_wp2_with fail
  go_ret
  exact ⟨by rw [← HPB.out, HE.out, show rest.extract 0 rest.size = rest by simp]; rfl, hm2, by rw [HN.out, Int.natCast_add, HE.out]; exact hC2⟩
 ·rw [if_neg he]
  have d1 : decide ((n : Int) < 0) = false := decide_eq_false (by omega)
  go_wp2_with fail
  go_ret
  exact ⟨by rw [← HPB.out]; rfl, hm2, by rw [HN.out, Int.natCast_add]; exact hC2⟩
/-- What a field's reading leaves. -/
def FRes (_w w' : World) (g : Nat) (text : ByteArray) (i : Nat) (rv : Value) (x : Ending) : (Int × Nat) ⊕ (List Int × Nat) → Prop
 | .inl e => x = thrown e.1 e.2
 | .inr p => x = .returned (.agg #[.string (strOfNums p.1), .int .i64 i]) ∧ Cur w' g text ((i + p.2 : Nat) : Int) rv
/-- Block b holds a field. -/
def FB (w : World) (b : Nat) (s : ByteArray) (i : Nat) : Prop := w.heap[b]? = some (.cells #[.string s, .int .i64 i] 57 (0, 0))
theorem FB.open_ {w : World} {b : Nat} {s : ByteArray} {i : Nat} (h : FB w b s i) : w.cell? ⟨b, 0, none⟩ = some (.string s) ∧ w.cell? ⟨b, 1, none⟩ = some (.int .i64 i) ∧ w.frozen? ⟨b, 0, none⟩ = false ∧ w.frozen? ⟨b, 1, none⟩ = false ∧ b < w.heap.size :=
 ⟨by rw [cblk_cell h]; rfl, by rw [cblk_cell h]; rfl, cblk_free h 0, cblk_free h 1, cblk_lt h⟩
theorem FB.mv {w w' : World} {b g : Nat} {s : ByteArray} {i : Nat} (h : FB w b s i) (hm : Mv g w w') (hne : b ≠ g) : FB w' b s i := (hm.2 b (cblk_lt h) hne).trans h
theorem FB.new (W : World) (s : ByteArray) (i : Nat) : FB (W.alloc (.cells #[.string s, .int .i64 i] 57)) W.heap.size s i := by
 unfold FB
 show (W.heap.push _)[W.heap.size]? = _
 exact Array.getElem?_push_size
theorem FB.put {w : World} {b : Nat} {s : ByteArray} {i : Nat} (h : FB w b s i) (s' : ByteArray) : FB (w.setCell ⟨b, 0, none⟩ (.string s')) b s' i := cblk_set h 0 _
theorem FB.put1 {w : World} {b : Nat} {s : ByteArray} {i : Nat} (h : FB w b s i) (i' : Nat) : FB (w.setCell ⟨b, 1, none⟩ (.int .i64 i')) b s i' := cblk_set h 1 _
theorem Mv.far {g b : Nat} {w W : World} (h : Mv g w W) (hb : w.heap.size ≤ b) (hg : g ≤ w.heap.size) (j : Nat) (u : Value) : Mv g w (W.setCell ⟨b, j, none⟩ u) :=
 h.then ((Below.refl w.heap.size W).setCell (p := ⟨b, j, none⟩) hb u) hg
theorem Cur.far {w : World} {g b : Nat} {text : ByteArray} {at_ : Int} {rv : Value} (h : Cur w g text at_ rv) (hne : g ≠ b) (j : Nat) (u : Value) : Cur (w.setCell ⟨b, j, none⟩ u) g text at_ rv :=
 (Below.heap_setCell w ⟨b, j, none⟩ u g hne).trans h
theorem FB.far {w : World} {b b' : Nat} {s : ByteArray} {i : Nat} (h : FB w b s i) (hne : b ≠ b') (j : Nat) (u : Value) : FB (w.setCell ⟨b', j, none⟩ u) b s i :=
 (Below.heap_setCell w ⟨b', j, none⟩ u b hne).trans h
theorem FB.drewN {w : World} {b : Nat} {s : ByteArray} {i : Nat} (h : FB w b s i) (n : Nat) : FB (w.drewN n) b s i := h
/-- What is checked behind a field's text. -/
theorem fieldS_raw {l : List Int} {i : Nat} {p : List Int × Nat} (h : raw l = some p) : fieldS l i = if fbad (l.drop p.2) then .inl (4, i + p.2) else if 4096 < p.1.length then .inl (2, i) else .inr p := by
 unfold fieldS
 rw [h]
set_option maxRecDepth 100000 in
set_option maxHeartbeats 8000000 in
theorem cfield {w : World} {g : Nat} {text : ByteArray} {i : Nat} {rv : Value} (hC : Cur w g text i rv) (hi : i ≤ text.size) (hs : text.size ≤ 70000) :
  Calls Tryd.prog 67 #[.pointer (some ⟨g, 0, none⟩)] w fun x w' => Mv g w w' ∧ FRes w w' g text i rv x (fieldS ((bytesOf text).drop i) i) := by
 obtain ⟨c0, c1, c2, f1, f2, hlt⟩ := hC.open_
 have c3b0 := eq_true (show (0 : Int) ≤ (i : Int) by omega)
 have c3b1 : decide ((0 : Int) ≤ (i : Int)) = true := decide_eq_true (by omega)
 have c4b0 := eq_true (show (i : Int) ≤ (text.size : Int) by omega)
 have c4b1 : decide ((i : Int) ≤ (text.size : Int)) = true := decide_eq_true (by omega)
 obtain ⟨r, hr⟩ : ∃ r : Bool, decide (((bytesOf text).drop i).take (⟨#[34]⟩ : ByteArray).size = bytesOf ⟨#[34]⟩) = r := ⟨_, rfl⟩
 have HP := Lib.hid ((pre_at text i ⟨#[34]⟩).trans (by rw [hr]))
 have HR := Lib.hid hr
 clear hr
 have hm1 : Mv g w ((w.alloc (.cells #[.string ⟨#[]⟩, .int .i64 0] 57)).alloc (.cells #[.string ⟨#[]⟩, .int .i64 i] 57)) :=
  Mv.of_below (below_alloc (below_alloc (Below.refl _ _) _) _) (Nat.le_of_lt hlt)
 have hC1 := (hC.below (below_alloc (below_alloc (Below.refl _ _) (.cells #[.string ⟨#[]⟩, .int .i64 0] 57)) (.cells #[.string ⟨#[]⟩, .int .i64 i] 57)))
 have hF1 : FB ((w.alloc (.cells #[.string ⟨#[]⟩, .int .i64 0] 57)).alloc (.cells #[.string ⟨#[]⟩, .int .i64 i] 57)) (w.heap.size + 1) ⟨#[]⟩ i := by
  have h := FB.new (w.alloc (.cells #[.string ⟨#[]⟩, .int .i64 0] 57)) ⟨#[]⟩ i
  rw [show (w.alloc (.cells #[.string ⟨#[]⟩, .int .i64 0] 57)).heap.size = w.heap.size + 1 from Array.size_push _] at h
  exact h
 have hG1 : FB ((w.alloc (.cells #[.string ⟨#[]⟩, .int .i64 0] 57)).alloc (.cells #[.string ⟨#[]⟩, .int .i64 i] 57)) w.heap.size ⟨#[]⟩ 0 := by
  have h := FB.new w ⟨#[]⟩ 0
  exact (below_alloc (Below.refl _ _) (.cells #[.string ⟨#[]⟩, .int .i64 i] 57)).block w.heap.size (cblk_lt h) |>.trans h
 go_enter Tryd.func67, Tryd.ntmps67
 go_wp2_with fail
 generalize (w.alloc (.cells #[.string ⟨#[]⟩, .int .i64 0] 57)).alloc (.cells #[.string ⟨#[]⟩, .int .i64 i] 57) = w1 at hm1 hC1 hF1 hG1 ⊢
 clear c0 c1 c2 f1 f2 hC
 obtain ⟨c0, c1, c2, f1, f2, hlt1⟩ := hC1.open_
 go_quiet (first | (go_at_call 68; (with_reducible refine (strings_HasPrefix.calls (text.extract i text.size) (⟨#[34]⟩ : ByteArray) r _ HP.out).mono ?_); rintro e w' ⟨rfl, ⟨nd, rfl⟩⟩; (try first | exact ⟨rfl, _, World.drewN_drewN _ _ _⟩ | exact ⟨rfl, _, Eq.trans (World.drewN_drewN _ _ _) (congrArg (World.drewN _) (Nat.add_assoc _ _ _))⟩)))
 have hraw : Hid (raw ((bytesOf text).drop i) = if r = true then (qd ((bytesOf text).drop (i + 1))).map (fun p => (p.1, p.2 + 1)) else some (pln ((bytesOf text).drop i), (pln ((bytesOf text).drop i)).length)) := by
  unfold raw
  rw [List.drop_drop]
  congr 1
  exact propext ⟨fun h => HR.out.symm.trans (decide_eq_true h), fun h => of_decide_eq_true (HR.out.trans h)⟩
 cases r
 case' true =>
  have hilt : i < text.size := by
   have h1 := congrArg List.length (show ((bytesOf text).drop i).take 1 = [34] from of_decide_eq_true HR.out)
   rw [List.length_take, List.length_drop, size_of] at h1
   simp at h1; omega
  go_wp2_with fail
  refine (cquoted (hC1.drewN nq) hilt hs).mono ?_
  rintro e w3 ⟨hm3, hq⟩
  replace hraw : raw ((bytesOf text).drop i) = (qd ((bytesOf text).drop (i + 1))).map (fun p => (p.1, p.2 + 1)) := by
   first | exact hraw.out.trans (if_pos rfl) | exact hraw.out.trans (if_pos trivial)
  have hm4 : Mv g w w3 := (hm1.drewN nq).trans hm3
  have hF3 : FB w3 (w.heap.size + 1) ⟨#[]⟩ i := hF1.mv ((Mv.refl g w1).drewN nq |>.trans hm3) (by omega)
  have hG3 : FB w3 w.heap.size ⟨#[]⟩ 0 := hG1.mv ((Mv.refl g w1).drewN nq |>.trans hm3) (by omega)
  cases hqd : qd ((bytesOf text).drop (i + 1))
  case none =>
   rw [hqd] at hq hraw
   obtain rfl := hq
   refine ⟨rfl, hm4, ?_⟩
   unfold fieldS
   rw [hraw]
   show _ = thrown 4 ((i + ((bytesOf text).drop i).length : Nat) : Int)
   rw [List.length_drop, size_of, show i + (text.size - i) = text.size by omega]
   rfl
  case' some p =>
   rw [hqd] at hq hraw
   obtain ⟨rfl, hC3⟩ := hq
   replace hC3 : Cur w3 g text ((i + (p.2 + 1) : Nat) : Int) rv := by rw [show i + (p.2 + 1) = i + 1 + p.2 by omega]; exact hC3
   obtain ⟨q, hq⟩ : ∃ q : List Int × Nat, (p.1, p.2 + 1) = q := ⟨_, rfl⟩
   replace hraw : raw ((bytesOf text).drop i) = some q := by rw [← hq]; exact hraw
   rw [show p.2 + 1 = q.2 by rw [← hq]] at hC3
   rw [show p.1 = q.1 by rw [← hq]]
   clear hq hqd hilt
 case' false =>
  go_wp2_with fail
  refine (cplain (hC1.drewN nq) hi hs).mono ?_
  rintro e w3 ⟨rfl, hm3, hC3⟩
  replace hraw : raw ((bytesOf text).drop i) = some (pln ((bytesOf text).drop i), (pln ((bytesOf text).drop i)).length) := by
   first | exact hraw.out.trans (if_neg Bool.false_ne_true) | exact hraw.out.trans (if_neg not_false)
  have hm4 : Mv g w w3 := (hm1.drewN nq).trans hm3
  have hF3 : FB w3 (w.heap.size + 1) ⟨#[]⟩ i := hF1.mv ((Mv.refl g w1).drewN nq |>.trans hm3) (by omega)
  have hG3 : FB w3 w.heap.size ⟨#[]⟩ 0 := hG1.mv ((Mv.refl g w1).drewN nq |>.trans hm3) (by omega)
  obtain ⟨q, hq⟩ : ∃ q : List Int × Nat, (pln ((bytesOf text).drop i), (pln ((bytesOf text).drop i)).length) = q := ⟨_, rfl⟩
  rw [hq] at hraw
  rw [show (pln ((bytesOf text).drop i)).length = q.2 by rw [← hq]] at hC3
  rw [show pln ((bytesOf text).drop i) = q.1 by rw [← hq]]
  clear hq
 all_goals
  clear hC1 hm1 hF1 hG1 hm3 HP HR c0 c1 c2 f1 f2
  have hql := raw_len hraw
  have hqB := raw_bytes ((bytes_of text).drop i) hraw
  rw [List.length_drop, size_of] at hql
  have HF := Lib.hid (fieldS_raw (i := i) hraw)
  rw [List.drop_drop] at HF
  obtain ⟨s, n⟩ := q
  obtain ⟨j, hj⟩ : ∃ j : Nat, i + n = j := ⟨_, rfl⟩
  simp only [hj] at HF hC3 ⊢
  have HJ := Lib.hid hj
  have hjz : j ≤ text.size := by simp only at hql; omega
  have hsz : (strOfNums s).size = s.length := size_strOfNums hqB
  simp only at hql ⊢
  obtain ⟨k0, k1, k2, k3, k4⟩ := hF3.open_
  have hF4 := hF3.put (strOfNums s)
  have hG4 := hG3.far (b' := w.heap.size + 1) (by omega) 0 (.string (strOfNums s))
  have hm5 := hm4.far (b := w.heap.size + 1) (by omega) (Nat.le_of_lt hlt) 0 (.string (strOfNums s))
  have hC4 := hC3.far (b := w.heap.size + 1) (by omega) 0 (.string (strOfNums s))
  obtain ⟨S, HSB⟩ : ∃ S, S = strOfNums s := ⟨_, rfl⟩
  rw [← HSB] at hsz hF4 hG4 hm5 hC4 ⊢
  replace HSB := Lib.hid HSB
  go_wp2_with fail
  generalize w3.setCell ⟨w.heap.size + 1, 0, none⟩ (.string S) = w5 at hF4 hG4 hm5 hC4 ⊢
  clear hF3 hG3 hm4 hC3 k0 k1 k2 k3 k4
  obtain ⟨k0, k1, k2, k3, k4⟩ := hF4.open_
  obtain ⟨c0, c1, c2, f1, f2, hlt5⟩ := hC4.open_
  obtain ⟨m0, m1, m2, m3, m4⟩ := hG4.open_
  by_cases hjl : j < text.size
  ·have e1 : decide ((j : Int) < (text.size : Int)) = true := decide_eq_true (by omega)
   have p1 := eq_true (show (0 : Int) ≤ (j : Int) by omega)
   have p2 := eq_true (show (j : Int) < (text.size : Int) by omega)
   have p3 := eq_true hjl
   obtain ⟨x, hx⟩ : ∃ x : UInt8, text[j]'hjl = x := ⟨_, rfl⟩
   have hx1 : ∀ h : j < text.size, (text[j]'h) = x := fun _ => hx
   have hdj : ((bytesOf text).drop j).take 1 = [(x.toNat : Int)] := by
    rw [← hx, List.drop_eq_getElem_cons (by rw [size_of]; exact hjl)]
    simp [bytesOf_data]; rfl
   clear hx
   by_cases h44 : (x.toNat : Int) = 44
   ·have e2 : ((x.toNat : Int) != 44) = false := by rw [h44]; rfl
    have hnb : ¬ fbad ((bytesOf text).drop j) := fun h => h.2.1 (by rw [hdj, h44])
    clear h44 hdj
    go_wp2_with fail
    go_quiet (first | (go_at_call 69; (with_reducible refine (cend (hC4.drewN _) hjz).mono ?_); rintro e w' ⟨rfl, ⟨nd, rfl⟩⟩; (try first | exact ⟨rfl, _, World.drewN_drewN _ _ _⟩ | exact ⟨rfl, _, Eq.trans (World.drewN_drewN _ _ _) (congrArg (World.drewN _) (Nat.add_assoc _ _ _))⟩)))
    replace hm5 := hm5.drewN nq
    replace hC4 := hC4.drewN nq
    have HF2 : Hid (fieldS ((bytesOf text).drop i) i = if 4096 < s.length then .inl (2, i) else .inr (s, n)) := HF.out.trans (if_neg hnb)
    by_cases h4 : 4096 < s.length
    ·have e4 : decide ((4096 : Int) < (S.size : Int)) = true := decide_eq_true (by omega)
     go_wp2_with fail
     refine (cfail _ _ _).mono ?_
     rintro e w7 ⟨rfl, rfl⟩
     exact ⟨rfl, hm5, by rw [HF2.out, if_pos h4]; rfl⟩
    ·have e4 : decide ((4096 : Int) < (S.size : Int)) = false := decide_eq_false (by omega)
     go_wp2_with fail
     have hG6 := (FB.put hG4 S).put1 i
     refine bodyPost_ret (results_cell_row rfl _ _ w.heap.size 57 #[.string S, .int .i64 i] (0, 0) _ rfl (by first | exact hG6 | exact hG6.drewN nq) Tryd.underlying57 rfl (by kernel_rfl)) rfl ?_
     have hm6 := (hm5.far (b := w.heap.size) (Nat.le_refl _) (Nat.le_of_lt hlt) 0 (.string S)).far (b := w.heap.size) (Nat.le_refl _) (Nat.le_of_lt hlt) 1 (.int .i64 i)
     have hC6 := (hC4.far (b := w.heap.size) (by omega) 0 (.string S)).far (b := w.heap.size) (by omega) 1 (.int .i64 i)
     refine ⟨hm6, ?_⟩
     rw [HF2.out, if_neg h4]
     exact ⟨by rw [← HSB.out], by show Cur _ g text ((i + n : Nat) : Int) rv; rw [HJ.out]; exact hC6⟩
   ·have e2 : ((x.toNat : Int) != 44) = true := bne_iff_ne.2 h44
    by_cases hlz : lend ((bytesOf text).drop j) = 0
    ·have e3 : (((lend ((bytesOf text).drop j) : Nat) : Int) == 0) = true := by rw [hlz]; rfl
     have hb : fbad ((bytesOf text).drop j) := ⟨fun h => by rw [h] at hdj; simp at hdj, fun h => h44 (by rw [hdj] at h; simpa using h), hlz⟩
     have HF2 := Lib.hid (HF.out.trans (if_pos hb))
     clear hlz hb hdj h44
     go_wp2_with fail
     go_quiet (first | (go_at_call 69; (with_reducible refine (cend (hC4.drewN _) hjz).mono ?_); rintro e w' ⟨rfl, ⟨nd, rfl⟩⟩; (try first | exact ⟨rfl, _, World.drewN_drewN _ _ _⟩ | exact ⟨rfl, _, Eq.trans (World.drewN_drewN _ _ _) (congrArg (World.drewN _) (Nat.add_assoc _ _ _))⟩)))
     replace hm5 := hm5.drewN nq
     replace hC4 := hC4.drewN nq
     go_wp2_with fail
     refine (cfail _ _ _).mono ?_
     rintro e w7 ⟨rfl, rfl⟩
     exact ⟨rfl, hm5, by rw [HF2.out]; rfl⟩
    ·have e3 : (((lend ((bytesOf text).drop j) : Nat) : Int) == 0) = false := beq_eq_false_iff_ne.2 (by omega)
     have hnb : ¬ fbad ((bytesOf text).drop j) := fun h => hlz h.2.2
     clear hlz hdj h44
     go_wp2_with fail
     go_quiet (first | (go_at_call 69; (with_reducible refine (cend (hC4.drewN _) hjz).mono ?_); rintro e w' ⟨rfl, ⟨nd, rfl⟩⟩; (try first | exact ⟨rfl, _, World.drewN_drewN _ _ _⟩ | exact ⟨rfl, _, Eq.trans (World.drewN_drewN _ _ _) (congrArg (World.drewN _) (Nat.add_assoc _ _ _))⟩)))
     replace hm5 := hm5.drewN nq
     replace hC4 := hC4.drewN nq
     have HF2 : Hid (fieldS ((bytesOf text).drop i) i = if 4096 < s.length then .inl (2, i) else .inr (s, n)) := HF.out.trans (if_neg hnb)
     by_cases h4 : 4096 < s.length
     ·have e4 : decide ((4096 : Int) < (S.size : Int)) = true := decide_eq_true (by omega)
      go_wp2_with fail
      refine (cfail _ _ _).mono ?_
      rintro e w7 ⟨rfl, rfl⟩
      exact ⟨rfl, hm5, by rw [HF2.out, if_pos h4]; rfl⟩
     ·have e4 : decide ((4096 : Int) < (S.size : Int)) = false := decide_eq_false (by omega)
      go_wp2_with fail
      have hG6 := (FB.put hG4 S).put1 i
      refine bodyPost_ret (results_cell_row rfl _ _ w.heap.size 57 #[.string S, .int .i64 i] (0, 0) _ rfl (by first | exact hG6 | exact hG6.drewN nq) Tryd.underlying57 rfl (by kernel_rfl)) rfl ?_
      have hm6 := (hm5.far (b := w.heap.size) (Nat.le_refl _) (Nat.le_of_lt hlt) 0 (.string S)).far (b := w.heap.size) (Nat.le_refl _) (Nat.le_of_lt hlt) 1 (.int .i64 i)
      have hC6 := (hC4.far (b := w.heap.size) (by omega) 0 (.string S)).far (b := w.heap.size) (by omega) 1 (.int .i64 i)
      refine ⟨hm6, ?_⟩
      rw [HF2.out, if_neg h4]
      exact ⟨by rw [← HSB.out], by show Cur _ g text ((i + n : Nat) : Int) rv; rw [HJ.out]; exact hC6⟩
  ·have e1 : decide ((j : Int) < (text.size : Int)) = false := decide_eq_false (by omega)
   have hnb : ¬ fbad ((bytesOf text).drop j) := fun h => h.1 (List.drop_eq_nil_of_le (by rw [size_of]; omega))
   go_wp2_with fail
   go_quiet (first | (go_at_call 69; (with_reducible refine (cend (hC4.drewN _) hjz).mono ?_); rintro e w' ⟨rfl, ⟨nd, rfl⟩⟩; (try first | exact ⟨rfl, _, World.drewN_drewN _ _ _⟩ | exact ⟨rfl, _, Eq.trans (World.drewN_drewN _ _ _) (congrArg (World.drewN _) (Nat.add_assoc _ _ _))⟩)))
   replace hm5 := hm5.drewN nq
   replace hC4 := hC4.drewN nq
   have HF2 : Hid (fieldS ((bytesOf text).drop i) i = if 4096 < s.length then .inl (2, i) else .inr (s, n)) := HF.out.trans (if_neg hnb)
   by_cases h4 : 4096 < s.length
   ·have e4 : decide ((4096 : Int) < (S.size : Int)) = true := decide_eq_true (by omega)
    go_wp2_with fail
    refine (cfail _ _ _).mono ?_
    rintro e w7 ⟨rfl, rfl⟩
    exact ⟨rfl, hm5, by rw [HF2.out, if_pos h4]; rfl⟩
   ·have e4 : decide ((4096 : Int) < (S.size : Int)) = false := decide_eq_false (by omega)
    go_wp2_with fail
    have hG6 := (FB.put hG4 S).put1 i
    refine bodyPost_ret (results_cell_row rfl _ _ w.heap.size 57 #[.string S, .int .i64 i] (0, 0) _ rfl (by first | exact hG6 | exact hG6.drewN nq) Tryd.underlying57 rfl (by kernel_rfl)) rfl ?_
    have hm6 := (hm5.far (b := w.heap.size) (Nat.le_refl _) (Nat.le_of_lt hlt) 0 (.string S)).far (b := w.heap.size) (Nat.le_refl _) (Nat.le_of_lt hlt) 1 (.int .i64 i)
    have hC6 := (hC4.far (b := w.heap.size) (by omega) 0 (.string S)).far (b := w.heap.size) (by omega) 1 (.int .i64 i)
    refine ⟨hm6, ?_⟩
    rw [HF2.out, if_neg h4]
    exact ⟨by rw [← HSB.out], by show Cur _ g text ((i + n : Nat) : Int) rv; rw [HJ.out]; exact hC6⟩
end Go.Proofs.YtjmmdphkgioooaaDoor.P
end
section
namespace Go.Proofs.YtjmmdphkgioooaaDoor.P
open Go.RowKit Go.Proofs.YtjmmdphkgioooaaDoor.La Go.Proofs.YtjmmdphkgioooaaDoorW.PrintWords Go.Proofs.YtjmmdphkgioooaaDoorW.PrintLast Go.Proofs.YtjmmdphkgioooaaDoorW.PrintMore
theorem cinfoF : (Tryd.prog.info? 57).map (fun i => (i.zero, i.size, i.bytes)) = some (some (.agg #[.string ⟨#[]⟩, .int .i64 0]), 2, 24) := by kernel_rfl
theorem cinfoR : (Tryd.prog.info? 55).map (fun i => (i.zero, i.size, i.bytes)) = some (some (.slice none 0 0), 1, 24) := by kernel_rfl
/-- What a row's reading says. -/
def rowR (rows : List (List S57)) (l : List Int) (i : Nat) : (Int × Nat) ⊕ (List S57 × Nat) :=
 if 512 < rows.length then .inl (2, i) else
 match rowS 64 [] l i with
 | .inl e => .inl e
 | .inr (r, _, j) => if rows ≠ [] ∧ r.length ≠ (rows.headD []).length then .inl (7, i) else .inr (r, j)
/-- What it leaves. -/
def RRes (B : Nat) (w' : World) (g : Nat) (text : ByteArray) (rows : List (List S57)) (x : Ending) : (Int × Nat) ⊕ (List S57 × Nat) → Prop
 | .inl e => x = thrown e.1 e.2
 | .inr p => x = .returned (.tuple #[]) ∧ ∃ rv', Cur w' g text (p.2 : Nat) rv' ∧ Kd.S (Kd.slice 57 k57) 55 w' B (fun k => k ≠ g) rv' (rows ++ [p.1])
/-- The state of the loop over a row's fields. -/
def RInv (w : World) (g : Nat) (text : ByteArray) (rv : Value) (res : (Int × Nat) ⊕ (List S57 × List Int × Nat)) (k : Nat) (vl : Value) (wx : World) : Prop :=
 ∃ (n j : Nat) (acc : List S57), k = n + 1 ∧ Cur wx g text j rv ∧ Mv g w wx ∧ Kd.R k57 57 wx w.heap.size (fun _ => True) vl acc ∧ acc.length + n = 64 ∧ j ≤ text.size ∧
  res = rowS n acc ((bytesOf text).drop j) j
set_option maxRecDepth 100000 in
set_option maxHeartbeats 8000000 in
theorem crow {B : Nat} {w : World} {g : Nat} {text : ByteArray} {i : Nat} {rv : Value} {rows : List (List S57)} (hC : Cur w g text i rv) (hS : Kd.S (Kd.slice 57 k57) 55 w B (fun k => k ≠ g) rv rows) (hB : B ≤ g) (hi : i ≤ text.size) (hs : text.size ≤ 70000) (hr : rows.length ≤ 513) :
  Calls Tryd.prog 53 #[.pointer (some ⟨g, 0, none⟩)] w fun x w' => Below B w w' ∧ RRes B w' g text rows x (rowR rows ((bytesOf text).drop i) i) := by
 obtain ⟨c0, c1, c2, f1, f2, hlt⟩ := hC.open_
 obtain ⟨RA, RC, hrv, hrc, hRC⟩ := Kd.S_reads hS
 have HRV := Lib.hid hrv
 obtain ⟨res, hres⟩ : ∃ res, rowS 64 [] ((bytesOf text).drop i) i = res := ⟨_, rfl⟩
 have HRES := Lib.hid hres
 by_cases h512 : 512 < rows.length
 ·have e1 : decide ((512 : Int) < (rows.length : Int)) = true := decide_eq_true (by omega)
  rw [hrv] at c2
  go_enter Tryd.func53, Tryd.ntmps53
  go_wp2_with fail
  refine (cfail _ _ _).mono ?_
  rintro e w7 ⟨rfl, rfl⟩
  refine ⟨rfl, Below.refl _ _, ?_⟩
  unfold rowR
  rw [if_pos h512]
  rfl
 ·have e1 : decide ((512 : Int) < (rows.length : Int)) = false := decide_eq_false (by omega)
  have c2' := c2
  rw [hrv] at c2'
  go_enter Tryd.func53, Tryd.ntmps53
  clear c2
  go_wp2_with fail
  go_loopg [3] 65 (fun k vl wx => RInv w g text rv res k vl wx)
  case atStart => exact ⟨64, i, [], rfl, hC, Mv.refl g w, Kd.R_nil _ _ _ _ _, rfl, hi, HRES.out.symm⟩
  case round =>
   obtain ⟨n, j, acc, hk, hCx, hm, hR, hn, hj, hresx⟩ := hrel
   obtain ⟨LA, LC, hvl, hlc, hLC⟩ := Kd.R_reads hR
   clear c0 c1 c2' f1 f2 e1
   obtain ⟨c0, c1, c2, f1, f2, hltx⟩ := hCx.open_
   have HRX := Lib.hid hresx
   have HK := Lib.hid hk
   clear hresx hres hk
   cases n with
   | zero =>
    have e2 : (((acc.length : Nat) : Int) == 64) = true := beq_iff_eq.2 (by omega)
    rw [hvl]
    go_wp2_with fail
    refine (cfail _ _ _).mono ?_
    rintro e w7 ⟨rfl, rfl⟩
    refine ⟨rfl, hm.low hB, ?_⟩
    unfold rowR
    rw [if_neg h512, HRES.out, HRX.out]
    rfl
   | succ n =>
    have e2 : (((acc.length : Nat) : Int) == 64) = false := beq_eq_false_iff_ne.2 (by omega)
    have hvl' := hvl
    subst hvl'
    go_wp2_with fail
    refine (cfield hCx hj hs).mono ?_
    rintro e w3 ⟨hm3, hf⟩
    have hm4 := hm.trans hm3
    cases hfs : fieldS ((bytesOf text).drop j) j with
    | inl e =>
     rw [hfs] at hf
     obtain rfl := hf
     refine ⟨rfl, hm4.low hB, ?_⟩
     unfold rowR
     rw [if_neg h512, HRES.out, HRX.out, rowS, hfs]
     rfl
    | inr p =>
     rw [hfs] at hf
     obtain ⟨rfl, hC3⟩ := hf
     obtain ⟨hp1, hp2, hp3⟩ := fieldS_len hfs
     rw [List.length_drop, size_of] at hp3
     have hRX : Hid (res = if (((bytesOf text).drop j).drop p.2).take 1 = [44] then rowS n (acc ++ [⟨strOfNums p.1, (j : Int)⟩]) (((bytesOf text).drop j).drop (p.2 + 1)) (j + p.2 + 1)
       else .inr (acc ++ [⟨strOfNums p.1, (j : Int)⟩], ((bytesOf text).drop j).drop (p.2 + lend (((bytesOf text).drop j).drop p.2)), j + p.2 + lend (((bytesOf text).drop j).drop p.2))) := by
      rw [HRX.out, rowS, hfs]
      rfl
     simp only [List.drop_drop] at hRX
     have hR3 := Kd.R_mono (Kd.R_step (w1 := w3) (Kd.R_bound hR) (fun k hk hlt => hm3.2 k hlt (by have := hk.2.1; omega))) (fun _ hk => hk.1)
     have hlow3 : w.heap.size ≤ w3.heap.size := hm4.1.size
     have hF := k57_mkM w3 w.heap.size (fun _ => False) (⟨strOfNums p.1, (j : Int)⟩ : S57)
     simp only at hF
     clear hfs HRX hR hLC c0 c1 c2 f1 f2 hCx
     generalize strOfNums p.1 = S at hRX hF ⊢
     obtain ⟨m, hmj⟩ : ∃ m : Nat, j + p.2 = m := ⟨_, rfl⟩
     rw [hmj] at hC3 hRX
     have hmz : m ≤ text.size := by omega
     go_wp2_with (at_builtin; refine Kd.R_append k57 (w0 := w3) w.heap.size rfl (.tmp 24) (.tmp 27) 55 57 (.agg #[.string ⟨#[]⟩, .int .i64 0]) 24 rfl Tryd.underlying55 cinfoF rfl (by decide) (by omega) (.slice LA acc.length LC) acc (⟨S, (j : Int)⟩ : S57) [.string S, .int .i64 (j : Int)] (fun _ => True) (fun _ => False) rfl (by first | (go_simp; done) | (go_simp; rfl)) hF (fun _ hk => hk.elim) (fun _ _ => trivial) hR3 (Below.refl _ _) hlow3 (by omega) ?_)
     intro v1 w4 hR4 hb4 hg4 hat4
     have hm5 := hm4.then hb4 (Nat.le_of_lt hlt)
     have hC4 : Cur w4 g text (m : Int) rv := (show w4.heap[g]? = _ from (hb4.block g hlt)).trans hC3
     clear hR3 hF hC3 hm4 hm3 hg4 hat4 hb4
     obtain ⟨c0, c1, c2, f1, f2, hlt4⟩ := hC4.open_
     have c3b0 := eq_true (show (0 : Int) ≤ (m : Int) by omega)
     have c3b1 : decide ((0 : Int) ≤ (m : Int)) = true := decide_eq_true (by omega)
     have c4b0 := eq_true (show (m : Int) ≤ (text.size : Int) by omega)
     have c4b1 : decide ((m : Int) ≤ (text.size : Int)) = true := decide_eq_true (by omega)
     obtain ⟨r, hr44⟩ : ∃ r : Bool, decide (((bytesOf text).drop m).take (⟨#[44]⟩ : ByteArray).size = bytesOf ⟨#[44]⟩) = r := ⟨_, rfl⟩
     have HP := Lib.hid ((pre_at text m ⟨#[44]⟩).trans (by rw [hr44]))
     have HR := Lib.hid hr44
     have HMJ := Lib.hid hmj
     clear hr44 hmj
     cases r with
     | true =>
      go_wp2_with fail
      go_quiet (first | (go_at_call 68; (with_reducible refine (strings_HasPrefix.calls (text.extract m text.size) (⟨#[44]⟩ : ByteArray) true _ HP.out).mono ?_); rintro e w' ⟨rfl, ⟨nd, rfl⟩⟩; (try first | exact ⟨rfl, _, World.drewN_drewN _ _ _⟩ | exact ⟨rfl, _, Eq.trans (World.drewN_drewN _ _ _) (congrArg (World.drewN _) (Nat.add_assoc _ _ _))⟩)))
      have hC5 := (hC4.drewN nq).moved ((m : Int) + 1)
      have hm6 := (hm5.drewN nq).trans (Mv.set g (w4.drewN nq) 1 (.int .i64 ((m : Int) + 1)))
      have hR5 := Kd.R_mono (Kd.R_step (w1 := (w4.drewN nq).setCell ⟨g, 1, none⟩ (.int .i64 ((m : Int) + 1))) (Kd.R_bound (Kd.R_drewN hR4 nq)) (fun k hk hlt' => (Mv.set g (w4.drewN nq) 1 (.int .i64 ((m : Int) + 1))).2 k hlt' (by have := hk.2.1; omega))) (fun _ hk => hk.1)
      have hmlt : m < text.size := by
       have h1 := congrArg List.length (show ((bytesOf text).drop m).take 1 = [44] from of_decide_eq_true HR.out)
       rw [List.length_take, List.length_drop, size_of] at h1
       simp at h1; omega
      have hRX2 := Lib.hid (hRX.out.trans (if_pos (show ((bytesOf text).drop m).take 1 = [44] from of_decide_eq_true HR.out)))
      have hw2 : IntKind.i64.wrap ((m : Int) + 1) = (m : Int) + 1 := cwrap _ (by omega) (by omega)
      go_wp2_with fail
      have hk := HK.out
      subst hk
      go_roundg (n + 1)
      case rel =>
       have hmj := HMJ.out
       refine ⟨n, m + 1, acc ++ [⟨S, (j : Int)⟩], rfl, by rw [Int.natCast_add]; exact hC5, hm6, hR5, by rw [List.length_append]; simp; omega, by omega, ?_⟩
       rw [hRX2.out, ← hmj]
       rfl
      case measure => omega
     | false =>
      go_wp2_with fail
      go_quiet (first | (go_at_call 68; (with_reducible refine (strings_HasPrefix.calls (text.extract m text.size) (⟨#[44]⟩ : ByteArray) false _ HP.out).mono ?_); rintro e w' ⟨rfl, ⟨nd, rfl⟩⟩; (try first | exact ⟨rfl, _, World.drewN_drewN _ _ _⟩ | exact ⟨rfl, _, Eq.trans (World.drewN_drewN _ _ _) (congrArg (World.drewN _) (Nat.add_assoc _ _ _))⟩)))
      have hC5 := hC4.drewN nq
      have hm6 := hm5.drewN nq
      have hR5 := Kd.R_drewN hR4 nq
      have hRX2 := Lib.hid (hRX.out.trans (if_neg (show ¬ ((bytesOf text).drop m).take 1 = [44] from of_decide_eq_false HR.out)))
      clear hRX
      have hLz := lend_le ((bytesOf text).drop m)
      rw [List.length_drop, size_of] at hLz
      obtain ⟨L, hL⟩ : ∃ L, lend ((bytesOf text).drop m) = L := ⟨_, rfl⟩
      have HCE := fun (q : Nat) => cend (w := w4.drewN q) (i := m) (hC4.drewN q) hmz
      simp only [hL] at HCE hRX2 hLz
      have hw3 : IntKind.i64.wrap ((m : Int) + (L : Int)) = (m : Int) + (L : Int) := cwrap _ (by omega) (by omega)
      go_wp2_with fail
      go_region_with (first | (go_at_call 69; refine (HCE _).mono ?_; rintro e w5 ⟨rfl, n5, rfl⟩))
      all_goals
       obtain ⟨q, hq⟩ : ∃ q : Nat, nq + 1 + n5 = q := ⟨_, rfl⟩
       rw [hq]
       have hC7 := (hC4.drewN q).moved ((m : Int) + (L : Int))
       have hm7 := (hm5.drewN q).trans (Mv.set g (w4.drewN q) 1 (.int .i64 ((m : Int) + (L : Int))))
       have hR7 := Kd.R_mono (Kd.R_step (w1 := (w4.drewN q).setCell ⟨g, 1, none⟩ (.int .i64 ((m : Int) + (L : Int)))) (Kd.R_bound (Kd.R_drewN hR4 q)) (fun k hk hlt' => (Mv.set g (w4.drewN q) 1 (.int .i64 ((m : Int) + (L : Int)))).2 k hlt' (by have := hk.2.1; omega))) (fun _ hk => hk.1)
       generalize (w4.drewN q).setCell ⟨g, 1, none⟩ (.int .i64 ((m : Int) + (L : Int))) = w7 at hC7 hm7 hR7 ⊢
       clear hq hC5 hm6 hR5 hC4 hm5 hR4 c0 c1 c2 f1 f2 HCE hw3
       have hS7 := Kd.S_step hS (w1 := w7) (fun k hk hlt' => hm7.2 k hlt' hk)
       have hRC7 : Kd.C (Kd.slice 57 k57) w7 RA rows.length rows := by
        have h := hS7
        rw [HRV.out] at h
        exact (Kd.S_reads' h).2.2
       obtain ⟨c0, c1, c2, f1, f2, hlt7⟩ := hC7.open_
       have c2' := c2
       rw [HRV.out] at c2'
       obtain ⟨V1, hv1a⟩ : ∃ V, v1 = V := ⟨_, rfl⟩
       obtain ⟨LA1, LC1, hv1, hlc1, hLC1⟩ := Kd.R_reads hR7
       have hnl : (acc ++ [(⟨S, (j : Int)⟩ : S57)]).length = acc.length + 1 := by simp
       rw [hnl] at hv1
       have HV1 := Lib.hid hv1
       clear hv1a
       subst hv1
       have hRR : Hid (rowR rows ((bytesOf text).drop i) i = if rows ≠ [] ∧ acc.length + 1 ≠ (rows.headD []).length then .inl (7, i) else .inr (acc ++ [(⟨S, (j : Int)⟩ : S57)], m + L)) := by
        unfold rowR
        rw [if_neg h512, HRES.out, hRX2.out]
        refine Lib.hid ?_
        show (if rows ≠ [] ∧ (acc ++ [(⟨S, (j : Int)⟩ : S57)]).length ≠ (rows.headD []).length then Sum.inl (7, i) else Sum.inr (acc ++ [(⟨S, (j : Int)⟩ : S57)], m + L)) = _
        rw [hnl]
       have hown : ∀ k, (Value.slice RA rows.length RC).ownBlock = some k → k < w.heap.size := by
        intro k hk
        exact Kd.S_lt hS k (by rw [HRV.out]; exact hk)
       have hO7 : Kd.S (Kd.slice 57 k57) 55 w7 B (fun k => k ≠ g ∧ ¬ w.heap.size ≤ k) (.slice RA rows.length RC) rows := by
        rw [← HRV.out]
        exact Kd.S_mono (Kd.S_step (Kd.S_bound hS) (fun k hk hlt' => hm7.2 k hlt' hk.1)) (fun k hk => ⟨hk.1, by have := hk.2.2.1; omega⟩)
       have hP7 : (Kd.slice 57 k57).M w7 B (fun k => w.heap.size ≤ k) (acc ++ [(⟨S, (j : Int)⟩ : S57)]) [.slice LA1 (acc.length + 1) LC1] :=
        ⟨_, rfl, Kd.R_mono (Kd.R_lower (Kd.R_bound hR7) (by omega)) (fun k hk => hk.2.1)⟩
       have hlow7 : w.heap.size ≤ w7.heap.size := hm7.1.size
       have hN := Lib.hid hnl
       clear hr hnl hR7 hS7 hRX2
       by_cases hr0 : rows = []
       ·have e3 : decide ((0 : Int) < (rows.length : Int)) = false := by rw [hr0]; rfl
        have e5 := eq_false (show ¬ 0 < rows.length by rw [hr0]; simp)
        have HRR := Lib.hid (hRR.out.trans (if_neg (fun h => h.1 hr0)))
        clear hr0 hRR
        go_wp2_with (at_builtin; refine Kd.S_append (Kd.slice 57 k57) (w0 := w7) B rfl (.tmp 80) (.tmp 82) 52 55 (.slice none 0 0) 24 rfl Tryd.underlying52 cinfoR rfl (by decide) (by omega) (.slice RA rows.length RC) rows (acc ++ [(⟨S, (j : Int)⟩ : S57)]) [.slice LA1 (acc.length + 1) LC1] (fun k => k ≠ g) (fun k => w.heap.size ≤ k) rfl (by first | (go_simp; done) | (go_simp; rfl)) hP7 (fun k hk => ⟨by omega, fun e => by have := hown k e.symm; omega⟩) (fun k hk => by omega) hO7 (Below.refl _ _) (by omega) (by omega) ?_)
        intro v2 w8 hS8 hb8 hg8 hat8
        have hC8 : Cur w8 g text ((m : Int) + (L : Int)) rv := (show w8.heap[g]? = _ from hg8.block g hlt7 (Kd.S_away hO7 (fun k hk => hk.1))).trans hC7
        obtain ⟨A2, cc2, rfl, _, _⟩ := Kd.S_reads hS8
        have hC9 := hC8.put (.slice A2 (rows ++ [acc ++ [(⟨S, (j : Int)⟩ : S57)]]).length cc2)
        have hS9 := Kd.S_far hS8 (p := ⟨g, 2, none⟩) (fun k hk => hk) (.slice A2 (rows ++ [acc ++ [(⟨S, (j : Int)⟩ : S57)]]).length cc2)
        have hB9 := (((hm7.low hB).trans hb8).setCell (p := ⟨g, 2, none⟩) hB (.slice A2 (rows ++ [acc ++ [(⟨S, (j : Int)⟩ : S57)]]).length cc2))
        generalize (rows ++ [acc ++ [(⟨S, (j : Int)⟩ : S57)]]).length = nn at hC9 hS9 hB9 ⊢
        clear c0 c1 c2 c2' f1 f2 hg8 hat8
        obtain ⟨c0, c1, c2, f1, f2, hlt8⟩ := hC8.open_
        go_wp2_with fail
        go_end0
        refine ⟨hB9, ?_⟩
        rw [HRR.out]
        exact ⟨rfl, _, by rw [Int.natCast_add]; exact hC9, hS9⟩
       ·have hpos : 0 < rows.length := List.length_pos_iff.2 hr0
        have e3 : decide ((0 : Int) < (rows.length : Int)) = true := decide_eq_true (by omega)
        have e5 := eq_true hpos
        obtain ⟨ad, cs0, hA0, _, ⟨A0, C0, rfl, _, _⟩, hc0⟩ := Kd.C_get hRC7 [] 0 (by omega) (by omega)
        have hh : rows.getD (0 : Int).toNat [] = rows.headD [] := by
         cases rows <;> rfl
        have hcell := hc0 0 _ rfl
        rw [hh] at hcell
        clear hh hc0
        subst hA0
        replace hcell : w7.cell? ad = some (.slice A0 (rows.headD []).length C0) := hcell
        generalize (rows.headD []).length = hd at hcell hRR
        by_cases hle : acc.length + 1 = hd
        ·have e4 : (((acc.length : Int) + 1) != (hd : Int)) = false := by rw [← hle]; simp
         have HRR := Lib.hid (hRR.out.trans (if_neg (fun h => h.2 hle)))
         clear hr0 hRR hle
         go_wp2_with (at_builtin; refine Kd.S_append (Kd.slice 57 k57) (w0 := w7) B rfl (.tmp 80) (.tmp 82) 52 55 (.slice none 0 0) 24 rfl Tryd.underlying52 cinfoR rfl (by decide) (by omega) (.slice (some ad) rows.length RC) rows (acc ++ [(⟨S, (j : Int)⟩ : S57)]) [.slice LA1 (acc.length + 1) LC1] (fun k => k ≠ g) (fun k => w.heap.size ≤ k) rfl (by first | (go_simp; done) | (go_simp; rfl)) hP7 (fun k hk => ⟨by omega, fun e => by have := hown k e.symm; omega⟩) (fun k hk => by omega) hO7 (Below.refl _ _) (by omega) (by omega) ?_)
         intro v2 w8 hS8 hb8 hg8 hat8
         have hC8 : Cur w8 g text ((m : Int) + (L : Int)) rv := (show w8.heap[g]? = _ from hg8.block g hlt7 (Kd.S_away hO7 (fun k hk => hk.1))).trans hC7
         obtain ⟨A2, cc2, rfl, _, _⟩ := Kd.S_reads hS8
         have hC9 := hC8.put (.slice A2 (rows ++ [acc ++ [(⟨S, (j : Int)⟩ : S57)]]).length cc2)
         have hS9 := Kd.S_far hS8 (p := ⟨g, 2, none⟩) (fun k hk => hk) (.slice A2 (rows ++ [acc ++ [(⟨S, (j : Int)⟩ : S57)]]).length cc2)
         have hB9 := (((hm7.low hB).trans hb8).setCell (p := ⟨g, 2, none⟩) hB (.slice A2 (rows ++ [acc ++ [(⟨S, (j : Int)⟩ : S57)]]).length cc2))
         generalize (rows ++ [acc ++ [(⟨S, (j : Int)⟩ : S57)]]).length = nn at hC9 hS9 hB9 ⊢
         clear c0 c1 c2 c2' f1 f2 hg8 hat8
         obtain ⟨c0, c1, c2, f1, f2, hlt8⟩ := hC8.open_
         go_wp2_with fail
         go_end0
         refine ⟨hB9, ?_⟩
         rw [HRR.out]
         exact ⟨rfl, _, by rw [Int.natCast_add]; exact hC9, hS9⟩
        ·have e4 : (((acc.length : Int) + 1) != (hd : Int)) = true := bne_iff_ne.2 (by omega)
         have HRR := Lib.hid (hRR.out.trans (if_pos ⟨hr0, hle⟩))
         clear hr0 hRR hle
         go_wp2_with fail
         refine (cfail _ _ _).mono ?_
         rintro e w8 ⟨rfl, rfl⟩
         refine ⟨rfl, hm7.low hB, ?_⟩
         rw [HRR.out]
         rfl
end Go.Proofs.YtjmmdphkgioooaaDoor.P
end
section
namespace Go.Proofs.YtjmmdphkgioooaaDoor.La
theorem enc_ne (r : Int) : enc r ≠ [] := fun h => by have := enc_len r; rw [h] at this; simp at this
theorem stp_enc {r : Int} (hr : good r) (m : List Int) : stp (enc r ++ m) = (enc r).length := by
 have := enc_len r
 unfold stp
 rw [tk_enc hr]
 rw [if_neg (by simp only; omega)]
 simp
/-- A text of letters begins with one. -/
theorem good_text {l : List Int} (hl : ∀ x ∈ l, 0 ≤ x ∧ x < 256) (h : bad l = none) (hne : l ≠ []) : ∃ r m, good r ∧ l = enc r ++ m ∧ bad m = none := by
 have h0 : (tk l).2 ≠ 0 := fun h0 => by rw [bad_none hne h0] at h; cases h
 rcases tk_inv l hl with e | ⟨hg, _, m, hm⟩
 ·rw [e] at h0; exact absurd rfl h0
 ·refine ⟨_, m, hg, hm, ?_⟩
  rw [bad_step hne h0] at h
  have hs : stp l = (enc (tk l).1).length := by
   have := stp_enc hg m
   rwa [← hm] at this
  have hd : l.drop (stp l) = m := by
   rw [hs]
   have : l.drop (enc (tk l).1).length = (enc (tk l).1 ++ m).drop (enc (tk l).1).length := by rw [← hm]
   rw [this, List.drop_left]
  rw [hd] at h
  exact Option.map_eq_none_iff.1 h
theorem tk_letter_ne {r : Int} (hr : good r) (m : List Int) : (tk (enc r ++ m)).2 ≠ 0 := by
 have := enc_len r
 rw [tk_enc hr]
 simp only
 omega
theorem bad_enc {r : Int} (hr : good r) (m : List Int) : bad (enc r ++ m) = (bad m).map (· + (enc r).length) := by
 rw [bad_step (by simp [enc_ne]) (tk_letter_ne hr m), stp_enc hr, List.drop_left]
/-- Induction over a text's letters. -/
theorem text_induction {P : List Int → Prop} (nil : P []) (cons : ∀ r m, good r → bad m = none → (∀ x ∈ m, 0 ≤ x ∧ x < 256) → P m → P (enc r ++ m)) (l : List Int) (hl : ∀ x ∈ l, 0 ≤ x ∧ x < 256) (h : bad l = none) : P l := by
 by_cases hne : l = []
 ·subst hne; exact nil
 ·obtain ⟨r, m, hr, rfl, hm⟩ := good_text hl h hne
  have hmb : ∀ x ∈ m, 0 ≤ x ∧ x < 256 := fun x hx => hl x (List.mem_append.2 (.inr hx))
  have : m.length < (enc r ++ m).length := by have := enc_len r; rw [List.length_append]; omega
  exact cons r m hr hm hmb (text_induction nil cons m hmb hm)
termination_by l.length
theorem bad_join {a b : List Int} (ha : ∀ x ∈ a, 0 ≤ x ∧ x < 256) (h : bad a = none) : bad (a ++ b) = (bad b).map (· + a.length) := by
 refine text_induction (P := fun a => bad (a ++ b) = (bad b).map (· + a.length)) ?_ ?_ a ha h
 ·simp
 ·intro r m hr _ _ ih
  rw [List.append_assoc, bad_enc hr, ih, Option.map_map]
  congr 1
  funext x
  simp [List.length_append]
  omega
end Go.Proofs.YtjmmdphkgioooaaDoor.La
end
section
namespace Go.Proofs.YtjmmdphkgioooaaDoor.La
/-- Where the last line begins. -/
def lst : List Int → Nat
 | [] => 0
 | b :: t => if 0 < lst t then lst t + 1 else if b = 10 then 1 else 0
def nl (l : List Int) : Nat := cntB l 10
theorem lst_le (l : List Int) : lst l ≤ l.length := by
 induction l with
 | nil => simp [lst]
 | cons b t ih => simp only [lst, List.length_cons]; (repeat' split) <;> omega
theorem lst_append (a b : List Int) : lst (a ++ b) = if 0 < lst b then a.length + lst b else lst a := by
 induction a with
 | nil => simp [lst]
 | cons x a ih =>
  simp only [List.cons_append, lst, ih, List.length_cons]
  by_cases h : 0 < lst b
  ·simp only [if_pos h]
   rw [if_pos (by omega)]
   omega
  ·simp only [if_neg h]
theorem lst_snoc (a : List Int) (x : Int) : lst (a ++ [x]) = if x = 10 then a.length + 1 else lst a := by
 rw [lst_append]
 by_cases h : x = 10
 ·simp [lst, h]
 ·simp [lst, h]
end Go.Proofs.YtjmmdphkgioooaaDoor.La
end
section
namespace Go.Proofs.YtjmmdphkgioooaaDoor.P
open Go.RowKit Go.Proofs.YtjmmdphkgioooaaDoorW.PrintWords Go.Proofs.YtjmmdphkgioooaaDoorW.PrintLast Go.Proofs.YtjmmdphkgioooaaDoorW.PrintMore
attribute [local go_sem] max2_int min2_int max_two min_two max_three min_three max_four min_four   -- for this text's walks alone
set_option linter.unusedVariables false
set_option linter.unusedSimpArgs false
/-! ### dragomanref1_Good: function 54 -/
def dragomanref1_Good.f (a0 : Int) : Option (Bool) := if a0 ≥ 0 then (if a0 ≤ 1114111 then (if a0 < 55296 then (some true) else (some (decide (a0 > 57343)))) else (some false)) else (some false)
set_option maxHeartbeats 8000000 in
set_option maxRecDepth 100000 in
theorem dragomanref1_Good.calls (a0 : Int) (r : Bool) (w : World) (h : dragomanref1_Good.f a0 = some r) :
  Calls Tryd.prog 54 #[.int .i64 a0] w fun e w' => e = .returned (.bool r) ∧ Drawn0 w w' := by
 have H : (if a0 ≥ 0 then (if a0 ≤ 1114111 then (if a0 < 55296 then (some true) else (some (decide (a0 > 57343)))) else (some false)) else (some false)) = some r := h
 clear h
 by_cases c2 : a0 ≥ 0
 ·rw [if_pos c2] at H
  have c2b0 : decide (0 ≤ a0) = true := decide_eq_true c2
  clear c2
  by_cases c3 : a0 ≤ 1114111
  ·rw [if_pos c3] at H
   have c3b0 : decide (a0 ≤ 1114111) = true := decide_eq_true c3
   clear c3
   by_cases c4 : a0 < 55296
   ·rw [if_pos c4] at H
    have c4b0 : decide (a0 < 55296) = true := decide_eq_true c4
    clear c4
    obtain rfl := Option.some.inj H
    go_enter Tryd.func54, Tryd.ntmps54
    go_wp2
    go_ret
    exact ⟨by first | rfl | (simp; done) | (simp [*]; done), by repeat (first | exact Drawn0.refl _ | apply Drawn0.step)⟩
   ·rw [if_neg c4] at H
    have c4b0 : decide (a0 < 55296) = false := decide_eq_false c4
    clear c4
    obtain rfl := Option.some.inj H
    go_enter Tryd.func54, Tryd.ntmps54
    go_wp2
    go_ret
    exact ⟨by first | rfl | (simp; done) | (simp [*]; done), by repeat (first | exact Drawn0.refl _ | apply Drawn0.step)⟩
  ·rw [if_neg c3] at H
   have c3b0 : decide (a0 ≤ 1114111) = false := decide_eq_false c3
   clear c3
   obtain rfl := Option.some.inj H
   go_enter Tryd.func54, Tryd.ntmps54
   go_wp2
   go_ret
   exact ⟨by first | rfl | (simp; done) | (simp [*]; done), by repeat (first | exact Drawn0.refl _ | apply Drawn0.step)⟩
 ·rw [if_neg c2] at H
  have c2b0 : decide (0 ≤ a0) = false := decide_eq_false c2
  clear c2
  obtain rfl := Option.some.inj H
  go_enter Tryd.func54, Tryd.ntmps54
  go_wp2
  go_ret
  exact ⟨by first | rfl | (simp; done) | (simp [*]; done), by repeat (first | exact Drawn0.refl _ | apply Drawn0.step)⟩
end Go.Proofs.YtjmmdphkgioooaaDoor.P
end
section
namespace Go.Proofs.YtjmmdphkgioooaaDoor.P
open Go.RowKit Go.Proofs.YtjmmdphkgioooaaDoorW.PrintWords Go.Proofs.YtjmmdphkgioooaaDoorW.PrintLast Go.Proofs.YtjmmdphkgioooaaDoorW.PrintMore
attribute [local go_sem] max2_int min2_int max_two min_two max_three min_three max_four min_four   -- for this text's walks alone
set_option linter.unusedVariables false
set_option linter.unusedSimpArgs false
/-! ### dragomanref1_Put: function 38 -/
def dragomanref1_Put.f (a0 : Int) : Option (ByteArray) := (dragomanref1_Good.f a0).bind fun t169 => (if t169 = true then (if a0 < 128 then (some (strOfNums (([(a0) % 256] : List Int)))) else (if a0 < 2048 then (some (strOfNums (([(wrap64 (192 + (wrap64 (Int.tdiv a0 64)))) % 256, (wrap64 (128 + (Int.tmod a0 64))) % 256] : List Int)))) else (if a0 < 65536 then (some (strOfNums (([(wrap64 (224 + (wrap64 (Int.tdiv a0 4096)))) % 256, (wrap64 (128 + (Int.tmod (wrap64 (Int.tdiv a0 64)) 64))) % 256, (wrap64 (128 + (Int.tmod a0 64))) % 256] : List Int)))) else (some (strOfNums (([(wrap64 (240 + (wrap64 (Int.tdiv a0 262144)))) % 256, (wrap64 (128 + (Int.tmod (wrap64 (Int.tdiv a0 4096)) 64))) % 256, (wrap64 (128 + (Int.tmod (wrap64 (Int.tdiv a0 64)) 64))) % 256, (wrap64 (128 + (Int.tmod a0 64))) % 256] : List Int))))))) else (some (⟨#[]⟩ : ByteArray)))
set_option maxHeartbeats 8000000 in
set_option maxRecDepth 100000 in
theorem dragomanref1_Put.calls (a0 : Int) (r : ByteArray) (w : World) (h : dragomanref1_Put.f a0 = some r) :
  Calls Tryd.prog 38 #[.int .i64 a0] w fun e w' => e = .returned (.string r) ∧ Below w.heap.size w w' := by
 have HB := Aside0.mk (Below.refl w.heap.size w)
 have H : ((dragomanref1_Good.f a0).bind fun t169 => (if t169 = true then (if a0 < 128 then (some (strOfNums (([(a0) % 256] : List Int)))) else (if a0 < 2048 then (some (strOfNums (([(wrap64 (192 + (wrap64 (Int.tdiv a0 64)))) % 256, (wrap64 (128 + (Int.tmod a0 64))) % 256] : List Int)))) else (if a0 < 65536 then (some (strOfNums (([(wrap64 (224 + (wrap64 (Int.tdiv a0 4096)))) % 256, (wrap64 (128 + (Int.tmod (wrap64 (Int.tdiv a0 64)) 64))) % 256, (wrap64 (128 + (Int.tmod a0 64))) % 256] : List Int)))) else (some (strOfNums (([(wrap64 (240 + (wrap64 (Int.tdiv a0 262144)))) % 256, (wrap64 (128 + (Int.tmod (wrap64 (Int.tdiv a0 4096)) 64))) % 256, (wrap64 (128 + (Int.tmod (wrap64 (Int.tdiv a0 64)) 64))) % 256, (wrap64 (128 + (Int.tmod a0 64))) % 256] : List Int))))))) else (some (⟨#[]⟩ : ByteArray)))) = some r := h
 clear h
 replace H := Option.bind_eq_some_iff.mp H
 obtain ⟨t169, A20, H⟩ := H
 replace H : (if t169 = true then (if a0 < 128 then (some (strOfNums (([(a0) % 256] : List Int)))) else (if a0 < 2048 then (some (strOfNums (([(wrap64 (192 + (wrap64 (Int.tdiv a0 64)))) % 256, (wrap64 (128 + (Int.tmod a0 64))) % 256] : List Int)))) else (if a0 < 65536 then (some (strOfNums (([(wrap64 (224 + (wrap64 (Int.tdiv a0 4096)))) % 256, (wrap64 (128 + (Int.tmod (wrap64 (Int.tdiv a0 64)) 64))) % 256, (wrap64 (128 + (Int.tmod a0 64))) % 256] : List Int)))) else (some (strOfNums (([(wrap64 (240 + (wrap64 (Int.tdiv a0 262144)))) % 256, (wrap64 (128 + (Int.tmod (wrap64 (Int.tdiv a0 4096)) 64))) % 256, (wrap64 (128 + (Int.tmod (wrap64 (Int.tdiv a0 64)) 64))) % 256, (wrap64 (128 + (Int.tmod a0 64))) % 256] : List Int))))))) else (some (⟨#[]⟩ : ByteArray))) = some r := H
 have A2 := Aside0.mk A20
 clear A20
 by_cases c3 : t169 = true
 ·subst c3
  have H1 : (if a0 < 128 then (some (strOfNums (([(a0) % 256] : List Int)))) else (if a0 < 2048 then (some (strOfNums (([(wrap64 (192 + (wrap64 (Int.tdiv a0 64)))) % 256, (wrap64 (128 + (Int.tmod a0 64))) % 256] : List Int)))) else (if a0 < 65536 then (some (strOfNums (([(wrap64 (224 + (wrap64 (Int.tdiv a0 4096)))) % 256, (wrap64 (128 + (Int.tmod (wrap64 (Int.tdiv a0 64)) 64))) % 256, (wrap64 (128 + (Int.tmod a0 64))) % 256] : List Int)))) else (some (strOfNums (([(wrap64 (240 + (wrap64 (Int.tdiv a0 262144)))) % 256, (wrap64 (128 + (Int.tmod (wrap64 (Int.tdiv a0 4096)) 64))) % 256, (wrap64 (128 + (Int.tmod (wrap64 (Int.tdiv a0 64)) 64))) % 256, (wrap64 (128 + (Int.tmod a0 64))) % 256] : List Int))))))) = some r := by rw [if_pos rfl] at H; exact H
  clear H
  have H := H1
  clear H1
  by_cases c4 : a0 < 128
  ·rw [if_pos c4] at H
   have c4b0 : decide (a0 < 128) = true := decide_eq_true c4
   clear c4
   obtain ⟨y170, hy170⟩ : ∃ y_ : List Int, y_ = (([(a0) % 256] : List Int)) := ⟨_, rfl⟩
   replace H : (some (strOfNums y170)) = some r := by first | (rw [hy170]; with_reducible exact H) | (have H2_ := (Option.bind_some _ _).symm.trans H; rw [hy170]; with_reducible exact H2_) | (have H2_ := (Option.bind_some _ _).symm.trans H; with_reducible exact H2_) | with_reducible exact H | (rw [hy170]; exact H) | exact H
   have Ny170 := Aside0.mk hy170
   clear hy170
   obtain rfl := Option.some.inj H
   go_enter Tryd.func38, Tryd.ntmps38
   go_wp2_with (first | ((with_reducible refine gate_callee (f := 54) rfl ?_); refine goesL_ (some 4) rfl rfl Tryd.func54 (by kernel_rfl) rfl #[.int .i64 a0] rfl (by (try simp only [List.map_toArray, List.map_cons, List.map_nil]); first | done | rfl | (simp only [List.length_drop, List.length_take]; rfl)) ?_; (with_reducible refine (dragomanref1_Good.calls a0 true _ A2.out).mono ?_); rintro e w' ⟨rfl, ⟨nd, rfl⟩⟩; refine ⟨_, rfl, ?_⟩) | ((with_reducible refine gate_dst (N := 11) rfl ?_); refine Kd.R_lit (Kd.int .u8) _ 5 ?hg (N := 11) ?hd (xs := ([(a0) % 256] : List Int)) (inner := [.int .u8 ((a0) % 256)]) (ok := fun _ => True) (okp := fun _ => True) ?hr ?hp (fun _ hk => hk) trivial (Below.refl _ _) (Nat.le_refl _) (by simp) ?_; (case hd => rfl); (case hg => rfl); (case hr => first | (go_simp; done) | (go_simp; rfl)); (case hp => exact (Reps.one (show Kd.M (Kd.int .u8) _ _ _ ((a0) % 256) [.int .u8 ((a0) % 256)] from rfl) (Reps.none _ _))); intro v171 w5 ho6 hb hg_ hnew_; clear hg_ hnew_; (first | rw [← Ny170.out] at ho6 | (simp only [Int.reduceToNat] at ho6; rw [← Ny170.out] at ho6)); have n0_ := Aside0.mk (Kd.R_lower ho6 (below_size (by repeat (first | (with_reducible first | exact HB.out | apply below_alloc | apply pw_below_drewN | apply below_drew1) | exact HB.out)))); have n1_ := Aside0.mk (below_step (by repeat (first | (with_reducible first | exact HB.out | apply below_alloc | apply pw_below_drewN | apply below_drew1) | exact HB.out)) hb); clear HB; have HO172 := n0_; have HB := n1_; clear n0_ n1_; clear hb ho6; have hcv7 := own_string (P := Tryd.prog) Tryd.underlying42 Tryd.underlying5 Tryd.underlying9 (Kd.own_of_R HO172.out)))
   go_ret
   exact ⟨by first | rfl | (simp [errW_none, errW_some] <;> rfl) | (simp [*, errW_none, errW_some, bne]; done) | (simp [*, errW_none, errW_some] <;> rfl), by repeat (first | (with_reducible first | exact HB.out | apply below_alloc | apply pw_below_drewN | apply below_drew1) | exact HB.out)⟩
  ·rw [if_neg c4] at H
   have c4b0 : decide (a0 < 128) = false := decide_eq_false c4
   clear c4
   by_cases c8 : a0 < 2048
   ·rw [if_pos c8] at H
    have c8b0 : decide (a0 < 2048) = true := decide_eq_true c8
    clear c8
    obtain ⟨y173, hy173⟩ : ∃ y_ : List Int, y_ = (([(wrap64 (192 + (wrap64 (Int.tdiv a0 64)))) % 256, (wrap64 (128 + (Int.tmod a0 64))) % 256] : List Int)) := ⟨_, rfl⟩
    replace H : (some (strOfNums y173)) = some r := by first | (rw [hy173]; with_reducible exact H) | (have H2_ := (Option.bind_some _ _).symm.trans H; rw [hy173]; with_reducible exact H2_) | (have H2_ := (Option.bind_some _ _).symm.trans H; with_reducible exact H2_) | with_reducible exact H | (rw [hy173]; exact H) | exact H
    have Ny173 := Aside0.mk hy173
    clear hy173
    obtain rfl := Option.some.inj H
    go_enter Tryd.func38, Tryd.ntmps38
    go_wp2_with (first | ((with_reducible refine gate_callee (f := 54) rfl ?_); refine goesL_ (some 4) rfl rfl Tryd.func54 (by kernel_rfl) rfl #[.int .i64 a0] rfl (by (try simp only [List.map_toArray, List.map_cons, List.map_nil]); first | done | rfl | (simp only [List.length_drop, List.length_take]; rfl)) ?_; (with_reducible refine (dragomanref1_Good.calls a0 true _ A2.out).mono ?_); rintro e w' ⟨rfl, ⟨nd, rfl⟩⟩; refine ⟨_, rfl, ?_⟩) | ((with_reducible refine gate_dst (N := 24) rfl ?_); refine Kd.R_lit (Kd.int .u8) _ 5 ?hg (N := 24) ?hd (xs := ([(wrap64 (192 + (wrap64 (Int.tdiv a0 64)))) % 256, (wrap64 (128 + (Int.tmod a0 64))) % 256] : List Int)) (inner := [.int .u8 ((wrap64 (192 + (wrap64 (Int.tdiv a0 64)))) % 256), .int .u8 ((wrap64 (128 + (Int.tmod a0 64))) % 256)]) (ok := fun _ => True) (okp := fun _ => True) ?hr ?hp (fun _ hk => hk) trivial (Below.refl _ _) (Nat.le_refl _) (by simp) ?_; (case hd => rfl); (case hg => rfl); (case hr => first | (go_simp; done) | (go_simp; rfl)); (case hp => exact (Reps.one (show Kd.M (Kd.int .u8) _ _ _ ((wrap64 (192 + (wrap64 (Int.tdiv a0 64)))) % 256) [.int .u8 ((wrap64 (192 + (wrap64 (Int.tdiv a0 64)))) % 256)] from rfl) (Reps.one (show Kd.M (Kd.int .u8) _ _ _ ((wrap64 (128 + (Int.tmod a0 64))) % 256) [.int .u8 ((wrap64 (128 + (Int.tmod a0 64))) % 256)] from rfl) (Reps.none _ _)))); intro v174 w9 ho10 hb hg_ hnew_; clear hg_ hnew_; (first | rw [← Ny173.out] at ho10 | (simp only [Int.reduceToNat] at ho10; rw [← Ny173.out] at ho10)); have n0_ := Aside0.mk (Kd.R_lower ho10 (below_size (by repeat (first | (with_reducible first | exact HB.out | apply below_alloc | apply pw_below_drewN | apply below_drew1) | exact HB.out)))); have n1_ := Aside0.mk (below_step (by repeat (first | (with_reducible first | exact HB.out | apply below_alloc | apply pw_below_drewN | apply below_drew1) | exact HB.out)) hb); clear HB; have HO175 := n0_; have HB := n1_; clear n0_ n1_; clear hb ho10; have hcv11 := own_string (P := Tryd.prog) Tryd.underlying42 Tryd.underlying5 Tryd.underlying9 (Kd.own_of_R HO175.out)))
    go_ret
    exact ⟨by first | rfl | (simp [errW_none, errW_some] <;> rfl) | (simp [*, errW_none, errW_some, bne]; done) | (simp [*, errW_none, errW_some] <;> rfl), by repeat (first | (with_reducible first | exact HB.out | apply below_alloc | apply pw_below_drewN | apply below_drew1) | exact HB.out)⟩
   ·rw [if_neg c8] at H
    have c8b0 : decide (a0 < 2048) = false := decide_eq_false c8
    clear c8
    by_cases c12 : a0 < 65536
    ·rw [if_pos c12] at H
     have c12b0 : decide (a0 < 65536) = true := decide_eq_true c12
     clear c12
     obtain ⟨y176, hy176⟩ : ∃ y_ : List Int, y_ = (([(wrap64 (224 + (wrap64 (Int.tdiv a0 4096)))) % 256, (wrap64 (128 + (Int.tmod (wrap64 (Int.tdiv a0 64)) 64))) % 256, (wrap64 (128 + (Int.tmod a0 64))) % 256] : List Int)) := ⟨_, rfl⟩
     replace H : (some (strOfNums y176)) = some r := by first | (rw [hy176]; with_reducible exact H) | (have H2_ := (Option.bind_some _ _).symm.trans H; rw [hy176]; with_reducible exact H2_) | (have H2_ := (Option.bind_some _ _).symm.trans H; with_reducible exact H2_) | with_reducible exact H | (rw [hy176]; exact H) | exact H
     have Ny176 := Aside0.mk hy176
     clear hy176
     obtain rfl := Option.some.inj H
     go_enter Tryd.func38, Tryd.ntmps38
     go_wp2_with (first | ((with_reducible refine gate_callee (f := 54) rfl ?_); refine goesL_ (some 4) rfl rfl Tryd.func54 (by kernel_rfl) rfl #[.int .i64 a0] rfl (by (try simp only [List.map_toArray, List.map_cons, List.map_nil]); first | done | rfl | (simp only [List.length_drop, List.length_take]; rfl)) ?_; (with_reducible refine (dragomanref1_Good.calls a0 true _ A2.out).mono ?_); rintro e w' ⟨rfl, ⟨nd, rfl⟩⟩; refine ⟨_, rfl, ?_⟩) | ((with_reducible refine gate_dst (N := 42) rfl ?_); refine Kd.R_lit (Kd.int .u8) _ 5 ?hg (N := 42) ?hd (xs := ([(wrap64 (224 + (wrap64 (Int.tdiv a0 4096)))) % 256, (wrap64 (128 + (Int.tmod (wrap64 (Int.tdiv a0 64)) 64))) % 256, (wrap64 (128 + (Int.tmod a0 64))) % 256] : List Int)) (inner := [.int .u8 ((wrap64 (224 + (wrap64 (Int.tdiv a0 4096)))) % 256), .int .u8 ((wrap64 (128 + (Int.tmod (wrap64 (Int.tdiv a0 64)) 64))) % 256), .int .u8 ((wrap64 (128 + (Int.tmod a0 64))) % 256)]) (ok := fun _ => True) (okp := fun _ => True) ?hr ?hp (fun _ hk => hk) trivial (Below.refl _ _) (Nat.le_refl _) (by simp) ?_; (case hd => rfl); (case hg => rfl); (case hr => first | (go_simp; done) | (go_simp; rfl)); (case hp => exact (Reps.one (show Kd.M (Kd.int .u8) _ _ _ ((wrap64 (224 + (wrap64 (Int.tdiv a0 4096)))) % 256) [.int .u8 ((wrap64 (224 + (wrap64 (Int.tdiv a0 4096)))) % 256)] from rfl) (Reps.one (show Kd.M (Kd.int .u8) _ _ _ ((wrap64 (128 + (Int.tmod (wrap64 (Int.tdiv a0 64)) 64))) % 256) [.int .u8 ((wrap64 (128 + (Int.tmod (wrap64 (Int.tdiv a0 64)) 64))) % 256)] from rfl) (Reps.one (show Kd.M (Kd.int .u8) _ _ _ ((wrap64 (128 + (Int.tmod a0 64))) % 256) [.int .u8 ((wrap64 (128 + (Int.tmod a0 64))) % 256)] from rfl) (Reps.none _ _))))); intro v177 w13 ho14 hb hg_ hnew_; clear hg_ hnew_; (first | rw [← Ny176.out] at ho14 | (simp only [Int.reduceToNat] at ho14; rw [← Ny176.out] at ho14)); have n0_ := Aside0.mk (Kd.R_lower ho14 (below_size (by repeat (first | (with_reducible first | exact HB.out | apply below_alloc | apply pw_below_drewN | apply below_drew1) | exact HB.out)))); have n1_ := Aside0.mk (below_step (by repeat (first | (with_reducible first | exact HB.out | apply below_alloc | apply pw_below_drewN | apply below_drew1) | exact HB.out)) hb); clear HB; have HO178 := n0_; have HB := n1_; clear n0_ n1_; clear hb ho14; have hcv15 := own_string (P := Tryd.prog) Tryd.underlying42 Tryd.underlying5 Tryd.underlying9 (Kd.own_of_R HO178.out)))
     go_ret
     exact ⟨by first | rfl | (simp [errW_none, errW_some] <;> rfl) | (simp [*, errW_none, errW_some, bne]; done) | (simp [*, errW_none, errW_some] <;> rfl), by repeat (first | (with_reducible first | exact HB.out | apply below_alloc | apply pw_below_drewN | apply below_drew1) | exact HB.out)⟩
    ·rw [if_neg c12] at H
     have c12b0 : decide (a0 < 65536) = false := decide_eq_false c12
     clear c12
     obtain ⟨y179, hy179⟩ : ∃ y_ : List Int, y_ = (([(wrap64 (240 + (wrap64 (Int.tdiv a0 262144)))) % 256, (wrap64 (128 + (Int.tmod (wrap64 (Int.tdiv a0 4096)) 64))) % 256, (wrap64 (128 + (Int.tmod (wrap64 (Int.tdiv a0 64)) 64))) % 256, (wrap64 (128 + (Int.tmod a0 64))) % 256] : List Int)) := ⟨_, rfl⟩
     replace H : (some (strOfNums y179)) = some r := by first | (rw [hy179]; with_reducible exact H) | (have H2_ := (Option.bind_some _ _).symm.trans H; rw [hy179]; with_reducible exact H2_) | (have H2_ := (Option.bind_some _ _).symm.trans H; with_reducible exact H2_) | with_reducible exact H | (rw [hy179]; exact H) | exact H
     have Ny179 := Aside0.mk hy179
     clear hy179
     obtain rfl := Option.some.inj H
     go_enter Tryd.func38, Tryd.ntmps38
     go_wp2_with (first | ((with_reducible refine gate_callee (f := 54) rfl ?_); refine goesL_ (some 4) rfl rfl Tryd.func54 (by kernel_rfl) rfl #[.int .i64 a0] rfl (by (try simp only [List.map_toArray, List.map_cons, List.map_nil]); first | done | rfl | (simp only [List.length_drop, List.length_take]; rfl)) ?_; (with_reducible refine (dragomanref1_Good.calls a0 true _ A2.out).mono ?_); rintro e w' ⟨rfl, ⟨nd, rfl⟩⟩; refine ⟨_, rfl, ?_⟩) | ((with_reducible refine gate_dst (N := 62) rfl ?_); refine Kd.R_lit (Kd.int .u8) _ 5 ?hg (N := 62) ?hd (xs := ([(wrap64 (240 + (wrap64 (Int.tdiv a0 262144)))) % 256, (wrap64 (128 + (Int.tmod (wrap64 (Int.tdiv a0 4096)) 64))) % 256, (wrap64 (128 + (Int.tmod (wrap64 (Int.tdiv a0 64)) 64))) % 256, (wrap64 (128 + (Int.tmod a0 64))) % 256] : List Int)) (inner := [.int .u8 ((wrap64 (240 + (wrap64 (Int.tdiv a0 262144)))) % 256), .int .u8 ((wrap64 (128 + (Int.tmod (wrap64 (Int.tdiv a0 4096)) 64))) % 256), .int .u8 ((wrap64 (128 + (Int.tmod (wrap64 (Int.tdiv a0 64)) 64))) % 256), .int .u8 ((wrap64 (128 + (Int.tmod a0 64))) % 256)]) (ok := fun _ => True) (okp := fun _ => True) ?hr ?hp (fun _ hk => hk) trivial (Below.refl _ _) (Nat.le_refl _) (by simp) ?_; (case hd => rfl); (case hg => rfl); (case hr => first | (go_simp; done) | (go_simp; rfl)); (case hp => exact (Reps.one (show Kd.M (Kd.int .u8) _ _ _ ((wrap64 (240 + (wrap64 (Int.tdiv a0 262144)))) % 256) [.int .u8 ((wrap64 (240 + (wrap64 (Int.tdiv a0 262144)))) % 256)] from rfl) (Reps.one (show Kd.M (Kd.int .u8) _ _ _ ((wrap64 (128 + (Int.tmod (wrap64 (Int.tdiv a0 4096)) 64))) % 256) [.int .u8 ((wrap64 (128 + (Int.tmod (wrap64 (Int.tdiv a0 4096)) 64))) % 256)] from rfl) (Reps.one (show Kd.M (Kd.int .u8) _ _ _ ((wrap64 (128 + (Int.tmod (wrap64 (Int.tdiv a0 64)) 64))) % 256) [.int .u8 ((wrap64 (128 + (Int.tmod (wrap64 (Int.tdiv a0 64)) 64))) % 256)] from rfl) (Reps.one (show Kd.M (Kd.int .u8) _ _ _ ((wrap64 (128 + (Int.tmod a0 64))) % 256) [.int .u8 ((wrap64 (128 + (Int.tmod a0 64))) % 256)] from rfl) (Reps.none _ _)))))); intro v180 w16 ho17 hb hg_ hnew_; clear hg_ hnew_; (first | rw [← Ny179.out] at ho17 | (simp only [Int.reduceToNat] at ho17; rw [← Ny179.out] at ho17)); have n0_ := Aside0.mk (Kd.R_lower ho17 (below_size (by repeat (first | (with_reducible first | exact HB.out | apply below_alloc | apply pw_below_drewN | apply below_drew1) | exact HB.out)))); have n1_ := Aside0.mk (below_step (by repeat (first | (with_reducible first | exact HB.out | apply below_alloc | apply pw_below_drewN | apply below_drew1) | exact HB.out)) hb); clear HB; have HO181 := n0_; have HB := n1_; clear n0_ n1_; clear hb ho17; have hcv18 := own_string (P := Tryd.prog) Tryd.underlying42 Tryd.underlying5 Tryd.underlying9 (Kd.own_of_R HO181.out)))
     go_ret
     exact ⟨by first | rfl | (simp [errW_none, errW_some] <;> rfl) | (simp [*, errW_none, errW_some, bne]; done) | (simp [*, errW_none, errW_some] <;> rfl), by repeat (first | (with_reducible first | exact HB.out | apply below_alloc | apply pw_below_drewN | apply below_drew1) | exact HB.out)⟩
 ·replace c3 := Bool.eq_false_iff.mpr c3
  subst c3
  have H1 : (some (⟨#[]⟩ : ByteArray)) = some r := by rw [if_neg (show ¬ (false = true) by decide)] at H; exact H
  clear H
  have H := H1
  clear H1
  obtain rfl := Option.some.inj H
  go_enter Tryd.func38, Tryd.ntmps38
  go_wp2_with (first | ((with_reducible refine gate_callee (f := 54) rfl ?_); refine goesL_ (some 4) rfl rfl Tryd.func54 (by kernel_rfl) rfl #[.int .i64 a0] rfl (by (try simp only [List.map_toArray, List.map_cons, List.map_nil]); first | done | rfl | (simp only [List.length_drop, List.length_take]; rfl)) ?_; (with_reducible refine (dragomanref1_Good.calls a0 false _ A2.out).mono ?_); rintro e w' ⟨rfl, ⟨nd, rfl⟩⟩; refine ⟨_, rfl, ?_⟩))
  go_ret
  exact ⟨by first | rfl | (simp [errW_none, errW_some] <;> rfl) | (simp [*, errW_none, errW_some, bne]; done) | (simp [*, errW_none, errW_some] <;> rfl), by repeat (first | (with_reducible first | exact HB.out | apply below_alloc | apply pw_below_drewN | apply below_drew1) | exact HB.out)⟩
end Go.Proofs.YtjmmdphkgioooaaDoor.P
end
section
namespace Go.Proofs.YtjmmdphkgioooaaDoor.P
open Go.RowKit Go.Proofs.YtjmmdphkgioooaaDoorW.PrintWords Go.Proofs.YtjmmdphkgioooaaDoorW.PrintLast Go.Proofs.YtjmmdphkgioooaaDoorW.PrintMore
attribute [local go_sem] max2_int min2_int max_two min_two max_three min_three max_four min_four   -- for this text's walks alone
set_option linter.unusedVariables false
set_option linter.unusedSimpArgs false
/-! ### dragomanref1_Take: function 29 -/
mutual
def dragomanref1_Take.j3 : Nat → ByteArray → Int → Int → Option (Int × Int)
 | 0, _, _, _ => none
 | k + 1, x0, x5, x6 => if (x0.size : Int) < x5 then (some (0, 0)) else (dragomanref1_Take.l0 k x0 x5 x6 1)
def dragomanref1_Take.l0 : Nat → ByteArray → Int → Int → Int → Option (Int × Int)
 | 0, _, _, _, _ => none
 | k + 1, x0, x5, x6, x7 => if x7 < x5 then (if 0 ≤ x7 then (if x7 < (x0.size : Int) then (if (bt x0 x7) < 128 then (some (0, 0)) else (if (bt x0 x7) > 191 then (some (0, 0)) else (dragomanref1_Take.l0 k x0 x5 (wrap64 ((wrap64 ((wrap64 (64 * x6)) + (wrap64 (bt x0 x7)))) - 128)) (wrap64 (x7 + 1))))) else (none)) else (none)) else ((dragomanref1_Put.f x6).bind fun t182 => (if 0 ≤ x5 then (if x5 ≤ (x0.size : Int) then (if t182.toList = (x0.extract 0 (x5 : Int).toNat).toList then (some (x6, x5)) else (some (0, 0))) else (none)) else (none)))
def dragomanref1_Take.j0 : Nat → ByteArray → Int → Int → Int → Bool → Option (Int × Int)
 | 0, _, _, _, _, _ => none
 | k + 1, x0, x4, x5, x6, x14 => if x14 = true then (dragomanref1_Take.j3 k x0 4 (wrap64 (x4 - 240))) else (if x4 ≥ 224 then (dragomanref1_Take.j1 k x0 x4 x5 x6 (decide (x4 < 240))) else (dragomanref1_Take.j1 k x0 x4 x5 x6 false))
def dragomanref1_Take.j1 : Nat → ByteArray → Int → Int → Int → Bool → Option (Int × Int)
 | 0, _, _, _, _, _ => none
 | k + 1, x0, x4, x5, x6, x23 => if x23 = true then (dragomanref1_Take.j3 k x0 3 (wrap64 (x4 - 224))) else (if x4 ≥ 192 then (dragomanref1_Take.j2 k x0 x4 x5 x6 (decide (x4 < 224))) else (dragomanref1_Take.j2 k x0 x4 x5 x6 false))
def dragomanref1_Take.j2 : Nat → ByteArray → Int → Int → Int → Bool → Option (Int × Int)
 | 0, _, _, _, _, _ => none
 | k + 1, x0, x4, x5, x6, x32 => if x32 = true then (dragomanref1_Take.j3 k x0 2 (wrap64 (x4 - 192))) else (if x4 ≥ 128 then (some (0, 0)) else (dragomanref1_Take.j3 k x0 x5 x6))
end
def dragomanref1_Take.f (k : Nat) (a0 : ByteArray) : Option (Int × Int) := if a0.toList = ([] : List UInt8) then (some (0, 0)) else (if 0 < (a0.size : Int) then (if (wrap64 (bt a0 0)) ≥ 240 then (dragomanref1_Take.j0 k a0 (wrap64 (bt a0 0)) 1 (wrap64 (bt a0 0)) (decide ((wrap64 (bt a0 0)) < 248))) else (dragomanref1_Take.j0 k a0 (wrap64 (bt a0 0)) 1 (wrap64 (bt a0 0)) false)) else (none))
set_option maxHeartbeats 8000000 in
set_option maxRecDepth 100000 in
theorem dragomanref1_Take.calls (k : Nat) (a0 : ByteArray) (r1 : Int) (r2 : Int) (w : World) (h : dragomanref1_Take.f k a0 = some (r1, r2)) :
  Calls Tryd.prog 29 #[.string a0] w fun e w' => e = .returned (.tuple #[.int .i64 r1, .int .i64 r2]) ∧ Below w.heap.size w w' := by
 have HB := Aside0.mk (Below.refl w.heap.size w)
 have H : (if a0.toList = ([] : List UInt8) then (some (0, 0)) else (if 0 < (a0.size : Int) then (if (wrap64 (bt a0 0)) ≥ 240 then (dragomanref1_Take.j0 k a0 (wrap64 (bt a0 0)) 1 (wrap64 (bt a0 0)) (decide ((wrap64 (bt a0 0)) < 248))) else (dragomanref1_Take.j0 k a0 (wrap64 (bt a0 0)) 1 (wrap64 (bt a0 0)) false)) else (none))) = some (r1, r2) := h
 clear h
 by_cases c2 : a0.toList = ([] : List UInt8)
 ·rw [if_pos c2] at H
  have c2b0 : (a0.toList == ([] : List UInt8)) = true := beq_iff_eq.mpr c2
  have c2b1 : (a0.toList != ([] : List UInt8)) = false := bne_eq_false_iff_eq.mpr c2
  clear c2
  simp only [Option.some.injEq, Prod.mk.injEq] at H
  obtain ⟨rfl, rfl⟩ := H
  go_enter Tryd.func29, Tryd.ntmps29
  go_wp2
  go_ret2
  exact ⟨by first | rfl | (simp [errW_none, errW_some] <;> rfl) | (simp [*, errW_none, errW_some, bne]; done) | (simp [*, errW_none, errW_some] <;> rfl), by repeat (first | (with_reducible first | exact HB.out | apply below_alloc | apply pw_below_drewN | apply below_drew1) | exact HB.out)⟩
 ·rw [if_neg c2] at H
  have c2b0 : (a0.toList == ([] : List UInt8)) = false := beq_eq_false_iff_ne.mpr c2
  have c2b1 : (a0.toList != ([] : List UInt8)) = true := bne_iff_ne.mpr c2
  by_cases c3 : 0 < (a0.size : Int)
  ·rw [if_pos c3] at H
   have c3b0 : decide (0 < (a0.size : Int)) = true := decide_eq_true c3
   have c3b1 : decide (0 < a0.size) = true := decide_eq_true (by omega)
   clear c3
   have HC5 := Aside0.mk H
   clear H
   have p4 : 0 ≤ (0 : Int) := (by omega)
   have q4 : 0 < a0.size := (by have : (0 : Int) < (a0.size : Int) := of_decide_eq_true (by first | (with_reducible assumption) | assumption); omega)
   have hx4 : ∀ h : 0 < a0.size, ((a0[0]'h).toNat : Int) = bt a0 0 := bt_at a0 0
   clear p4
   have qi4 : (0 < (a0.size : Int)) = True := eq_true (of_decide_eq_true (by first | (with_reducible assumption) | assumption))
   replace q4 := eq_true q4
   go_enter Tryd.func29, Tryd.ntmps29
   go_upto_block 0 with (fail)
   go_cut [5, 6] (fun v5 v6 wc => ∃ (kq : Nat) (x5_4 : Int) (x6_4 : Int), v5 = .int .i64 x5_4 ∧ v6 = .int .i64 x6_4 ∧ Aside0 (dragomanref1_Take.j3 kq a0 x5_4 x6_4 = some (r1, r2)) ∧ Aside0 (kq ≤ k) ∧ Aside0 (Below w.heap.size w wc))
   case first =>
    have H := HC5.out
    clear HC5
    have HC6 := Aside0.mk H
    clear H
    go_upto_region 5 with (fail)
    go_cut [14] (fun v14 wc => ∃ (kq : Nat) (x14_5 : Bool), v14 = .bool x14_5 ∧ Aside0 (dragomanref1_Take.j0 kq a0 (wrap64 (bt a0 0)) 1 (wrap64 (bt a0 0)) x14_5 = some (r1, r2)) ∧ Aside0 (kq ≤ k) ∧ Aside0 (Below w.heap.size w wc))
    case first =>
     have H := HC6.out
     clear HC6
     by_cases c7 : (wrap64 (bt a0 0)) ≥ 240
     ·rw [if_pos c7] at H
      have c7b0 : decide (240 ≤ (wrap64 (bt a0 0))) = true := decide_eq_true c7
      clear c7
      (first | rw [c7b0] | (simp only [i64_w, i32_w]; rw [c7b0]) | skip)
      have H' := Aside0.mk H
      clear H
      go_wp2
      go_meet
      case rel => exact ⟨_, (decide ((wrap64 (bt a0 0)) < 248)), (by first | rfl | (simp; done) | (simp [*]; done)), H', ⟨by first | omega | exact Nat.le_refl _⟩, ⟨by repeat (first | (with_reducible first | exact HB.out | apply below_alloc | apply pw_below_drewN | apply below_drew1) | exact HB.out)⟩⟩
     ·rw [if_neg c7] at H
      have c7b0 : decide (240 ≤ (wrap64 (bt a0 0))) = false := decide_eq_false c7
      clear c7
      (first | rw [c7b0] | (simp only [i64_w, i32_w]; rw [c7b0]) | skip)
      have H' := Aside0.mk H
      clear H
      go_wp2
      go_meet
      case rel => exact ⟨_, (false), (by first | rfl | (simp; done) | (simp [*]; done)), H', ⟨by first | omega | exact Nat.le_refl _⟩, ⟨by repeat (first | (with_reducible first | exact HB.out | apply below_alloc | apply pw_below_drewN | apply below_drew1) | exact HB.out)⟩⟩
    case rest =>
     clear HC6
     try clear c2
     try clear c2b0
     try clear c2b1
     try clear p2
     try clear c3
     try clear c3b0
     try clear c3b1
     try clear p4
     try clear q4
     try clear hx4
     try clear qi4
     try clear p6
     try clear c7
     try clear c7b0
     try clear p4
     try clear q4
     obtain ⟨kq, x14_5, rfl, HA, HJ5, HB⟩ := hcut
     cases kq with
     | zero => exact absurd HA.out (by simp [dragomanref1_Take.j0])
     | succ kj5 =>
      have H := HA.out
      clear HA
      simp only [dragomanref1_Take.j0] at H
      by_cases c8 : x14_5 = true
      ·subst c8
       have H1 : (dragomanref1_Take.j3 kj5 a0 4 (wrap64 ((wrap64 (bt a0 0)) - 240))) = some (r1, r2) := by rw [if_pos rfl] at H; exact H
       clear H
       have H := H1
       clear H1
       have H' := Aside0.mk H
       clear H
       go_wp2
       go_meet
       case rel => exact ⟨_, (4), (wrap64 ((wrap64 (bt a0 0)) - 240)), (by first | rfl | (simp; done) | (simp [*]; done)), (by first | rfl | (simp; done) | (simp [*]; done)), H', ⟨by have := HJ5.out; first | omega | exact Nat.le_refl _⟩, ⟨by repeat (first | (with_reducible first | exact HB.out | apply below_alloc | apply pw_below_drewN | apply below_drew1) | exact HB.out)⟩⟩
      ·replace c8 := Bool.eq_false_iff.mpr c8
       subst c8
       have H1 : (if (wrap64 (bt a0 0)) ≥ 224 then (dragomanref1_Take.j1 kj5 a0 (wrap64 (bt a0 0)) 1 (wrap64 (bt a0 0)) (decide ((wrap64 (bt a0 0)) < 240))) else (dragomanref1_Take.j1 kj5 a0 (wrap64 (bt a0 0)) 1 (wrap64 (bt a0 0)) false)) = some (r1, r2) := by rw [if_neg (show ¬ (false = true) by decide)] at H; exact H
       clear H
       have H := H1
       clear H1
       have HC9 := Aside0.mk H
       clear H
       go_upto_region 7 with (fail)
       go_cut [23] (fun v23 wc => ∃ (kq : Nat) (x23_8 : Bool), v23 = .bool x23_8 ∧ Aside0 (dragomanref1_Take.j1 kq a0 (wrap64 (bt a0 0)) 1 (wrap64 (bt a0 0)) x23_8 = some (r1, r2)) ∧ Aside0 (kq ≤ kj5) ∧ Aside0 (Below w.heap.size w wc))
       case first =>
        have H := HC9.out
        clear HC9
        by_cases c10 : (wrap64 (bt a0 0)) ≥ 224
        ·rw [if_pos c10] at H
         have c10b0 : decide (224 ≤ (wrap64 (bt a0 0))) = true := decide_eq_true c10
         clear c10
         (first | rw [c10b0] | (simp only [i64_w, i32_w]; rw [c10b0]) | skip)
         have H' := Aside0.mk H
         clear H
         go_wp2
         go_meet
         case rel => exact ⟨_, (decide ((wrap64 (bt a0 0)) < 240)), (by first | rfl | (simp; done) | (simp [*]; done)), H', ⟨by have := HJ5.out; first | omega | exact Nat.le_refl _⟩, ⟨by repeat (first | (with_reducible first | exact HB.out | apply below_alloc | apply pw_below_drewN | apply below_drew1) | exact HB.out)⟩⟩
        ·rw [if_neg c10] at H
         have c10b0 : decide (224 ≤ (wrap64 (bt a0 0))) = false := decide_eq_false c10
         clear c10
         (first | rw [c10b0] | (simp only [i64_w, i32_w]; rw [c10b0]) | skip)
         have H' := Aside0.mk H
         clear H
         go_wp2
         go_meet
         case rel => exact ⟨_, (false), (by first | rfl | (simp; done) | (simp [*]; done)), H', ⟨by have := HJ5.out; first | omega | exact Nat.le_refl _⟩, ⟨by repeat (first | (with_reducible first | exact HB.out | apply below_alloc | apply pw_below_drewN | apply below_drew1) | exact HB.out)⟩⟩
       case rest =>
        clear HC9
        try clear c1
        try clear c2
        try clear c2b0
        try clear c2b1
        try clear p2
        try clear c3
        try clear c3b0
        try clear c3b1
        try clear p4
        try clear q4
        try clear hx4
        try clear qi4
        try clear p6
        try clear c7
        try clear c7b0
        try clear c8
        try clear c10
        try clear c10b0
        try clear p2
        try clear p4
        try clear p6
        try clear q4
        obtain ⟨kq, x23_8, rfl, HA, HJ8, HB⟩ := hcut
        cases kq with
        | zero => exact absurd HA.out (by simp [dragomanref1_Take.j1])
        | succ kj8 =>
         have H := HA.out
         clear HA
         simp only [dragomanref1_Take.j1] at H
         by_cases c11 : x23_8 = true
         ·subst c11
          have H1 : (dragomanref1_Take.j3 kj8 a0 3 (wrap64 ((wrap64 (bt a0 0)) - 224))) = some (r1, r2) := by rw [if_pos rfl] at H; exact H
          clear H
          have H := H1
          clear H1
          have H' := Aside0.mk H
          clear H
          go_wp2
          go_meet
          case rel => exact ⟨_, (3), (wrap64 ((wrap64 (bt a0 0)) - 224)), (by first | rfl | (simp; done) | (simp [*]; done)), (by first | rfl | (simp; done) | (simp [*]; done)), H', ⟨by have := HJ5.out; have := HJ8.out; first | omega | exact Nat.le_refl _⟩, ⟨by repeat (first | (with_reducible first | exact HB.out | apply below_alloc | apply pw_below_drewN | apply below_drew1) | exact HB.out)⟩⟩
         ·replace c11 := Bool.eq_false_iff.mpr c11
          subst c11
          have H1 : (if (wrap64 (bt a0 0)) ≥ 192 then (dragomanref1_Take.j2 kj8 a0 (wrap64 (bt a0 0)) 1 (wrap64 (bt a0 0)) (decide ((wrap64 (bt a0 0)) < 224))) else (dragomanref1_Take.j2 kj8 a0 (wrap64 (bt a0 0)) 1 (wrap64 (bt a0 0)) false)) = some (r1, r2) := by rw [if_neg (show ¬ (false = true) by decide)] at H; exact H
          clear H
          have H := H1
          clear H1
          have HC12 := Aside0.mk H
          clear H
          go_upto_region 9 with (fail)
          go_cut [32] (fun v32 wc => ∃ (kq : Nat) (x32_11 : Bool), v32 = .bool x32_11 ∧ Aside0 (dragomanref1_Take.j2 kq a0 (wrap64 (bt a0 0)) 1 (wrap64 (bt a0 0)) x32_11 = some (r1, r2)) ∧ Aside0 (kq ≤ kj8) ∧ Aside0 (Below w.heap.size w wc))
          case first =>
           have H := HC12.out
           clear HC12
           by_cases c13 : (wrap64 (bt a0 0)) ≥ 192
           ·rw [if_pos c13] at H
            have c13b0 : decide (192 ≤ (wrap64 (bt a0 0))) = true := decide_eq_true c13
            clear c13
            (first | rw [c13b0] | (simp only [i64_w, i32_w]; rw [c13b0]) | skip)
            have H' := Aside0.mk H
            clear H
            go_wp2
            go_meet
            case rel => exact ⟨_, (decide ((wrap64 (bt a0 0)) < 224)), (by first | rfl | (simp; done) | (simp [*]; done)), H', ⟨by have := HJ5.out; have := HJ8.out; first | omega | exact Nat.le_refl _⟩, ⟨by repeat (first | (with_reducible first | exact HB.out | apply below_alloc | apply pw_below_drewN | apply below_drew1) | exact HB.out)⟩⟩
           ·rw [if_neg c13] at H
            have c13b0 : decide (192 ≤ (wrap64 (bt a0 0))) = false := decide_eq_false c13
            clear c13
            (first | rw [c13b0] | (simp only [i64_w, i32_w]; rw [c13b0]) | skip)
            have H' := Aside0.mk H
            clear H
            go_wp2
            go_meet
            case rel => exact ⟨_, (false), (by first | rfl | (simp; done) | (simp [*]; done)), H', ⟨by have := HJ5.out; have := HJ8.out; first | omega | exact Nat.le_refl _⟩, ⟨by repeat (first | (with_reducible first | exact HB.out | apply below_alloc | apply pw_below_drewN | apply below_drew1) | exact HB.out)⟩⟩
          case rest =>
           clear HC12
           try clear c1
           try clear c2
           try clear c2b0
           try clear c2b1
           try clear p2
           try clear c3
           try clear c3b0
           try clear c3b1
           try clear p4
           try clear q4
           try clear hx4
           try clear qi4
           try clear p6
           try clear c7
           try clear c7b0
           try clear c8
           try clear c10
           try clear c10b0
           try clear c11
           try clear c13
           try clear c13b0
           try clear p2
           try clear p4
           try clear p6
           try clear q4
           obtain ⟨kq, x32_11, rfl, HA, HJ11, HB⟩ := hcut
           cases kq with
           | zero => exact absurd HA.out (by simp [dragomanref1_Take.j2])
           | succ kj11 =>
            have H := HA.out
            clear HA
            simp only [dragomanref1_Take.j2] at H
            by_cases c14 : x32_11 = true
            ·subst c14
             have H1 : (dragomanref1_Take.j3 kj11 a0 2 (wrap64 ((wrap64 (bt a0 0)) - 192))) = some (r1, r2) := by rw [if_pos rfl] at H; exact H
             clear H
             have H := H1
             clear H1
             have H' := Aside0.mk H
             clear H
             go_wp2
             go_meet
             case rel => exact ⟨_, (2), (wrap64 ((wrap64 (bt a0 0)) - 192)), (by first | rfl | (simp; done) | (simp [*]; done)), (by first | rfl | (simp; done) | (simp [*]; done)), H', ⟨by have := HJ5.out; have := HJ8.out; have := HJ11.out; first | omega | exact Nat.le_refl _⟩, ⟨by repeat (first | (with_reducible first | exact HB.out | apply below_alloc | apply pw_below_drewN | apply below_drew1) | exact HB.out)⟩⟩
            ·replace c14 := Bool.eq_false_iff.mpr c14
             subst c14
             have H1 : (if (wrap64 (bt a0 0)) ≥ 128 then (some (0, 0)) else (dragomanref1_Take.j3 kj11 a0 1 (wrap64 (bt a0 0)))) = some (r1, r2) := by rw [if_neg (show ¬ (false = true) by decide)] at H; exact H
             clear H
             have H := H1
             clear H1
             by_cases c15 : (wrap64 (bt a0 0)) ≥ 128
             ·rw [if_pos c15] at H
              have c15b0 : decide (128 ≤ (wrap64 (bt a0 0))) = true := decide_eq_true c15
              clear c15
              simp only [Option.some.injEq, Prod.mk.injEq] at H
              obtain ⟨rfl, rfl⟩ := H
              go_wp2
              go_ret2
              exact ⟨by first | rfl | (simp [errW_none, errW_some] <;> rfl) | (simp [*, errW_none, errW_some, bne]; done) | (simp [*, errW_none, errW_some] <;> rfl), by repeat (first | (with_reducible first | exact HB.out | apply below_alloc | apply pw_below_drewN | apply below_drew1) | exact HB.out)⟩
             ·rw [if_neg c15] at H
              have c15b0 : decide (128 ≤ (wrap64 (bt a0 0))) = false := decide_eq_false c15
              clear c15
              have H' := Aside0.mk H
              clear H
              go_wp2
              go_meet
              case rel => exact ⟨_, (1), ((wrap64 (bt a0 0))), (by first | rfl | (simp; done) | (simp [*]; done)), (by first | rfl | (simp; done) | (simp [*]; done)), H', ⟨by have := HJ5.out; have := HJ8.out; have := HJ11.out; first | omega | exact Nat.le_refl _⟩, ⟨by repeat (first | (with_reducible first | exact HB.out | apply below_alloc | apply pw_below_drewN | apply below_drew1) | exact HB.out)⟩⟩
   case rest =>
    clear HC5
    try clear c1
    try clear c2
    try clear c2b0
    try clear c2b1
    try clear p2
    try clear c3
    try clear c3b0
    try clear c3b1
    try clear p4
    try clear q4
    try clear hx4
    try clear qi4
    try clear p6
    try clear c7
    try clear c7b0
    try clear c8
    try clear c10
    try clear c10b0
    try clear c11
    try clear c13
    try clear c13b0
    try clear c14
    try clear c15
    try clear c15b0
    try clear p2
    try clear p4
    try clear p6
    try clear q4
    obtain ⟨kq, x5_4, x6_4, rfl, rfl, HA, HJ4, HB⟩ := hcut
    cases kq with
    | zero => exact absurd HA.out (by simp [dragomanref1_Take.j3])
    | succ kj4 =>
     have H := HA.out
     clear HA
     simp only [dragomanref1_Take.j3] at H
     by_cases c16 : (a0.size : Int) < x5_4
     ·rw [if_pos c16] at H
      have c16b0 : decide ((a0.size : Int) < x5_4) = true := decide_eq_true c16
      clear c16
      simp only [Option.some.injEq, Prod.mk.injEq] at H
      obtain ⟨rfl, rfl⟩ := H
      go_wp2
      go_ret2
      exact ⟨by first | rfl | (simp [errW_none, errW_some] <;> rfl) | (simp [*, errW_none, errW_some, bne]; done) | (simp [*, errW_none, errW_some] <;> rfl), by repeat (first | (with_reducible first | exact HB.out | apply below_alloc | apply pw_below_drewN | apply below_drew1) | exact HB.out)⟩
     ·rw [if_neg c16] at H
      have c16b0 : decide ((a0.size : Int) < x5_4) = false := decide_eq_false c16
      clear c16
      have H' := Aside0.mk H
      clear H
      go_wp2
      go_loopg [6, 7] kj4 (fun kq v6 v7 w' => ∃ (x6_2 : Int) (x7_2 : Int), v6 = .int .i64 x6_2 ∧ v7 = .int .i64 x7_2 ∧ Aside0 (dragomanref1_Take.l0 kq a0 x5_4 x6_2 x7_2 = some (r1, r2)) ∧ Aside0 (kq ≤ kj4) ∧ Aside0 (Below w.heap.size w w'))
      case atStart => exact ⟨(x6_4), (1), (by first | rfl | (simp; done) | (simp [*]; done)), (by first | rfl | (simp; done) | (simp [*]; done)), H', ⟨Nat.le_refl _⟩, ⟨by repeat (first | (with_reducible first | exact HB.out | apply below_alloc | apply pw_below_drewN | apply below_drew1) | exact HB.out)⟩⟩
      case round =>
       clear H'
       try clear c1
       try clear c2
       try clear c2b0
       try clear c2b1
       try clear p2
       try clear c3
       try clear c3b0
       try clear c3b1
       try clear p4
       try clear q4
       try clear hx4
       try clear qi4
       try clear p6
       try clear c7
       try clear c7b0
       try clear c8
       try clear c10
       try clear c10b0
       try clear c11
       try clear c13
       try clear c13b0
       try clear c14
       try clear c15
       try clear c15b0
       try clear c16
       try clear c16b0
       try clear p2
       try clear p4
       try clear p6
       try clear q4
       obtain ⟨x6_2, x7_2, rfl, rfl, HA, HK2, HB⟩ := hrel
       cases gk with
       | zero => exact absurd HA.out (by simp [dragomanref1_Take.l0])
       | succ k2 =>
        have H := HA.out
        clear HA
        simp only [dragomanref1_Take.l0] at H
        by_cases c17 : x7_2 < x5_4
        ·rw [if_pos c17] at H
         have c17b0 : decide (x7_2 < x5_4) = true := decide_eq_true c17
         clear c17
         by_cases c18 : 0 ≤ x7_2
         ·rw [if_pos c18] at H
          have c18b0 : decide (0 ≤ x7_2) = true := decide_eq_true c18
          clear c18
          by_cases c19 : x7_2 < (a0.size : Int)
          ·rw [if_pos c19] at H
           have c19b0 : decide (x7_2 < (a0.size : Int)) = true := decide_eq_true c19
           clear c19
           by_cases c21 : (bt a0 x7_2) < 128
           ·rw [if_pos c21] at H
            have c21b0 : decide ((bt a0 x7_2) < 128) = true := decide_eq_true c21
            clear c21
            simp only [Option.some.injEq, Prod.mk.injEq] at H
            obtain ⟨rfl, rfl⟩ := H
            have p20 : 0 ≤ (x7_2 : Int) := of_decide_eq_true (by first | (with_reducible assumption) | assumption)
            have q20 : x7_2 < (a0.size : Int) := of_decide_eq_true (by first | (with_reducible assumption) | assumption)
            have hx20 := bt_at a0 x7_2
            replace p20 := eq_true p20
            replace q20 := eq_true q20
            go_wp2
            go_ret2
            exact ⟨by first | rfl | (simp [errW_none, errW_some] <;> rfl) | (simp [*, errW_none, errW_some, bne]; done) | (simp [*, errW_none, errW_some] <;> rfl), by repeat (first | (with_reducible first | exact HB.out | apply below_alloc | apply pw_below_drewN | apply below_drew1) | exact HB.out)⟩
           ·rw [if_neg c21] at H
            have c21b0 : decide ((bt a0 x7_2) < 128) = false := decide_eq_false c21
            clear c21
            by_cases c23 : (bt a0 x7_2) > 191
            ·rw [if_pos c23] at H
             have c23b0 : decide (191 < (bt a0 x7_2)) = true := decide_eq_true c23
             clear c23
             simp only [Option.some.injEq, Prod.mk.injEq] at H
             obtain ⟨rfl, rfl⟩ := H
             have p20 : 0 ≤ (x7_2 : Int) := of_decide_eq_true (by first | (with_reducible assumption) | assumption)
             have q20 : x7_2 < (a0.size : Int) := of_decide_eq_true (by first | (with_reducible assumption) | assumption)
             have hx20 := bt_at a0 x7_2
             replace p20 := eq_true p20
             replace q20 := eq_true q20
             have p22 : 0 ≤ (x7_2 : Int) := of_decide_eq_true (by first | (with_reducible assumption) | assumption)
             have q22 : x7_2 < (a0.size : Int) := of_decide_eq_true (by first | (with_reducible assumption) | assumption)
             have hx22 := bt_at a0 x7_2
             replace p22 := eq_true p22
             replace q22 := eq_true q22
             go_wp2
             go_ret2
             exact ⟨by first | rfl | (simp [errW_none, errW_some] <;> rfl) | (simp [*, errW_none, errW_some, bne]; done) | (simp [*, errW_none, errW_some] <;> rfl), by repeat (first | (with_reducible first | exact HB.out | apply below_alloc | apply pw_below_drewN | apply below_drew1) | exact HB.out)⟩
            ·rw [if_neg c23] at H
             have c23b0 : decide (191 < (bt a0 x7_2)) = false := decide_eq_false c23
             clear c23
             have H' := Aside0.mk H
             clear H
             have p20 : 0 ≤ (x7_2 : Int) := of_decide_eq_true (by first | (with_reducible assumption) | assumption)
             have q20 : x7_2 < (a0.size : Int) := of_decide_eq_true (by first | (with_reducible assumption) | assumption)
             have hx20 := bt_at a0 x7_2
             replace p20 := eq_true p20
             replace q20 := eq_true q20
             have p22 : 0 ≤ (x7_2 : Int) := of_decide_eq_true (by first | (with_reducible assumption) | assumption)
             have q22 : x7_2 < (a0.size : Int) := of_decide_eq_true (by first | (with_reducible assumption) | assumption)
             have hx22 := bt_at a0 x7_2
             replace p22 := eq_true p22
             replace q22 := eq_true q22
             have p24 : 0 ≤ (x7_2 : Int) := of_decide_eq_true (by first | (with_reducible assumption) | assumption)
             have q24 : x7_2 < (a0.size : Int) := of_decide_eq_true (by first | (with_reducible assumption) | assumption)
             have hx24 := bt_at a0 x7_2
             replace p24 := eq_true p24
             replace q24 := eq_true q24
             go_wp2
             go_roundg k2
             case measure => have := HJ4.out; have := HK2.out; omega
             case rel => exact ⟨(wrap64 ((wrap64 ((wrap64 (64 * x6_2)) + (wrap64 (bt a0 x7_2)))) - 128)), (wrap64 (x7_2 + 1)), (by first | rfl | (simp; done) | (simp [*]; done)), (by first | rfl | (simp; done) | (simp [*]; done)), H', ⟨by have := HJ4.out; have := HK2.out; omega⟩, ⟨by repeat (first | (with_reducible first | exact HB.out | apply below_alloc | apply pw_below_drewN | apply below_drew1) | exact HB.out)⟩⟩
          ·rw [if_neg c19] at H
           exact absurd H (by simp)
         ·rw [if_neg c18] at H
          exact absurd H (by simp)
        ·rw [if_neg c17] at H
         have c17b0 : decide (x7_2 < x5_4) = false := decide_eq_false c17
         clear c17
         replace H := Option.bind_eq_some_iff.mp H
         obtain ⟨t182, A250, H⟩ := H
         replace H : (if 0 ≤ x5_4 then (if x5_4 ≤ (a0.size : Int) then (if t182.toList = (a0.extract 0 (x5_4 : Int).toNat).toList then (some (x6_2, x5_4)) else (some (0, 0))) else (none)) else (none)) = some (r1, r2) := H
         have A25 := Aside0.mk A250
         clear A250
         by_cases c26 : 0 ≤ x5_4
         ·rw [if_pos c26] at H
          have c26b0 := eq_true c26
          have c26b1 : decide (0 ≤ x5_4) = true := decide_eq_true c26
          clear c26
          by_cases c27 : x5_4 ≤ (a0.size : Int)
          ·rw [if_pos c27] at H
           have c27b0 := eq_true c27
           have c27b1 : decide (x5_4 ≤ (a0.size : Int)) = true := decide_eq_true c27
           clear c27
           by_cases c28 : t182.toList = (a0.extract 0 (x5_4 : Int).toNat).toList
           ·rw [if_pos c28] at H
            have c28b0 : (t182.toList == (a0.extract 0 (x5_4 : Int).toNat).toList) = true := beq_iff_eq.mpr c28
            have c28b1 : (t182.toList != (a0.extract 0 (x5_4 : Int).toNat).toList) = false := bne_eq_false_iff_eq.mpr c28
            clear c28
            simp only [Option.some.injEq, Prod.mk.injEq] at H
            obtain ⟨rfl, rfl⟩ := H
            try go_wp2
            have n0_ := Aside0.mk (below_drew1 HB.out)
            clear HB
            have HB := n0_
            clear n0_
            refine start_ (n := 6) (S := fun w' => True) (ds := []) #[false, false, false, false, false, false] (by kernel_rfl) rfl rfl trivial (fun hHeld => ?_)
            generalize wr.drew = w29 at HB hHeld ⊢
            refine pure_ (i := 0) (N := some 71) (v := ?_) (a' := ?_) #[true, false, false, false, false, false] rfl rfl (by kernel_rfl) (fun _ _ _ h => h) (Or.inl ⟨by rfl, ?_⟩) ?_ ?_
            rotate_left
            ·intro w'
             go_simp
             with_reducible rfl
            rotate_left
            ·simp only [Act.put, List.setIfInBounds_toArray, List.set_cons_zero, List.set_cons_succ, i64_w, i32_w]
             rfl
            refine pure_ (i := 2) (N := some 73) (v := ?_) (a' := ?_) #[true, false, true, false, false, false] rfl rfl (by kernel_rfl) (fun _ _ _ h => h) (Or.inl ⟨by rfl, ?_⟩) ?_ ?_
            rotate_left
            ·intro w'
             go_simp
             with_reducible rfl
            rotate_left
            ·simp only [Act.put, List.setIfInBounds_toArray, List.set_cons_zero, List.set_cons_succ, i64_w, i32_w]
             rfl
            refine pure_ (i := 3) (N := some 74) (v := ?_) (a' := ?_) #[true, false, true, true, false, false] rfl rfl (by kernel_rfl) (fun _ _ _ h => h) (Or.inl ⟨by rfl, ?_⟩) ?_ ?_
            rotate_left
            ·intro w'
             go_simp
             with_reducible rfl
            rotate_left
            ·simp only [Act.put, List.setIfInBounds_toArray, List.set_cons_zero, List.set_cons_succ, i64_w, i32_w]
             rfl
            refine pure_ (i := 4) (N := some 75) (v := ?_) (a' := ?_) #[true, false, true, true, true, false] rfl rfl (by kernel_rfl) (fun _ _ _ h => h) (Or.inl ⟨by rfl, ?_⟩) ?_ ?_
            rotate_left
            ·intro w'
             go_simp
             with_reducible rfl
            rotate_left
            ·simp only [Act.put, List.setIfInBounds_toArray, List.set_cons_zero, List.set_cons_succ, i64_w, i32_w]
             rfl
            refine one_ (i := 1) (N := some 72) #[true, true, true, true, true, false] rfl rfl (by kernel_rfl) (by decide) (fun K hK => ?_)
            refine goes_ Tryd.func38 (by kernel_rfl) rfl #[.int .i64 x6_2] (by rfl) rfl rfl (by (try simp only [List.map_toArray, List.map_cons, List.map_nil]); first | done | rfl | (simp only [List.length_drop, List.length_take]; rfl)) ?_
            with_reducible refine (dragomanref1_Put.calls x6_2 t182 _ A25.out).mono ?_
            rintro e w30 ⟨rfl, hb⟩
            refine ⟨_, rfl, ?_⟩
            have n0_ := Aside0.mk (below_step (by repeat (first | (with_reducible first | exact HB.out | apply below_alloc | apply pw_below_drewN | apply below_drew1) | exact HB.out)) hb)
            clear HB
            have HB := n0_
            clear n0_
            (try clear hb)
            (try clear hb2)
            (try clear hk)
            (try clear hi)
            refine hK.out _ _ trivial (fun hHeld => ?_)
            clear hK K
            refine norm_ (a' := ?_) ?_ ?_
            rotate_left
            ·show Act.put _ (some 72) _ = _
             simp only [Act.put, List.setIfInBounds_toArray, List.set_cons_zero, List.set_cons_succ, i64_w, i32_w]
             rfl
            refine pure_ (i := 5) (N := some 76) (v := ?_) (a' := ?_) #[true, true, true, true, true, true] rfl rfl (by kernel_rfl) (fun _ _ _ h => h) (Or.inl ⟨by rfl, ?_⟩) ?_ ?_
            rotate_left
            ·intro w'
             go_simp
             with_reducible rfl
            rotate_left
            ·simp only [Act.put, List.setIfInBounds_toArray, List.set_cons_zero, List.set_cons_succ, i64_w, i32_w]
             rfl
            refine done_ (by kernel_rfl) ?_
            try go_wp2
            go_ret2
            exact ⟨by first | rfl | (simp [errW_none, errW_some] <;> rfl) | (simp [*, errW_none, errW_some, bne]; done) | (simp [*, errW_none, errW_some] <;> rfl), by repeat (first | (with_reducible first | exact HB.out | apply below_alloc | apply pw_below_drewN | apply below_drew1) | exact HB.out)⟩
           ·rw [if_neg c28] at H
            have c28b0 : (t182.toList == (a0.extract 0 (x5_4 : Int).toNat).toList) = false := beq_eq_false_iff_ne.mpr c28
            have c28b1 : (t182.toList != (a0.extract 0 (x5_4 : Int).toNat).toList) = true := bne_iff_ne.mpr c28
            simp only [Option.some.injEq, Prod.mk.injEq] at H
            obtain ⟨rfl, rfl⟩ := H
            try go_wp2
            have n0_ := Aside0.mk (below_drew1 HB.out)
            clear HB
            have HB := n0_
            clear n0_
            refine start_ (n := 6) (S := fun w' => True) (ds := []) #[false, false, false, false, false, false] (by kernel_rfl) rfl rfl trivial (fun hHeld => ?_)
            generalize wr.drew = w31 at HB hHeld ⊢
            refine pure_ (i := 0) (N := some 71) (v := ?_) (a' := ?_) #[true, false, false, false, false, false] rfl rfl (by kernel_rfl) (fun _ _ _ h => h) (Or.inl ⟨by rfl, ?_⟩) ?_ ?_
            rotate_left
            ·intro w'
             go_simp
             with_reducible rfl
            rotate_left
            ·simp only [Act.put, List.setIfInBounds_toArray, List.set_cons_zero, List.set_cons_succ, i64_w, i32_w]
             rfl
            refine pure_ (i := 2) (N := some 73) (v := ?_) (a' := ?_) #[true, false, true, false, false, false] rfl rfl (by kernel_rfl) (fun _ _ _ h => h) (Or.inl ⟨by rfl, ?_⟩) ?_ ?_
            rotate_left
            ·intro w'
             go_simp
             with_reducible rfl
            rotate_left
            ·simp only [Act.put, List.setIfInBounds_toArray, List.set_cons_zero, List.set_cons_succ, i64_w, i32_w]
             rfl
            refine pure_ (i := 3) (N := some 74) (v := ?_) (a' := ?_) #[true, false, true, true, false, false] rfl rfl (by kernel_rfl) (fun _ _ _ h => h) (Or.inl ⟨by rfl, ?_⟩) ?_ ?_
            rotate_left
            ·intro w'
             go_simp
             with_reducible rfl
            rotate_left
            ·simp only [Act.put, List.setIfInBounds_toArray, List.set_cons_zero, List.set_cons_succ, i64_w, i32_w]
             rfl
            refine pure_ (i := 4) (N := some 75) (v := ?_) (a' := ?_) #[true, false, true, true, true, false] rfl rfl (by kernel_rfl) (fun _ _ _ h => h) (Or.inl ⟨by rfl, ?_⟩) ?_ ?_
            rotate_left
            ·intro w'
             go_simp
             with_reducible rfl
            rotate_left
            ·simp only [Act.put, List.setIfInBounds_toArray, List.set_cons_zero, List.set_cons_succ, i64_w, i32_w]
             rfl
            refine one_ (i := 1) (N := some 72) #[true, true, true, true, true, false] rfl rfl (by kernel_rfl) (by decide) (fun K hK => ?_)
            refine goes_ Tryd.func38 (by kernel_rfl) rfl #[.int .i64 x6_2] (by rfl) rfl rfl (by (try simp only [List.map_toArray, List.map_cons, List.map_nil]); first | done | rfl | (simp only [List.length_drop, List.length_take]; rfl)) ?_
            with_reducible refine (dragomanref1_Put.calls x6_2 t182 _ A25.out).mono ?_
            rintro e w32 ⟨rfl, hb⟩
            refine ⟨_, rfl, ?_⟩
            have n0_ := Aside0.mk (below_step (by repeat (first | (with_reducible first | exact HB.out | apply below_alloc | apply pw_below_drewN | apply below_drew1) | exact HB.out)) hb)
            clear HB
            have HB := n0_
            clear n0_
            (try clear hb)
            (try clear hb2)
            (try clear hk)
            (try clear hi)
            refine hK.out _ _ trivial (fun hHeld => ?_)
            clear hK K
            refine norm_ (a' := ?_) ?_ ?_
            rotate_left
            ·show Act.put _ (some 72) _ = _
             simp only [Act.put, List.setIfInBounds_toArray, List.set_cons_zero, List.set_cons_succ, i64_w, i32_w]
             rfl
            refine pure_ (i := 5) (N := some 76) (v := ?_) (a' := ?_) #[true, true, true, true, true, true] rfl rfl (by kernel_rfl) (fun _ _ _ h => h) (Or.inl ⟨by rfl, ?_⟩) ?_ ?_
            rotate_left
            ·intro w'
             go_simp
             with_reducible rfl
            rotate_left
            ·simp only [Act.put, List.setIfInBounds_toArray, List.set_cons_zero, List.set_cons_succ, i64_w, i32_w]
             rfl
            refine done_ (by kernel_rfl) ?_
            try go_wp2
            go_ret2
            exact ⟨by first | rfl | (simp [errW_none, errW_some] <;> rfl) | (simp [*, errW_none, errW_some, bne]; done) | (simp [*, errW_none, errW_some] <;> rfl), by repeat (first | (with_reducible first | exact HB.out | apply below_alloc | apply pw_below_drewN | apply below_drew1) | exact HB.out)⟩
          ·rw [if_neg c27] at H
           exact absurd H (by simp)
         ·rw [if_neg c26] at H
          exact absurd H (by simp)
  ·rw [if_neg c3] at H
   exact absurd H (by simp)
end Go.Proofs.YtjmmdphkgioooaaDoor.P
end
section
namespace Go.Proofs.YtjmmdphkgioooaaDoor.P
open Go.RowKit Go.Proofs.YtjmmdphkgioooaaDoorW.PrintWords Go.Proofs.YtjmmdphkgioooaaDoorW.PrintLast Go.Proofs.YtjmmdphkgioooaaDoorW.PrintMore
attribute [local go_sem] max2_int min2_int max_two min_two max_three min_three max_four min_four   -- for this text's walks alone
set_option linter.unusedVariables false
set_option linter.unusedSimpArgs false
/-! ### dragomanref1_Valid: function 17 -/
def dragomanref1_Valid.l0 : Nat → ByteArray → Int → Option (Int)
 | 0, _, _ => none
 | k + 1, x0, x3 => if x3 < (x0.size : Int) then (if 0 ≤ x3 then (if x3 ≤ (x0.size : Int) then ((dragomanref1_Take.f k (x0.extract (x3 : Int).toNat x0.size)).bind fun bt183 => (if bt183.2 = 0 then (some x3) else (dragomanref1_Valid.l0 k x0 (wrap64 (x3 + bt183.2))))) else (none)) else (none)) else (some (-1))
def dragomanref1_Valid.f (k : Nat) (a0 : ByteArray) : Option (Int) := dragomanref1_Valid.l0 k a0 0
set_option maxHeartbeats 8000000 in
set_option maxRecDepth 100000 in
theorem dragomanref1_Valid.calls (k : Nat) (a0 : ByteArray) (r : Int) (w : World) (h : dragomanref1_Valid.f k a0 = some r) :
  Calls Tryd.prog 17 #[.string a0] w fun e w' => e = .returned (.int .i64 r) ∧ Below w.heap.size w w' := by
 have HB := Aside0.mk (Below.refl w.heap.size w)
 have H : (dragomanref1_Valid.l0 k a0 0) = some r := h
 clear h
 have H' := Aside0.mk H
 clear H
 go_enter Tryd.func17, Tryd.ntmps17
 go_wp2
 go_loopg [3] k (fun kq v3 w' => ∃ (x3_1 : Int), v3 = .int .i64 x3_1 ∧ Aside0 (dragomanref1_Valid.l0 kq a0 x3_1 = some r) ∧ Aside0 (kq ≤ k) ∧ Aside0 (Below w.heap.size w w'))
 case atStart => exact ⟨(0), (by first | rfl | (simp; done) | (simp [*]; done)), H', ⟨Nat.le_refl _⟩, ⟨by repeat (first | (with_reducible first | exact HB.out | apply below_alloc | apply pw_below_drewN | apply below_drew1) | exact HB.out)⟩⟩
 case round =>
  clear H'
  try clear c1
  obtain ⟨x3_1, rfl, HA, HK1, HB⟩ := hrel
  cases gk with
  | zero => exact absurd HA.out (by simp [dragomanref1_Valid.l0])
  | succ k1 =>
   have H := HA.out
   clear HA
   simp only [dragomanref1_Valid.l0] at H
   by_cases c2 : x3_1 < (a0.size : Int)
   ·rw [if_pos c2] at H
    have c2b0 : decide (x3_1 < (a0.size : Int)) = true := decide_eq_true c2
    clear c2
    by_cases c3 : 0 ≤ x3_1
    ·rw [if_pos c3] at H
     have c3b0 := eq_true c3
     have c3b1 : decide (0 ≤ x3_1) = true := decide_eq_true c3
     clear c3
     by_cases c4 : x3_1 ≤ (a0.size : Int)
     ·rw [if_pos c4] at H
      have c4b0 := eq_true c4
      have c4b1 : decide (x3_1 ≤ (a0.size : Int)) = true := decide_eq_true c4
      clear c4
      replace H := Option.bind_eq_some_iff.mp H
      obtain ⟨⟨t183, t184⟩, A50, H⟩ := H
      replace H : (if t184 = 0 then (some x3_1) else (dragomanref1_Valid.l0 k1 a0 (wrap64 (x3_1 + t184)))) = some r := H
      have A5 := Aside0.mk A50
      clear A50
      by_cases c6 : t184 = 0
      ·rw [if_pos c6] at H
       have c6b0 : (t184 == 0) = true := beq_iff_eq.mpr c6
       have c6b1 : (t184 != 0) = false := bne_eq_false_iff_eq.mpr c6
       clear c6
       obtain rfl := Option.some.inj H
       go_wp2_with (first | ((with_reducible refine gate_callee (f := 29) rfl ?_); refine goesL_ (some 14) rfl rfl Tryd.func29 (by kernel_rfl) rfl #[.string (a0.extract (x3_1 : Int).toNat a0.size)] rfl (by (try simp only [List.map_toArray, List.map_cons, List.map_nil]); first | done | rfl | (simp only [List.length_drop, List.length_take]; rfl)) ?_; (with_reducible refine (dragomanref1_Take.calls k1 (a0.extract (x3_1 : Int).toNat a0.size) t183 t184 _ A5.out).mono ?_); rintro e w7 ⟨rfl, hb⟩; refine ⟨_, rfl, ?_⟩; have n0_ := Aside0.mk (below_step (by repeat (first | (with_reducible first | exact HB.out | apply below_alloc | apply pw_below_drewN | apply below_drew1) | exact HB.out)) hb); clear HB; have HB := n0_; clear n0_; (try clear hb); (try clear hb2); (try clear hk); (try clear hi)))
       go_ret
       exact ⟨by first | rfl | (simp [errW_none, errW_some] <;> rfl) | (simp [*, errW_none, errW_some, bne]; done) | (simp [*, errW_none, errW_some] <;> rfl), by repeat (first | (with_reducible first | exact HB.out | apply below_alloc | apply pw_below_drewN | apply below_drew1) | exact HB.out)⟩
      ·rw [if_neg c6] at H
       have c6b0 : (t184 == 0) = false := beq_eq_false_iff_ne.mpr c6
       have c6b1 : (t184 != 0) = true := bne_iff_ne.mpr c6
       have H' := Aside0.mk H
       clear H
       go_wp2_with (first | ((with_reducible refine gate_callee (f := 29) rfl ?_); refine goesL_ (some 14) rfl rfl Tryd.func29 (by kernel_rfl) rfl #[.string (a0.extract (x3_1 : Int).toNat a0.size)] rfl (by (try simp only [List.map_toArray, List.map_cons, List.map_nil]); first | done | rfl | (simp only [List.length_drop, List.length_take]; rfl)) ?_; (with_reducible refine (dragomanref1_Take.calls k1 (a0.extract (x3_1 : Int).toNat a0.size) t183 t184 _ A5.out).mono ?_); rintro e w8 ⟨rfl, hb⟩; refine ⟨_, rfl, ?_⟩; have n0_ := Aside0.mk (below_step (by repeat (first | (with_reducible first | exact HB.out | apply below_alloc | apply pw_below_drewN | apply below_drew1) | exact HB.out)) hb); clear HB; have HB := n0_; clear n0_; (try clear hb); (try clear hb2); (try clear hk); (try clear hi)))
       go_roundg k1
       case measure => have := HK1.out; omega
       case rel => exact ⟨(wrap64 (x3_1 + t184)), (by first | rfl | (simp; done) | (simp [*]; done)), H', ⟨by have := HK1.out; omega⟩, ⟨by repeat (first | (with_reducible first | exact HB.out | apply below_alloc | apply pw_below_drewN | apply below_drew1) | exact HB.out)⟩⟩
     ·rw [if_neg c4] at H
      exact absurd H (by simp)
    ·rw [if_neg c3] at H
     exact absurd H (by simp)
   ·rw [if_neg c2] at H
    have c2b0 : decide (x3_1 < (a0.size : Int)) = false := decide_eq_false c2
    clear c2
    obtain rfl := Option.some.inj H
    go_wp2
    go_ret
    exact ⟨by first | rfl | (simp [errW_none, errW_some] <;> rfl) | (simp [*, errW_none, errW_some, bne]; done) | (simp [*, errW_none, errW_some] <;> rfl), by repeat (first | (with_reducible first | exact HB.out | apply below_alloc | apply pw_below_drewN | apply below_drew1) | exact HB.out)⟩
end Go.Proofs.YtjmmdphkgioooaaDoor.P
end
