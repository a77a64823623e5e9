/- The parts of this claim's proof, in one text: what each Go function answers and that its call comes to it; plain facts of lists of numbers. Conditions as each theorem names them. -/
import Derived.ArgAppend
import Derived.Below
import Derived.BigCall
import Derived.BigQuiet
import Derived.Deep.AppendLies
import Derived.Deep.CutBlock
import Derived.Deep.DeepCutAuto
import Derived.Deep.Draws
import Derived.Deep.LoopGhost
import Derived.Deep.OwnRows
import Derived.Deep.QuietTactic
import Derived.Deep.RegionHeld3
import Derived.KernelRfl
import Derived.Laws.BitsLemmas
import Derived.Laws.BytesArg
import Derived.Laws.IdiomCopy
import Derived.Laws.MakeOwn
import Derived.Laws.OwnMore
import Derived.Laws.RangeAny
import Derived.Laws.Rows
import Derived.Laws.Runes
import Derived.Laws.Slices
import Derived.Lib.AppendStr
import Derived.Lib.Bytealg
import Derived.Lib.Bytes
import Derived.Lib.ConvBytes
import Derived.Lib.Hide
import Derived.Lib.ReplaceLaws
import Derived.Maps.AppendAt
import Derived.OrdersHeld
import Derived.OwnWalk
import Derived.RowKit
import Derived.RowKit3
import Derived.Shelf.LaysM
import Derived.Shelf.Small.Strs
import Derived.Shelf.Small.Utf8
import Derived.Shelf.Strings.AsciiSet
import Derived.Shelf.Strings.Builder1
import Derived.Shelf.Strings.Builder2
import Derived.Shelf.Strings.Builder2Cap
import Derived.Shelf.Strings.BuilderF
import Derived.Shelf.Strings.BuilderK
import Derived.Shelf.Strings.Count
import Derived.Shelf.Strings.IndexAny
import Derived.Shelf.Strings.IndexAnyAll
import Derived.Shelf.Strings.LastIndex
import Derived.Shelf.Strings.OnBuilder
import Derived.Shelf.Strings.Prefix
import Derived.Shelf.Strings.Replace
import Derived.Shelf.Strings.RuneCount
import Derived.Shelf.Strings.Runes
import Derived.Shelf.Strings.Search1
import Derived.Shelf.Strings.Search2
import Derived.Shelf.Strings.Search3
import Derived.Shelf.Strings.Shaped
import Derived.Shelf.Strings.Split
import Derived.Shelf.Strings.SplitShaped
import Derived.Shelf.Unicode.Decode
import Derived.Shelf.Unicode.DecodeAny
import Derived.Shelf.Unicode.DecodeSlow
import Derived.Shelf.Utf8.RuneCount
import Derived.Tactics
import Derived.WalkKit
import Derived.WalkSmall
import Derived.WideLaws
import Derived.Test.YtjmmdphkgioooaaDoorProg
import Derived.Test.YtjmmdphkgioooaaDoorWApart
import Derived.Test.YtjmmdphkgioooaaDoorWArr
import Derived.Test.YtjmmdphkgioooaaDoorWAt
import Derived.Test.YtjmmdphkgioooaaDoorWEqStruct
import Derived.Test.YtjmmdphkgioooaaDoorWFoot
import Derived.Test.YtjmmdphkgioooaaDoorWFootNe
import Derived.Test.YtjmmdphkgioooaaDoorWFour
import Derived.Test.YtjmmdphkgioooaaDoorWGuard
import Derived.Test.YtjmmdphkgioooaaDoorWInv
import Derived.Test.YtjmmdphkgioooaaDoorWInvWords
import Derived.Test.YtjmmdphkgioooaaDoorWKept
import Derived.Test.YtjmmdphkgioooaaDoorWLast
import Derived.Test.YtjmmdphkgioooaaDoorWMake0
import Derived.Test.YtjmmdphkgioooaaDoorWMore
import Derived.Test.YtjmmdphkgioooaaDoorWN
import Derived.Test.YtjmmdphkgioooaaDoorWNEv
import Derived.Test.YtjmmdphkgioooaaDoorWQPut
import Derived.Test.YtjmmdphkgioooaaDoorWRepsOne
import Derived.Test.YtjmmdphkgioooaaDoorWShare
import Derived.Test.YtjmmdphkgioooaaDoorWTab
import Derived.Test.YtjmmdphkgioooaaDoorWWords
import Derived.Test.YtjmmdphkgioooaaDoorWZeros
section
namespace Go.Proofs.YtjmmdphkgioooaaDoor.P
open Go.RowKit Go.Proofs.YtjmmdphkgioooaaDoorW.PrintWords Go.Proofs.YtjmmdphkgioooaaDoorW.PrintLast Go.Proofs.YtjmmdphkgioooaaDoorW.PrintMore
attribute [local go_sem] max2_int min2_int max_two min_two max_three min_three max_four min_four   -- for this text's walks alone
set_option linter.unusedVariables false
set_option linter.unusedSimpArgs false
def errW : Option Int → Value
 | none => .nilIface
 | some c => .iface 0 (.int .i64 c)
theorem errW_none : errW none = .nilIface := rfl
theorem errW_some (c : Int) : errW (some c) = .iface 0 (.int .i64 c) := rfl
def rd_L1 (xs : List (List ByteArray)) (i : Int) : (List ByteArray) := xs.getD i.toNat ([] : List ByteArray)
theorem at_L1 {w : World} {A : Option Addr} {n : Nat} {xs : List (List ByteArray)} (h : Kd.C (Kd.slice 9 Kd.string) w A n xs) (i : Int) (h0 : 0 ≤ i) (h1 : i < n) : ∃ ad A0 c0, A = some ad ∧ w.cell? (ad.add i.toNat) = some (.slice A0 (rd_L1 xs i).length c0) ∧ (rd_L1 xs i).length ≤ c0 ∧ Kd.string.C w A0 (rd_L1 xs i).length (rd_L1 xs i) := by
 obtain ⟨ad, c, e, _, hK, hc0⟩ := Kd.C_get h ([] : List ByteArray) i h0 h1
 have hc : ∀ j u, c[j]? = some u → w.cell? (ad.add (i.toNat * 1 + j)) = some u := hc0
 obtain ⟨A0, c0, rfl, l0, g0⟩ := hK
 exact ⟨ad, A0, c0, e, by have hq := hc 0 _ rfl; rwa [Nat.mul_one, Nat.add_zero] at hq, l0, g0⟩
/-! #### struct type 57 -/
structure S57 where
 f0 : ByteArray
 f1 : Int
def z57 : S57 := ⟨(⟨#[]⟩ : ByteArray), (0 : Int)⟩
def k57 : Kd S57 := Kd.iso (Kd.pair Kd.string (Kd.int .i64)) (fun x : S57 => (x.f0, x.f1))
theorem k57_open {w : World} {x : S57} {cs : List Value} (h : k57.K w x cs) : cs = [.string x.f0, .int .i64 x.f1] := by
 obtain ⟨_, _, rfl, rfl, rfl⟩ := h
 exact rfl
theorem k57_mkM (w : World) (base : Nat) (ok : Nat → Prop) (x : S57)  : k57.M w base ok x [.string x.f0, .int .i64 x.f1] := ⟨[.string x.f0], [.int .i64 x.f1], rfl, rfl, rfl⟩
def rd_T57 (xs : List S57) (i : Int) : S57 := xs.getD i.toNat z57
theorem at_T57 {w : World} {A : Option Addr} {n : Nat} {xs : List S57} (h : Kd.C k57 w A n xs) (i : Int) (h0 : 0 ≤ i) (h1 : i < n) : ∃ ad , A = some ad ∧ w.cell? (ad.add (i.toNat * 2)) = some (.string (rd_T57 xs i).f0) ∧ w.cell? ⟨(ad.add (i.toNat * 2)).block, (ad.add (i.toNat * 2)).off + 1, none⟩ = some (.int .i64 (rd_T57 xs i).f1) := by
 obtain ⟨ad, c, e, _, hK, hc0⟩ := Kd.C_get h z57 i h0 h1
 have hc : ∀ j u, c[j]? = some u → w.cell? (ad.add (i.toNat * 2 + j)) = some u := hc0
 obtain rfl := k57_open hK
 exact ⟨ad, e, hc 0 _ rfl, by rw [← add_field _ _ 1 (by omega)]; exact hc 1 _ rfl⟩
end Go.Proofs.YtjmmdphkgioooaaDoor.P
end
section
namespace Go.Proofs.YtjmmdphkgioooaaDoor.La
open Go.RowKit Go.Proofs.YtjmmdphkgioooaaDoorW.PrintWords Go.Proofs.YtjmmdphkgioooaaDoorW.PrintLast Go.Proofs.YtjmmdphkgioooaaDoorW.PrintMore
theorem bytesOf_data (s : ByteArray) : bytesOf s = s.data.toList.map fun b => (b.toNat : Int) := rfl
theorem toList_data' (s : ByteArray) : s.toList = s.data.toList := ByteArray.toList_eq s
theorem map_toNat_inj {l m : List UInt8} (h : l.map (fun b => (b.toNat : Int)) = m.map fun b => (b.toNat : Int)) : l = m := by
 induction l generalizing m with
 | nil => cases m with
  | nil => rfl
  | cons a t => simp at h
 | cons a t ih => cases m with
  | nil => simp at h
  | cons b u =>
   simp only [List.map_cons, List.cons.injEq] at h
   obtain ⟨h1, h2⟩ := h
   have : a = b := UInt8.toNat_inj.1 (by omega)
   rw [this, ih h2]
theorem bytesOf_inj {s t : ByteArray} (h : bytesOf s = bytesOf t) : s = t := by
 have h1 := map_toNat_inj h
 cases s with | mk a => cases t with | mk b =>
 congr 1
 exact Array.toList_inj.1 h1
theorem toList_eq_iff (s t : ByteArray) : s.toList = t.toList ↔ bytesOf s = bytesOf t := by
 rw [toList_data', toList_data']
 exact ⟨fun h => by rw [bytesOf_data, bytesOf_data, h], fun h => map_toNat_inj h⟩
theorem toList_nil_iff (s : ByteArray) : s.toList = ([] : List UInt8) ↔ bytesOf s = [] := by
 rw [toList_data', bytesOf_data]
 simp
theorem bytesOf_append (s t : ByteArray) : bytesOf (s ++ t) = bytesOf s ++ bytesOf t := by
 simp [bytesOf_data, ByteArray.data_append]
theorem bytesOf_extract (s : ByteArray) (i j : Nat) : bytesOf (s.extract i j) = ((bytesOf s).take j).drop i := by
 simp [bytesOf_data, ByteArray.data_extract, Array.toList_extract, List.map_drop, List.map_take, List.extract, List.take_drop]
 by_cases h : i ≤ j
 ·rw [show i + (j - i) = j by omega]
 ·rw [show j - i = 0 by omega]
  simp
  omega
theorem bytesOf_drop (s : ByteArray) (i : Nat) : bytesOf (s.extract i s.size) = (bytesOf s).drop i := by
 rw [bytesOf_extract, List.take_of_length_le (by rw [bytesOf_length]; omega)]
theorem bytesOf_take (s : ByteArray) (j : Nat) : bytesOf (s.extract 0 j) = (bytesOf s).take j := by
 rw [bytesOf_extract, List.drop_zero]
def Bytes (l : List Int) : Prop := ∀ x ∈ l, 0 ≤ x ∧ x < 256
theorem bytes_of (s : ByteArray) : Bytes (bytesOf s) := by
 intro x hx
 rw [bytesOf_data] at hx
 obtain ⟨b, _, rfl⟩ := List.mem_map.1 hx
 have := b.toNat_lt
 omega
theorem Bytes.drop {l : List Int} (h : Bytes l) (n : Nat) : Bytes (l.drop n) := fun x hx => h x (List.mem_of_mem_drop hx)
theorem Bytes.take {l : List Int} (h : Bytes l) (n : Nat) : Bytes (l.take n) := fun x hx => h x (List.mem_of_mem_take hx)
theorem Bytes.append {l m : List Int} (h : Bytes l) (k : Bytes m) : Bytes (l ++ m) := fun x hx => (List.mem_append.1 hx).elim (h x) (k x)
theorem Bytes.left {l m : List Int} (h : Bytes (l ++ m)) : Bytes l := fun x hx => h x (List.mem_append.2 (.inl hx))
theorem strOfNums_bytes {l : List Int} (h : Bytes l) : bytesOf (strOfNums l) = l := by
 have : (strOfNums l).data.toList = l.map fun n => UInt8.ofNat n.toNat := by
  have := Go.Lib.strOfNums_toList l
  rw [toList_data'] at this
  exact this
 rw [bytesOf_data, this, List.map_map]
 induction l with
 | nil => rfl
 | cons a t ih =>
  have ha := h a List.mem_cons_self
  rw [List.map_cons, ih (fun x hx => h x (List.mem_cons_of_mem _ hx)) (by
   have := Go.Lib.strOfNums_toList t
   rw [toList_data'] at this
   exact this)]
  simp only [Function.comp_apply, UInt8.toNat_ofNat', List.cons.injEq, and_true]
  omega
theorem strOfNums_of (s : ByteArray) : strOfNums (bytesOf s) = s := bytesOf_inj (strOfNums_bytes (bytes_of s))
theorem size_of (s : ByteArray) : (bytesOf s).length = s.size := bytesOf_length s
theorem size_strOfNums {l : List Int} (h : Bytes l) : (strOfNums l).size = l.length := by rw [← size_of, strOfNums_bytes h]
theorem bt_get (s : ByteArray) (i : Int) : bt s i = (bytesOf s).getD i.toNat 0 := (rd_bytesOf s i).symm
theorem size_append' (s t : ByteArray) : (s ++ t).size = s.size + t.size := by
 rw [← size_of, bytesOf_append, List.length_append, size_of, size_of]
theorem size_drop (s : ByteArray) (i : Nat) : (s.extract i s.size).size = s.size - i := by
 rw [← size_of, bytesOf_drop, List.length_drop, size_of]
theorem size_take (s : ByteArray) {j : Nat} (h : j ≤ s.size) : (s.extract 0 j).size = j := by
 rw [← size_of, bytesOf_take, List.length_take, size_of]
 omega
theorem wrap_id {n : Int} (h0 : -9223372036854775808 ≤ n) (h1 : n < 9223372036854775808) : wrap64 n = n := by
 unfold wrap64
 omega
end Go.Proofs.YtjmmdphkgioooaaDoor.La
end
section
namespace Go.Proofs.YtjmmdphkgioooaaDoor.La
open Go.RowKit Go.Proofs.YtjmmdphkgioooaaDoorW.PrintWords Go.Proofs.YtjmmdphkgioooaaDoorW.PrintLast Go.Proofs.YtjmmdphkgioooaaDoorW.PrintMore
/-- Where a number stands first; -1: nowhere. -/
def idx : List Int → Int → Int
 | [], _ => -1
 | b :: l, c => if b = c then 0 else if idx l c = -1 then -1 else idx l c + 1
/-- How often a number stands there. -/
def cntB : List Int → Int → Nat
 | [], _ => 0
 | b :: l, c => if b = c then cntB l c + 1 else cntB l c
theorem u8_of {c : Int} (h0 : 0 ≤ c) (h1 : c < 256) : ((c.toNat.toUInt8).toNat : Int) = c := by
 simp only [Nat.toUInt8_eq, UInt8.toNat_ofNat']
 omega
theorem u8_eq_iff {b : UInt8} {c : Int} (h0 : 0 ≤ c) (h1 : c < 256) : b = c.toNat.toUInt8 ↔ (b.toNat : Int) = c := by
 rw [← UInt8.toNat_inj]
 have := u8_of h0 h1
 omega
theorem idx_of (l : List UInt8) {c : Int} (h0 : 0 ≤ c) (h1 : c < 256) : Lib.indexByte l c.toNat.toUInt8 = idx (l.map fun b => (b.toNat : Int)) c := by
 induction l with
 | nil => rfl
 | cons b l ih =>
  simp only [Lib.indexByte, List.map_cons, idx, ih, beq_iff_eq, u8_eq_iff h0 h1]
theorem cntB_of (l : List UInt8) {c : Int} (h0 : 0 ≤ c) (h1 : c < 256) : Lib.countByte l c.toNat.toUInt8 = cntB (l.map fun b => (b.toNat : Int)) c := by
 unfold Lib.countByte
 induction l with
 | nil => rfl
 | cons b l ih =>
  simp only [List.count_cons, List.map_cons, cntB, ih, beq_iff_eq, u8_eq_iff h0 h1]
  split <;> rfl
theorem idx_ge (l : List Int) (c : Int) : -1 ≤ idx l c ∧ idx l c < l.length := by
 induction l with
 | nil => simp [idx]
 | cons b l ih =>
  simp only [idx, List.length_cons]
  (repeat' split) <;> omega
theorem cntB_le (l : List Int) (c : Int) : cntB l c ≤ l.length := by
 induction l with
 | nil => simp [cntB]
 | cons b l ih =>
  simp only [cntB, List.length_cons]
  split <;> omega
theorem cntB_append (l m : List Int) (c : Int) : cntB (l ++ m) c = cntB l c + cntB m c := by
 induction l with
 | nil => simp [cntB]
 | cons b l ih =>
  simp only [List.cons_append, cntB, ih]
  split <;> omega
end Go.Proofs.YtjmmdphkgioooaaDoor.La
end
section
namespace Go.Proofs.YtjmmdphkgioooaaDoor.P
open Go.RowKit Go.Proofs.YtjmmdphkgioooaaDoorW.PrintWords Go.Proofs.YtjmmdphkgioooaaDoorW.PrintLast Go.Proofs.YtjmmdphkgioooaaDoorW.PrintMore
attribute [local go_sem] max2_int min2_int max_two min_two max_three min_three max_four min_four   -- for this text's walks alone
set_option linter.unusedVariables false
set_option linter.unusedSimpArgs false
/-! ### stringslite_HasPrefix: function 77 -/
def stringslite_HasPrefix.f (a0 : ByteArray) (a1 : ByteArray) : Option (Bool) := if (a0.size : Int) ≥ (a1.size : Int) then (if 0 ≤ (a1.size : Int) then (if (a1.size : Int) ≤ (a0.size : Int) then (some ((a0.extract 0 ((a1.size : Int) : Int).toNat).toList == a1.toList)) else (none)) else (none)) else (some false)
set_option maxHeartbeats 8000000 in
set_option maxRecDepth 100000 in
theorem stringslite_HasPrefix.calls (a0 : ByteArray) (a1 : ByteArray) (r : Bool) (w : World) (h : stringslite_HasPrefix.f a0 a1 = some r) :
  Calls Tryd.prog 77 #[.string a0, .string a1] w fun e w' => e = .returned (.bool r) ∧ Drawn0 w w' := by
 have H : (if (a0.size : Int) ≥ (a1.size : Int) then (if 0 ≤ (a1.size : Int) then (if (a1.size : Int) ≤ (a0.size : Int) then (some ((a0.extract 0 ((a1.size : Int) : Int).toNat).toList == a1.toList)) else (none)) else (none)) else (some false)) = some r := h
 clear h
 by_cases c3 : (a0.size : Int) ≥ (a1.size : Int)
 ·rw [if_pos c3] at H
  have c3b0 : decide ((a1.size : Int) ≤ (a0.size : Int)) = true := decide_eq_true c3
  have c3b1 : decide (a1.size ≤ a0.size) = true := decide_eq_true (Int.ofNat_le.mp c3)
  clear c3
  by_cases c4 : 0 ≤ (a1.size : Int)
  ·rw [if_pos c4] at H
   have c4b0 := eq_true c4
   have c4b1 : decide (0 ≤ (a1.size : Int)) = true := decide_eq_true c4
   clear c4
   by_cases c5 : (a1.size : Int) ≤ (a0.size : Int)
   ·rw [if_pos c5] at H
    have c5b0 := eq_true c5
    have c5b1 : decide ((a1.size : Int) ≤ (a0.size : Int)) = true := decide_eq_true c5
    clear c5
    obtain rfl := Option.some.inj H
    go_enter Tryd.func77, Tryd.ntmps77
    go_wp2
    go_ret
    exact ⟨by first | rfl | (simp; done) | (simp [*]; done), by repeat (first | exact Drawn0.refl _ | apply Drawn0.step)⟩
   ·rw [if_neg c5] at H
    exact absurd H (by simp)
  ·rw [if_neg c4] at H
   exact absurd H (by simp)
 ·rw [if_neg c3] at H
  have c3b0 : decide ((a1.size : Int) ≤ (a0.size : Int)) = false := decide_eq_false c3
  have c3b1 : decide (a1.size ≤ a0.size) = false := decide_eq_false (fun h => c3 (Int.ofNat_le.mpr h))
  clear c3
  obtain rfl := Option.some.inj H
  go_enter Tryd.func77, Tryd.ntmps77
  go_wp2
  go_ret
  exact ⟨by first | rfl | (simp; done) | (simp [*]; done), by repeat (first | exact Drawn0.refl _ | apply Drawn0.step)⟩
end Go.Proofs.YtjmmdphkgioooaaDoor.P
end
section
namespace Go.Proofs.YtjmmdphkgioooaaDoor.P
open Go.RowKit Go.Proofs.YtjmmdphkgioooaaDoorW.PrintWords Go.Proofs.YtjmmdphkgioooaaDoorW.PrintLast Go.Proofs.YtjmmdphkgioooaaDoorW.PrintMore
attribute [local go_sem] max2_int min2_int max_two min_two max_three min_three max_four min_four   -- for this text's walks alone
set_option linter.unusedVariables false
set_option linter.unusedSimpArgs false
/-! ### strings_HasPrefix: function 68 -/
def strings_HasPrefix.f (a0 : ByteArray) (a1 : ByteArray) : Option (Bool) := (stringslite_HasPrefix.f a0 a1).bind fun t237 => (some t237)
set_option maxHeartbeats 8000000 in
set_option maxRecDepth 100000 in
theorem strings_HasPrefix.calls (a0 : ByteArray) (a1 : ByteArray) (r : Bool) (w : World) (h : strings_HasPrefix.f a0 a1 = some r) :
  Calls Tryd.prog 68 #[.string a0, .string a1] w fun e w' => e = .returned (.bool r) ∧ Drawn0 w w' := by
 have H : ((stringslite_HasPrefix.f a0 a1).bind fun t237 => (some t237)) = some r := h
 clear h
 replace H := Option.bind_eq_some_iff.mp H
 obtain ⟨t237, A30, H⟩ := H
 replace H : (some t237) = some r := H
 have A3 := Aside0.mk A30
 clear A30
 obtain rfl := Option.some.inj H
 go_enter Tryd.func68, Tryd.ntmps68
 go_wp2_with (first | ((with_reducible refine gate_callee (f := 77) rfl ?_); refine goesL_ (some 7) rfl rfl Tryd.func77 (by kernel_rfl) rfl #[.string a0, .string a1] rfl (by (try simp only [List.map_toArray, List.map_cons, List.map_nil]); first | done | rfl | (simp only [List.length_drop, List.length_take]; rfl)) ?_; (with_reducible refine (stringslite_HasPrefix.calls a0 a1 t237 _ A3.out).mono ?_); rintro e w' ⟨rfl, ⟨nd, rfl⟩⟩; refine ⟨_, rfl, ?_⟩))
 go_ret
 exact ⟨by first | rfl | (simp; done) | (simp [*]; done), by repeat (first | exact Drawn0.refl _ | apply Drawn0.step)⟩
end Go.Proofs.YtjmmdphkgioooaaDoor.P
end
section
namespace Go.Proofs.YtjmmdphkgioooaaDoor.La
open Go.RowKit Go.Proofs.YtjmmdphkgioooaaDoor.P Go.Proofs.YtjmmdphkgioooaaDoorW.PrintWords Go.Proofs.YtjmmdphkgioooaaDoorW.PrintLast Go.Proofs.YtjmmdphkgioooaaDoorW.PrintMore
theorem hasPrefix_eq (s p : ByteArray) : strings_HasPrefix.f s p = some (decide ((bytesOf s).take p.size = bytesOf p)) := by
 unfold strings_HasPrefix.f stringslite_HasPrefix.f
 by_cases h : (s.size : Int) ≥ (p.size : Int)
 ·rw [if_pos h, if_pos (by omega), if_pos h, Option.bind_some]
  congr 1
  rw [Bool.eq_iff_iff, beq_iff_eq, decide_eq_true_eq, toList_eq_iff, bytesOf_take, Int.toNat_natCast]
 ·rw [if_neg h, Option.bind_some]
  congr 1
  rw [eq_comm, decide_eq_false_iff_not]
  intro e
  have := congrArg List.length e
  rw [List.length_take, size_of, size_of] at this
  omega
theorem pre_at (t : ByteArray) (i : Nat) (p : ByteArray) : strings_HasPrefix.f (t.extract i t.size) p = some (decide (((bytesOf t).drop i).take p.size = bytesOf p)) := by rw [hasPrefix_eq, bytesOf_drop]
end Go.Proofs.YtjmmdphkgioooaaDoor.La
end
section
namespace Go.Proofs
open Go.Shelf
def Tryd.lays169_ren : Go.Shelf.Ren := ⟨fun | 169 => 23 | n => n, fun | 70 => 41 | 9 => 9 | 0 => 0 | 72 => 44 | 37 => 42 | 127 => 63 | 3 => 3 | 5 => 5 | n => n, fun | n => n⟩
theorem Tryd.lays169 : Go.Proofs.Lays.n169 Tryd.prog Tryd.lays169_ren := {
 mixed := by kernel_rfl
 f169 := Tryd.func23.trans (congrArg some (by kernel_rfl))
 t0 := Tryd.underlying0
 a0 := Tryd.isAgg0
 z0 := Tryd.sizeOf0
 v0 := Tryd.zeroValue0
 t3 := Tryd.underlying3
 a3 := Tryd.isAgg3
 z3 := Tryd.sizeOf3
 v3 := Tryd.zeroValue3
 t9 := Tryd.underlying9
 a9 := Tryd.isAgg9
 z9 := Tryd.sizeOf9
 v9 := Tryd.zeroValue9
 t37 := Tryd.underlying42
 a37 := Tryd.isAgg42
 z37 := Tryd.sizeOf42
 v37 := Tryd.zeroValue42
 t70 := Tryd.underlying41
 a70 := Tryd.isAgg41
 z70 := Tryd.sizeOf41
 v70 := Tryd.zeroValue41
 t72 := Tryd.underlying44
 a72 := Tryd.isAgg44
 z72 := Tryd.sizeOf44
 v72 := Tryd.zeroValue44
 t127 := Tryd.underlying63
 a127 := Tryd.isAgg63
 z127 := Tryd.sizeOf63
 v127 := Tryd.zeroValue63 }
theorem Tryd.Builder_Extra_169 : Builder.Extra Tryd.prog Tryd.lays169_ren := {
 sizeBuilder := by kernel_rfl
 liesBuilder := by kernel_rfl
 t5 := Tryd.underlying5
 a5 := Tryd.isAgg5
 z5 := Tryd.sizeOf5
 v5 := Tryd.zeroValue5
 infoByte := by kernel_rfl
 cellsByte := by kernel_rfl
 sizeByte := by kernel_rfl
 neB5 := by decide }
def Tryd.lays119_ren : Go.Shelf.Ren := ⟨fun | 119 => 57 | n => n, fun | 21 => 21 | 4 => 4 | n => n, fun | n => n⟩
theorem Tryd.lays119 : Go.Proofs.Lays.n119 Tryd.prog Tryd.lays119_ren := {
 mixed := by kernel_rfl
 f119 := Tryd.func57.trans (congrArg some (by kernel_rfl))
 t4 := Tryd.underlying4
 a4 := Tryd.isAgg4
 z4 := Tryd.sizeOf4
 v4 := Tryd.zeroValue4
 t21 := Tryd.underlying21
 a21 := Tryd.isAgg21
 z21 := Tryd.sizeOf21
 v21 := Tryd.zeroValue21 }
theorem Tryd.utf8_ValidRune (r : Int) (w : World) :
  Calls Tryd.prog 57 #[.int .i32 r] w fun e w' => e = .returned (.bool (Lib.validRune r)) ∧ w' = w := Any.utf8_ValidRune Tryd.lays119 r w
def Tryd.lays137_ren : Go.Shelf.Ren := ⟨fun | 137 => 56 | 217 => 71 | 266 => 78 | n => n, fun | 9 => 9 | 5 => 5 | 3 => 3 | n => n, fun | n => n⟩
theorem Tryd.lays137 : Go.Proofs.Lays.n137 Tryd.prog Tryd.lays137_ren := {
 mixed := by kernel_rfl
 f137 := Tryd.func56.trans (congrArg some (by kernel_rfl))
 f217 := Tryd.func71.trans (congrArg some (by kernel_rfl))
 f266 := Tryd.func78.trans (congrArg some (by kernel_rfl))
 t3 := Tryd.underlying3
 a3 := Tryd.isAgg3
 z3 := Tryd.sizeOf3
 v3 := Tryd.zeroValue3
 t5 := Tryd.underlying5
 a5 := Tryd.isAgg5
 z5 := Tryd.sizeOf5
 v5 := Tryd.zeroValue5
 t9 := Tryd.underlying9
 a9 := Tryd.isAgg9
 z9 := Tryd.sizeOf9
 v9 := Tryd.zeroValue9 }
open Go.RowKit in
theorem Tryd.strings_IndexByte (s : ByteArray) (c : Int) (w : World) :
  Calls Tryd.prog 56 #[.string s, .int .u8 c] w fun e w' => e = .returned (.int .i64 (Lib.indexByte s.data.toList c.toNat.toUInt8)) ∧ w' = w := Any.strings_IndexByte Tryd.lays137 s c w
open Go.RowKit in
theorem Tryd.Builder_String_any_k (B b : Nat) (l : List UInt8) (w : World) (h : Lib.IsBuilderF 44 5 B b (Lib.byteCells l) w) (hBw : B ≤ w.heap.size) :
  Calls Tryd.prog 23 #[.pointer (some ⟨b, 0, none⟩)] w fun e w' => e = .returned (.string ⟨l.toArray⟩) ∧ (Lib.IsBuilderF 44 5 B b (Lib.byteCells l) w' ∧ Below B w w' ∧ Lib.OthersKept 5 (some b) w w') := Any.Builder_String_any_k Tryd.lays169 Tryd.Builder_Extra_169 B b l w h hBw
def Tryd.lays143_ren : Go.Shelf.Ren := ⟨fun | 143 => 49 | 219 => 62 | 217 => 71 | 225 => 59 | 224 => 58 | 267 => 72 | 266 => 78 | 314 => 79 | n => n, fun | 9 => 9 | 3 => 3 | 4 => 4 | 5 => 5 | 46 => 69 | 146 => 104 | 51 => 103 | n => n, fun | 1 => 0 | n => n⟩
theorem Tryd.lays143 : Go.Proofs.Lays.n143 Tryd.prog Tryd.lays143_ren := {
 mixed := by kernel_rfl
 f143 := Tryd.func49.trans (congrArg some (by kernel_rfl))
 f217 := Tryd.func71.trans (congrArg some (by kernel_rfl))
 f219 := Tryd.func62.trans (congrArg some (by kernel_rfl))
 f224 := Tryd.func58.trans (congrArg some (by kernel_rfl))
 f225 := Tryd.func59.trans (congrArg some (by kernel_rfl))
 f266 := Tryd.func78.trans (congrArg some (by kernel_rfl))
 f267 := Tryd.func72.trans (congrArg some (by kernel_rfl))
 f314 := Tryd.func79.trans (congrArg some (by kernel_rfl))
 t3 := Tryd.underlying3
 a3 := Tryd.isAgg3
 z3 := Tryd.sizeOf3
 v3 := Tryd.zeroValue3
 t4 := Tryd.underlying4
 a4 := Tryd.isAgg4
 z4 := Tryd.sizeOf4
 v4 := Tryd.zeroValue4
 t5 := Tryd.underlying5
 a5 := Tryd.isAgg5
 z5 := Tryd.sizeOf5
 v5 := Tryd.zeroValue5
 t9 := Tryd.underlying9
 a9 := Tryd.isAgg9
 z9 := Tryd.sizeOf9
 v9 := Tryd.zeroValue9
 t46 := Tryd.underlying69
 a46 := Tryd.isAgg69
 z46 := Tryd.sizeOf69
 v46 := Tryd.zeroValue69
 t51 := Tryd.underlying103
 a51 := Tryd.isAgg103
 z51 := Tryd.sizeOf103
 v51 := Tryd.zeroValue103
 t146 := Tryd.underlying104
 a146 := Tryd.isAgg104
 z146 := Tryd.sizeOf104
 v146 := Tryd.zeroValue104
 g1 := by kernel_rfl }
open Go.RowKit Go.Lib in
theorem Tryd.strings_Index_one (s : ByteArray) (c : UInt8) (w : World) :
  Calls Tryd.prog 49 #[.string s, .string ⟨#[c]⟩] w fun e w' => e = .returned (.int .i64 (Lib.indexByte s.data.toList c)) ∧ w' = w := Any.strings_Index_one Tryd.lays143 s c w
def Tryd.lays138_ren : Go.Shelf.Ren := ⟨fun | 138 => 48 | 195 => 60 | 218 => 61 | 143 => 49 | 219 => 62 | 217 => 71 | 225 => 59 | 224 => 58 | 267 => 72 | 266 => 78 | 314 => 79 | n => n, fun | 9 => 9 | 3 => 3 | 4 => 4 | 5 => 5 | 0 => 0 | 46 => 69 | 146 => 104 | 51 => 103 | n => n, fun | 1 => 0 | n => n⟩
theorem Tryd.lays138 : Go.Proofs.Lays.n138 Tryd.prog Tryd.lays138_ren := {
 mixed := by kernel_rfl
 f138 := Tryd.func48.trans (congrArg some (by kernel_rfl))
 f143 := Tryd.func49.trans (congrArg some (by kernel_rfl))
 f195 := Tryd.func60.trans (congrArg some (by kernel_rfl))
 f217 := Tryd.func71.trans (congrArg some (by kernel_rfl))
 f218 := Tryd.func61.trans (congrArg some (by kernel_rfl))
 f219 := Tryd.func62.trans (congrArg some (by kernel_rfl))
 f224 := Tryd.func58.trans (congrArg some (by kernel_rfl))
 f225 := Tryd.func59.trans (congrArg some (by kernel_rfl))
 f266 := Tryd.func78.trans (congrArg some (by kernel_rfl))
 f267 := Tryd.func72.trans (congrArg some (by kernel_rfl))
 f314 := Tryd.func79.trans (congrArg some (by kernel_rfl))
 t0 := Tryd.underlying0
 a0 := Tryd.isAgg0
 z0 := Tryd.sizeOf0
 v0 := Tryd.zeroValue0
 t3 := Tryd.underlying3
 a3 := Tryd.isAgg3
 z3 := Tryd.sizeOf3
 v3 := Tryd.zeroValue3
 t4 := Tryd.underlying4
 a4 := Tryd.isAgg4
 z4 := Tryd.sizeOf4
 v4 := Tryd.zeroValue4
 t5 := Tryd.underlying5
 a5 := Tryd.isAgg5
 z5 := Tryd.sizeOf5
 v5 := Tryd.zeroValue5
 t9 := Tryd.underlying9
 a9 := Tryd.isAgg9
 z9 := Tryd.sizeOf9
 v9 := Tryd.zeroValue9
 t46 := Tryd.underlying69
 a46 := Tryd.isAgg69
 z46 := Tryd.sizeOf69
 v46 := Tryd.zeroValue69
 t51 := Tryd.underlying103
 a51 := Tryd.isAgg103
 z51 := Tryd.sizeOf103
 v51 := Tryd.zeroValue103
 t146 := Tryd.underlying104
 a146 := Tryd.isAgg104
 z146 := Tryd.sizeOf104
 v146 := Tryd.zeroValue104
 g1 := by kernel_rfl }
open Go.RowKit Go.Lib in
theorem Tryd.strings_Count_one (s : ByteArray) (c : UInt8) (w : World) :
  Calls Tryd.prog 48 #[.string s, .string ⟨#[c]⟩] w fun e w' => e = .returned (.int .i64 (Lib.countByte s.data.toList c)) ∧ w' = w := Any.strings_Count_one Tryd.lays138 s c w
def Tryd.lays152_ren : Go.Shelf.Ren := ⟨fun | 152 => 44 | 137 => 56 | 119 => 57 | 224 => 58 | 225 => 59 | 217 => 71 | 266 => 78 | n => n, fun | 9 => 9 | 21 => 21 | 3 => 3 | 4 => 4 | 5 => 5 | 0 => 0 | 46 => 69 | n => n, fun | n => n⟩
theorem Tryd.lays152 : Go.Proofs.Lays.n152 Tryd.prog Tryd.lays152_ren := {
 mixed := by kernel_rfl
 f119 := Tryd.func57.trans (congrArg some (by kernel_rfl))
 f137 := Tryd.func56.trans (congrArg some (by kernel_rfl))
 f152 := Tryd.func44.trans (congrArg some (by kernel_rfl))
 f217 := Tryd.func71.trans (congrArg some (by kernel_rfl))
 f224 := Tryd.func58.trans (congrArg some (by kernel_rfl))
 f225 := Tryd.func59.trans (congrArg some (by kernel_rfl))
 f266 := Tryd.func78.trans (congrArg some (by kernel_rfl))
 t0 := Tryd.underlying0
 a0 := Tryd.isAgg0
 z0 := Tryd.sizeOf0
 v0 := Tryd.zeroValue0
 t3 := Tryd.underlying3
 a3 := Tryd.isAgg3
 z3 := Tryd.sizeOf3
 v3 := Tryd.zeroValue3
 t4 := Tryd.underlying4
 a4 := Tryd.isAgg4
 z4 := Tryd.sizeOf4
 v4 := Tryd.zeroValue4
 t5 := Tryd.underlying5
 a5 := Tryd.isAgg5
 z5 := Tryd.sizeOf5
 v5 := Tryd.zeroValue5
 t9 := Tryd.underlying9
 a9 := Tryd.isAgg9
 z9 := Tryd.sizeOf9
 v9 := Tryd.zeroValue9
 t21 := Tryd.underlying21
 a21 := Tryd.isAgg21
 z21 := Tryd.sizeOf21
 v21 := Tryd.zeroValue21
 t46 := Tryd.underlying69
 a46 := Tryd.isAgg69
 z46 := Tryd.sizeOf69
 v46 := Tryd.zeroValue69 }
open Go.RowKit Go.Lib in
theorem Tryd.strings_IndexRune_ascii (s : ByteArray) (r : Int) (w : World) (h0 : 0 ≤ r) (h1 : r < 128) :
  Calls Tryd.prog 44 #[.string s, .int .i32 r] w fun e w' => e = .returned (.int .i64 (Lib.indexByte s.data.toList r.toNat.toUInt8)) ∧ w' = w := Any.strings_IndexRune_ascii Tryd.lays152 s r w h0 h1
def Tryd.lays226_ren : Go.Shelf.Ren := ⟨fun | 226 => 45 | n => n, fun | 3 => 3 | 4 => 4 | n => n, fun | n => n⟩
theorem Tryd.lays226 : Go.Proofs.Lays.n226 Tryd.prog Tryd.lays226_ren := {
 mixed := by kernel_rfl
 f226 := Tryd.func45.trans (congrArg some (by kernel_rfl))
 t3 := Tryd.underlying3
 a3 := Tryd.isAgg3
 z3 := Tryd.sizeOf3
 v3 := Tryd.zeroValue3
 t4 := Tryd.underlying4
 a4 := Tryd.isAgg4
 z4 := Tryd.sizeOf4
 v4 := Tryd.zeroValue4 }
open Go.RowKit Go.Lib in
theorem Tryd.strings_shouldUseASCIISet (n : Int) (w : World) :
  Calls Tryd.prog 45 #[.int .i64 n] w fun e w' => e = .returned (.bool (decide (8 < n))) ∧ w' = w := Any.strings_shouldUseASCIISet Tryd.lays226 n w
def Tryd.lays153_ren : Go.Shelf.Ren := ⟨fun | 153 => 34 | 152 => 44 | 226 => 45 | 227 => 46 | 228 => 47 | 137 => 56 | 119 => 57 | 224 => 58 | 225 => 59 | 217 => 71 | 266 => 78 | n => n, fun | 9 => 9 | 3 => 3 | 4 => 4 | 5 => 5 | 21 => 21 | 117 => 78 | 116 => 77 | 0 => 0 | 46 => 69 | 124 => 92 | n => n, fun | n => n⟩
theorem Tryd.lays153 : Go.Proofs.Lays.n153 Tryd.prog Tryd.lays153_ren := {
 mixed := by kernel_rfl
 f119 := Tryd.func57.trans (congrArg some (by kernel_rfl))
 f137 := Tryd.func56.trans (congrArg some (by kernel_rfl))
 f152 := Tryd.func44.trans (congrArg some (by kernel_rfl))
 f153 := Tryd.func34.trans (congrArg some (by kernel_rfl))
 f217 := Tryd.func71.trans (congrArg some (by kernel_rfl))
 f224 := Tryd.func58.trans (congrArg some (by kernel_rfl))
 f225 := Tryd.func59.trans (congrArg some (by kernel_rfl))
 f226 := Tryd.func45.trans (congrArg some (by kernel_rfl))
 f227 := Tryd.func46.trans (congrArg some (by kernel_rfl))
 f228 := Tryd.func47.trans (congrArg some (by kernel_rfl))
 f266 := Tryd.func78.trans (congrArg some (by kernel_rfl))
 t0 := Tryd.underlying0
 a0 := Tryd.isAgg0
 z0 := Tryd.sizeOf0
 v0 := Tryd.zeroValue0
 t3 := Tryd.underlying3
 a3 := Tryd.isAgg3
 z3 := Tryd.sizeOf3
 v3 := Tryd.zeroValue3
 t4 := Tryd.underlying4
 a4 := Tryd.isAgg4
 z4 := Tryd.sizeOf4
 v4 := Tryd.zeroValue4
 t5 := Tryd.underlying5
 a5 := Tryd.isAgg5
 z5 := Tryd.sizeOf5
 v5 := Tryd.zeroValue5
 t9 := Tryd.underlying9
 a9 := Tryd.isAgg9
 z9 := Tryd.sizeOf9
 v9 := Tryd.zeroValue9
 t21 := Tryd.underlying21
 a21 := Tryd.isAgg21
 z21 := Tryd.sizeOf21
 v21 := Tryd.zeroValue21
 t46 := Tryd.underlying69
 a46 := Tryd.isAgg69
 z46 := Tryd.sizeOf69
 v46 := Tryd.zeroValue69
 t116 := Tryd.underlying77
 a116 := Tryd.isAgg77
 z116 := Tryd.sizeOf77
 t117 := Tryd.underlying78
 a117 := Tryd.isAgg78
 z117 := Tryd.sizeOf78
 v117 := Tryd.zeroValue78
 t124 := Tryd.underlying92
 a124 := Tryd.isAgg92
 z124 := Tryd.sizeOf92
 v124 := Tryd.zeroValue92 }
open Go.RowKit Go.Lib in
theorem Tryd.strings_IndexAny_long (hv116 : ∀ w, (zeroValue 77).run Tryd.prog w = .ok (.agg (Array.replicate 256 (.bool false))) w) (s chars : ByteArray) (w : World) (h2 : 2 ≤ chars.size) (h8 : 8 < s.size) (hs : s.size < 4294967281) (hcs : chars.size < 4294967281) (hascii : ∀ (j : Nat) b, chars.data.toList[j]? = some b → b.toNat < 128) :
  Calls Tryd.prog 34 #[.string s, .string chars] w fun e w' => e = .returned (.int .i64 (Lib.indexAny s.data.toList chars.data.toList)) ∧ w' = ((w.alloc (.cells (Lib.setCells chars.data.toList) 77)).alloc (.cells (Lib.setCells chars.data.toList) 77)) := Any.strings_IndexAny_long Tryd.lays153 hv116 (by kernel_rfl) s chars w h2 h8 hs hcs hascii
end Go.Proofs
end
section
namespace Go.Proofs.YtjmmdphkgioooaaDoor.P
open Go.RowKit Go.Proofs.YtjmmdphkgioooaaDoor.La Go.Proofs.YtjmmdphkgioooaaDoorW.PrintWords Go.Proofs.YtjmmdphkgioooaaDoorW.PrintLast Go.Proofs.YtjmmdphkgioooaaDoorW.PrintMore
abbrev IsB (B b : Nat) (bs : List Value) (w : World) : Prop := Lib.IsBuilderF 44 5 B b bs w
abbrev AtB (B b : Nat) (bs : List Value) (w : World) : Prop := Lib.BuilderAtF 44 5 B b (.pointer (some ⟨b, 0, none⟩)) bs w
theorem bsize : (Tryd.prog.info? 44).map (·.size) = some 2 := by kernel_rfl
theorem blies : liesAt Tryd.prog Tryd.prog.depth 44 (2 / Tryd.prog.cellsOf 44) 0 44 1 = true := by kernel_rfl
theorem bbyte : (Tryd.prog.info? 5).map (fun i => (i.zero, i.size, i.bytes)) = some (some (.int .u8 0), 1, 1) := by kernel_rfl
set_option maxHeartbeats 2000000 in
set_option maxRecDepth 100000 in
theorem bcheck_new (b : Nat) (w : World) (h0 : w.cell? ⟨b, 0, none⟩ = some (.pointer none)) (hsh : w.shape? b = some (44, 2)) (hfz : w.frozen? ⟨b, 0, none⟩ = false) :
  Calls Tryd.prog 33 #[.pointer (some ⟨b, 0, none⟩)] w fun e w' => e = .returned (.tuple #[]) ∧ w' = w.setCell ⟨b, 0, none⟩ (.pointer (some ⟨b, 0, none⟩)) := by
 obtain ⟨j, hj, hjs⟩ := Option.map_eq_some_iff.1 bsize
 go_enter Tryd.func33, Tryd.ntmps33
 go_wp2
 rw [Lib.run_to_unsafe w ⟨b, 0, none⟩ Tryd.underlying41 Tryd.underlying73 hj (by rw [hjs]; decide) hsh (Nat.zero_lt_succ 1)]
 simp only [Result.andThen]
 rw [Oper.upon_value]
 go_wp2
 rw [run_callFunc_extern Tryd.func43 (by kernel_rfl) (by kernel_rfl) (by kernel_rfl) (e := Extern.AbiNoEscape.same) (by kernel_rfl)]
 rw [Lib.run_noEscape]
 simp only [Result.andThen]
 rw [Oper.upon_value]
 go_wp2
 rw [Lib.run_from_unsafe w ⟨b, 0, none⟩ Tryd.underlying73 Tryd.underlying41 hj hsh blies]
 simp only [Result.andThen]
 rw [Oper.upon_value]
 go_wp2
 go_end0
 exact ⟨rfl, rfl⟩
set_option maxHeartbeats 2000000 in
set_option maxRecDepth 100000 in
theorem bcheck_used (b : Nat) (w : World) (h0 : w.cell? ⟨b, 0, none⟩ = some (.pointer (some ⟨b, 0, none⟩))) :
  Calls Tryd.prog 33 #[.pointer (some ⟨b, 0, none⟩)] w fun e w' => e = .returned (.tuple #[]) ∧ w' = w := by
 obtain ⟨j, hj, _⟩ := Option.map_eq_some_iff.1 bsize
 go_enter Tryd.func33, Tryd.ntmps33
 go_wp2
 rw [Lib.run_neq_ptr_same w _ Tryd.underlying41 hj]
 go_wp2
 go_end0
 exact ⟨rfl, rfl⟩
theorem bcheck (B b : Nat) (bs : List Value) (w : World) (h : IsB B b bs w) :
  Calls Tryd.prog 33 #[.pointer (some ⟨b, 0, none⟩)] w fun e w' => e = .returned (.tuple #[]) ∧ AtB B b bs w' ∧ Below B w w' := by
 rcases h with h | h
 ·refine (bcheck_new b w h.cell0 h.shape h.frozen0).mono ?_
  rintro e w' ⟨rfl, rfl⟩
  exact ⟨rfl, h.used _, (Below.refl B w).setCell (p := ⟨b, 0, none⟩) h.1 _⟩
 ·refine (bcheck_used b w h.cell0).mono ?_
  rintro e w' ⟨rfl, rfl⟩
  exact ⟨rfl, h, Below.refl B _⟩
theorem bblk_lt {w : World} {g : Nat} {o : Obj} (h : w.heap[g]? = some o) : g < w.heap.size := by
 rcases Nat.lt_or_ge g w.heap.size with hlt | hge
 ·exact hlt
 ·rw [Array.getElem?_eq_none hge] at h; cases h
set_option maxHeartbeats 4000000 in
set_option maxRecDepth 100000 in
/-- WriteString. -/
theorem bwrite (B b : Nat) (bs : List Value) (s : ByteArray) (w : World) (h : IsB B b bs w) (hlen : bs.length + s.size ≤ 140737488355328) (hBw : B ≤ w.heap.size) :
  Calls Tryd.prog 22 #[.pointer (some ⟨b, 0, none⟩), .string s] w fun e w' => e = .returned (.tuple #[.int .i64 s.size, .nilIface]) ∧ AtB B b (bs ++ Lib.strCells s) w' ∧ Below B w w' := by
 obtain ⟨i0, hi, hz0, hz1, hz2⟩ := info_parts bbyte
 go_enter Tryd.func22, Tryd.ntmps22
 go_wp2_with (go_at_call 33; refine (bcheck B b bs _ h).mono ?_)
 rintro e w1 ⟨rfl, h1, hb1⟩
 obtain ⟨hB, v, hbk, hown, hne⟩ := h1
 have c0 : w1.cell? ⟨b, 0, none⟩ = some (.pointer (some ⟨b, 0, none⟩)) := by rw [Lib.cell_of_heap hbk]; rfl
 have c1 : w1.cell? ⟨b, 1, none⟩ = some v := by rw [Lib.cell_of_heap hbk]; rfl
 go_wp2_with (at_builtin; refine Lib.wpList_append_own_stringF _ rfl _ _ 42 9 rfl B 5 i0 Tryd.underlying42 Tryd.underlying9 hi hz0 hz1 hz2 _ _ _ rfl hown s rfl ?c3 ?c4 ?c5 ?_)
 case c3 => unfold maxLen; omega
 case c4 => omega
 case c5 => have := hb1.size; omega
 intro v' w2 hown' hgrow _
 have hlt := bblk_lt hbk
 have hb2 : w2.heap[b]? = some (.cells #[.pointer (some ⟨b, 0, none⟩), v] 44 (0, 0)) := by
  rw [hgrow.block b hlt (fun e => hne e.symm)]
  exact hbk
 have d0 : w2.cell? ⟨b, 0, none⟩ = some (.pointer (some ⟨b, 0, none⟩)) := by rw [Lib.cell_of_heap hb2]; rfl
 have d1 : w2.cell? ⟨b, 1, none⟩ = some v := by rw [Lib.cell_of_heap hb2]; rfl
 have f1 : w2.frozen? ⟨b, 1, none⟩ = false := Lib.frozen_of_heap hb2 1
 obtain ⟨ao, n', cap, rfl⟩ : ∃ ao n' cap, v' = .slice ao n' cap := by
  rcases hown'.2 with ⟨hv, _⟩ | ⟨g, cap, cur, fz, hv, _⟩
  ·exact ⟨_, _, _, hv⟩
  ·exact ⟨_, _, _, hv⟩
 go_wp2
 go_ret2
 exact ⟨rfl, Lib.BuilderAtF.put (T := 44) (e := 5) hB hb2 (bs' := bs ++ Lib.strCells s) (by simpa [Lib.strCells_length] using hown') (by decide), (hb1.grown hgrow (by have := hb1.size; omega) (fun k hk => (hown.lt k hk).1)).setCell (p := ⟨b, 1, none⟩) hB _⟩
set_option maxHeartbeats 4000000 in
set_option maxRecDepth 100000 in
/-- WriteByte. -/
theorem bbyte_ (B b : Nat) (bs : List Value) (c : Int) (w : World) (h : IsB B b bs w) (hlen : bs.length + 1 ≤ 140737488355328) (hBw : B ≤ w.heap.size) :
  Calls Tryd.prog 82 #[.pointer (some ⟨b, 0, none⟩), .int .u8 c] w fun e w' => e = .returned .nilIface ∧ AtB B b (bs ++ [.int .u8 c]) w' ∧ Below B w w' := by
 obtain ⟨i0, hi, hz0, hz1, hz2⟩ := info_parts bbyte
 go_enter Tryd.func82, Tryd.ntmps82
 go_wp2_with (go_at_call 33; refine (bcheck B b bs _ h).mono ?_)
 rintro e w1 ⟨rfl, h1, hb1⟩
 obtain ⟨hB, v, hbk, hown, hne⟩ := h1
 have c0 : w1.cell? ⟨b, 0, none⟩ = some (.pointer (some ⟨b, 0, none⟩)) := by rw [Lib.cell_of_heap hbk]; rfl
 have c1 : w1.cell? ⟨b, 1, none⟩ = some v := by rw [Lib.cell_of_heap hbk]; rfl
 go_wp2_with (at_builtin; refine wpList_append_ownF _ rfl _ _ 42 rfl B 5 i0 (.int .u8 0) 1 1 Tryd.underlying42 hi hz0 hz1 hz2 rfl (by decide) _ _ _ rfl (hown.alloc _) ⟨w1.heap.size, 0, none⟩ 1 1 [.int .u8 c] rfl rfl ?c1 ?c2 ?c3 ?c4 ?c5 ?_)
 case c1 =>
  intro j u hj
  match j, hj with
  | 0, hj => simp at hj; subst hj; simp [Addr.add]
 case c2 => intro u hu; simp at hu; subst hu; rfl
 case c3 => unfold maxLen; omega
 case c4 => omega
 case c5 => have := hb1.size; simp; omega
 intro v' w2 hown' hgrow _
 have hlt := bblk_lt hbk
 have hb2 : w2.heap[b]? = some (.cells #[.pointer (some ⟨b, 0, none⟩), v] 44 (0, 0)) := by
  rw [hgrow.block b (by simp; omega) (fun e => hne e.symm), Lib.alloc_old w1 _ b hlt]
  exact hbk
 have d0 : w2.cell? ⟨b, 0, none⟩ = some (.pointer (some ⟨b, 0, none⟩)) := by rw [Lib.cell_of_heap hb2]; rfl
 have d1 : w2.cell? ⟨b, 1, none⟩ = some v := by rw [Lib.cell_of_heap hb2]; rfl
 have f1 : w2.frozen? ⟨b, 1, none⟩ = false := Lib.frozen_of_heap hb2 1
 obtain ⟨g, cap, rfl⟩ : ∃ g cap, v' = .slice (some ⟨g, 0, none⟩) (bs.length + 1) cap := by
  rcases hown'.2 with ⟨_, h0⟩ | ⟨g, cap, cur, fz, hv, _⟩
  ·omega
  ·exact ⟨g, cap, hv⟩
 go_wp2
 go_ret
 exact ⟨rfl, Lib.BuilderAtF.put (T := 44) (e := 5) hB hb2 (bs' := bs ++ [.int .u8 c]) (by simpa using hown') (by decide), ((hb1.alloc (by have := hb1.size; omega) _).grown hgrow (by have := hb1.size; simp; omega) (fun k hk => (hown.lt k hk).1)).setCell (p := ⟨b, 1, none⟩) hB _⟩
theorem AtB_far {B b g i : Nat} {p : Value} {bs : List Value} {w : World} (h : Lib.BuilderAtF 44 5 B b p bs w) (hg : g < B) (u : Value) : Lib.BuilderAtF 44 5 B b p bs (w.setCell ⟨g, i, none⟩ u) := by
 obtain ⟨hB, v, hb, hown, hne⟩ := h
 refine ⟨hB, v, ?_, ?_, hne⟩
 ·rw [Below.heap_setCell _ _ _ _ (show b ≠ g by omega)]; exact hb
 ·refine hown.kept (row := some g) ⟨rfl, rfl, rfl, by simp [World.setCell], fun k _ hk => Below.heap_setCell _ _ _ _ (fun e => hk (by simp [e]))⟩ (Or.inr fun e => ?_)
  have := (hown.lt g e).1
  omega
theorem IsB.far {B b g i : Nat} {bs : List Value} {w : World} (h : IsB B b bs w) (hg : g < B) (u : Value) : IsB B b bs (w.setCell ⟨g, i, none⟩ u) :=
 h.elim (fun x => .inl (AtB_far x hg u)) (fun x => .inr (AtB_far x hg u))
theorem IsB.drewN {B b : Nat} {bs : List Value} {w : World} (h : IsB B b bs w) (n : Nat) : IsB B b bs (w.drewN n) := h
theorem builder_more {B b : Nat} {l : List UInt8} {s : ByteArray} {w : World} (h : AtB B b (Lib.byteCells l ++ Lib.strCells s) w) : IsB B b (Lib.byteCells (l ++ s.data.toList)) w := by
 rw [Lib.strCells_eq, ← Lib.byteCells_append] at h
 exact .inr h
/-- String. -/
theorem bstring (B b : Nat) (l : List UInt8) (w : World) (h : IsB B b (Lib.byteCells l) w) (hBw : B ≤ w.heap.size) :
  Calls Tryd.prog 23 #[.pointer (some ⟨b, 0, none⟩)] w fun e w' => e = .returned (.string ⟨l.toArray⟩) ∧ Below B w w' :=
 (Tryd.Builder_String_any_k B b l w h hBw).mono fun _ _ h => ⟨h.1, h.2.2.1⟩
end Go.Proofs.YtjmmdphkgioooaaDoor.P
end
section
namespace Go.Proofs.YtjmmdphkgioooaaDoor.P
set_option linter.unusedVariables false
open Go.RowKit Go.Proofs.YtjmmdphkgioooaaDoor.La Go.Proofs.YtjmmdphkgioooaaDoorW.PrintWords Go.Proofs.YtjmmdphkgioooaaDoorW.PrintLast Go.Proofs.YtjmmdphkgioooaaDoorW.PrintMore
set_option maxHeartbeats 2000000 in
set_option maxRecDepth 100000 in
theorem bgrow0 (B b n : Nat) (w : World) (hB : B ≤ b) (hbk : w.heap[b]? = some (.cells #[.pointer (some ⟨b, 0, none⟩), .slice none 0 0] 44 (0, 0))) (hBw : B ≤ w.heap.size) (hn : n ≤ 281474976710656) :
  Calls Tryd.prog 55 #[.pointer (some ⟨b, 0, none⟩), .int .i64 n] w fun e w' => e = .returned (.tuple #[]) ∧ AtB B b [] w' ∧ Below B w w' := by
 obtain ⟨cs, hrun, hle, hmax⟩ := Lib.run_makeNoZero (P := Tryd.prog) w.drew #[3] 42 5 Tryd.underlying42 n hn
 have hw : IntKind.i64.wrap (IntKind.i64.wrap 0 + (n : Int)) = n := by
  rw [IntKind.wrap_i64, IntKind.wrap_i64]
  omega
 have hcall : (callFunc 70 #[.int .i64 (IntKind.i64.wrap (IntKind.i64.wrap 0 + (n : Int)))]).run Tryd.prog w.drew = .ok (.value (.slice (some ⟨w.drew.heap.size, 0, none⟩) n cs.size)) (w.drew.drew.drew.alloc (.cells cs 5)) := by
  rw [hw, run_callFunc_extern Tryd.func70 (by kernel_rfl) (by kernel_rfl) (by kernel_rfl) (e := Extern.BytealgMakeNoZero.makeNoZero #[3] #[42]) (by kernel_rfl), hrun]
  rfl
 have hlt : b < w.heap.size := bblk_lt hbk
 have c1 : w.drew.cell? ⟨b, 1, none⟩ = some (.slice none 0 0) := by
  have : w.drew.heap[b]? = _ := hbk
  rw [Lib.cell_of_heap this]; rfl
 have c2 : (w.alloc (.cells cs 5)).cell? ⟨b, 1, none⟩ = some (.slice none 0 0) := by
  have : (w.alloc (.cells cs 5)).heap[b]? = _ := (Lib.alloc_old w _ b hlt).trans hbk
  rw [Lib.cell_of_heap this]; rfl
 have f2 : (w.alloc (.cells cs 5)).frozen? ⟨b, 1, none⟩ = false := Lib.frozen_of_heap ((Lib.alloc_old w _ b hlt).trans hbk) 1
 have hcopy : ∀ W : World, (Builtin.copy_ #[42, 42] 3 #[.slice (some ⟨w.heap.size, 0, none⟩) 0 cs.size, .slice none 0 0]).run Tryd.prog W = .ok (goInt 0) W :=
  fun W => run_copy_none W 42 42 3 5 _ _ 0 cs.size 0 0 Tryd.underlying42 (by kernel_rfl) rfl
 clear hw
 have hfin := Lib.grown_fresh (T := 44) (e := 5) (cs := cs) hB hbk hBw (hmax (by unfold maxLen; omega)) (by decide)
 go_enter Tryd.func55, Tryd.ntmps55
 rw [World.setCell_alloc_past _ _ _ _ hlt] at hfin
 go_wp2
 go_region_with (fail)
 all_goals go_wp2
 all_goals (go_end0; exact ⟨rfl, Lib.BuilderAtF.of hfin.1, hfin.2⟩)
set_option maxHeartbeats 2000000 in
set_option maxRecDepth 100000 in
theorem bGrow (B b n : Nat) (w : World) (hB : B ≤ b) (hbk : w.heap[b]? = some (.cells #[.pointer none, .slice none 0 0] 44 (0, 0))) (hBw : B ≤ w.heap.size) (hn : n ≤ 281474976710656) :
  Calls Tryd.prog 42 #[.pointer (some ⟨b, 0, none⟩), .int .i64 n] w fun e w' => e = .returned (.tuple #[]) ∧ AtB B b [] w' ∧ Below B w w' := by
 have hbk1 : (w.setCell ⟨b, 0, none⟩ (.pointer (some ⟨b, 0, none⟩))).heap[b]? = some (.cells #[.pointer (some ⟨b, 0, none⟩), .slice none 0 0] 44 (0, 0)) := by
  simp [World.setCell, Array.getElem?_modify, hbk]
 have c1 : (w.setCell ⟨b, 0, none⟩ (.pointer (some ⟨b, 0, none⟩))).cell? ⟨b, 1, none⟩ = some (.slice none 0 0) := by rw [Lib.cell_of_heap hbk1]; rfl
 have hb1 : Below B w (w.setCell ⟨b, 0, none⟩ (.pointer (some ⟨b, 0, none⟩))) := (Below.refl B w).setCell (p := ⟨b, 0, none⟩) hB _
 have hU : AtB B b [] (w.setCell ⟨b, 0, none⟩ (.pointer (some ⟨b, 0, none⟩))) := Lib.BuilderAtF.of ⟨hB, .slice none 0 0, hbk1, World.ownsRow_nil _ _ _ _, by simp [Value.ownBlock]⟩
 have c1' : (w.setCell ⟨b, 0, none⟩ (.pointer (some ⟨b, 0, none⟩))).drew.cell? ⟨b, 1, none⟩ = some (.slice none 0 0) := c1
 go_enter Tryd.func42, Tryd.ntmps42
 go_wp2_with (go_at_call 33; refine (bcheck_new b w (by rw [Lib.cell_of_heap hbk]; rfl) (by simp [World.shape?, hbk]) (Lib.frozen_of_heap hbk 0)).mono ?_; rintro e w' ⟨rfl, rfl⟩)
 go_region_with (fail)
 all_goals go_wp2_with (go_at_call 55; refine (bgrow0 B b n (w.setCell ⟨b, 0, none⟩ (.pointer (some ⟨b, 0, none⟩))).drew hB hbk1 (by simpa [World.setCell, World.drew, -World.drew_eq] using hBw) hn).mono ?_; rintro e w' ⟨rfl, h1, h2⟩)
 all_goals first
  | (go_end0; exact ⟨rfl, h1, hb1.drew.trans h2⟩)
  | (go_end0; exact ⟨rfl, hU.drew, hb1.drew⟩)
end Go.Proofs.YtjmmdphkgioooaaDoor.P
end
section
namespace Go.Proofs.YtjmmdphkgioooaaDoor.La
open Go.RowKit Go.Proofs.YtjmmdphkgioooaaDoor.P Go.Proofs.YtjmmdphkgioooaaDoorW.PrintWords Go.Proofs.YtjmmdphkgioooaaDoorW.PrintLast Go.Proofs.YtjmmdphkgioooaaDoorW.PrintMore
/-- What stands between quotes, behind the first quote: its text, and how many bytes it has with the last quote. -/
def qd : List Int → Option (List Int × Nat)
 | [] => none
 | [b] => if b = 34 then some ([], 1) else none
 | b :: c :: t => if b = 34 then (if c = 34 then (qd t).map (fun p => (34 :: p.1, p.2 + 2)) else some ([], 1)) else (qd (c :: t)).map (fun p => (b :: p.1, p.2 + 1))
/-- How long the row's end is that stands here. -/
def lend (l : List Int) : Nat := if l.take 1 = [10] then 1 else if l.take 2 = [13, 10] then 2 else 0
/-- A byte that no field without quotes has. -/
def odd4 (b : Int) : Bool := b == 44 || b == 10 || b == 13 || b == 34
def pln (l : List Int) : List Int := l.takeWhile (fun b => !odd4 b)
/-- A field's text and how many bytes it has. -/
def raw (l : List Int) : Option (List Int × Nat) := if l.take 1 = [34] then (qd (l.drop 1)).map (fun p => (p.1, p.2 + 1)) else some (pln l, (pln l).length)
/-- Stands here what may not stand behind a field? -/
def fbad (l : List Int) : Prop := l ≠ [] ∧ ¬ l.take 1 = [44] ∧ lend l = 0
instance (l : List Int) : Decidable (fbad l) := by unfold fbad; infer_instance
/-- A field: its text and its bytes' number, or an error and its place. -/
def fieldS (l : List Int) (i : Nat) : (Int × Nat) ⊕ (List Int × Nat) :=
 match raw l with
 | none => .inl (4, i + l.length)
 | some p => if fbad (l.drop p.2) then .inl (4, i + p.2) else if 4096 < p.1.length then .inl (2, i) else .inr p
/-- A row, of so many fields yet. -/
def rowS : Nat → List S57 → List Int → Nat → (Int × Nat) ⊕ (List S57 × List Int × Nat)
 | 0, _, _, i => .inl (2, i)
 | k + 1, acc, l, i =>
  match fieldS l i with
  | .inl e => .inl e
  | .inr p => if (l.drop p.2).take 1 = [44] then rowS k (acc ++ [⟨strOfNums p.1, (i : Int)⟩]) (l.drop (p.2 + 1)) (i + p.2 + 1)
   else .inr (acc ++ [⟨strOfNums p.1, (i : Int)⟩], l.drop (p.2 + lend (l.drop p.2)), i + p.2 + lend (l.drop p.2))
/-- All rows, of so many yet. -/
def wholeS : Nat → List (List S57) → List Int → Nat → (Int × Nat) ⊕ List (List S57)
 | 0, rows, l, i => if l = [] then .inr rows else .inl (2, i)
 | k + 1, rows, l, i => if l = [] then .inr rows else
  match rowS 64 [] l i with
  | .inl e => .inl e
  | .inr (r, l2, j) => if rows ≠ [] ∧ r.length ≠ (rows.headD []).length then .inl (7, i) else wholeS k (rows ++ [r]) l2 j
theorem qd_none_of {l : List Int} (h : (34 : Int) ∉ l) : qd l = none := by
 induction l using qd.induct with
 | case1 => rfl
 | case2 => simp at h
 | case3 b hb => simp [qd, hb]
 | case4 t => simp at h
 | case5 c t hc => simp at h
 | case6 b c t hb ih => rw [qd, if_neg hb, ih (fun h' => h (List.mem_cons_of_mem _ h'))]; rfl
/-- Up to the first quote. -/
theorem qd_pre (a l : List Int) (h : (34 : Int) ∉ a) (hl : l ≠ []) : qd (a ++ l) = (qd l).map (fun p => (a ++ p.1, p.2 + a.length)) := by
 induction a with
 | nil => cases h' : qd l <;> simp [h']
 | cons b a ih =>
  have hb : ¬ b = 34 := fun h' => h (by rw [h']; exact List.mem_cons_self)
  have ih := ih (fun h' => h (List.mem_cons_of_mem _ h'))
  cases hal : a ++ l with
  | nil => simp [hl] at hal
  | cons c t =>
   rw [List.cons_append, hal, qd, if_neg hb, ← hal, ih]
   cases h' : qd l <;> simp; omega
theorem qd_end (l : List Int) (h : ¬ l.take 1 = [34]) : qd (34 :: l) = some ([], 1) := by
 cases l with
 | nil => rfl
 | cons c t =>
  have hc : ¬ c = 34 := fun h' => h (by rw [h']; rfl)
  rw [qd, if_pos rfl, if_neg hc]
theorem qd_two (l : List Int) : qd (34 :: 34 :: l) = (qd l).map (fun p => (34 :: p.1, p.2 + 2)) := by rw [qd, if_pos rfl, if_pos rfl]
theorem qd_len {l : List Int} : ∀ {p}, qd l = some p → p.1.length + 1 ≤ p.2 ∧ p.2 ≤ l.length := by
 induction l using qd.induct with
 | case1 => intro p h; cases h
 | case2 =>
  intro p h
  obtain rfl := Option.some.inj h
  simp
 | case3 b hb => intro p h; rw [qd, if_neg hb] at h; cases h
 | case4 t ih =>
  intro p h
  rw [qd_two] at h
  obtain ⟨q, hq, rfl⟩ := Option.map_eq_some_iff.1 h
  have := ih hq
  simp only [List.length_cons]; omega
 | case5 c t hc =>
  intro p h
  rw [qd, if_pos rfl, if_neg hc] at h
  obtain rfl := Option.some.inj h
  simp
 | case6 b c t hb ih =>
  intro p h
  rw [qd, if_neg hb] at h
  obtain ⟨q, hq, rfl⟩ := Option.map_eq_some_iff.1 h
  have := ih hq
  simp only [List.length_cons] at this ⊢; omega
theorem qd_bytes {l : List Int} (hl : Bytes l) : ∀ {p}, qd l = some p → Bytes p.1 := by
 induction l using qd.induct with
 | case1 => intro p h; cases h
 | case2 =>
  intro p h
  obtain rfl := Option.some.inj h
  intro x hx; cases hx
 | case3 b hb => intro p h; rw [qd, if_neg hb] at h; cases h
 | case4 t ih =>
  intro p h
  rw [qd_two] at h
  obtain ⟨q, hq, rfl⟩ := Option.map_eq_some_iff.1 h
  have := ih (fun x hx => hl x (List.mem_cons_of_mem _ (List.mem_cons_of_mem _ hx))) hq
  intro x hx
  rcases List.mem_cons.1 hx with rfl | hx
  ·omega
  ·exact this x hx
 | case5 c t hc =>
  intro p h
  rw [qd, if_pos rfl, if_neg hc] at h
  obtain rfl := Option.some.inj h
  intro x hx; cases hx
 | case6 b c t hb ih =>
  intro p h
  rw [qd, if_neg hb] at h
  obtain ⟨q, hq, rfl⟩ := Option.map_eq_some_iff.1 h
  have := ih (fun x hx => hl x (List.mem_cons_of_mem _ hx)) hq
  intro x hx
  rcases List.mem_cons.1 hx with rfl | hx
  ·exact hl _ List.mem_cons_self
  ·exact this x hx
theorem lend_le (l : List Int) : lend l ≤ l.length := by
 unfold lend
 split
 ·rename_i h
  have := congrArg List.length h
  simp at this; omega
 ·split
  ·rename_i h
   have := congrArg List.length h
   simp at this; omega
  ·omega
theorem pln_len (l : List Int) : (pln l).length ≤ l.length := (List.takeWhile_prefix _).length_le
theorem pln_take (l : List Int) : l.take (pln l).length = pln l := (List.prefix_iff_eq_take.1 (List.takeWhile_prefix _)).symm
theorem raw_len {l : List Int} {p : List Int × Nat} (h : raw l = some p) : p.1.length ≤ p.2 ∧ p.2 ≤ l.length := by
 unfold raw at h
 split at h
 ·rename_i h1
  obtain ⟨q, hq, rfl⟩ := Option.map_eq_some_iff.1 h
  have := qd_len hq
  have h2 := congrArg List.length h1
  simp at this h2 ⊢; omega
 ·obtain rfl := Option.some.inj h
  have := pln_len l
  simp; omega
theorem raw_bytes {l : List Int} {p : List Int × Nat} (hl : Bytes l) (h : raw l = some p) : Bytes p.1 := by
 unfold raw at h
 split at h
 ·obtain ⟨q, hq, rfl⟩ := Option.map_eq_some_iff.1 h
  exact qd_bytes (p := q) (hl.drop 1) hq
 ·obtain rfl := Option.some.inj h
  intro x hx
  exact hl x ((List.takeWhile_prefix _).subset hx)
theorem fieldS_len {l : List Int} {i : Nat} {p : List Int × Nat} (h : fieldS l i = .inr p) : p.1.length ≤ 4096 ∧ p.1.length ≤ p.2 ∧ p.2 ≤ l.length := by
 unfold fieldS at h
 cases hr : raw l with
 | none => rw [hr] at h; cases h
 | some q =>
  rw [hr] at h
  have := raw_len hr
  simp only at h
  split at h
  ·cases h
  ·split at h
   ·cases h
   ·obtain rfl := Sum.inr.inj h
    omega
/-- A text with its quotes doubled. -/
def dbl (s : List Int) : List Int := s.flatMap (fun b => if b = 34 then [34, 34] else [b])
theorem dbl_cons (b : Int) (s : List Int) : dbl (b :: s) = (if b = 34 then [34, 34] else [b]) ++ dbl s := rfl
theorem dbl_nil : dbl [] = [] := rfl
theorem dbl_append (s t : List Int) : dbl (s ++ t) = dbl s ++ dbl t := by simp [dbl]
theorem dbl_len (s : List Int) : s.length ≤ (dbl s).length ∧ (dbl s).length ≤ 2 * s.length := by
 induction s with
 | nil => simp [dbl]
 | cons b s ih =>
  rw [dbl_cons, List.length_append, List.length_cons]
  split <;> simp <;> omega
theorem dbl_bytes {s : List Int} (h : Bytes s) : Bytes (dbl s) := by
 intro x hx
 obtain ⟨b, hb, hx⟩ := List.mem_flatMap.1 hx
 have := h b hb
 split at hx <;> simp at hx <;> omega
theorem dbl_id {s : List Int} (h : (34 : Int) ∉ s) : dbl s = s := by
 induction s with
 | nil => rfl
 | cons b s ih =>
  have hb : ¬ b = 34 := fun h' => h (by rw [h']; exact List.mem_cons_self)
  rw [dbl_cons, if_neg hb, ih (fun h' => h (List.mem_cons_of_mem _ h'))]; rfl
theorem qd_dbl (s r : List Int) (hr : ¬ r.take 1 = [34]) : qd (dbl s ++ 34 :: r) = some (s, (dbl s).length + 1) := by
 induction s with
 | nil => rw [dbl_nil, List.nil_append, qd_end r hr]; rfl
 | cons b s ih =>
  rw [dbl_cons]
  by_cases hb : b = 34
  ·rw [if_pos hb, List.append_assoc]
   show qd (34 :: 34 :: (dbl s ++ 34 :: r)) = _
   rw [qd_two, ih, hb]; simp
  ·rw [if_neg hb, List.append_assoc, qd_pre [b] _ (by simp; exact fun h => hb h.symm) (by simp), ih]; simp
theorem raw_quoted (s r : List Int) (hr : ¬ r.take 1 = [34]) : raw (34 :: (dbl s ++ 34 :: r)) = some (s, (dbl s).length + 2) := by
 unfold raw
 rw [if_pos (by rfl), List.drop_one, List.tail_cons, qd_dbl s r hr]; rfl
theorem pln_pre (s r : List Int) (hs : ∀ b ∈ s, odd4 b = false) (hr : ∀ b ∈ r.head?, odd4 b = true) : pln (s ++ r) = s := by
 induction s with
 | nil =>
  cases r with
  | nil => rfl
  | cons c r => simp [pln, hr c (by simp)]
 | cons b s ih =>
  have h1 := ih (fun x hx => hs x (List.mem_cons_of_mem _ hx))
  have h2 := hs b List.mem_cons_self
  unfold pln at h1 ⊢
  simp [h2, h1]
theorem raw_plain (s r : List Int) (hs : ∀ b ∈ s, odd4 b = false) (hr : ∀ b ∈ r.head?, odd4 b = true) (h34 : ¬ r.take 1 = [34]) : raw (s ++ r) = some (s, s.length) := by
 unfold raw
 rw [if_neg, pln_pre s r hs hr]
 intro h
 cases s with
 | nil => exact h34 h
 | cons b s =>
  have h1 := hs b List.mem_cons_self
  rw [(List.cons.inj h).1] at h1
  exact absurd h1 (by decide)
/-- A field that is good, and what stands behind it. -/
theorem fieldS_of {l : List Int} {i : Nat} {p : List Int × Nat} (h : raw l = some p) (h1 : ¬ fbad (l.drop p.2)) (h2 : p.1.length ≤ 4096) : fieldS l i = .inr p := by
 unfold fieldS
 rw [h]
 simp only
 rw [if_neg h1, if_neg (by omega)]
theorem idx_none {l : List Int} {c : Int} (h : idx l c < 0) : c ∉ l := by
 induction l with
 | nil => simp
 | cons b l ih =>
  have := idx_ge l c
  simp only [idx] at h
  split at h
  ·omega
  ·rename_i hb
   split at h
   ·rename_i h1
    intro hc
    rcases List.mem_cons.1 hc with rfl | hc
    ·exact hb rfl
    ·exact ih (by omega) hc
   ·omega
theorem idx_some {l : List Int} {c : Int} (h : 0 ≤ idx l c) : ∃ n : Nat, idx l c = n ∧ n < l.length ∧ l = l.take n ++ c :: l.drop (n + 1) ∧ c ∉ l.take n := by
 induction l with
 | nil => simp [idx] at h
 | cons b l ih =>
  have := idx_ge l c
  simp only [idx] at h ⊢
  split
  ·rename_i hb
   exact ⟨0, rfl, by simp, by simp [hb], by simp⟩
  ·rename_i hb
   rw [if_neg hb] at h
   split at h
   ·omega
   ·rename_i h1
    rw [if_neg h1]
    obtain ⟨n, h2, h3, h4, h5⟩ := ih (by omega)
    refine ⟨n + 1, by omega, by simp; omega, ?_, ?_⟩
    ·rw [List.take_succ_cons, List.drop_succ_cons, List.cons_append, ← h4]
    ·rw [List.take_succ_cons]
     intro hc
     rcases List.mem_cons.1 hc with rfl | hc
     ·exact hb rfl
     ·exact h5 hc
def toI (l : List UInt8) : List Int := l.map fun b => (b.toNat : Int)
theorem toI_append (l m : List UInt8) : toI (l ++ m) = toI l ++ toI m := by simp [toI]
theorem mk_of (l : List UInt8) : (⟨l.toArray⟩ : ByteArray) = strOfNums (toI l) := by
 apply bytesOf_inj
 have hB : Bytes (toI l) := by
  intro x hx
  obtain ⟨b, _, rfl⟩ := List.mem_map.1 hx
  have := b.toNat_lt
  omega
 rw [strOfNums_bytes hB]
 simp [bytesOf_data, toI]
/-- The rest of a text between quotes, a piece of it being read. -/
theorem qd_step {L : List Int} {j n : Nat} {res : Option (List Int × Nat)} {acc : List Int} {m : Nat} (hr : res = (qd (L.drop j)).map (fun p => (acc ++ p.1, p.2 + m))) (hn : n < (L.drop j).length) (hd : L.drop j = (L.drop j).take n ++ 34 :: (L.drop j).drop (n + 1)) (h34 : (34 : Int) ∉ (L.drop j).take n) :
  (¬ (L.drop (j + n + 1)).take 1 = [34] → res = some (acc ++ (L.drop j).take n, n + 1 + m)) ∧
  ((L.drop (j + n + 1)).take 1 = [34] → res = (qd (L.drop (j + n + 2))).map (fun p => ((acc ++ (L.drop j).take n) ++ [34] ++ p.1, p.2 + (m + n + 2)))) := by
 have e1 : (L.drop j).drop (n + 1) = L.drop (j + n + 1) := by rw [List.drop_drop]; congr 1
 have hl : ((L.drop j).take n).length = n := by rw [List.length_take]; omega
 rw [e1] at hd
 have hq : qd (L.drop j) = (qd (34 :: L.drop (j + n + 1))).map (fun p => ((L.drop j).take n ++ p.1, p.2 + n)) := by
  have := qd_pre ((L.drop j).take n) (34 :: L.drop (j + n + 1)) h34 (by simp)
  rw [hl, ← hd] at this
  exact this
 constructor
 ·intro h
  rw [hr, hq, qd_end _ h]
  simp; omega
 ·intro h
  have e2 : L.drop (j + n + 1) = 34 :: L.drop (j + n + 2) := by
   match hx : L.drop (j + n + 1), h with
   | a :: t, h =>
    obtain rfl : a = 34 := by simpa using h
    have : L.drop (j + n + 2) = (L.drop (j + n + 1)).drop 1 := by rw [List.drop_drop]
    rw [this, hx]; rfl
  rw [hr, hq, e2, qd_two]
  cases qd (L.drop (j + n + 2)) with
  | none => rfl
  | some p => simp; omega
end Go.Proofs.YtjmmdphkgioooaaDoor.La
end
section
namespace Go.Proofs.YtjmmdphkgioooaaDoor.P
set_option linter.unusedVariables false
open Go.RowKit Go.Proofs.YtjmmdphkgioooaaDoor.La Go.Proofs.YtjmmdphkgioooaaDoorW.PrintWords Go.Proofs.YtjmmdphkgioooaaDoorW.PrintLast Go.Proofs.YtjmmdphkgioooaaDoorW.PrintMore
abbrev Q1 : ByteArray := ⟨#[34]⟩
abbrev Q2 : ByteArray := ⟨#[34, 34]⟩
/-- The bytes of a builder. -/
def bl (l : List UInt8) : List Int := l.map fun b => (b.toNat : Int)
theorem bl_append (a b : List UInt8) : bl (a ++ b) = bl a ++ bl b := List.map_append
theorem bl_data (s : ByteArray) : bl s.data.toList = bytesOf s := rfl
theorem bytes_mk (l : List UInt8) : bytesOf ⟨l.toArray⟩ = bl l := by rw [bytesOf_data]; rfl
theorem q_idx (s : ByteArray) : Lib.indexByte s.data.toList 34 = idx (bytesOf s) 34 := idx_of s.data.toList (c := 34) (by omega) (by omega)
theorem q_cnt (s : ByteArray) : Lib.countByte s.data.toList 34 = cntB (bytesOf s) 34 := cntB_of s.data.toList (c := 34) (by omega) (by omega)
theorem cnt_pos {l : List Int} {c : Int} (h : 0 < cntB l c) : 0 ≤ idx l c := by
 induction l with
 | nil => simp [cntB] at h
 | cons b l ih =>
  rw [cntB] at h
  rw [idx]
  split
  ·omega
  ·rename_i hb
   rw [if_neg hb] at h
   have := ih (by omega)
   split <;> omega
theorem cnt_zero {l : List Int} {c : Int} (h : c ∉ l) : cntB l c = 0 := by
 induction l with
 | nil => rfl
 | cons b l ih =>
  rw [cntB, if_neg (fun e => h (by rw [e]; exact List.mem_cons_self)), ih (fun e => h (List.mem_cons_of_mem _ e))]
theorem cnt_not {l : List Int} {c : Int} (h : cntB l c = 0) : c ∉ l := by
 induction l with
 | nil => simp
 | cons b l ih =>
  rw [cntB] at h
  split at h
  ·omega
  ·rename_i hb
   intro hm
   rcases List.mem_cons.1 hm with e | e
   ·exact hb e.symm
   ·exact ih (by omega) e
theorem repl_cnt0 (s : ByteArray) (h : cntB (bytesOf s) 34 = 0) : dbl (bytesOf s) = bytesOf s := dbl_id (cnt_not h)
set_option maxHeartbeats 4000000 in
set_option maxRecDepth 100000 in
theorem repl_none (s : ByteArray) (h : cntB (bytesOf s) 34 = 0) (w : World) :
  Calls Tryd.prog 35 #[.string s, .string Q1, .string Q2, .int .i64 (-1)] w fun e w' => e = .returned (.string s) ∧ w' = w := by
 have hC := Tryd.strings_Count_one s 34 w
 rw [q_cnt, h] at hC
 go_enter Tryd.func35, Tryd.ntmps35
 go_wp2_with (first | (go_at_call 48; refine hC.mono ?_; rintro e w' ⟨rfl, hw⟩; rw [hw]))
 go_ret
 exact ⟨rfl, rfl⟩
set_option maxHeartbeats 8000000 in
set_option maxRecDepth 100000 in
theorem repl_some (s : ByteArray) (K : Nat) (hK : cntB (bytesOf s) 34 = K) (hK1 : 1 ≤ K) (hs : s.size ≤ 35184372088832) (w : World) :
  Calls Tryd.prog 35 #[.string s, .string Q1, .string Q2, .int .i64 (-1)] w fun e w' => e = .returned (.string (strOfNums (dbl (bytesOf s)))) ∧ Below w.heap.size w w' := by
 have hC := Tryd.strings_Count_one s 34 w
 rw [q_cnt, hK] at hC
 have hKs : K ≤ s.size := by rw [← hK, ← size_of]; exact cntB_le _ _
 have hcz : ((K : Int) == 0) = false := beq_eq_false_iff_ne.2 (by omega)
 have hga : IntKind.i64.wrap ((s.size : Int) + IntKind.i64.wrap ((K : Int) * IntKind.i64.wrap (2 - 1))) = ((s.size + K : Nat) : Int) := by
  simp only [IntKind.wrap_i64]; omega
 go_enter Tryd.func35, Tryd.ntmps35
 go_wp2_with (first | (go_at_call 48; refine hC.mono ?_; rintro e w' ⟨rfl, hw⟩; rw [hw]))
 clear hC
 try rw [hga]
 refine (bGrow w.heap.size w.heap.size (s.size + K) _ (Nat.le_refl _) (heap_alloc_new w _) (by simp) (by omega)).mono ?_
 rintro e w1 ⟨rfl, hb0, hb1⟩
 have H1 := Lib.hid (Or.inr hb0 : IsB w.heap.size w.heap.size (Lib.byteCells []) w1)
 have Hb1 := Lib.hid (((Below.refl w.heap.size w).alloc (Nat.le_refl _) _).trans hb1)
 clear hb0 hb1 hga
 go_wp2_with fail
 go_loopg [11, 53] K (fun g s11 s53 wx => ∃ (i start : Nat) (acc : List UInt8), s53 = .int .i64 i ∧ s11 = .int .i64 start ∧ i + g = K ∧ start ≤ s.size ∧
  Hid (IsB w.heap.size w.heap.size (Lib.byteCells acc) wx) ∧ Hid (Below w.heap.size w wx) ∧ Hid (bl acc ++ dbl ((bytesOf s).drop start) = dbl (bytesOf s)) ∧
  Hid (cntB ((bytesOf s).drop start) 34 = g) ∧ acc.length ≤ 2 * start)
 case atStart => exact ⟨0, 0, [], rfl, rfl, by omega, Nat.zero_le _, H1, Hb1, Lib.hid rfl, Lib.hid hK, Nat.le_refl _⟩
 case round =>
  obtain ⟨i, start, acc, rfl, rfl, hig, hst, HB, HW, HR, HC, hbd⟩ := hrel
  have hBw : w.heap.size ≤ wr.heap.size := HW.out.size
  have c1 : (0 : Int) ≤ (start : Int) := by omega
  have c2 : (start : Int) ≤ (s.size : Int) := by omega
  have hex : bytesOf (s.extract start s.size) = (bytesOf s).drop start := bytesOf_drop s start
  cases gk with
  | zero =>
   have hiK : ¬ ((i : Int) < (K : Int)) := by omega
   have hfin : bl (acc ++ (s.extract start s.size).data.toList) = dbl (bytesOf s) := by
    rw [bl_append, bl_data, hex, ← HR.out, dbl_id (cnt_not HC.out)]
   have hstr : (⟨(acc ++ (s.extract start s.size).data.toList).toArray⟩ : ByteArray) = strOfNums (dbl (bytesOf s)) := by
    apply bytesOf_inj
    rw [bytes_mk, hfin, strOfNums_bytes (dbl_bytes (bytes_of s))]
   have Hfin := Lib.hid hstr
   clear hstr
   clear hfin hex
   go_wp2_with fail
   refine (bwrite w.heap.size w.heap.size _ (s.extract start s.size) wr HB.out (by rw [Lib.byteCells_length, size_drop]; omega) hBw).mono ?_
   rintro e w3 ⟨rfl, h3, hb3⟩
   have h3 := builder_more h3
   have H3 := Lib.hid h3
   have Hb3 := Lib.hid (HW.out.trans hb3)
   have hBw3 : w.heap.size ≤ w3.heap.size := Hb3.out.size
   clear h3 hb3
   go_wp2_with fail
   refine (bstring w.heap.size w.heap.size _ w3 H3.out hBw3).mono ?_
   rintro e w5 ⟨rfl, hb5⟩
   rw [Hfin.out]
   have Hb5 := Lib.hid (Hb3.out.trans hb5)
   clear hb5
   go_wp2
   go_ret
   exact ⟨rfl, Hb5.out⟩
  | succ g =>
   have hiK : (i : Int) < (K : Int) := by omega
   obtain ⟨j, hj, hjl, hsp, hno⟩ := idx_some (cnt_pos (l := (bytesOf s).drop start) (c := 34) (by rw [HC.out]; omega))
   rw [List.length_drop, size_of] at hjl
   have hIx := Tryd.strings_Index_one (s.extract start s.size) 34 wr
   rw [q_idx, hex, hj] at hIx
   have c3 : (start : Int) ≤ (start : Int) + (j : Int) := by omega
   have c4 : (start : Int) + (j : Int) ≤ (s.size : Int) := by omega
   have HS := Lib.hid hsp
   have HN := Lib.hid hno
   have HJ := Lib.hid hj
   clear hsp hno hj hex
   go_wp2_with (first | (go_at_call 49; refine hIx.mono ?_; rintro e w' ⟨rfl, hw⟩; rw [hw]))
   refine (bwrite w.heap.size w.heap.size _ (s.extract start (start + j)) wr HB.out (by rw [Lib.byteCells_length, ByteArray.size_extract]; omega) hBw).mono ?_
   rintro e w3 ⟨rfl, h3, hb3⟩
   have h3 := builder_more h3
   have hBw3 : w.heap.size ≤ w3.heap.size := Nat.le_trans hBw hb3.size
   have H3 := Lib.hid h3
   have Hb3 := Lib.hid hb3
   clear h3 hb3
   have hl3 : (acc ++ (s.extract start (start + j)).data.toList).length = acc.length + j := by
    rw [List.length_append, ← Lib.size_eq, ByteArray.size_extract]; omega
   have HL3 := Lib.hid hl3
   clear hl3
   go_wp2_with fail
   refine (bwrite w.heap.size w.heap.size _ Q2 w3 H3.out (by rw [Lib.byteCells_length, HL3.out]; show _ + 2 ≤ _; omega) hBw3).mono ?_
   rintro e w4 ⟨rfl, h4, hb4⟩
   have h4 := builder_more h4
   have H4 := Lib.hid h4
   have Hb4 := Lib.hid ((HW.out.trans Hb3.out).trans hb4)
   clear h4 hb4
   have hex2 : bytesOf (s.extract start (start + j)) = ((bytesOf s).drop start).take j := by rw [bytesOf_extract, List.drop_take, Nat.add_sub_cancel_left]
   have hdr : ((bytesOf s).drop start).drop (j + 1) = (bytesOf s).drop (start + j + 1) := by rw [List.drop_drop, Nat.add_assoc]
   have hrel : bl ((acc ++ (s.extract start (start + j)).data.toList) ++ Q2.data.toList) ++ dbl ((bytesOf s).drop (start + j + 1)) = dbl (bytesOf s) := by
    rw [← HR.out, HS.out, dbl_append, dbl_cons, if_pos rfl, dbl_id HN.out, hdr, bl_append, bl_append, bl_data, hex2]
    simp [bl]
   have hcn : cntB ((bytesOf s).drop (start + j + 1)) 34 = g := by
    have h := HC.out
    rw [HS.out, cntB_append, cnt_zero HN.out, cntB, if_pos rfl, hdr] at h
    omega
   have HREL := Lib.hid hrel
   have HCN := Lib.hid hcn
   have hln : ((acc ++ (s.extract start (start + j)).data.toList) ++ Q2.data.toList).length ≤ 2 * (start + j + 1) := by
    rw [List.length_append, HL3.out]; show _ + 2 ≤ _; omega
   have HLN := Lib.hid hln
   clear hrel hcn hln hex2 hdr
   go_wp2
   go_roundg g
   case measure => omega
   case rel => exact ⟨i + 1, start + j + 1, _, by first | rfl | (simp; unfold wrap64; omega), by first | rfl | simp | (simp; unfold wrap64; omega), by omega, by omega, H4, Hb4, HREL, HCN, HLN.out⟩
end Go.Proofs.YtjmmdphkgioooaaDoor.P
end
section
namespace Go.Proofs.YtjmmdphkgioooaaDoor.P
open Go.RowKit Go.Proofs.YtjmmdphkgioooaaDoor.La Go.Proofs.YtjmmdphkgioooaaDoorW.PrintWords Go.Proofs.YtjmmdphkgioooaaDoorW.PrintLast Go.Proofs.YtjmmdphkgioooaaDoorW.PrintMore
def strings_IndexByte.f (a0 : ByteArray) (a1 : Int) : Option Int := if 0 ≤ a1 ∧ a1 < 256 then some (idx (bytesOf a0) a1) else none
theorem strings_IndexByte.calls (a0 : ByteArray) (a1 : Int) (r : Int) (w : World) (h : strings_IndexByte.f a0 a1 = some r) :
  Calls Tryd.prog 56 #[.string a0, .int .u8 a1] w fun e w' => e = .returned (.int .i64 r) ∧ Drawn0 w w' := by
 unfold strings_IndexByte.f at h
 split at h
 ·rename_i hc
  obtain rfl := Option.some.inj h
  refine (Tryd.strings_IndexByte a0 a1 w).mono fun e w' he => ?_
  obtain ⟨rfl, rfl⟩ := he
  exact ⟨by rw [idx_of _ hc.1 hc.2]; rfl, Drawn0.refl _⟩
 ·cases h
def strings_Count.f (a0 a1 : ByteArray) : Option Int := if a1.size = 1 then some (cntB (bytesOf a0) (bt a1 0) : Int) else none
theorem strings_Count.calls (a0 a1 : ByteArray) (r : Int) (w : World) (h : strings_Count.f a0 a1 = some r) :
  Calls Tryd.prog 48 #[.string a0, .string a1] w fun e w' => e = .returned (.int .i64 r) ∧ Drawn0 w w' := by
 unfold strings_Count.f at h
 split at h
 ·rename_i hc
  obtain rfl := Option.some.inj h
  have hb := bt_range a1 0
  have ha : a1 = ⟨#[(bt a1 0).toNat.toUInt8]⟩ := by
   apply bytesOf_inj
   have hl : (bytesOf a1).length = 1 := by rw [size_of, hc]
   match hm : bytesOf a1, hl with
   | [x], _ =>
    have h1 : bt a1 0 = x := by rw [bt_get, hm]; rfl
    have h2 := bytes_of a1 x (by rw [hm]; exact List.mem_cons_self)
    rw [h1]
    simp only [bytesOf_data, List.map_cons, List.map_nil, u8_of h2.1 h2.2]
  have := Tryd.strings_Count_one a0 (bt a1 0).toNat.toUInt8 w
  rw [← ha] at this
  refine this.mono fun e w' he => ?_
  obtain ⟨rfl, rfl⟩ := he
  exact ⟨by rw [cntB_of _ hb.1 (by omega)]; rfl, Drawn0.refl _⟩
 ·cases h
end Go.Proofs.YtjmmdphkgioooaaDoor.P
end
section
namespace Go.Proofs.YtjmmdphkgioooaaDoor.P
open Go.RowKit Go.Proofs.YtjmmdphkgioooaaDoor.La Go.Proofs.YtjmmdphkgioooaaDoorW.PrintWords Go.Proofs.YtjmmdphkgioooaaDoorW.PrintLast Go.Proofs.YtjmmdphkgioooaaDoorW.PrintMore
/-- The bytes of a letter that is no ASCII. -/
theorem decode_bytes (s : ByteArray) (pos : Nat) (h : pos < s.size) (ha : 128 ≤ (s[pos]'h).toNat) : pos + (Utf8.decode s pos).2 ≤ s.size ∧ ∀ k, k < (Utf8.decode s pos).2 → 128 ≤ (s.get! (pos + k)).toNat := by
 have h0 : 128 ≤ (s.get! (pos + 0)).toNat := by rw [get_at s pos h]; exact ha
 have hn : ¬ (s.get! (pos + 0)).toNat < 128 := by omega
 unfold Utf8.decode
 simp only [hn, if_false]
 repeat' split
 all_goals (try simp only [Bool.and_eq_true, beq_iff_eq, decide_eq_true_eq] at *)
 all_goals refine ⟨by omega, fun k hk => ?_⟩
 all_goals
  match k with
  | 0 => exact h0
  | 1 => omega
  | 2 => omega
  | 3 => omega
  | k + 4 => omega
set_option maxRecDepth 100000 in
set_option maxHeartbeats 8000000 in
theorem idxRune_high (chars : ByteArray) (h4 : chars.size = 4) (hc : ∀ (j : Nat) b, chars.data.toList[j]? = some b → b.toNat < 128) (r : Int) (h0 : 128 ≤ r) (h1 : r ≤ 2147483647) (w : World) :
  Calls Tryd.prog 44 #[.string chars, .int .i32 r] w fun e w' => e = .returned (.int .i64 (-1)) ∧ Below w.heap.size w w' := by
 have HA := Lib.hid hc
 clear hc
 have d1 : decide (r < 128) = false := decide_eq_false (by omega)
 have d2 : decide (0 ≤ r) = true := decide_eq_true (by omega)
 by_cases hre : r = 65533
 ·have d3 : (r == 65533) = true := beq_iff_eq.2 hre
  clear hre
  go_enter Tryd.func44, Tryd.ntmps44
  go_wp2_with fail
  go_loopg [] 4 (fun g wx => ∃ i : Nat, i + g = 4 ∧ wx = w.iter chars i)
  case atStart => exact ⟨0, rfl, rfl⟩
  case round =>
   obtain ⟨i, hig, rfl⟩ := hrel
   cases gk with
   | zero =>
    obtain rfl : i = 4 := by omega
    have hnx := run_next_end (P := Tryd.prog) w chars 4
    go_wp2
    go_ret
    exact ⟨rfl, below_alloc (Below.refl _ _) _⟩
   | succ g =>
    have hi : i < chars.size := by omega
    obtain ⟨x, hx⟩ : ∃ x : UInt8, chars[i]'hi = x := ⟨_, rfl⟩
    have hx128 : x.toNat < 128 := HA.out i x (by rw [← hx]; exact Lib.data_getElem? chars i hi)
    have hnx := fun ty => run_next_ascii (P := Tryd.prog) w chars i ty hi (by rw [hx]; exact hx128)
    rw [hx] at hnx
    have d4 : ((x.toNat : Int) == 65533) = false := beq_eq_false_iff_ne.2 (by omega)
    clear hx
    go_wp2_with fail
    go_roundg g
    case measure => omega
    case rel => exact ⟨i + 1, by omega, rfl⟩
 ·have d3 : (r == 65533) = false := beq_eq_false_iff_ne.2 hre
  clear hre
  cases hv : Lib.validRune r with
  | false =>
   go_enter Tryd.func44, Tryd.ntmps44
   go_wp2_with fail
   refine (Tryd.utf8_ValidRune r w).mono ?_
   rintro e w' ⟨rfl, rfl⟩
   rw [hv]
   go_wp2
   go_ret
   exact ⟨rfl, Below.refl _ _⟩
  | true =>
   go_enter Tryd.func44, Tryd.ntmps44
   go_wp2_with fail
   refine (Tryd.utf8_ValidRune r w).mono ?_
   rintro e w' ⟨rfl, rfl⟩
   rw [hv]
   have hv2 := (validRune_eq r).trans (show _ = true from hv)
   obtain ⟨e2, e4, el⟩ := encode_facts r hv2 h0
   go_wp2_with fail
   go_step3
   go_wp2_with fail
   generalize Utf8.encode r = rs at e2 e4 el ⊢
   obtain ⟨m, hm⟩ : ∃ m : Nat, rs.size = m + 1 := ⟨rs.size - 1, by omega⟩
   have hlt : m < rs.size := by omega
   have hlc : m < chars.size := by omega
   obtain ⟨y, hy⟩ : ∃ y : UInt8, rs[m]'hlt = y := ⟨_, rfl⟩
   have hy128 : 128 ≤ y.toNat := by
    have := el (by omega)
    simp only [hm, Nat.add_sub_cancel] at this
    rw [← hy]; exact this
   rw [show (rs.size : Int) - 1 = (m : Int) by omega]
   obtain ⟨x, hx⟩ : ∃ x : UInt8, chars[m]'hlc = x := ⟨_, rfl⟩
   have hx128 : x.toNat < 128 := HA.out m x (by rw [← hx]; exact Lib.data_getElem? chars m hlc)
   have hxy : ((x.toNat : Int) != (y.toNat : Int)) = true := bne_iff_ne.2 (by omega)
   have HB := Lib.hid (show strings_IndexByte.f (chars.extract (m + 1) chars.size) (y.toNat : Int) = some (-1) by
    have h1 := y.toNat_lt
    unfold strings_IndexByte.f
    rw [if_pos (by omega)]
    have h2 := idx_ge (bytesOf (chars.extract (m + 1) chars.size)) (y.toNat : Int)
    have h3 : ¬ 0 ≤ idx (bytesOf (chars.extract (m + 1) chars.size)) (y.toNat : Int) := by
     intro h
     obtain ⟨n, _, h4, h5, _⟩ := idx_some h
     have h6 : (y.toNat : Int) ∈ bytesOf (chars.extract (m + 1) chars.size) := by rw [h5]; simp
     rw [bytesOf_drop] at h6
     have h7 := List.mem_of_mem_drop h6
     rw [bytesOf_data] at h7
     obtain ⟨b, hb, hbe⟩ := List.mem_map.1 h7
     obtain ⟨j, hj, hjb⟩ := List.getElem_of_mem hb
     have := HA.out j b (by rw [List.getElem?_eq_getElem hj, hjb])
     omega
    congr 1; omega)
   have q1 := eq_true (show (0 : Int) ≤ (m : Int) by omega)
   have q2 := eq_true (show (m : Int) < (chars.size : Int) by omega)
   have q3 := eq_true (show (m : Int) < (rs.size : Int) by omega)
   have q4 := eq_true hlt
   have q5 := eq_true hlc
   have q6 : decide ((m : Int) < (chars.size : Int)) = true := decide_eq_true (by omega)
   have q7 : decide ((m : Int) < (rs.size : Int)) = true := decide_eq_true (by omega)
   have q8 := eq_true (show (0 : Int) ≤ (m : Int) + 1 by omega)
   have q9 := eq_true (show (m : Int) + 1 ≤ (chars.size : Int) by omega)
   have hw1 : IntKind.i64.wrap ((m : Int) + 1) = (m : Int) + 1 := by rw [IntKind.wrap_i64]; omega
   have hx1 : ∀ h : m < chars.size, (chars[m]'h) = x := fun _ => hx
   have hy1 : ∀ h : m < rs.size, (rs[m]'h) = y := fun _ => hy
   clear hx hy el hm h4 e2 e4 d1 d2 d3
   go_loopg [9, 10] 1 (fun g i f wx => g = 1 ∧ i = .int .i64 (m : Int) ∧ f = .int .i64 0 ∧ wx = w')
   case atStart => exact ⟨rfl, rfl, rfl, rfl⟩
   case round =>
    obtain ⟨rfl, rfl, rfl, rfl⟩ := hrel
    go_wp2_with fail
    go_step3
    go_wp2_with fail
    go_quiet (fail)
    go_wp2_with fail
    go_quiet (first | (go_at_call 56; (with_reducible refine (strings_IndexByte.calls (chars.extract (m + 1) chars.size) (y.toNat : Int) (-1) _ HB.out).mono ?_); rintro e w' ⟨rfl, ⟨nd, rfl⟩⟩; (try first | exact ⟨rfl, _, World.drewN_drewN _ _ _⟩ | exact ⟨rfl, _, Eq.trans (World.drewN_drewN _ _ _) (congrArg (World.drewN _) (Nat.add_assoc _ _ _))⟩)))
    go_wp2_with fail
    rw [Exit.noGoto_ret]
    show Exit.noGoto _ Exit.ret _ _
    rw [Exit.noGoto_ret]
    show Exit.noGoto _ Exit.ret _ _
    rw [Exit.noGoto_ret]
    iterate 4 (show Exit.noGoto _ Exit.ret _ _; rw [Exit.noGoto_ret])
    go_ret
    exact ⟨rfl, pw_below_drewN (Below.refl _ _) _⟩
theorem noAny_high {s chars : ByteArray} {i n : Nat} (h : Lib.NoAny s.data.toList chars.data.toList i) (hc : ∀ (j : Nat) b, chars.data.toList[j]? = some b → b.toNat < 128) (hn : i + n ≤ s.size) (hb : ∀ k, k < n → 128 ≤ (s.get! (i + k)).toNat) : Lib.NoAny s.data.toList chars.data.toList (i + n) := by
 intro j b hj hjb
 by_cases hlt : j < i
 ·exact h j b hlt hjb
 ·have h1 := hb (j - i) (by omega)
  rw [show i + (j - i) = j by omega] at h1
  have hjz : j < s.size := by omega
  have h2 : s.get! j = b := by
   have e1 := get_at s j hjz
   rw [Nat.add_zero] at e1
   have e2 := Lib.data_getElem? s j hjz
   rw [e2] at hjb
   rw [e1]; exact Option.some.inj hjb
  rw [h2] at h1
  cases hcon : chars.data.toList.contains b with
  | false => rfl
  | true =>
   have hm := List.contains_iff_mem.1 hcon
   obtain ⟨q, hq, hqb⟩ := List.getElem_of_mem hm
   have := hc q b (by rw [List.getElem?_eq_getElem hq, hqb])
   omega
set_option maxRecDepth 100000 in
set_option maxHeartbeats 8000000 in
theorem idxAny_short (s chars : ByteArray) (h4 : chars.size = 4) (hc : ∀ (j : Nat) b, chars.data.toList[j]? = some b → b.toNat < 128) (h8 : s.size ≤ 8) (w : World) :
  Calls Tryd.prog 34 #[.string s, .string chars] w fun e w' => e = .returned (.int .i64 (Lib.indexAny s.data.toList chars.data.toList)) ∧ Below w.heap.size w w' := by
 have HA := Lib.hid hc
 have H4 := Lib.hid h4
 have hemp : chars.toList.isEmpty = false := by
  rw [Lib.toList_data]
  cases h : chars.data.toList with
  | nil => have := Lib.size_eq chars; rw [h, List.length_nil] at this; omega
  | cons _ _ => rfl
 have hn1 : ((chars.size : Int) == 1) = false := beq_eq_false_iff_ne.2 (by omega)
 have h8z : decide ((8 : Int) < (s.size : Int)) = false := decide_eq_false (by omega)
 clear hc h4
 go_enter Tryd.func34, Tryd.ntmps34
 go_wp2_with (go_at_call 45; refine (Tryd.strings_shouldUseASCIISet _ _).mono ?_; rintro e w' ⟨rfl, hw⟩; rw [hw, h8z])
 go_loopg [] (s.size + 1) (fun k wx => ∃ i : Nat, i ≤ s.size ∧ s.size - i < k ∧ Below w.heap.size w wx ∧ w.heap.size < wx.heap.size ∧ wx.heap[w.heap.size]? = some (.stringIter s i) ∧ Lib.NoAny s.data.toList chars.data.toList i)
 case atStart => exact ⟨0, by omega, by omega, below_alloc (Below.refl _ _) _, by simp [World.iter], World.iter_heap w s 0, Lib.NoAny.zero _ _⟩
 case round =>
  obtain ⟨i, h1, h2, hB, hlt, hk, hno⟩ := hrel
  have HN := Lib.hid hno
  clear hno
  cases gk with
  | zero => omega
  | succ k =>
  by_cases hi : i < s.size
  ·obtain ⟨x, hx⟩ : ∃ x : UInt8, s[i]'hi = x := ⟨_, rfl⟩
   by_cases hx128 : x.toNat < 128
   ·have hnx := fun ty => Lib.run_next_ascii_at (P := Tryd.prog) wr w.heap.size s i ty hk hi (by rw [hx]; exact hx128)
    rw [hx] at hnx
    have HX := Lib.hid (show s.data.toList[i]? = some x by rw [← hx]; exact Lib.data_getElem? s i hi)
    have hk2 := Lib.iterAt_heap wr w.heap.size s i (i + 1) hk
    have hB2 := Lib.below_iterAt hB (Nat.le_refl _) s (i + 1)
    have hlt2 : w.heap.size < (wr.iterAt w.heap.size s (i + 1)).heap.size := by rw [Lib.iterAt_size]; exact hlt
    have hcon := Lib.contains_iff_indexByte chars.data.toList x
    have hback : ((x.toNat : Int)).toNat.toUInt8 = x := by simp
    clear hx
    cases hin : chars.data.toList.contains x with
    | false =>
     rw [hin] at hcon
     have hlt3 : decide ((0 : Int) ≤ Lib.indexByte chars.data.toList x) = false := hcon.symm
     clear hcon
     go_wp2_with (go_at_call 44; refine (Tryd.strings_IndexRune_ascii _ _ _ (by omega) (by omega)).mono ?_; rintro e w' ⟨rfl, hw⟩; rw [hw, hback])
     go_roundg k
     case measure => omega
     case rel => exact ⟨i + 1, by omega, by omega, hB2, hlt2, hk2, HN.out.succ HX.out hin⟩
    | true =>
     rw [hin] at hcon
     have hge : decide ((0 : Int) ≤ Lib.indexByte chars.data.toList x) = true := hcon.symm
     clear hcon
     go_wp2_with (go_at_call 44; refine (Tryd.strings_IndexRune_ascii _ _ _ (by omega) (by omega)).mono ?_; rintro e w' ⟨rfl, hw⟩; rw [hw, hback])
     go_ret
     exact ⟨by rw [Lib.indexAny_hit HN.out HX.out hin]; rfl, hB2⟩
   ·obtain ⟨d1, d2⟩ := decode_high s i hi (by rw [hx]; omega)
    have d3 := decode_le s i
    obtain ⟨d4, d5⟩ := decode_bytes s i hi (by rw [hx]; omega)
    have hnx := fun ty => Lib.run_next_any_at (P := Tryd.prog) wr w.heap.size s i ty hk hi
    have HN2 := Lib.hid (noAny_high HN.out HA.out d4 d5)
    clear d5
    generalize (Utf8.decode s i).1 = r at d1 d3 hnx
    generalize (Utf8.decode s i).2 = n at d2 d4 hnx HN2
    have hk2 := Lib.iterAt_heap wr w.heap.size s i (i + n) hk
    have hB2 := Lib.below_iterAt hB (Nat.le_refl _) s (i + n)
    have hlt2 : w.heap.size < (wr.iterAt w.heap.size s (i + n)).heap.size := by rw [Lib.iterAt_size]; exact hlt
    go_wp2_with (go_at_call 44; refine (idxRune_high chars H4.out HA.out (r : Int) (by omega) (by omega) _).mono ?_; rintro e w5 ⟨rfl, hb5⟩)
    have hk3 := (hb5.block _ hlt2).trans hk2
    have hB3 := below_step hB2 hb5
    have hlt3 := Nat.lt_of_lt_of_le hlt2 hb5.size
    go_wp2
    go_roundg k
    case measure => omega
    case rel => exact ⟨i + n, by omega, by omega, hB3, hlt3, hk3, HN2.out⟩
  ·obtain rfl : i = s.size := by omega
   have hnx := fun ty => Lib.run_next_end_at (P := Tryd.prog) wr w.heap.size s s.size ty hk (by omega)
   go_wp2
   go_ret
   exact ⟨by rw [Lib.indexAny_none (by rw [← Lib.size_eq]; exact HN.out)]; rfl, hB⟩
end Go.Proofs.YtjmmdphkgioooaaDoor.P
end
section
namespace Go.Proofs.YtjmmdphkgioooaaDoor.P
set_option linter.unusedVariables false
open Go.RowKit Go.Proofs.YtjmmdphkgioooaaDoor.La Go.Proofs.YtjmmdphkgioooaaDoorW.PrintWords Go.Proofs.YtjmmdphkgioooaaDoorW.PrintLast Go.Proofs.YtjmmdphkgioooaaDoorW.PrintMore
/-- A field, written. -/
def fieldL (s : List Int) (alone : Bool) : List Int := if s.any odd4 = true ∨ (s = [] ∧ alone = true) then 34 :: (dbl s ++ [34]) else s
def fieldW (s : ByteArray) (alone : Bool) : ByteArray := strOfNums (fieldL (bytesOf s) alone)
theorem fieldL_bytes {s : List Int} (h : Bytes s) (alone : Bool) : Bytes (fieldL s alone) := by
 unfold fieldL
 split
 ·intro b hb
  rcases List.mem_cons.1 hb with rfl | hb
  ·omega
  ·rcases List.mem_append.1 hb with hb | hb
   ·exact dbl_bytes h b hb
   ·simp at hb; omega
 ·exact h
theorem fieldW_bytes (s : ByteArray) (alone : Bool) : bytesOf (fieldW s alone) = fieldL (bytesOf s) alone := strOfNums_bytes (fieldL_bytes (bytes_of s) alone)
theorem fieldL_len (s : List Int) (alone : Bool) : (fieldL s alone).length ≤ 2 * s.length + 2 := by
 unfold fieldL
 have := (dbl_len s).2
 split
 ·simp; omega
 ·omega
def cprint_Field.f (s : ByteArray) (alone : Bool) : Option ByteArray := if s.size ≤ 10000 then some (fieldW s alone) else none
theorem containsq (b : UInt8) : ([34, 44, 10, 13] : List UInt8).contains b = odd4 (b.toNat : Int) := by
 have h : ∀ c : UInt8, (b == c) = ((b.toNat : Int) == (c.toNat : Int)) := by
  intro c
  rw [Bool.eq_iff_iff, beq_iff_eq, beq_iff_eq, ← UInt8.toNat_inj]
  omega
 simp only [List.contains_cons, List.contains_nil, Bool.or_false, odd4]
 rw [h 44, h 10, h 13, h 34]
 show (((b.toNat : Int) == 34) || (((b.toNat : Int) == 44) || (((b.toNat : Int) == 10) || ((b.toNat : Int) == 13)))) = ((((b.toNat : Int) == 44) || ((b.toNat : Int) == 10) || ((b.toNat : Int) == 13) || ((b.toNat : Int) == 34)))
 cases ((b.toNat : Int) == 34) <;> cases ((b.toNat : Int) == 44) <;> cases ((b.toNat : Int) == 10) <;> cases ((b.toNat : Int) == 13) <;> rfl
theorem idxq (l : List UInt8) : -1 ≤ Lib.indexAny l [34, 44, 10, 13] ∧ decide (0 ≤ Lib.indexAny l [34, 44, 10, 13]) = (bl l).any odd4 := by
 induction l with
 | nil => exact ⟨by decide, by decide⟩
 | cons b l ih =>
  rw [Lib.indexAny, containsq]
  have e : (bl (b :: l)).any odd4 = (odd4 (b.toNat : Int) || (bl l).any odd4) := rfl
  rw [e, ← ih.2]
  cases odd4 (b.toNat : Int) with
  | true => exact ⟨by simp, by simp⟩
  | false =>
   by_cases hm : Lib.indexAny l [34, 44, 10, 13] = -1
   ·rw [hm]; exact ⟨by simp, by simp⟩
   ·have e1 : (Lib.indexAny l [34, 44, 10, 13] == -1) = false := beq_eq_false_iff_ne.2 hm
    have := ih.1
    simp only [Bool.false_eq_true, if_false, e1, Bool.false_or]
    exact ⟨by omega, by rw [decide_eq_decide]; omega⟩
theorem asciiInfoC : (Tryd.prog.info? 77).map (fun i => (i.zero, i.size)) = some (some (.agg (Array.replicate 256 (.bool false))), 256) := by kernel_rfl
theorem idxAnyq (s : ByteArray) (hs : s.size < 4294967281) (w : World) :
  Calls Tryd.prog 34 #[.string s, .string ⟨#[34, 44, 10, 13]⟩] w fun e w' => e = .returned (.int .i64 (Lib.indexAny s.data.toList [34, 44, 10, 13])) ∧ Below w.heap.size w w' := by
 have hc : ∀ (j : Nat) (b : UInt8), (⟨#[34, 44, 10, 13]⟩ : ByteArray).data.toList[j]? = some b → b.toNat < 128 := by
  intro j b h
  match j, h with
  | 0, h => obtain rfl := Option.some.inj h; decide
  | 1, h => obtain rfl := Option.some.inj h; decide
  | 2, h => obtain rfl := Option.some.inj h; decide
  | 3, h => obtain rfl := Option.some.inj h; decide
 by_cases h8 : s.size ≤ 8
 ·exact idxAny_short s _ rfl hc h8 w
 ·refine (Tryd.strings_IndexAny_long (zero_of_info asciiInfoC).1 s _ w (by decide) (by omega) hs (by decide) hc).mono fun e w' h => ⟨h.1, ?_⟩
  rw [h.2]
  exact below_alloc (below_alloc (Below.refl _ _) _) _
theorem containsAnyq (s : ByteArray) (hs : s.size < 4294967281) (w : World) :
  Calls Tryd.prog 24 #[.string s, .string ⟨#[34, 44, 10, 13]⟩] w fun e w' => e = .returned (.bool ((bytesOf s).any odd4)) ∧ Below w.heap.size w w' := by
 have hx := (idxq s.data.toList).2
 rw [bl_data] at hx
 go_enter Tryd.func24, Tryd.ntmps24
 go_wp2_with fail
 refine (idxAnyq s hs _).mono ?_
 rintro e w1 ⟨rfl, hb1⟩
 go_wp2
 go_ret
 exact ⟨by rw [← hx]; rfl, hb1⟩
theorem replaceAllq (s : ByteArray) (hs : s.size ≤ 35184372088832) (w : World) :
  Calls Tryd.prog 25 #[.string s, .string Q1, .string Q2] w fun e w' => e = .returned (.string (strOfNums (dbl (bytesOf s)))) ∧ Below w.heap.size w w' := by
 have hR : Calls Tryd.prog 35 #[.string s, .string Q1, .string Q2, .int .i64 (-1)] w fun e w' => e = .returned (.string (strOfNums (dbl (bytesOf s)))) ∧ Below w.heap.size w w' := by
  by_cases h : cntB (bytesOf s) 34 = 0
  ·refine (repl_none s h w).mono ?_
   rintro e w' ⟨rfl, rfl⟩
   exact ⟨by rw [repl_cnt0 s h, strOfNums_of], Below.refl _ _⟩
  ·exact repl_some s _ rfl (by omega) hs w
 go_enter Tryd.func25, Tryd.ntmps25
 go_wp2_with fail
 refine hR.mono ?_
 rintro e w1 ⟨rfl, hb1⟩
 go_wp2
 go_ret
 exact ⟨rfl, hb1⟩
theorem quoted_eq (s : ByteArray) : (Q1 ++ strOfNums (dbl (bytesOf s))) ++ Q1 = strOfNums (34 :: (dbl (bytesOf s) ++ [34])) := by
 apply bytesOf_inj
 have hb : Bytes (34 :: (dbl (bytesOf s) ++ [34])) := by
  intro b hb
  rcases List.mem_cons.1 hb with rfl | hb
  ·omega
  ·rcases List.mem_append.1 hb with hb | hb
   ·exact dbl_bytes (bytes_of s) b hb
   ·simp at hb; omega
 rw [bytesOf_append, bytesOf_append, strOfNums_bytes (dbl_bytes (bytes_of s)), strOfNums_bytes hb]
 simp [bytesOf_data]
set_option maxHeartbeats 4000000 in
set_option maxRecDepth 100000 in
theorem cprint_Field.calls (a0 : ByteArray) (a1 : Bool) (r : ByteArray) (w : World) (h : cprint_Field.f a0 a1 = some r) :
  Calls Tryd.prog 10 #[.string a0, .bool a1] w fun e w' => e = .returned (.string r) ∧ Below w.heap.size w w' := by
 unfold cprint_Field.f at h
 split at h
 ·rename_i hs
  obtain rfl := Option.some.inj h
  clear h
  have hd : (strOfNums (dbl (bytesOf a0))).size ≤ 20000 := by
   rw [size_strOfNums (dbl_bytes (bytes_of a0))]
   have := (dbl_len (bytesOf a0)).2
   rw [size_of] at this
   omega
  have g1 : Q1.size + (strOfNums (dbl (bytesOf a0))).size ≤ 9223372036854775807 := by show 1 + _ ≤ _; omega
  have g2 : (Q1 ++ strOfNums (dbl (bytesOf a0))).size + Q1.size ≤ 9223372036854775807 := by rw [size_append']; show 1 + _ + 1 ≤ _; omega
  by_cases hq : (bytesOf a0).any odd4 = true ∨ (bytesOf a0 = [] ∧ a1 = true)
  ·have hf : fieldW a0 a1 = (Q1 ++ strOfNums (dbl (bytesOf a0))) ++ Q1 := by
    rw [quoted_eq]
    unfold fieldW fieldL
    rw [if_pos hq]
   rw [hf]
   cases hany : (bytesOf a0).any odd4 with
   | true =>
    go_enter Tryd.func10, Tryd.ntmps10
    go_wp2_with fail
    refine (containsAnyq a0 (by omega) _).mono ?_
    rintro e w1 ⟨rfl, hb1⟩
    rw [hany]
    go_wp2_with fail
    refine (replaceAllq a0 (by omega) _).mono ?_
    rintro e w2 ⟨rfl, hb2⟩
    go_wp2
    go_ret
    exact ⟨rfl, below_step hb1 hb2⟩
   | false =>
    rw [hany] at hq
    obtain ⟨he, rfl⟩ : bytesOf a0 = [] ∧ a1 = true := by
     rcases hq with h | h
     ·cases h
     ·exact h
    have e0 : (a0.toList == ([] : List UInt8)) = true := beq_iff_eq.mpr ((toList_nil_iff a0).2 he)
    have e1 : a0.toList.isEmpty = true := List.isEmpty_iff.2 ((toList_nil_iff a0).2 he)
    go_enter Tryd.func10, Tryd.ntmps10
    go_wp2_with fail
    refine (containsAnyq a0 (by omega) _).mono ?_
    rintro e w1 ⟨rfl, hb1⟩
    rw [hany]
    go_wp2_with fail
    refine (replaceAllq a0 (by omega) _).mono ?_
    rintro e w2 ⟨rfl, hb2⟩
    go_wp2
    go_ret
    exact ⟨by rw [he]; rfl, below_step hb1 hb2⟩
  ·have hf : fieldW a0 a1 = a0 := by
    unfold fieldW fieldL
    rw [if_neg hq, strOfNums_of]
   rw [hf]
   have hany : (bytesOf a0).any odd4 = false := by
    cases h : (bytesOf a0).any odd4 with
    | true => exact absurd (.inl h) hq
    | false => rfl
   by_cases he : bytesOf a0 = []
   ·have ha1 : a1 = false := by
     cases a1 with
     | true => exact absurd (.inr ⟨he, rfl⟩) hq
     | false => rfl
    subst ha1
    have e0 : (a0.toList == ([] : List UInt8)) = true := beq_iff_eq.mpr ((toList_nil_iff a0).2 he)
    have e1 : a0.toList.isEmpty = true := List.isEmpty_iff.2 ((toList_nil_iff a0).2 he)
    go_enter Tryd.func10, Tryd.ntmps10
    go_wp2_with fail
    refine (containsAnyq a0 (by omega) _).mono ?_
    rintro e w1 ⟨rfl, hb1⟩
    rw [hany]
    go_wp2
    go_ret
    exact ⟨rfl, hb1⟩
   ·have e0 : (a0.toList == ([] : List UInt8)) = false := beq_eq_false_iff_ne.mpr (fun h => he ((toList_nil_iff a0).1 h))
    have e1 : a0.toList.isEmpty = false := List.isEmpty_eq_false_iff.2 (fun h => he ((toList_nil_iff a0).1 h))
    go_enter Tryd.func10, Tryd.ntmps10
    go_wp2_with fail
    refine (containsAnyq a0 (by omega) _).mono ?_
    rintro e w1 ⟨rfl, hb1⟩
    rw [hany]
    go_wp2
    go_ret
    exact ⟨rfl, hb1⟩
 ·cases h
end Go.Proofs.YtjmmdphkgioooaaDoor.P
end
section
namespace Go.Proofs.YtjmmdphkgioooaaDoor.La
open Go.RowKit Go.Proofs.YtjmmdphkgioooaaDoor.P Go.Proofs.YtjmmdphkgioooaaDoorW.PrintWords Go.Proofs.YtjmmdphkgioooaaDoorW.PrintLast Go.Proofs.YtjmmdphkgioooaaDoorW.PrintMore
/-- What may stand behind a field. -/
def Behind (r : List Int) : Prop := r = [] ∨ r.take 1 = [44] ∨ lend r ≠ 0
/-- The bytes p.1 are read as the field p.2. -/
def Wr (p : List Int × List Int) : Prop := (∀ r, Behind r → raw (p.1 ++ r) = some (p.2, p.1.length)) ∧ p.2.length ≤ 4096
theorem lend_head {r : List Int} (h : lend r ≠ 0) : r.take 1 = [10] ∨ r.take 1 = [13] := by
 unfold lend at h
 split at h
 ·rename_i h1; exact .inl h1
 ·split at h
  ·rename_i h1
   match r, h1 with
   | a :: b :: t, h1 => simp at h1; exact .inr (by simp [h1.1])
  ·exact absurd rfl h
theorem behind_head {r : List Int} (h : Behind r) : ∀ b ∈ r.head?, odd4 b = true := by
 intro b hb
 match r, hb with
 | a :: t, hb =>
  obtain rfl : a = b := by simpa using hb
  rcases h with h | h | h
  ·cases h
  ·simp at h; simp [odd4, h]
  ·rcases lend_head h with h | h <;> simp at h <;> simp [odd4, h]
theorem behind_34 {r : List Int} (h : Behind r) : ¬ r.take 1 = [34] := by
 intro h34
 rcases h with h | h | h
 ·rw [h] at h34; cases h34
 ·rw [h] at h34; simp at h34
 ·rcases lend_head h with h | h <;> rw [h] at h34 <;> simp at h34
theorem behind_fbad {r : List Int} (h : Behind r) : ¬ fbad r := by
 rintro ⟨h1, h2, h3⟩
 rcases h with h | h | h
 ·exact h1 h
 ·exact h2 h
 ·exact h h3
/-- A field without quotes. -/
theorem wr_plain {s : List Int} (hs : ∀ b ∈ s, odd4 b = false) (hl : s.length ≤ 4096) : Wr (s, s) :=
 ⟨fun r hr => raw_plain s r hs (behind_head hr) (behind_34 hr), hl⟩
/-- A field between quotes. -/
theorem wr_quoted {s : List Int} (hl : s.length ≤ 4096) : Wr (34 :: (dbl s ++ [34]), s) :=
 ⟨fun r hr => by
  have h := raw_quoted s r (behind_34 hr)
  have e : 34 :: (dbl s ++ 34 :: r) = (34 :: (dbl s ++ [34])) ++ r := by simp
  rw [e] at h
  rw [h]
  simp, hl⟩
def joinC : List (List Int) → List Int
 | [] => []
 | [a] => a
 | a :: b :: t => a ++ 44 :: joinC (b :: t)
theorem fieldS_wr {p : List Int × List Int} (h : Wr p) {r : List Int} (hr : Behind r) (i : Nat) : fieldS (p.1 ++ r) i = .inr (p.2, p.1.length) := by
 refine fieldS_of (h.1 r hr) ?_ h.2
 simp only [List.drop_left']
 exact behind_fbad hr
theorem rowS_of : ∀ (fs : List (List Int × List Int)) (R : List Int), fs ≠ [] → (∀ p ∈ fs, Wr p) → (R = [] ∨ lend R ≠ 0) → ∀ (k : Nat) (acc : List S57) (i : Nat), fs.length ≤ k →
  ∃ row, rowS k acc (joinC (fs.map Prod.fst) ++ R) i = .inr (acc ++ row, R.drop (lend R), i + (joinC (fs.map Prod.fst)).length + lend R) ∧ row.map S57.f0 = fs.map (fun p => strOfNums p.2)
 | [], _, hne, _, _, _, _, _, _ => absurd rfl hne
 | [p], R, _, hg, hR, 0, _, _, hk => by simp at hk
 | [p], R, _, hg, hR, k + 1, acc, i, hk => by
  refine ⟨[⟨strOfNums p.2, (i : Int)⟩], ?_, rfl⟩
  have hb : Behind R := hR.elim .inl (fun h => .inr (.inr h))
  have h44 : ¬ R.take 1 = [44] := by
   rcases hR with h | h
   ·rw [h]; simp
   ·rcases lend_head h with h | h <;> rw [h] <;> simp
  simp only [List.map_cons, List.map_nil, joinC]
  rw [rowS, fieldS_wr (hg p List.mem_cons_self) hb]
  simp only [List.drop_left']
  rw [if_neg h44, ← List.drop_drop, List.drop_left']
  rfl
 | p :: q :: t, R, _, hg, hR, 0, _, _, hk => by simp at hk
 | p :: q :: t, R, _, hg, hR, k + 1, acc, i, hk => by
  have hb : Behind (44 :: (joinC ((q :: t).map Prod.fst) ++ R)) := .inr (.inl rfl)
  obtain ⟨row, h1, h2⟩ := rowS_of (q :: t) R (by simp) (fun x hx => hg x (List.mem_cons_of_mem _ hx)) hR k (acc ++ [⟨strOfNums p.2, (i : Int)⟩]) (i + p.1.length + 1) (by simp at hk ⊢; omega)
  refine ⟨⟨strOfNums p.2, (i : Int)⟩ :: row, ?_, by rw [List.map_cons, h2]; rfl⟩
  have e : joinC ((p :: q :: t).map Prod.fst) ++ R = p.1 ++ 44 :: (joinC ((q :: t).map Prod.fst) ++ R) := by simp [joinC]
  rw [e, rowS, fieldS_wr (hg p List.mem_cons_self) hb]
  simp only [List.drop_left']
  rw [if_pos (show List.take 1 (44 :: (joinC ((q :: t).map Prod.fst) ++ R)) = [44] from rfl), ← List.drop_drop, List.drop_left' rfl, List.drop_one, List.tail_cons, h1]
  simp [joinC]
  omega
/-- A line: its fields, its end. -/
abbrev Line := List (List Int × List Int) × List Int
def Line.text (l : Line) : List Int := joinC (l.1.map Prod.fst) ++ l.2
def Line.good (l : Line) : Prop := l.1 ≠ [] ∧ (∀ p ∈ l.1, Wr p) ∧ (l.2 = [10] ∨ l.2 = [13, 10]) ∧ l.1.length ≤ 64
/-- The last line may end without an end, if it has bytes. -/
def Line.last (l : Line) : Prop := l.good ∨ (l.1 ≠ [] ∧ (∀ p ∈ l.1, Wr p) ∧ l.2 = [] ∧ l.1.length ≤ 64 ∧ l.text ≠ [])
def textOf (ls : List Line) : List Int := ls.flatMap Line.text
def Lines : List Line → Prop
 | [] => True
 | [l] => l.last
 | l :: m :: t => l.good ∧ Lines (m :: t)
/-- What the rows are; none: a row of another length. -/
def rowsOf : List (List ByteArray) → List (List (List Int × List Int)) → Option (List (List ByteArray))
 | rows, [] => some rows
 | rows, l :: t => if rows ≠ [] ∧ l.length ≠ (rows.headD []).length then none else rowsOf (rows ++ [l.map (fun p => strOfNums p.2)]) t
theorem lend_end {e : List Int} (h : e = [10] ∨ e = [13, 10]) (r : List Int) : lend (e ++ r) = e.length ∧ lend (e ++ r) ≠ 0 := by
 rcases h with rfl | rfl
 ·exact ⟨rfl, by show (1 : Nat) ≠ 0; omega⟩
 ·exact ⟨rfl, by show (2 : Nat) ≠ 0; omega⟩
theorem row_line {l : Line} {r : List Int} (h : l.good ∨ (l.last ∧ r = [])) (acc : List S57) (i : Nat) :
  l.text ++ r ≠ [] ∧ ∃ row, rowS 64 acc (l.text ++ r) i = .inr (acc ++ row, r, i + l.text.length) ∧ row.map S57.f0 = l.1.map (fun p => strOfNums p.2) := by
 have key : l.1 ≠ [] → (∀ p ∈ l.1, Wr p) → l.1.length ≤ 64 → (l.2 = [10] ∨ l.2 = [13, 10]) ∨ (l.2 = [] ∧ r = []) →
   ∃ row, rowS 64 acc (l.text ++ r) i = .inr (acc ++ row, r, i + l.text.length) ∧ row.map S57.f0 = l.1.map (fun p => strOfNums p.2) := by
  intro h1 h2 h3 h4
  have hR : l.2 ++ r = [] ∨ lend (l.2 ++ r) ≠ 0 := by
   rcases h4 with h4 | ⟨h4, h5⟩
   ·exact .inr (lend_end h4 r).2
   ·exact .inl (by rw [h4, h5]; rfl)
  have hd : (l.2 ++ r).drop (lend (l.2 ++ r)) = r ∧ lend (l.2 ++ r) = l.2.length := by
   rcases h4 with h4 | ⟨h4, h5⟩
   ·rw [(lend_end h4 r).1]; simp
   ·rw [h4, h5]; exact ⟨rfl, rfl⟩
  obtain ⟨row, h5, h6⟩ := rowS_of l.1 (l.2 ++ r) h1 h2 hR 64 acc i h3
  refine ⟨row, ?_, h6⟩
  unfold Line.text
  rw [List.append_assoc, h5, hd.1, hd.2, List.length_append, Nat.add_assoc]
 rcases h with h | ⟨h | h, hr⟩
 ·refine ⟨?_, key h.1 h.2.1 h.2.2.2 (.inl h.2.2.1)⟩
  unfold Line.text
  rcases h.2.2.1 with h | h <;> rw [h] <;> simp
 ·refine ⟨?_, key h.1 h.2.1 h.2.2.2 (.inl h.2.2.1)⟩
  unfold Line.text
  rcases h.2.2.1 with h | h <;> rw [h] <;> simp
 ·exact ⟨by simp [h.2.2.2.2], key h.1 h.2.1 h.2.2.2.1 (.inr ⟨h.2.2.1, hr⟩)⟩
theorem lines_cons {l : Line} {t : List Line} (h : Lines (l :: t)) : (l.good ∨ (l.last ∧ textOf t = [])) ∧ Lines t := by
 cases t with
 | nil => exact ⟨.inr ⟨h, rfl⟩, trivial⟩
 | cons m t => exact ⟨.inl h.1, h.2⟩
theorem whole_lines : ∀ (ls : List Line), Lines ls → ∀ (k : Nat) (rows : List (List S57)) (i : Nat), ls.length ≤ k →
  match rowsOf (rows.map (·.map S57.f0)) (ls.map Prod.fst) with
  | none => ∃ j, wholeS k rows (textOf ls) i = .inl (7, j)
  | some r => ∃ rows', wholeS k rows (textOf ls) i = .inr rows' ∧ rows'.map (·.map S57.f0) = r
 | [], _, k, rows, i, _ => by
  show ∃ rows', _
  exact ⟨rows, by cases k <;> rfl, rfl⟩
 | l :: t, h, 0, rows, i, hk => by simp at hk
 | l :: t, h, k + 1, rows, i, hk => by
  obtain ⟨h1, h2⟩ := lines_cons h
  have hline := row_line (l := l) (r := textOf t) h1 [] i
  obtain ⟨hne, row, hrow, hfst⟩ := hline
  have htext : textOf (l :: t) = l.text ++ textOf t := rfl
  have hlen : row.length = l.1.length := by simpa using congrArg List.length hfst
  have hcond : (rows ≠ [] ∧ row.length ≠ (rows.headD []).length) ↔ (rows.map (·.map S57.f0) ≠ [] ∧ l.1.length ≠ ((rows.map (·.map S57.f0)).headD []).length) := by
   rw [hlen]
   cases rows with
   | nil => simp
   | cons a b => simp
  simp only [List.map_cons, rowsOf]
  rw [htext, wholeS, if_neg hne, hrow]
  simp only [List.nil_append]
  by_cases hc : rows ≠ [] ∧ row.length ≠ (rows.headD []).length
  ·rw [if_pos (hcond.1 hc), if_pos hc]
   exact ⟨i, rfl⟩
  ·rw [if_neg (fun h => hc (hcond.2 h)), if_neg hc]
   have ih := whole_lines t h2 k (rows ++ [row]) (i + l.text.length) (by simp at hk; omega)
   rw [List.map_append, List.map_cons, List.map_nil, hfst] at ih
   exact ih
end Go.Proofs.YtjmmdphkgioooaaDoor.La
end
section
namespace Go.Proofs.YtjmmdphkgioooaaDoor.P
set_option linter.unusedVariables false
open Go.RowKit Go.Proofs.YtjmmdphkgioooaaDoor.La Go.Proofs.YtjmmdphkgioooaaDoorW.PrintWords Go.Proofs.YtjmmdphkgioooaaDoorW.PrintLast Go.Proofs.YtjmmdphkgioooaaDoorW.PrintMore
theorem joinC_snoc : ∀ (l : List (List Int)) (x : List Int), l ≠ [] → joinC (l ++ [x]) = joinC l ++ 44 :: x
 | [], _, h => absurd rfl h
 | [a], x, _ => rfl
 | a :: b :: t, x, _ => by
  have ih := joinC_snoc (b :: t) x (by simp)
  rw [List.cons_append, List.cons_append, joinC, joinC, ← List.cons_append, ih, List.append_assoc]
  rfl
theorem joinC_take (l : List (List Int)) {k : Nat} (h0 : 0 < k) (h : k < l.length) : joinC (l.take (k + 1)) = joinC (l.take k) ++ 44 :: l[k] := by
 rw [List.take_add_one, List.getElem?_eq_getElem h]
 exact joinC_snoc _ _ (by intro e; have := congrArg List.length e; rw [List.length_take, List.length_nil] at this; omega)
theorem joinC_bytes : ∀ {l : List (List Int)}, (∀ x ∈ l, Bytes x) → Bytes (joinC l)
 | [], _ => fun b hb => by cases hb
 | [a], h => h a List.mem_cons_self
 | a :: b :: t, h => by
  rw [joinC]
  refine (h a List.mem_cons_self).append ?_
  intro x hx
  rcases List.mem_cons.1 hx with rfl | hx
  ·omega
  ·exact joinC_bytes (fun y hy => h y (List.mem_cons_of_mem _ hy)) x hx
theorem joinC_len : ∀ (l : List (List Int)) (m : Nat), (∀ x ∈ l, x.length ≤ m) → (joinC l).length ≤ l.length * (m + 1)
 | [], _, _ => Nat.zero_le _
 | [a], m, h => by have := h a List.mem_cons_self; rw [joinC, List.length_singleton]; omega
 | a :: b :: t, m, h => by
  have ih := joinC_len (b :: t) m (fun y hy => h y (List.mem_cons_of_mem _ hy))
  have := h a List.mem_cons_self
  rw [joinC, List.length_append, List.length_cons, List.length_cons (a := a), Nat.succ_mul]
  omega
def joinW (xs : List ByteArray) : ByteArray := strOfNums (joinC (xs.map bytesOf))
theorem joinW_bytes (xs : List ByteArray) : bytesOf (joinW xs) = joinC (xs.map bytesOf) := strOfNums_bytes (joinC_bytes (fun x hx => by
 obtain ⟨s, _, rfl⟩ := List.mem_map.1 hx
 exact bytes_of s))
theorem joinW_size (xs : List ByteArray) (hS : ∀ x ∈ xs, x.size ≤ 20002) : (joinW xs).size ≤ xs.length * 20003 := by
 rw [← size_of, joinW_bytes]
 have h := joinC_len (xs.map bytesOf) 20002 (fun x hx => by
  obtain ⟨s, hs, rfl⟩ := List.mem_map.1 hx
  rw [size_of]; exact hS s hs)
 rw [List.length_map] at h
 exact h
theorem join_one (bk o c : Nat) (x : ByteArray) (w : World) (hc : w.cell? ⟨bk, o, none⟩ = some (.string x)) :
  Calls Tryd.prog 32 #[.slice (some ⟨bk, o, none⟩) 1 c, .string ⟨#[44]⟩] w fun e w' => e = .returned (.string x) ∧ Below w.heap.size w w' := by
 go_enter Tryd.func32, Tryd.ntmps32
 go_wp2
 go_ret
 exact ⟨rfl, by first | exact Below.refl _ _ | exact pw_below_drewN (Below.refl _ _) _ | exact pw_below_drew (Below.refl _ _)⟩
set_option maxHeartbeats 16000000 in
set_option maxRecDepth 100000 in
theorem join_many (bk o c : Nat) (xs : List ByteArray) (w : World)
  (hcells : ∀ (j : Nat) x, xs[j]? = some x → w.cell? ⟨bk, o + j, none⟩ = some (.string x))
  (hbk : bk < w.heap.size) (h2 : 2 ≤ xs.length) (hN : xs.length ≤ 200) (hcap : xs.length ≤ c) (hS : ∀ x ∈ xs, x.size ≤ 20002) :
  Calls Tryd.prog 32 #[.slice (some ⟨bk, o, none⟩) xs.length c, .string ⟨#[44]⟩] w fun e w' => e = .returned (.string (joinW xs)) ∧ Below w.heap.size w w' := by
 have HC := Lib.hid hcells
 have HS := Lib.hid hS
 clear hcells hS
 have hdv : ¬ (9223372036854775807 / ((xs.length : Int) - 1) ≤ 1) := by
  intro h
  have h3 : (2 : Int) ≤ 9223372036854775807 / ((xs.length : Int) - 1) := by
   rw [Int.le_ediv_iff_mul_le (by omega)]; omega
  omega
 have hne0 : ((xs.length : Int) == 0) = false := beq_eq_false_iff_ne.2 (by omega)
 have hne1 : ((xs.length : Int) == 1) = false := beq_eq_false_iff_ne.2 (by omega)
 go_enter Tryd.func32, Tryd.ntmps32
 go_wp2_with fail
 go_loop [5, 41] (fun n i => ∃ (k : Nat) (z : Int), k ≤ xs.length ∧ i = .int .i64 k ∧ n = .int .i64 z ∧ 0 ≤ z ∧ z ≤ 200 + k * 20002) (fun _ i => xs.length - (intOf i).toNat)
 case atStart => exact ⟨0, (xs.length : Int) - 1, Nat.zero_le _, rfl, by first | rfl | (simp; done) | (refine congrArg _ ?_; simp; unfold wrap64; omega), by omega, by omega⟩
 case round =>
  obtain ⟨k, z, hk, rfl, rfl, hz0, hz1⟩ := hrel
  by_cases hkn : k < xs.length
  ·obtain ⟨x, hx⟩ : ∃ x, xs[k]? = some x := ⟨xs[k], List.getElem?_eq_getElem hkn⟩
   have hc := HC.out k x hx
   have hxs := HS.out x (List.mem_of_getElem? hx)
   clear hx
   go_wp2
   exact ⟨⟨k + 1, z + x.size, by omega, by go_num, by first | rfl | (refine congrArg _ ?_; omega), by omega, by omega⟩, by simp [intOf]; omega⟩
  ·have hke : k = xs.length := by omega
   subst hke
   go_wp2_with fail
   obtain ⟨n, rfl⟩ : ∃ n : Nat, z = (n : Int) := ⟨z.toNat, by omega⟩
   refine (bGrow w.heap.size w.heap.size n _ (Nat.le_refl _) (heap_alloc_new w _) (by simp) (by omega)).mono ?_
   rintro e w1 ⟨rfl, h1, hb1⟩
   have hb1' : Below w.heap.size w w1 := ((Below.refl w.heap.size w).alloc (Nat.le_refl _) _).trans hb1
   obtain ⟨x0, hx0⟩ : ∃ x, xs[0]? = some x := ⟨xs[0], List.getElem?_eq_getElem (by omega)⟩
   have hc0 : w1.cell? ⟨bk, o, none⟩ = some (.string x0) := by
    rw [hb1'.cell (p := ⟨bk, o, none⟩) hbk]
    exact HC.out 0 x0 hx0
   have hs0 := HS.out x0 (List.mem_of_getElem? hx0)
   have H1 := Lib.hid (Or.inr h1 : IsB w.heap.size w.heap.size (Lib.byteCells []) w1)
   have Hb1 := Lib.hid hb1'
   have hBw1 : w.heap.size ≤ w1.heap.size := hb1'.size
   have HX0 := Lib.hid hx0
   clear h1 hb1 hb1' hx0
   go_wp2_with fail
   refine (bwrite w.heap.size w.heap.size _ x0 w1 H1.out (by rw [Lib.byteCells_length]; simp; omega) hBw1).mono ?_
   rintro e w2 ⟨rfl, h2', hb2⟩
   have h2' := builder_more h2'
   rw [List.nil_append] at h2'
   have H2 := Lib.hid h2'
   have Hb2 := Lib.hid (Hb1.out.trans hb2)
   have hr0 : bl x0.data.toList = joinC ((xs.map bytesOf).take 1) := by
    have : (xs.map bytesOf).take 1 = [bytesOf x0] := by
     rw [List.take_add_one, List.take_zero, List.getElem?_map, HX0.out]; rfl
    rw [this]; rfl
   have HR0 := Lib.hid hr0
   have hl0 : x0.data.toList.length ≤ 20003 := by rw [← Lib.size_eq]; omega
   clear h2' hb2 hr0
   go_wp2_with fail
   go_loopw [65] (fun i wr => ∃ (k : Nat) (acc : List UInt8), k ≤ xs.length - 1 ∧ i = .int .i64 k ∧ Hid (IsB w.heap.size w.heap.size (Lib.byteCells acc) wr) ∧ Hid (Below w.heap.size w wr) ∧ Hid (bl acc = joinC ((xs.map bytesOf).take (k + 1))) ∧ acc.length ≤ (k + 1) * 20003) (fun i _ => xs.length - 1 - (intOf i).toNat)
   case atStart => exact ⟨0, _, Nat.zero_le _, rfl, H2, Hb2, HR0, by omega⟩
   case round =>
    obtain ⟨k, acc, hk', rfl, HB, HW, HR, hal⟩ := hrel
    have hBw : w.heap.size ≤ wr.heap.size := HW.out.size
    by_cases hkr : k < xs.length - 1
    ·have hk1 : k + 1 < xs.length := by omega
     obtain ⟨y, hy⟩ : ∃ y, xs[k + 1]? = some y := ⟨xs[k + 1], List.getElem?_eq_getElem hk1⟩
     have hcy : wr.cell? ⟨bk, o + 1 + k, none⟩ = some (.string y) := by
      rw [HW.out.cell (p := ⟨bk, o + 1 + k, none⟩) hbk, show o + 1 + k = o + (k + 1) by omega]
      exact HC.out (k + 1) y hy
     have hys := HS.out y (List.mem_of_getElem? hy)
     have hnx : joinC ((xs.map bytesOf).take (k + 1 + 1)) = joinC ((xs.map bytesOf).take (k + 1)) ++ 44 :: bytesOf y := by
      rw [joinC_take _ (by omega) (by rw [List.length_map]; exact hk1), List.getElem_map]
      rw [List.getElem?_eq_getElem hk1] at hy
      rw [Option.some.inj hy]
     have HN := Lib.hid hnx
     clear hnx hy
     go_wp2_with fail
     refine (bwrite w.heap.size w.heap.size _ ⟨#[44]⟩ wr HB.out (by rw [Lib.byteCells_length]; show _ + 1 ≤ _; omega) hBw).mono ?_
     rintro e w3 ⟨rfl, h3, hb3⟩
     have h3 := builder_more h3
     have hBw3 : w.heap.size ≤ w3.heap.size := Nat.le_trans hBw hb3.size
     have H3 := Lib.hid h3
     have Hb3 := Lib.hid hb3
     have hl3 : (acc ++ (⟨#[44]⟩ : ByteArray).data.toList).length = acc.length + 1 := by rw [List.length_append]; rfl
     have HL3 := Lib.hid hl3
     clear h3 hb3 hl3
     go_wp2_with fail
     refine (bwrite w.heap.size w.heap.size _ y w3 H3.out (by rw [Lib.byteCells_length, HL3.out]; omega) hBw3).mono ?_
     rintro e w4 ⟨rfl, h4, hb4⟩
     have h4 := builder_more h4
     have H4 := Lib.hid h4
     have Hb4 := Lib.hid ((HW.out.trans Hb3.out).trans hb4)
     have hrel : bl ((acc ++ (⟨#[44]⟩ : ByteArray).data.toList) ++ y.data.toList) = joinC ((xs.map bytesOf).take (k + 1 + 1)) := by
      rw [HN.out, bl_append, bl_append, HR.out, bl_data, List.append_assoc]; rfl
     have HREL := Lib.hid hrel
     have hln : ((acc ++ (⟨#[44]⟩ : ByteArray).data.toList) ++ y.data.toList).length ≤ (k + 1 + 1) * 20003 := by
      rw [List.length_append, HL3.out, ← Lib.size_eq]; omega
     have HLN := Lib.hid hln
     clear h4 hb4 hrel hln
     go_wp2
     exact ⟨⟨k + 1, _, by omega, by go_num, H4, Hb4, HREL, HLN.out⟩, by simp [intOf]; omega⟩
    ·have hke : k = xs.length - 1 := by omega
     have hstr : (⟨acc.toArray⟩ : ByteArray) = joinW xs := by
      apply bytesOf_inj
      rw [bytes_mk, HR.out, joinW_bytes, List.take_of_length_le (by rw [List.length_map]; omega)]
     have Hstr := Lib.hid hstr
     clear hstr
     go_wp2_with fail
     refine (bstring w.heap.size w.heap.size _ wr HB.out hBw).mono ?_
     rintro e w5 ⟨rfl, hb5⟩
     rw [Hstr.out]
     have Hb5 := Lib.hid (HW.out.trans hb5)
     clear hb5
     go_wp2
     go_ret
     exact ⟨rfl, Hb5.out⟩
end Go.Proofs.YtjmmdphkgioooaaDoor.P
end
section
namespace Go.Proofs.YtjmmdphkgioooaaDoor.P
set_option linter.unusedVariables false
open Go.RowKit Go.Proofs.YtjmmdphkgioooaaDoor.La Go.Proofs.YtjmmdphkgioooaaDoorW.PrintWords Go.Proofs.YtjmmdphkgioooaaDoorW.PrintLast Go.Proofs.YtjmmdphkgioooaaDoorW.PrintMore
theorem cinfoQ : (Tryd.prog.info? 9).map (fun i => (i.zero, i.size, i.bytes)) = some (some (.string ⟨#[]⟩), 1, 16) := by kernel_rfl
/-- A row, written. -/
def rowL (r : List ByteArray) : List Int := joinC (r.map fun s => fieldL (bytesOf s) (r.length == 1)) ++ [13, 10]
def rowW (r : List ByteArray) : ByteArray := joinW (r.map fun s => fieldW s (r.length == 1)) ++ ⟨#[13, 10]⟩
theorem rowW_bytes (r : List ByteArray) : bytesOf (rowW r) = rowL r := by
 unfold rowW rowL
 rw [bytesOf_append, joinW_bytes, List.map_map]
 have : (bytesOf ∘ fun s => fieldW s (r.length == 1)) = fun s => fieldL (bytesOf s) (r.length == 1) := by
  funext s
  exact fieldW_bytes s _
 rw [this]; rfl
theorem fieldW_size (s : ByteArray) (alone : Bool) (h : s.size ≤ 10000) : (fieldW s alone).size ≤ 20002 := by
 rw [← size_of, fieldW_bytes]
 have := fieldL_len (bytesOf s) alone
 rw [size_of] at this
 omega
theorem join_none (c : Nat) (A : Option Addr) (w : World) :
  Calls Tryd.prog 32 #[.slice A 0 c, .string ⟨#[44]⟩] w fun e w' => e = .returned (.string ⟨#[]⟩) ∧ Below w.heap.size w w' := by
 go_enter Tryd.func32, Tryd.ntmps32
 go_wp2
 go_ret
 exact ⟨rfl, by first | exact Below.refl _ _ | exact pw_below_drewN (Below.refl _ _) _ | exact pw_below_drew (Below.refl _ _)⟩
/-- strings.Join of a row of one's own. -/
theorem join_own (e : TypeId) (base : Nat) (ok : Nat → Prop) (A : Option Addr) (c : Nat) (xs : List ByteArray) (w : World) (h : Kd.R Kd.string e w base ok (.slice A xs.length c) xs) (hN : xs.length ≤ 200) (hS : ∀ x ∈ xs, x.size ≤ 20002) :
  Calls Tryd.prog 32 #[.slice A xs.length c, .string ⟨#[44]⟩] w fun e w' => e = .returned (.string (joinW xs)) ∧ Below w.heap.size w w' := by
 obtain ⟨_, hc, hC⟩ := Kd.R_reads' h
 match hxs : xs with
 | [] => exact join_none c A w
 | x :: r =>
  obtain ⟨g, cap, hv, _⟩ : ∃ g cap, Value.slice A (x :: r).length c = .slice (some ⟨g, 0, none⟩) (x :: r).length cap ∧ True := by
   obtain ⟨inner, ho⟩ := Kd.R_own h
   rcases ho.2 with ⟨hv, h0⟩ | ⟨g, cap, cur, hv, _⟩
   ·simp at h0
   ·exact ⟨g, cap, hv, trivial⟩
  injection hv with hA _ _
  subst hA
  have hcells : ∀ (j : Nat) y, (x :: r)[j]? = some y → w.cell? ⟨g, 0 + j, none⟩ = some (.string y) := by
   intro j y hj
   obtain ⟨hjl, hjy⟩ := List.getElem?_eq_some_iff.1 hj
   obtain ⟨ad, hA, hcell⟩ := Kd.at_string hC (j : Int) (by omega) (by omega)
   injection hA with hA
   subst hA
   have e : (⟨g, 0, none⟩ : Addr).add ((j : Int)).toNat = ⟨g, 0 + j, none⟩ := by
    rw [Int.toNat_natCast, Addr.add]
    split
    ·rename_i hz; rw [hz]
    ·rfl
   rw [e] at hcell
   rw [hcell]
   congr 2
   unfold rdOf
   rw [Int.toNat_natCast, List.getD_eq_getElem?_getD, hj]
   rfl
  have hg : g < w.heap.size := World.block_lt_of_cell? w _ (hcells 0 x rfl)
  by_cases hr : r = []
  ·subst hr
   have h1 : joinW [x] = x := by unfold joinW; exact strOfNums_of x
   rw [h1]
   exact join_one g 0 c x w (hcells 0 x rfl)
  ·exact join_many g 0 c (x :: r) w hcells hg (by cases r with | nil => exact absurd rfl hr | cons a b => simp) hN hc hS
set_option maxHeartbeats 8000000 in
set_option maxRecDepth 100000 in
theorem cprint_row_ (A : Option Addr) (c : Nat) (r : List ByteArray) (w : World) (hr : Kd.C Kd.string w A r.length r) (hc : r.length ≤ c) (hN : r.length ≤ 200) (hS : ∀ s ∈ r, s.size ≤ 10000) :
  Calls Tryd.prog 21 #[.slice A r.length c] w fun e w' => e = .returned (.string (rowW r)) ∧ Below w.heap.size w w' := by
 have HR := Lib.hid hr
 have HS := Lib.hid hS
 clear hr hS
 obtain ⟨al, hal⟩ : ∃ al, (r.length == 1) = al := ⟨_, rfl⟩
 have hal2 : ((r.length : Int) == 1) = al := by
  rw [← hal, Bool.eq_iff_iff, beq_iff_eq, beq_iff_eq]; omega
 have HAL := Lib.hid hal
 clear hal
 go_enter Tryd.func21, Tryd.ntmps21
 go_wp2_with fail
 go_loopg [3, 8] (r.length + 1) (fun g l i wx => ∃ x : Nat, x ≤ r.length ∧ g = r.length - x + 1 ∧ i = .int .i64 x ∧ Kd.R Kd.string 9 wx w.heap.size (fun _ => True) l ((r.map fun s => fieldW s al).take x) ∧ Below w.heap.size w wx)
 case atStart => exact ⟨0, Nat.zero_le _, rfl, rfl, Kd.R_nil _ _ _ _ _, Below.refl _ _⟩
 case round =>
  obtain ⟨x, hx, hg, rfl, hL, hB⟩ := hrel
  have HG := Lib.hid hg
  clear hg
  obtain ⟨LA, LC, hlv, hlc, _⟩ := Kd.R_reads hL
  have hln : ((r.map fun s => fieldW s al).take x).length = x := by rw [List.length_take, List.length_map]; omega
  by_cases hxl : x < r.length
  ·rw [hln] at hlv
   subst hlv
   obtain ⟨ad, rfl, hcell⟩ := Kd.at_string HR.out (x : Int) (by omega) (by omega)
   replace hcell := (hB.cell (World.block_lt_of_cell? w _ hcell)).trans hcell
   have hrd : rdOf ByteArray.empty r (x : Int) = r[x] := by
    unfold rdOf
    rw [Int.toNat_natCast, List.getD_eq_getElem?_getD, List.getElem?_eq_getElem hxl]; rfl
   rw [hrd, Int.toNat_natCast] at hcell
   have hsz := HS.out _ (List.getElem_mem hxl)
   obtain ⟨s, hs⟩ : ∃ s, r[x] = s := ⟨_, rfl⟩
   rw [hs] at hcell hsz
   have HSX := Lib.hid hs
   clear hs hrd hln
   go_wp2_with fail
   refine (cprint_Field.calls s al (fieldW s al) _ (by unfold cprint_Field.f; rw [if_pos hsz])).mono ?_
   rintro e w1 ⟨rfl, hb1⟩
   have hL1 := Kd.R_below hL hb1
   have hB1 := below_step hB hb1
   have hBs := hB1.size
   have htk : (r.map fun s => fieldW s al).take (x + 1) = (r.map fun s => fieldW s al).take x ++ [fieldW s al] := by
    rw [List.take_add_one, List.getElem?_map, List.getElem?_eq_getElem hxl, HSX.out]; rfl
   have hln : ((r.map fun s => fieldW s al).take x).length = x := by rw [List.length_take, List.length_map]; omega
   have HTK := Lib.hid htk
   have HLN := Lib.hid hln
   clear htk hln hL hb1
   go_wp2_with (at_builtin; refine Kd.R_append Kd.string (w0 := w1) w.heap.size rfl (.tmp 12) (.tmp 18) 24 9 (.string ⟨#[]⟩) 16 rfl Tryd.underlying24 cinfoQ rfl (by decide) (by omega) (.slice LA x LC) ((r.map fun s => fieldW s al).take x) (fieldW s al) [.string (fieldW s al)] (fun _ => True) (fun _ => False) rfl (by first | (go_simp; done) | (go_simp; rfl)) rfl (fun _ hk => hk.elim) (fun _ _ => trivial) hL1 (Below.refl _ _) (by omega) (by rw [HLN.out]; omega) ?_)
   intro v1 w5 hR5 hb5 hg5 hat5
   rw [← HTK.out] at hR5
   have hB5 := hB1.trans hb5
   clear hb5 hg5 hat5 hL1 hB1
   go_wp2
   have hgk := HG.out
   obtain ⟨g, hgg⟩ : ∃ g, r.length - x + 1 = g + 1 := ⟨_, rfl⟩
   rw [hgg] at hgk
   subst hgk
   go_roundg g
   case rel => exact ⟨x + 1, by omega, by omega, by go_num, hR5, hB5⟩
   case measure => omega
  ·have hxe : x = r.length := by omega
   subst hxe
   rw [hln] at hlv
   subst hlv
   have hall : (r.map fun s => fieldW s al).take r.length = r.map fun s => fieldW s al := List.take_of_length_le (by rw [List.length_map]; exact Nat.le_refl _)
   rw [hall] at hL
   have hlen : (r.map fun s => fieldW s al).length = r.length := List.length_map _
   rw [← hlen] at hL
   have hJ := fun W (hb : Below wr.heap.size wr W) => join_own _ _ _ LA LC (r.map fun s => fieldW s al) W (Kd.R_below hL hb) (by rw [hlen]; exact hN) (fun y hy => by
    obtain ⟨s, hs, rfl⟩ := List.mem_map.1 hy
    exact fieldW_size s al (HS.out s hs))
   rw [hlen] at hJ
   have hw : rowW r = joinW (r.map fun s => fieldW s al) ++ ⟨#[13, 10]⟩ := by unfold rowW; rw [HAL.out]
   have hjs : (joinW (r.map fun s => fieldW s al)).size ≤ 200 * 20003 := by
    have h := joinW_size (r.map fun s => fieldW s al) (fun y hy => by
     obtain ⟨s, hs, rfl⟩ := List.mem_map.1 hy
     exact fieldW_size s al (HS.out s hs))
    rw [hlen] at h
    exact Nat.le_trans h (Nat.mul_le_mul_right _ hN)
   have g1 : (joinW (r.map fun s => fieldW s al)).size + 2 ≤ 9223372036854775807 := by omega
   have HJ := Lib.hid hJ
   have HW := Lib.hid hw
   clear hall hlen hL hJ hw hln
   go_wp2_with fail
   refine (HJ.out _ (Below.refl _ _)).mono ?_
   rintro e w5 ⟨rfl, hb5⟩
   have hB5 := below_step hB hb5
   go_wp2
   go_ret
   exact ⟨by rw [HW.out]; rfl, hB5⟩
end Go.Proofs.YtjmmdphkgioooaaDoor.P
end
section
namespace Go.Proofs.YtjmmdphkgioooaaDoor.P
set_option linter.unusedVariables false
open Go.RowKit Go.Proofs.YtjmmdphkgioooaaDoor.La Go.Proofs.YtjmmdphkgioooaaDoorW.PrintWords Go.Proofs.YtjmmdphkgioooaaDoorW.PrintLast Go.Proofs.YtjmmdphkgioooaaDoorW.PrintMore
theorem at_rows {w : World} {A : Option Addr} {n : Nat} {xs : List (List ByteArray)} (h : Kd.C (Kd.slice 9 Kd.string) w A n xs) (i : Nat) (hn : i < n) (hi : i < xs.length) : ∃ ad A0 c0, A = some ad ∧ w.cell? (ad.add i) = some (.slice A0 xs[i].length c0) ∧ xs[i].length ≤ c0 ∧ Kd.string.C w A0 xs[i].length xs[i] := by
 obtain ⟨ad, c, e, _, hK, hc0⟩ := Kd.C_get h ([] : List ByteArray) (i : Int) (by omega) (by omega)
 have e1 : xs.getD ((i : Int)).toNat [] = xs[i] := by rw [Int.toNat_natCast, List.getD_eq_getElem?_getD, List.getElem?_eq_getElem hi]; rfl
 rw [e1] at hK
 obtain ⟨A0, c0, rfl, l0, g0⟩ := hK
 refine ⟨ad, A0, c0, e, ?_, l0, g0⟩
 have hq := hc0 0 _ rfl
 rw [Int.toNat_natCast, show i * (Kd.slice 9 Kd.string).sz + 0 = i from (by show i * 1 + 0 = i; omega)] at hq
 exact hq
theorem AtB_later {B b : Nat} {p : Value} {bs : List Value} {w w' : World} (h : Lib.BuilderAtF 44 5 B b p bs w) (hb : Below w.heap.size w w') : Lib.BuilderAtF 44 5 B b p bs w' := by
 have hlt := h.lt
 obtain ⟨hB, v, hv, hown, hne⟩ := h
 exact ⟨hB, v, (hb.block b hlt).trans hv, hown.kept (row := none) ⟨hb.os, hb.tape, hb.output, hb.size, fun k hk _ => hb.block k hk⟩ (Classical.em _), hne⟩
theorem IsB_later {B b : Nat} {bs : List Value} {w w' : World} (h : IsB B b bs w) (hb : Below w.heap.size w w') : IsB B b bs w' :=
 h.elim (fun x => .inl (AtB_later x hb)) (fun x => .inr (AtB_later x hb))
def fits (rows : List (List ByteArray)) : Prop := rows.length ≤ 100 ∧ ∀ r ∈ rows, r.length ≤ 200 ∧ ∀ s ∈ r, s.size ≤ 10000
instance (rows : List (List ByteArray)) : Decidable (fits rows) := inferInstanceAs (Decidable (rows.length ≤ 100 ∧ ∀ r ∈ rows, r.length ≤ 200 ∧ ∀ s ∈ r, s.size ≤ 10000))
def printL (rows : List (List ByteArray)) : List Int := rows.flatMap rowL
def printW (rows : List (List ByteArray)) : ByteArray := strOfNums (printL rows)
def cprint_Print.f (rows : List (List ByteArray)) : Option ByteArray := if fits rows then some (printW rows) else none
theorem rowL_bytes (r : List ByteArray) : Bytes (rowL r) := by rw [← rowW_bytes]; exact bytes_of _
theorem printL_bytes (rows : List (List ByteArray)) : Bytes (printL rows) := by
 intro b hb
 obtain ⟨r, _, hb⟩ := List.mem_flatMap.1 hb
 exact rowL_bytes r b hb
theorem printW_bytes (rows : List (List ByteArray)) : bytesOf (printW rows) = printL rows := strOfNums_bytes (printL_bytes rows)
theorem rowW_size (r : List ByteArray) (h : r.length ≤ 200) (hS : ∀ s ∈ r, s.size ≤ 10000) : (rowW r).size ≤ 4000602 := by
 unfold rowW
 rw [size_append']
 have h1 := joinW_size (r.map fun s => fieldW s (r.length == 1)) (fun y hy => by
  obtain ⟨s, hs, rfl⟩ := List.mem_map.1 hy
  exact fieldW_size s _ (hS s hs))
 rw [List.length_map] at h1
 have h2 : r.length * 20003 ≤ 200 * 20003 := Nat.mul_le_mul_right _ h
 show _ + 2 ≤ _
 omega
set_option maxHeartbeats 8000000 in
set_option maxRecDepth 100000 in
theorem cprint_Print.calls (A0 : Option Addr) (c0 : Nat) (l0 : List (List ByteArray)) (r : ByteArray) (w : World) (hr0 : Kd.C (Kd.slice 9 Kd.string) w A0 l0.length l0) (hc0 : l0.length ≤ c0) (h : cprint_Print.f l0 = some r) :
  Calls Tryd.prog 9 #[.slice A0 l0.length c0] w fun e w' => e = .returned (.string r) ∧ Below w.heap.size w w' := by
 unfold cprint_Print.f at h
 split at h
 ·rename_i hf
  obtain rfl := Option.some.inj h
  clear h
  have hN := hf.1
  have HF := Lib.hid hf.2
  have HR := Lib.hid hr0
  clear hf hr0
  go_enter Tryd.func9, Tryd.ntmps9
  go_wp2_with fail
  have hfresh : IsB w.heap.size w.heap.size (Lib.byteCells []) (w.alloc (.cells #[.pointer none, .slice none 0 0] 44)) :=
   .inl (Lib.BuilderAtF.of ⟨Nat.le_refl _, .slice none 0 0, heap_alloc_new w _, World.ownsRow_nil _ _ _ _, by simp [Value.ownBlock]⟩)
  have H0 := Lib.hid hfresh
  have hb0 : Below w.heap.size w (w.alloc (.cells #[.pointer none, .slice none 0 0] 44)) := below_alloc (Below.refl _ _) _
  have Hb0 := Lib.hid hb0
  clear hfresh hb0
  go_loopg [8] (l0.length + 1) (fun g i wx => ∃ (x : Nat) (acc : List UInt8), x ≤ l0.length ∧ g = l0.length - x + 1 ∧ i = .int .i64 x ∧ Hid (IsB w.heap.size w.heap.size (Lib.byteCells acc) wx) ∧ Hid (Below w.heap.size w wx) ∧ Hid (bl acc = printL (l0.take x)) ∧ acc.length ≤ x * 4000602)
  case atStart => exact ⟨0, [], Nat.zero_le _, rfl, rfl, H0, Hb0, Lib.hid rfl, Nat.zero_le _⟩
  case round =>
   obtain ⟨x, acc, hx, hg, rfl, HBl, HB, HA, hal⟩ := hrel
   have HG := Lib.hid hg
   clear hg
   have hBw : w.heap.size ≤ wr.heap.size := HB.out.size
   by_cases hxl : x < l0.length
   ·obtain ⟨ad, A1, c1, rfl, hcell, hc1, hC1⟩ := at_rows HR.out x hxl hxl
    replace hcell := (HB.out.cell (World.block_lt_of_cell? w _ hcell)).trans hcell
    have hf := HF.out _ (List.getElem_mem hxl)
    have htk : l0.take (x + 1) = l0.take x ++ [l0[x]] := by
     rw [List.take_add_one, List.getElem?_eq_getElem hxl]; rfl
    obtain ⟨s, hs⟩ : ∃ s, l0[x] = s := ⟨_, rfl⟩
    rw [hs] at hcell hf hc1 hC1 htk
    have hC2 := Kd.C_below hC1 HB.out
    have HRow := Lib.hid (fun W (hb : Below wr.heap.size wr W) => cprint_row_ A1 c1 s W (Kd.C_below (Kd.C_below hC1 HB.out) hb) hc1 hf.1 hf.2)
    have hsz := rowW_size s hf.1 hf.2
    have HTK := Lib.hid htk
    clear hC1 hC2 htk hf hs
    go_wp2_with fail
    refine (HRow.out _ (Below.refl _ _)).mono ?_
    rintro e w1 ⟨rfl, hb1⟩
    have HBl1 := Lib.hid (IsB_later HBl.out hb1)
    have HB1 := Lib.hid (below_step HB.out hb1)
    have hBw1 : w.heap.size ≤ w1.heap.size := HB1.out.size
    clear hb1
    have hxx : x * 4000602 ≤ 100 * 4000602 := Nat.mul_le_mul_right _ (by omega)
    go_wp2_with fail
    refine (bwrite w.heap.size w.heap.size _ (rowW s) w1 HBl1.out (by rw [Lib.byteCells_length]; omega) hBw1).mono ?_
    rintro e w3 ⟨rfl, h3, hb3⟩
    have h3 := builder_more h3
    have H3 := Lib.hid h3
    have HB3 := Lib.hid (HB1.out.trans hb3)
    have hln : (acc ++ (rowW s).data.toList).length ≤ (x + 1) * 4000602 := by
     rw [List.length_append, ← Lib.size_eq]; omega
    have HLN := Lib.hid hln
    have hrel : bl (acc ++ (rowW s).data.toList) = printL (l0.take (x + 1)) := by
     rw [HTK.out, bl_append, HA.out, bl_data, rowW_bytes]
     simp [printL]
    have HREL := Lib.hid hrel
    clear h3 hb3 hln hrel
    go_wp2
    have hgk := HG.out
    obtain ⟨g, hgg⟩ : ∃ g, l0.length - x + 1 = g + 1 := ⟨_, rfl⟩
    rw [hgg] at hgk
    subst hgk
    go_roundg g
    case rel => exact ⟨x + 1, _, by omega, by omega, by go_num, H3, HB3, HREL, HLN.out⟩
    case measure => omega
   ·have hxe : x = l0.length := by omega
    subst hxe
    have hstr : (⟨acc.toArray⟩ : ByteArray) = printW l0 := by
     apply bytesOf_inj
     rw [bytes_mk, HA.out, printW_bytes, List.take_of_length_le (Nat.le_refl _)]
    have Hstr := Lib.hid hstr
    clear hstr
    go_wp2_with fail
    refine (bstring w.heap.size w.heap.size _ wr HBl.out hBw).mono ?_
    rintro e w5 ⟨rfl, hb5⟩
    rw [Hstr.out]
    have Hb5 := Lib.hid (HB.out.trans hb5)
    clear hb5
    go_wp2
    go_ret
    exact ⟨rfl, Hb5.out⟩
 ·cases h
end Go.Proofs.YtjmmdphkgioooaaDoor.P
end
section
namespace Go.Proofs.YtjmmdphkgioooaaDoor.La
def good (r : Int) : Prop := 0 ≤ r ∧ r ≤ 1114111 ∧ (r < 55296 ∨ 57343 < r)
theorem good_iff {r : Int} : good r ↔ 0 ≤ r ∧ r ≤ 1114111 ∧ (r < 55296 ∨ 57343 < r) := Iff.rfl
instance (r : Int) : Decidable (good r) := by unfold good; infer_instance
def enc (r : Int) : List Int :=
 if r < 128 then [r] else if r < 2048 then [192 + r / 64, 128 + r % 64]
 else if r < 65536 then [224 + r / 4096, 128 + r / 64 % 64, 128 + r % 64]
 else [240 + r / 262144, 128 + r / 4096 % 64, 128 + r / 64 % 64, 128 + r % 64]
def tk2 (a b : Int) : Int := (a - 192) * 64 + (b - 128)
def tk3 (a b c : Int) : Int := (a - 224) * 4096 + (b - 128) * 64 + (c - 128)
def tk4 (a b c d : Int) : Int := (a - 240) * 262144 + (b - 128) * 4096 + (c - 128) * 64 + (d - 128)
/-- The letter that a list begins with, and how many bytes it has; 0, 0: none. -/
def tk : List Int → Int × Int
 | [] => (0, 0)
 | a :: t =>
  if a < 128 then (a, 1)
  else if a < 192 then (0, 0)
  else if a < 224 then
   match t with
   | b :: _ => if 128 ≤ b ∧ b < 192 ∧ 128 ≤ tk2 a b then (tk2 a b, 2) else (0, 0)
   | [] => (0, 0)
  else if a < 240 then
   match t with
   | b :: c :: _ => if 128 ≤ b ∧ b < 192 ∧ 128 ≤ c ∧ c < 192 ∧ 2048 ≤ tk3 a b c ∧ (tk3 a b c < 55296 ∨ 57343 < tk3 a b c) then (tk3 a b c, 3) else (0, 0)
   | _ => (0, 0)
  else if a < 248 then
   match t with
   | b :: c :: d :: _ => if 128 ≤ b ∧ b < 192 ∧ 128 ≤ c ∧ c < 192 ∧ 128 ≤ d ∧ d < 192 ∧ 65536 ≤ tk4 a b c d ∧ tk4 a b c d ≤ 1114111 then (tk4 a b c d, 4) else (0, 0)
   | _ => (0, 0)
  else (0, 0)
theorem enc_len (r : Int) : 1 ≤ (enc r).length ∧ (enc r).length ≤ 4 := by
 unfold enc
 split
 ·simp
 ·split
  ·simp
  ·split <;> simp
theorem tk_enc {r : Int} (h : good r) (m : List Int) : tk (enc r ++ m) = (r, ((enc r).length : Int)) := by
 unfold good at h
 unfold enc
 split
 ·rename_i h1
  simp [tk, h1]
 ·rename_i h1
  split
  ·rename_i h2
   have e1 : ¬ (192 + r / 64 < 128) := by omega
   have e2 : ¬ (192 + r / 64 < 192) := by omega
   have e3 : 192 + r / 64 < 224 := by omega
   have e4 : tk2 (192 + r / 64) (128 + r % 64) = r := by unfold tk2; omega
   simp only [List.cons_append, List.nil_append, tk, if_neg e1, if_neg e2, if_pos e3, e4]
   rw [if_pos (by omega)]
   simp
  ·rename_i h2
   split
   ·rename_i h3
    have e1 : ¬ (224 + r / 4096 < 128) := by omega
    have e2 : ¬ (224 + r / 4096 < 192) := by omega
    have e3 : ¬ (224 + r / 4096 < 224) := by omega
    have e3' : 224 + r / 4096 < 240 := by omega
    have e4 : tk3 (224 + r / 4096) (128 + r / 64 % 64) (128 + r % 64) = r := by unfold tk3; omega
    simp only [List.cons_append, List.nil_append, tk, if_neg e1, if_neg e2, if_neg e3, if_pos e3', e4]
    rw [if_pos (by omega)]
    simp
   ·rename_i h3
    have e1 : ¬ (240 + r / 262144 < 128) := by omega
    have e2 : ¬ (240 + r / 262144 < 192) := by omega
    have e3 : ¬ (240 + r / 262144 < 224) := by omega
    have e3' : ¬ (240 + r / 262144 < 240) := by omega
    have e3'' : 240 + r / 262144 < 248 := by omega
    have e4 : tk4 (240 + r / 262144) (128 + r / 4096 % 64) (128 + r / 64 % 64) (128 + r % 64) = r := by unfold tk4; omega
    simp only [List.cons_append, List.nil_append, tk, if_neg e1, if_neg e2, if_neg e3, if_neg e3', if_pos e3'', e4]
    rw [if_pos (by omega)]
    simp
/-- What is read was written. -/
theorem tk_inv (l : List Int) (hl : ∀ x ∈ l, 0 ≤ x ∧ x < 256) : tk l = (0, 0) ∨ (good (tk l).1 ∧ (tk l).2 = ((enc (tk l).1).length : Int) ∧ ∃ m, l = enc (tk l).1 ++ m) := by
 match l with
 | [] => exact .inl rfl
 | a :: t =>
  have ha := hl a List.mem_cons_self
  simp only [tk]
  split
  ·rename_i h1
   refine .inr ⟨by unfold good; omega, ?_, t, ?_⟩ <;> simp [enc, h1]
  ·rename_i h1
   split
   ·exact .inl rfl
   ·rename_i h2
    split
    ·rename_i h3
     match t with
     | [] => exact .inl rfl
     | b :: t =>
      simp only
      split
      ·rename_i h4
       have hr : ¬ (tk2 a b < 128) := by omega
       have hr' : tk2 a b < 2048 := by unfold tk2; omega
       refine .inr ⟨by unfold good; omega, ?_, t, ?_⟩
       ·simp [enc, hr, hr']
       ·simp only [enc, if_neg hr, if_pos hr']
        have e1 : 192 + tk2 a b / 64 = a := by unfold tk2; omega
        have e2 : 128 + tk2 a b % 64 = b := by unfold tk2; omega
        rw [e1, e2]
        rfl
      ·exact .inl rfl
    ·rename_i h3
     split
     ·rename_i h4
      match t with
      | [] => exact .inl rfl
      | [_] => exact .inl rfl
      | b :: c :: t =>
       simp only
       split
       ·rename_i h5
        have hr : ¬ (tk3 a b c < 128) := by omega
        have hr' : ¬ (tk3 a b c < 2048) := by omega
        have hr'' : tk3 a b c < 65536 := by unfold tk3; omega
        refine .inr ⟨by unfold good; omega, ?_, t, ?_⟩
        ·simp [enc, hr, hr', hr'']
        ·simp only [enc, if_neg hr, if_neg hr', if_pos hr'']
         have e1 : 224 + tk3 a b c / 4096 = a := by unfold tk3; omega
         have e2 : 128 + tk3 a b c / 64 % 64 = b := by unfold tk3; omega
         have e3 : 128 + tk3 a b c % 64 = c := by unfold tk3; omega
         rw [e1, e2, e3]
         rfl
       ·exact .inl rfl
     ·rename_i h4
      split
      ·rename_i h4'
       match t with
       | [] => exact .inl rfl
       | [_] => exact .inl rfl
       | [_, _] => exact .inl rfl
       | b :: c :: d :: t =>
        simp only
        split
        ·rename_i h5
         have hr : ¬ (tk4 a b c d < 128) := by omega
         have hr' : ¬ (tk4 a b c d < 2048) := by omega
         have hr'' : ¬ (tk4 a b c d < 65536) := by omega
         refine .inr ⟨by unfold good; omega, ?_, t, ?_⟩
         ·simp [enc, hr, hr', hr'']
         ·simp only [enc, if_neg hr, if_neg hr', if_neg hr'']
          have e1 : 240 + tk4 a b c d / 262144 = a := by unfold tk4; omega
          have e2 : 128 + tk4 a b c d / 4096 % 64 = b := by unfold tk4; omega
          have e3 : 128 + tk4 a b c d / 64 % 64 = c := by unfold tk4; omega
          have e4 : 128 + tk4 a b c d % 64 = d := by unfold tk4; omega
          rw [e1, e2, e3, e4]
          rfl
        ·exact .inl rfl
      ·exact .inl rfl
/-- How far the reading goes on. -/
def stp (l : List Int) : Nat := if (tk l).2 = 0 then 1 else (tk l).2.toNat
theorem tk_bound (l : List Int) (hl : ∀ x ∈ l, 0 ≤ x ∧ x < 256) : 0 ≤ (tk l).2 ∧ (tk l).2 ≤ 4 ∧ (tk l).2 ≤ l.length ∧ 0 ≤ (tk l).1 ∧ (tk l).1 ≤ 1114111 := by
 rcases tk_inv l hl with h | ⟨hg, hn, m, hm⟩
 ·rw [h]; simp
 ·have := enc_len (tk l).1
  have h2 : l.length = (enc (tk l).1).length + m.length := by
   have := congrArg List.length hm
   rwa [List.length_append] at this
  unfold good at hg
  omega
theorem stp_pos (l : List Int) (hl : ∀ x ∈ l, 0 ≤ x ∧ x < 256) : 1 ≤ stp l ∧ stp l ≤ 4 := by
 have := tk_bound l hl
 unfold stp
 split <;> omega
theorem stp_pos' (l : List Int) : 1 ≤ stp l := by
 unfold stp
 split
 ·omega
 ·have : 0 ≤ (tk l).2 := by
   match l with
   | [] => simp [tk]
   | a :: t =>
    unfold tk
    (repeat' split) <;> simp
  omega
theorem stp_le {l : List Int} (hl : ∀ x ∈ l, 0 ≤ x ∧ x < 256) (h : l ≠ []) : stp l ≤ l.length := by
 have := tk_bound l hl
 have : 0 < l.length := List.length_pos_iff.2 h
 unfold stp
 split <;> omega
theorem drop_lt {l : List Int} (h : l ≠ []) : (l.drop (stp l)).length < l.length := by
 have := stp_pos' l
 have : 0 < l.length := List.length_pos_iff.2 h
 rw [List.length_drop]
 omega
/-- How many letters. -/
def cnt (l : List Int) : Nat := if _h : l = [] then 0 else cnt (l.drop (stp l)) + 1
termination_by l.length
decreasing_by exact drop_lt (by assumption)
/-- Where the first byte stands that begins none. -/
def bad (l : List Int) : Option Nat := if _h : l = [] then none else if (tk l).2 = 0 then some 0 else (bad (l.drop (stp l))).map (· + stp l)
termination_by l.length
decreasing_by exact drop_lt (by assumption)
theorem cnt_nil : cnt [] = 0 := by rw [cnt]; simp
theorem cnt_step {l : List Int} (h : l ≠ []) : cnt l = cnt (l.drop (stp l)) + 1 := by rw [cnt, dif_neg h]
theorem bad_nil : bad [] = none := by rw [bad]; simp
theorem bad_none {l : List Int} (h : l ≠ []) (h0 : (tk l).2 = 0) : bad l = some 0 := by rw [bad, dif_neg h, if_pos h0]
theorem bad_step {l : List Int} (h : l ≠ []) (h0 : (tk l).2 ≠ 0) : bad l = (bad (l.drop (stp l))).map (· + stp l) := by rw [bad, dif_neg h, if_neg h0]
theorem cnt_le (l : List Int) : cnt l ≤ l.length := by
 by_cases h : l = []
 ·subst h; rw [cnt_nil]; simp
 ·have := cnt_le (l.drop (stp l))
  have := drop_lt h
  rw [cnt_step h]
  omega
termination_by l.length
decreasing_by exact drop_lt h
end Go.Proofs.YtjmmdphkgioooaaDoor.La
end
section
namespace Go.Proofs.YtjmmdphkgioooaaDoor.P
open Go.RowKit Go.Proofs.YtjmmdphkgioooaaDoorW.PrintWords Go.Proofs.YtjmmdphkgioooaaDoorW.PrintLast Go.Proofs.YtjmmdphkgioooaaDoorW.PrintMore
attribute [local go_sem] max2_int min2_int max_two min_two max_three min_three max_four min_four   -- for this text's walks alone
set_option linter.unusedVariables false
set_option linter.unusedSimpArgs false
/-! ### utf_begins: function 39 -/
def utf_begins.f (a0 : Int) : Option (Int × Int) := if a0 < 128 then (some (1, wrap64 (a0))) else (if a0 < 192 then (some (0, 0)) else (if a0 < 224 then (some (2, wrap64 (Go.bits .andNot .u8 a0 192))) else (if a0 < 240 then (some (3, wrap64 (Go.bits .andNot .u8 a0 224))) else (if a0 < 248 then (some (4, wrap64 (Go.bits .andNot .u8 a0 240))) else (some (0, 0))))))
set_option maxHeartbeats 8000000 in
set_option maxRecDepth 100000 in
theorem utf_begins.calls (a0 : Int) (r1 : Int) (r2 : Int) (w : World) (h : utf_begins.f a0 = some (r1, r2)) :
  Calls Tryd.prog 39 #[.int .u8 a0] w fun e w' => e = .returned (.tuple #[.int .i64 r1, .int .i64 r2]) ∧ Drawn0 w w' := by
 have H : (if a0 < 128 then (some (1, wrap64 (a0))) else (if a0 < 192 then (some (0, 0)) else (if a0 < 224 then (some (2, wrap64 (Go.bits .andNot .u8 a0 192))) else (if a0 < 240 then (some (3, wrap64 (Go.bits .andNot .u8 a0 224))) else (if a0 < 248 then (some (4, wrap64 (Go.bits .andNot .u8 a0 240))) else (some (0, 0))))))) = some (r1, r2) := h
 clear h
 by_cases c2 : a0 < 128
 ·rw [if_pos c2] at H
  have c2b0 : decide (a0 < 128) = true := decide_eq_true c2
  clear c2
  simp only [Option.some.injEq, Prod.mk.injEq] at H
  obtain ⟨rfl, rfl⟩ := H
  go_enter Tryd.func39, Tryd.ntmps39
  go_wp2
  go_ret2
  exact ⟨by first | rfl | (simp; done) | (simp [*]; done), by repeat (first | exact Drawn0.refl _ | apply Drawn0.step)⟩
 ·rw [if_neg c2] at H
  have c2b0 : decide (a0 < 128) = false := decide_eq_false c2
  clear c2
  by_cases c3 : a0 < 192
  ·rw [if_pos c3] at H
   have c3b0 : decide (a0 < 192) = true := decide_eq_true c3
   clear c3
   simp only [Option.some.injEq, Prod.mk.injEq] at H
   obtain ⟨rfl, rfl⟩ := H
   go_enter Tryd.func39, Tryd.ntmps39
   go_wp2
   go_ret2
   exact ⟨by first | rfl | (simp; done) | (simp [*]; done), by repeat (first | exact Drawn0.refl _ | apply Drawn0.step)⟩
  ·rw [if_neg c3] at H
   have c3b0 : decide (a0 < 192) = false := decide_eq_false c3
   clear c3
   by_cases c4 : a0 < 224
   ·rw [if_pos c4] at H
    have c4b0 : decide (a0 < 224) = true := decide_eq_true c4
    clear c4
    simp only [Option.some.injEq, Prod.mk.injEq] at H
    obtain ⟨rfl, rfl⟩ := H
    go_enter Tryd.func39, Tryd.ntmps39
    go_wp2
    go_ret2
    exact ⟨by first | rfl | (simp; done) | (simp [*]; done), by repeat (first | exact Drawn0.refl _ | apply Drawn0.step)⟩
   ·rw [if_neg c4] at H
    have c4b0 : decide (a0 < 224) = false := decide_eq_false c4
    clear c4
    by_cases c5 : a0 < 240
    ·rw [if_pos c5] at H
     have c5b0 : decide (a0 < 240) = true := decide_eq_true c5
     clear c5
     simp only [Option.some.injEq, Prod.mk.injEq] at H
     obtain ⟨rfl, rfl⟩ := H
     go_enter Tryd.func39, Tryd.ntmps39
     go_wp2
     go_ret2
     exact ⟨by first | rfl | (simp; done) | (simp [*]; done), by repeat (first | exact Drawn0.refl _ | apply Drawn0.step)⟩
    ·rw [if_neg c5] at H
     have c5b0 : decide (a0 < 240) = false := decide_eq_false c5
     clear c5
     by_cases c6 : a0 < 248
     ·rw [if_pos c6] at H
      have c6b0 : decide (a0 < 248) = true := decide_eq_true c6
      clear c6
      simp only [Option.some.injEq, Prod.mk.injEq] at H
      obtain ⟨rfl, rfl⟩ := H
      go_enter Tryd.func39, Tryd.ntmps39
      go_wp2
      go_ret2
      exact ⟨by first | rfl | (simp; done) | (simp [*]; done), by repeat (first | exact Drawn0.refl _ | apply Drawn0.step)⟩
     ·rw [if_neg c6] at H
      have c6b0 : decide (a0 < 248) = false := decide_eq_false c6
      clear c6
      simp only [Option.some.injEq, Prod.mk.injEq] at H
      obtain ⟨rfl, rfl⟩ := H
      go_enter Tryd.func39, Tryd.ntmps39
      go_wp2
      go_ret2
      exact ⟨by first | rfl | (simp; done) | (simp [*]; done), by repeat (first | exact Drawn0.refl _ | apply Drawn0.step)⟩
end Go.Proofs.YtjmmdphkgioooaaDoor.P
end
section
namespace Go.Proofs.YtjmmdphkgioooaaDoor.P
open Go.RowKit Go.Proofs.YtjmmdphkgioooaaDoorW.PrintWords Go.Proofs.YtjmmdphkgioooaaDoorW.PrintLast Go.Proofs.YtjmmdphkgioooaaDoorW.PrintMore
attribute [local go_sem] max2_int min2_int max_two min_two max_three min_three max_four min_four   -- for this text's walks alone
set_option linter.unusedVariables false
set_option linter.unusedSimpArgs false
/-! ### utf_Good: function 40 -/
def utf_Good.f (a0 : Int) : Option (Bool) := if a0 ≥ 0 then (if a0 ≤ 1114111 then (if a0 < 55296 then (some true) else (some (decide (a0 > 57343)))) else (some false)) else (some false)
set_option maxHeartbeats 8000000 in
set_option maxRecDepth 100000 in
theorem utf_Good.calls (a0 : Int) (r : Bool) (w : World) (h : utf_Good.f a0 = some r) :
  Calls Tryd.prog 40 #[.int .i64 a0] w fun e w' => e = .returned (.bool r) ∧ Drawn0 w w' := by
 have H : (if a0 ≥ 0 then (if a0 ≤ 1114111 then (if a0 < 55296 then (some true) else (some (decide (a0 > 57343)))) else (some false)) else (some false)) = some r := h
 clear h
 by_cases c2 : a0 ≥ 0
 ·rw [if_pos c2] at H
  have c2b0 : decide (0 ≤ a0) = true := decide_eq_true c2
  clear c2
  by_cases c3 : a0 ≤ 1114111
  ·rw [if_pos c3] at H
   have c3b0 : decide (a0 ≤ 1114111) = true := decide_eq_true c3
   clear c3
   by_cases c4 : a0 < 55296
   ·rw [if_pos c4] at H
    have c4b0 : decide (a0 < 55296) = true := decide_eq_true c4
    clear c4
    obtain rfl := Option.some.inj H
    go_enter Tryd.func40, Tryd.ntmps40
    go_wp2
    go_ret
    exact ⟨by first | rfl | (simp; done) | (simp [*]; done), by repeat (first | exact Drawn0.refl _ | apply Drawn0.step)⟩
   ·rw [if_neg c4] at H
    have c4b0 : decide (a0 < 55296) = false := decide_eq_false c4
    clear c4
    obtain rfl := Option.some.inj H
    go_enter Tryd.func40, Tryd.ntmps40
    go_wp2
    go_ret
    exact ⟨by first | rfl | (simp; done) | (simp [*]; done), by repeat (first | exact Drawn0.refl _ | apply Drawn0.step)⟩
  ·rw [if_neg c3] at H
   have c3b0 : decide (a0 ≤ 1114111) = false := decide_eq_false c3
   clear c3
   obtain rfl := Option.some.inj H
   go_enter Tryd.func40, Tryd.ntmps40
   go_wp2
   go_ret
   exact ⟨by first | rfl | (simp; done) | (simp [*]; done), by repeat (first | exact Drawn0.refl _ | apply Drawn0.step)⟩
 ·rw [if_neg c2] at H
  have c2b0 : decide (0 ≤ a0) = false := decide_eq_false c2
  clear c2
  obtain rfl := Option.some.inj H
  go_enter Tryd.func40, Tryd.ntmps40
  go_wp2
  go_ret
  exact ⟨by first | rfl | (simp; done) | (simp [*]; done), by repeat (first | exact Drawn0.refl _ | apply Drawn0.step)⟩
end Go.Proofs.YtjmmdphkgioooaaDoor.P
end
section
namespace Go.Proofs.YtjmmdphkgioooaaDoor.P
open Go.RowKit Go.Proofs.YtjmmdphkgioooaaDoorW.PrintWords Go.Proofs.YtjmmdphkgioooaaDoorW.PrintLast Go.Proofs.YtjmmdphkgioooaaDoorW.PrintMore
attribute [local go_sem] max2_int min2_int max_two min_two max_three min_three max_four min_four   -- for this text's walks alone
set_option linter.unusedVariables false
set_option linter.unusedSimpArgs false
/-! ### utf_size: function 41 -/
def utf_size.f (a0 : Int) : Option (Int) := if a0 < 128 then (some 1) else (if a0 < 2048 then (some 2) else (if a0 < 65536 then (some 3) else (some 4)))
set_option maxHeartbeats 8000000 in
set_option maxRecDepth 100000 in
theorem utf_size.calls (a0 : Int) (r : Int) (w : World) (h : utf_size.f a0 = some r) :
  Calls Tryd.prog 41 #[.int .i64 a0] w fun e w' => e = .returned (.int .i64 r) ∧ Drawn0 w w' := by
 have H : (if a0 < 128 then (some 1) else (if a0 < 2048 then (some 2) else (if a0 < 65536 then (some 3) else (some 4)))) = some r := h
 clear h
 by_cases c2 : a0 < 128
 ·rw [if_pos c2] at H
  have c2b0 : decide (a0 < 128) = true := decide_eq_true c2
  clear c2
  obtain rfl := Option.some.inj H
  go_enter Tryd.func41, Tryd.ntmps41
  go_wp2
  go_ret
  exact ⟨by first | rfl | (simp; done) | (simp [*]; done), by repeat (first | exact Drawn0.refl _ | apply Drawn0.step)⟩
 ·rw [if_neg c2] at H
  have c2b0 : decide (a0 < 128) = false := decide_eq_false c2
  clear c2
  by_cases c3 : a0 < 2048
  ·rw [if_pos c3] at H
   have c3b0 : decide (a0 < 2048) = true := decide_eq_true c3
   clear c3
   obtain rfl := Option.some.inj H
   go_enter Tryd.func41, Tryd.ntmps41
   go_wp2
   go_ret
   exact ⟨by first | rfl | (simp; done) | (simp [*]; done), by repeat (first | exact Drawn0.refl _ | apply Drawn0.step)⟩
  ·rw [if_neg c3] at H
   have c3b0 : decide (a0 < 2048) = false := decide_eq_false c3
   clear c3
   by_cases c4 : a0 < 65536
   ·rw [if_pos c4] at H
    have c4b0 : decide (a0 < 65536) = true := decide_eq_true c4
    clear c4
    obtain rfl := Option.some.inj H
    go_enter Tryd.func41, Tryd.ntmps41
    go_wp2
    go_ret
    exact ⟨by first | rfl | (simp; done) | (simp [*]; done), by repeat (first | exact Drawn0.refl _ | apply Drawn0.step)⟩
   ·rw [if_neg c4] at H
    have c4b0 : decide (a0 < 65536) = false := decide_eq_false c4
    clear c4
    obtain rfl := Option.some.inj H
    go_enter Tryd.func41, Tryd.ntmps41
    go_wp2
    go_ret
    exact ⟨by first | rfl | (simp; done) | (simp [*]; done), by repeat (first | exact Drawn0.refl _ | apply Drawn0.step)⟩
end Go.Proofs.YtjmmdphkgioooaaDoor.P
end
section
namespace Go.Proofs.YtjmmdphkgioooaaDoor.P
open Go.RowKit Go.Proofs.YtjmmdphkgioooaaDoorW.PrintWords Go.Proofs.YtjmmdphkgioooaaDoorW.PrintLast Go.Proofs.YtjmmdphkgioooaaDoorW.PrintMore
attribute [local go_sem] max2_int min2_int max_two min_two max_three min_three max_four min_four   -- for this text's walks alone
set_option linter.unusedVariables false
set_option linter.unusedSimpArgs false
/-! ### utf_Take: function 30 -/
mutual
def utf_Take.j0 : Nat → ByteArray → Int → Int → Bool → Option (Int × Int)
 | 0, _, _, _, _ => none
 | k + 1, x0, x4, x5, x22 => if x22 = true then (some (0, 0)) else (utf_Take.l0 k x0 x4 x5 1)
def utf_Take.l0 : Nat → ByteArray → Int → Int → Int → Option (Int × Int)
 | 0, _, _, _, _ => none
 | k + 1, x0, x4, x5, x6 => if x6 < x4 then (if 0 ≤ x6 then (if x6 < (x0.size : Int) then (if (Go.bits .and .u8 (bt x0 x6) 192) = 128 then (utf_Take.l0 k x0 x4 (Go.bits .or .i64 (wrap64 (x5 * 64)) (wrap64 (Go.bits .and .u8 (bt x0 x6) 63))) (wrap64 (x6 + 1))) else (some (0, 0))) else (none)) else (none)) else ((utf_Good.f x5).bind fun t210 => (if t210 = true then ((utf_size.f x5).bind fun t211 => (if t211 = x4 then (some (x5, x4)) else (some (0, 0)))) else (some (0, 0))))
end
def utf_Take.f (k : Nat) (a0 : ByteArray) : Option (Int × Int) := if a0.toList = ([] : List UInt8) then (some (0, 0)) else (if 0 < (a0.size : Int) then ((utf_begins.f (bt a0 0)).bind fun bt208 => (if bt208.1 = 0 then (utf_Take.j0 k a0 bt208.1 bt208.2 true) else (utf_Take.j0 k a0 bt208.1 bt208.2 (decide (bt208.1 > (a0.size : Int)))))) else (none))
set_option maxHeartbeats 8000000 in
set_option maxRecDepth 100000 in
theorem utf_Take.calls (k : Nat) (a0 : ByteArray) (r1 : Int) (r2 : Int) (w : World) (h : utf_Take.f k a0 = some (r1, r2)) :
  Calls Tryd.prog 30 #[.string a0] w fun e w' => e = .returned (.tuple #[.int .i64 r1, .int .i64 r2]) ∧ Drawn0 w w' := by
 have H : (if a0.toList = ([] : List UInt8) then (some (0, 0)) else (if 0 < (a0.size : Int) then ((utf_begins.f (bt a0 0)).bind fun bt208 => (if bt208.1 = 0 then (utf_Take.j0 k a0 bt208.1 bt208.2 true) else (utf_Take.j0 k a0 bt208.1 bt208.2 (decide (bt208.1 > (a0.size : Int)))))) else (none))) = some (r1, r2) := h
 clear h
 by_cases c2 : a0.toList = ([] : List UInt8)
 ·rw [if_pos c2] at H
  have c2b0 : (a0.toList == ([] : List UInt8)) = true := beq_iff_eq.mpr c2
  have c2b1 : (a0.toList != ([] : List UInt8)) = false := bne_eq_false_iff_eq.mpr c2
  clear c2
  simp only [Option.some.injEq, Prod.mk.injEq] at H
  obtain ⟨rfl, rfl⟩ := H
  go_enter Tryd.func30, Tryd.ntmps30
  go_wp2
  go_ret2
  exact ⟨by first | rfl | (simp; done) | (simp [*]; done), by repeat (first | exact Drawn0.refl _ | apply Drawn0.step)⟩
 ·rw [if_neg c2] at H
  have c2b0 : (a0.toList == ([] : List UInt8)) = false := beq_eq_false_iff_ne.mpr c2
  have c2b1 : (a0.toList != ([] : List UInt8)) = true := bne_iff_ne.mpr c2
  by_cases c3 : 0 < (a0.size : Int)
  ·rw [if_pos c3] at H
   have c3b0 : decide (0 < (a0.size : Int)) = true := decide_eq_true c3
   have c3b1 : decide (0 < a0.size) = true := decide_eq_true (by omega)
   clear c3
   replace H := Option.bind_eq_some_iff.mp H
   obtain ⟨⟨t208, t209⟩, A50, H⟩ := H
   replace H : (if t208 = 0 then (utf_Take.j0 k a0 t208 t209 true) else (utf_Take.j0 k a0 t208 t209 (decide (t208 > (a0.size : Int))))) = some (r1, r2) := H
   have A5 := Aside0.mk A50
   clear A50
   have HC6 := Aside0.mk H
   clear H
   have p4 : 0 ≤ (0 : Int) := (by omega)
   have q4 : 0 < a0.size := (by have : (0 : Int) < (a0.size : Int) := of_decide_eq_true (by first | (with_reducible assumption) | assumption); omega)
   have hx4 : ∀ h : 0 < a0.size, ((a0[0]'h).toNat : Int) = bt a0 0 := bt_at a0 0
   clear p4
   have qi4 : (0 < (a0.size : Int)) = True := eq_true (of_decide_eq_true (by first | (with_reducible assumption) | assumption))
   replace q4 := eq_true q4
   go_enter Tryd.func30, Tryd.ntmps30
   go_upto_region 4 with (first | ((with_reducible refine gate_callee (f := 39) rfl ?_); refine goesL_ (some 12) rfl rfl Tryd.func39 (by kernel_rfl) rfl #[.int .u8 (bt a0 0)] rfl (by (try simp only [List.map_toArray, List.map_cons, List.map_nil]); first | done | rfl | (simp only [List.length_drop, List.length_take]; rfl)) ?_; (with_reducible refine (utf_begins.calls (bt a0 0) t208 t209 _ A5.out).mono ?_); rintro e w' ⟨rfl, ⟨nd, rfl⟩⟩; refine ⟨_, rfl, ?_⟩))
   (try simp only [Act.put, List.setIfInBounds_toArray, List.set_cons_zero, List.set_cons_succ])
   go_cut [22] (fun v22 wc => ∃ (kq : Nat) (x22_5 : Bool), v22 = .bool x22_5 ∧ Aside0 (utf_Take.j0 kq a0 t208 t209 x22_5 = some (r1, r2)) ∧ Aside0 (kq ≤ k) ∧ Drawn0 w wc)
   case first =>
    have H := HC6.out
    clear HC6
    by_cases c7 : t208 = 0
    ·rw [if_pos c7] at H
     have c7b0 : (t208 == 0) = true := beq_iff_eq.mpr c7
     have c7b1 : (t208 != 0) = false := bne_eq_false_iff_eq.mpr c7
     clear c7
     (first | rw [c7b0] | (simp only [i64_w, i32_w]; rw [c7b0]) | skip)
     have H' := Aside0.mk H
     clear H
     go_wp2
     go_meet
     case rel => exact ⟨_, (true), (by first | rfl | (simp; done) | (simp [*]; done)), H', ⟨by first | omega | exact Nat.le_refl _⟩, by repeat (first | exact Drawn0.refl _ | apply Drawn0.step)⟩
    ·rw [if_neg c7] at H
     have c7b0 : (t208 == 0) = false := beq_eq_false_iff_ne.mpr c7
     have c7b1 : (t208 != 0) = true := bne_iff_ne.mpr c7
     (first | rw [c7b0] | (simp only [i64_w, i32_w]; rw [c7b0]) | skip)
     have H' := Aside0.mk H
     clear H
     go_wp2
     go_meet
     case rel => exact ⟨_, (decide (t208 > (a0.size : Int))), (by first | rfl | (simp; done) | (simp [*]; done)), H', ⟨by first | omega | exact Nat.le_refl _⟩, by repeat (first | exact Drawn0.refl _ | apply Drawn0.step)⟩
   case rest =>
    clear HC6
    try clear c2
    try clear c2b0
    try clear c2b1
    try clear p2
    try clear c3
    try clear c3b0
    try clear c3b1
    try clear p4
    try clear q4
    try clear hx4
    try clear qi4
    try clear c7
    try clear c7b0
    try clear c7b1
    try clear p4
    try clear q4
    obtain ⟨kq, x22_5, rfl, HA, HJ5, ⟨mc5, rfl⟩⟩ := hcut
    cases kq with
    | zero => exact absurd HA.out (by simp [utf_Take.j0])
    | succ kj5 =>
     have H := HA.out
     clear HA
     simp only [utf_Take.j0] at H
     by_cases c8 : x22_5 = true
     ·subst c8
      have H1 : (some (0, 0)) = some (r1, r2) := by rw [if_pos rfl] at H; exact H
      clear H
      have H := H1
      clear H1
      simp only [Option.some.injEq, Prod.mk.injEq] at H
      obtain ⟨rfl, rfl⟩ := H
      go_wp2
      go_ret2
      exact ⟨by first | rfl | (simp; done) | (simp [*]; done), by repeat (first | exact Drawn0.refl _ | apply Drawn0.step)⟩
     ·replace c8 := Bool.eq_false_iff.mpr c8
      subst c8
      have H1 : (utf_Take.l0 kj5 a0 t208 t209 1) = some (r1, r2) := by rw [if_neg (show ¬ (false = true) by decide)] at H; exact H
      clear H
      have H := H1
      clear H1
      have H' := Aside0.mk H
      clear H
      go_wp2
      go_loopg [5, 6] kj5 (fun kq v5 v6 w' => ∃ (x5_2 : Int) (x6_2 : Int), v5 = .int .i64 x5_2 ∧ v6 = .int .i64 x6_2 ∧ Aside0 (utf_Take.l0 kq a0 t208 x5_2 x6_2 = some (r1, r2)) ∧ Aside0 (kq ≤ kj5) ∧ Drawn0 w w')
      case atStart => exact ⟨(t209), (1), (by first | rfl | (simp; done) | (simp [*]; done)), (by first | rfl | (simp; done) | (simp [*]; done)), H', ⟨Nat.le_refl _⟩, by repeat (first | exact Drawn0.refl _ | apply Drawn0.step)⟩
      case round =>
       clear H'
       try clear c2
       try clear c2b0
       try clear c2b1
       try clear p2
       try clear c3
       try clear c3b0
       try clear c3b1
       try clear p4
       try clear q4
       try clear hx4
       try clear qi4
       try clear c5
       try clear c7
       try clear c7b0
       try clear c7b1
       try clear c8
       try clear p2
       try clear p4
       try clear q4
       obtain ⟨x5_2, x6_2, rfl, rfl, HA, HK2, ⟨m2, rfl⟩⟩ := hrel
       cases gk with
       | zero => exact absurd HA.out (by simp [utf_Take.l0])
       | succ k2 =>
        have H := HA.out
        clear HA
        simp only [utf_Take.l0] at H
        by_cases c9 : x6_2 < t208
        ·rw [if_pos c9] at H
         have c9b0 : decide (x6_2 < t208) = true := decide_eq_true c9
         clear c9
         by_cases c10 : 0 ≤ x6_2
         ·rw [if_pos c10] at H
          have c10b0 : decide (0 ≤ x6_2) = true := decide_eq_true c10
          clear c10
          by_cases c11 : x6_2 < (a0.size : Int)
          ·rw [if_pos c11] at H
           have c11b0 : decide (x6_2 < (a0.size : Int)) = true := decide_eq_true c11
           clear c11
           by_cases c13 : (Go.bits .and .u8 (bt a0 x6_2) 192) = 128
           ·rw [if_pos c13] at H
            have c13b0 : ((Go.bits .and .u8 (bt a0 x6_2) 192) == 128) = true := beq_iff_eq.mpr c13
            have c13b1 : ((Go.bits .and .u8 (bt a0 x6_2) 192) != 128) = false := bne_eq_false_iff_eq.mpr c13
            clear c13
            have H' := Aside0.mk H
            clear H
            have p12 : 0 ≤ (x6_2 : Int) := of_decide_eq_true (by first | (with_reducible assumption) | assumption)
            have q12 : x6_2 < (a0.size : Int) := of_decide_eq_true (by first | (with_reducible assumption) | assumption)
            have hx12 := bt_at a0 x6_2
            replace p12 := eq_true p12
            replace q12 := eq_true q12
            have p14 : 0 ≤ (x6_2 : Int) := of_decide_eq_true (by first | (with_reducible assumption) | assumption)
            have q14 : x6_2 < (a0.size : Int) := of_decide_eq_true (by first | (with_reducible assumption) | assumption)
            have hx14 := bt_at a0 x6_2
            replace p14 := eq_true p14
            replace q14 := eq_true q14
            go_wp2
            go_roundg k2
            case measure => have := HJ5.out; have := HK2.out; omega
            case rel => exact ⟨(Go.bits .or .i64 (wrap64 (x5_2 * 64)) (wrap64 (Go.bits .and .u8 (bt a0 x6_2) 63))), (wrap64 (x6_2 + 1)), (by first | rfl | (simp; done) | (simp [*]; done)), (by first | rfl | (simp; done) | (simp [*]; done)), H', ⟨by have := HJ5.out; have := HK2.out; omega⟩, by repeat (first | exact Drawn0.refl _ | apply Drawn0.step)⟩
           ·rw [if_neg c13] at H
            have c13b0 : ((Go.bits .and .u8 (bt a0 x6_2) 192) == 128) = false := beq_eq_false_iff_ne.mpr c13
            have c13b1 : ((Go.bits .and .u8 (bt a0 x6_2) 192) != 128) = true := bne_iff_ne.mpr c13
            simp only [Option.some.injEq, Prod.mk.injEq] at H
            obtain ⟨rfl, rfl⟩ := H
            have p12 : 0 ≤ (x6_2 : Int) := of_decide_eq_true (by first | (with_reducible assumption) | assumption)
            have q12 : x6_2 < (a0.size : Int) := of_decide_eq_true (by first | (with_reducible assumption) | assumption)
            have hx12 := bt_at a0 x6_2
            replace p12 := eq_true p12
            replace q12 := eq_true q12
            go_wp2
            go_ret2
            exact ⟨by first | rfl | (simp; done) | (simp [*]; done), by repeat (first | exact Drawn0.refl _ | apply Drawn0.step)⟩
          ·rw [if_neg c11] at H
           exact absurd H (by simp)
         ·rw [if_neg c10] at H
          exact absurd H (by simp)
        ·rw [if_neg c9] at H
         have c9b0 : decide (x6_2 < t208) = false := decide_eq_false c9
         clear c9
         replace H := Option.bind_eq_some_iff.mp H
         obtain ⟨t210, A150, H⟩ := H
         replace H : (if t210 = true then ((utf_size.f x5_2).bind fun t211 => (if t211 = t208 then (some (x5_2, t208)) else (some (0, 0)))) else (some (0, 0))) = some (r1, r2) := H
         have A15 := Aside0.mk A150
         clear A150
         by_cases c16 : t210 = true
         ·subst c16
          have H1 : ((utf_size.f x5_2).bind fun t211 => (if t211 = t208 then (some (x5_2, t208)) else (some (0, 0)))) = some (r1, r2) := by rw [if_pos rfl] at H; exact H
          clear H
          have H := H1
          clear H1
          replace H := Option.bind_eq_some_iff.mp H
          obtain ⟨t211, A170, H⟩ := H
          replace H : (if t211 = t208 then (some (x5_2, t208)) else (some (0, 0))) = some (r1, r2) := H
          have A17 := Aside0.mk A170
          clear A170
          by_cases c18 : t211 = t208
          ·rw [if_pos c18] at H
           have c18b0 : (t211 == t208) = true := beq_iff_eq.mpr c18
           have c18b1 : (t211 != t208) = false := bne_eq_false_iff_eq.mpr c18
           clear c18
           simp only [Option.some.injEq, Prod.mk.injEq] at H
           obtain ⟨rfl, rfl⟩ := H
           go_wp2_with (first | ((with_reducible refine gate_callee (f := 40) rfl ?_); refine goesL_ (some 42) rfl rfl Tryd.func40 (by kernel_rfl) rfl #[.int .i64 x5_2] rfl (by (try simp only [List.map_toArray, List.map_cons, List.map_nil]); first | done | rfl | (simp only [List.length_drop, List.length_take]; rfl)) ?_; (with_reducible refine (utf_Good.calls x5_2 true _ A15.out).mono ?_); rintro e w' ⟨rfl, ⟨nd, rfl⟩⟩; refine ⟨_, rfl, ?_⟩) | (go_at_call 41; (with_reducible refine (utf_size.calls x5_2 t211 _ A17.out).mono ?_); rintro e w' ⟨rfl, ⟨nd, rfl⟩⟩))
           go_ret2
           exact ⟨by first | rfl | (simp; done) | (simp [*]; done), by repeat (first | exact Drawn0.refl _ | apply Drawn0.step)⟩
          ·rw [if_neg c18] at H
           have c18b0 : (t211 == t208) = false := beq_eq_false_iff_ne.mpr c18
           have c18b1 : (t211 != t208) = true := bne_iff_ne.mpr c18
           simp only [Option.some.injEq, Prod.mk.injEq] at H
           obtain ⟨rfl, rfl⟩ := H
           go_wp2_with (first | ((with_reducible refine gate_callee (f := 40) rfl ?_); refine goesL_ (some 42) rfl rfl Tryd.func40 (by kernel_rfl) rfl #[.int .i64 x5_2] rfl (by (try simp only [List.map_toArray, List.map_cons, List.map_nil]); first | done | rfl | (simp only [List.length_drop, List.length_take]; rfl)) ?_; (with_reducible refine (utf_Good.calls x5_2 true _ A15.out).mono ?_); rintro e w' ⟨rfl, ⟨nd, rfl⟩⟩; refine ⟨_, rfl, ?_⟩) | (go_at_call 41; (with_reducible refine (utf_size.calls x5_2 t211 _ A17.out).mono ?_); rintro e w' ⟨rfl, ⟨nd, rfl⟩⟩))
           go_ret2
           exact ⟨by first | rfl | (simp; done) | (simp [*]; done), by repeat (first | exact Drawn0.refl _ | apply Drawn0.step)⟩
         ·replace c16 := Bool.eq_false_iff.mpr c16
          subst c16
          have H1 : (some (0, 0)) = some (r1, r2) := by rw [if_neg (show ¬ (false = true) by decide)] at H; exact H
          clear H
          have H := H1
          clear H1
          simp only [Option.some.injEq, Prod.mk.injEq] at H
          obtain ⟨rfl, rfl⟩ := H
          go_wp2_with (first | ((with_reducible refine gate_callee (f := 40) rfl ?_); refine goesL_ (some 42) rfl rfl Tryd.func40 (by kernel_rfl) rfl #[.int .i64 x5_2] rfl (by (try simp only [List.map_toArray, List.map_cons, List.map_nil]); first | done | rfl | (simp only [List.length_drop, List.length_take]; rfl)) ?_; (with_reducible refine (utf_Good.calls x5_2 false _ A15.out).mono ?_); rintro e w' ⟨rfl, ⟨nd, rfl⟩⟩; refine ⟨_, rfl, ?_⟩))
          go_ret2
          exact ⟨by first | rfl | (simp; done) | (simp [*]; done), by repeat (first | exact Drawn0.refl _ | apply Drawn0.step)⟩
  ·rw [if_neg c3] at H
   exact absurd H (by simp)
end Go.Proofs.YtjmmdphkgioooaaDoor.P
end
section
namespace Go.Proofs.YtjmmdphkgioooaaDoor.La
open Go.RowKit Go.Proofs.YtjmmdphkgioooaaDoor.P Go.Proofs.YtjmmdphkgioooaaDoorW.PrintWords Go.Proofs.YtjmmdphkgioooaaDoorW.PrintLast Go.Proofs.YtjmmdphkgioooaaDoorW.PrintMore
theorem wraps_i64 (n : Int) (h₀ : 0 ≤ n) (h₁ : n < 2 ^ 62) : IntKind.i64.wrap n = n := by rw [IntKind.wrap_i64]; omega
theorem i64_or6 {x y : Int} (hx₀ : 0 ≤ x) (hx : x % 64 = 0) (hx₁ : x < 2 ^ 62) (h₀ : 0 ≤ y) (h₁ : y < 64) : Go.bits .or .i64 x y = x + y :=
 bits_join .i64 62 (by decide) wraps_i64 6 x y hx₀ hx hx₁ h₀ h₁ (by omega)
theorem byte_cont : ∀ b : Fin 256, decide (Go.bits .and .u8 (b.val : Int) 192 = 128) = decide (128 ≤ b.val ∧ b.val < 192) := by decide +kernel
theorem cont_iff {b : Int} (h0 : 0 ≤ b) (h1 : b < 256) : Go.bits .and .u8 b 192 = 128 ↔ 128 ≤ b ∧ b < 192 := by
 obtain ⟨n, rfl⟩ := Int.eq_ofNat_of_zero_le h0
 have := decide_eq_decide.1 (byte_cont ⟨n, by omega⟩)
 simp only at this
 rw [this]
 omega
theorem byte_not : ∀ b : Fin 256, (192 ≤ b.val → b.val < 224 → Go.bits .andNot .u8 (b.val : Int) 192 = (b.val : Int) - 192) ∧ (224 ≤ b.val → b.val < 240 → Go.bits .andNot .u8 (b.val : Int) 224 = (b.val : Int) - 224) ∧ (240 ≤ b.val → b.val < 248 → Go.bits .andNot .u8 (b.val : Int) 240 = (b.val : Int) - 240) := by
 decide +kernel
theorem not192 {b : Int} (h0 : 192 ≤ b) (h1 : b < 224) : Go.bits .andNot .u8 b 192 = b - 192 := by
 obtain ⟨n, rfl⟩ := Int.eq_ofNat_of_zero_le (show 0 ≤ b by omega)
 exact (byte_not ⟨n, by omega⟩).1 (by simp only; omega) (by simp only; omega)
theorem not224 {b : Int} (h0 : 224 ≤ b) (h1 : b < 240) : Go.bits .andNot .u8 b 224 = b - 224 := by
 obtain ⟨n, rfl⟩ := Int.eq_ofNat_of_zero_le (show 0 ≤ b by omega)
 exact (byte_not ⟨n, by omega⟩).2.1 (by simp only; omega) (by simp only; omega)
theorem not240 {b : Int} (h0 : 240 ≤ b) (h1 : b < 248) : Go.bits .andNot .u8 b 240 = b - 240 := by
 obtain ⟨n, rfl⟩ := Int.eq_ofNat_of_zero_le (show 0 ≤ b by omega)
 exact (byte_not ⟨n, by omega⟩).2.2 (by simp only; omega) (by simp only; omega)
theorem good_eq (r : Int) : utf_Good.f r = some (decide (good r)) := by
 unfold utf_Good.f
 split
 ·split
  ·split
   ·rw [decide_eq_true (good_iff.2 (by omega))]
   ·exact congrArg some (decide_eq_decide.2 (by rw [good_iff]; omega))
  ·rw [decide_eq_false (fun h => by rw [good_iff] at h; omega)]
 ·rw [decide_eq_false (fun h => by rw [good_iff] at h; omega)]
def siz (r : Int) : Int := if r < 128 then 1 else if r < 2048 then 2 else if r < 65536 then 3 else 4
theorem size_eq (r : Int) : utf_size.f r = some (siz r) := by
 unfold utf_size.f siz
 (repeat' split) <;> rfl
theorem begins_eq {b : Int} (h0 : 0 ≤ b) (h1 : b < 256) : utf_begins.f b = some (if b < 128 then (1, b) else if b < 192 then (0, 0) else if b < 224 then (2, b - 192) else if b < 240 then (3, b - 224) else if b < 248 then (4, b - 240) else (0, 0)) := by
 unfold utf_begins.f
 split
 ·rw [wrap_id (by omega) (by omega)]
 ·split
  ·rfl
  ·split
   ·rw [not192 (by omega) (by omega), wrap_id (by omega) (by omega)]
   ·split
    ·rw [not224 (by omega) (by omega), wrap_id (by omega) (by omega)]
    ·split
     ·rw [not240 (by omega) (by omega), wrap_id (by omega) (by omega)]
     ·rfl
theorem siz1 {r : Int} : siz r = 1 ↔ r < 128 := by unfold siz; (repeat' split) <;> omega
theorem siz2 {r : Int} : siz r = 2 ↔ 128 ≤ r ∧ r < 2048 := by unfold siz; (repeat' split) <;> omega
theorem siz3 {r : Int} : siz r = 3 ↔ 2048 ≤ r ∧ r < 65536 := by unfold siz; (repeat' split) <;> omega
theorem siz4 {r : Int} : siz r = 4 ↔ 65536 ≤ r := by unfold siz; (repeat' split) <;> omega
def ends (r n : Int) : Int × Int := if good r ∧ siz r = n then (r, n) else (0, 0)
theorem l0_end (k : Nat) (s : ByteArray) {n r i : Int} (h : ¬ i < n) : utf_Take.l0 (k + 1) s n r i = some (ends r n) := by
 simp only [utf_Take.l0]
 rw [if_neg h, good_eq, Option.bind_some, size_eq, Option.bind_some]
 unfold ends
 by_cases hg : good r
 ·rw [if_pos (decide_eq_true hg)]
  by_cases hs : siz r = n
  ·rw [if_pos hs, if_pos ⟨hg, hs⟩]
  ·rw [if_neg hs, if_neg (fun h => hs h.2)]
 ·rw [if_neg (by simpa using hg), if_neg (fun h => hg h.1)]
theorem l0_bad (k : Nat) (s : ByteArray) {n r i : Int} (h : i < n) (h0 : 0 ≤ i) (hs : i < s.size) (hb : ¬ (128 ≤ bt s i ∧ bt s i < 192)) : utf_Take.l0 (k + 1) s n r i = some (0, 0) := by
 have hr := bt_range s i
 simp only [utf_Take.l0]
 rw [if_pos h, if_pos h0, if_pos hs, if_neg (fun he => hb ((cont_iff (by omega) (by omega)).1 he))]
theorem l0_more (k : Nat) (s : ByteArray) {n r i : Int} (h : i < n) (h0 : 0 ≤ i) (hs : i < s.size) (hb : 128 ≤ bt s i ∧ bt s i < 192) (r0 : 0 ≤ r) (r1 : r < 2097152) (i1 : i < 10) : utf_Take.l0 (k + 1) s n r i = utf_Take.l0 k s n (r * 64 + (bt s i - 128)) (i + 1) := by
 simp only [utf_Take.l0]
 rw [if_pos h, if_pos h0, if_pos hs, if_pos ((cont_iff (by omega) (by omega)).2 hb), u8_and63 _ (by omega) (by omega), wrap_id (n := r * 64) (by omega) (by omega), wrap_id (n := bt s i % 64) (by omega) (by omega), wrap_id (n := i + 1) (by omega) (by omega),
  i64_or6 (by omega) (by omega) (by omega) (by omega) (by omega), show bt s i % 64 = bt s i - 128 by omega]
theorem take_eq (k : Nat) (s : ByteArray) : utf_Take.f (k + 6) s = some (tk (bytesOf s)) := by
 have hB := bytes_of s
 have hS := size_of s
 generalize hl : bytesOf s = l at hB hS
 have hbt : ∀ i, bt s i = l.getD i.toNat 0 := fun i => by rw [bt_get, hl]
 unfold utf_Take.f
 match l with
 | [] => rw [if_pos ((toList_nil_iff s).2 hl)]; rfl
 | a :: t =>
  have ha := hB a List.mem_cons_self
  have h0 : bt s 0 = a := by rw [hbt]; rfl
  rw [if_neg (fun h => by rw [toList_nil_iff, hl] at h; cases h), if_pos (by rw [← hS]; simp), h0, begins_eq ha.1 ha.2, Option.bind_some]
  have hsz : (s.size : Int) = (t.length : Int) + 1 := by rw [← hS]; simp
  simp only [tk]
  by_cases c1 : a < 128
  ·simp only [if_pos c1]
   rw [if_neg (by decide), decide_eq_false (by omega)]
   simp only [utf_Take.j0]
   rw [if_neg (by decide), l0_end _ _ (by decide)]
   unfold ends
   rw [if_pos ⟨good_iff.2 (by omega), siz1.2 c1⟩]
  ·simp only [if_neg c1]
   by_cases c2 : a < 192
   ·simp only [if_pos c2]
    rw [if_pos trivial]
    simp only [utf_Take.j0]
    rw [if_pos trivial]
   ·simp only [if_neg c2]
    by_cases c3 : a < 224
    ·simp only [if_pos c3]
     rw [if_neg (by decide)]
     simp only [utf_Take.j0]
     match t with
     | [] =>
      simp at hsz
      dsimp only
      rw [if_pos (decide_eq_true (by omega))]
     | b :: t =>
      simp at hsz
      dsimp only
      have hb : bt s 1 = b := by rw [hbt]; rfl
      rw [if_neg (by simp; omega)]
      have hr := hB b (by simp)
      by_cases k1 : 128 ≤ b ∧ b < 192
      ·rw [l0_more _ _ (by decide) (by decide) (by omega) (by rw [hb]; exact k1) (by omega) (by omega) (by decide), l0_end _ _ (by decide), hb]
       have e : (a - 192) * 64 + (b - 128) = tk2 a b := rfl
       rw [e]
       unfold ends
       simp only [siz2, good_iff]
       have e1 : 0 ≤ tk2 a b ∧ tk2 a b < 2048 := by unfold tk2; omega
       by_cases k2 : 128 ≤ tk2 a b
       ·rw [if_pos (by omega), if_pos (by omega)]
       ·rw [if_neg (by omega), if_neg (by omega)]
      ·rw [l0_bad _ _ (by decide) (by decide) (by omega) (by rw [hb]; exact k1), if_neg (by omega)]
    ·simp only [if_neg c3]
     by_cases c4 : a < 240
     ·simp only [if_pos c4]
      rw [if_neg (by decide)]
      simp only [utf_Take.j0]
      match t with
      | [] =>
       simp at hsz
       dsimp only
       rw [if_pos (decide_eq_true (by omega))]
      | [b] =>
       simp at hsz
       dsimp only
       rw [if_pos (decide_eq_true (by omega))]
      | b :: c :: t =>
       simp at hsz
       dsimp only
       have hb : bt s 1 = b := by rw [hbt]; rfl
       have hc : bt s 2 = c := by rw [hbt]; rfl
       rw [if_neg (by simp; omega)]
       have hr := hB b (by simp)
       have hr2 := hB c (by simp)
       by_cases k1 : 128 ≤ b ∧ b < 192
       ·rw [l0_more _ _ (by decide) (by decide) (by omega) (by rw [hb]; exact k1) (by omega) (by omega) (by decide), hb]
        by_cases k2 : 128 ≤ c ∧ c < 192
        ·rw [l0_more _ _ (by decide) (by decide) (by omega) (by rw [show (1 : Int) + 1 = 2 by decide, hc]; exact k2) (by omega) (by omega) (by decide), l0_end _ _ (by decide), show (1 : Int) + 1 = 2 by decide, hc]
         have e : ((a - 224) * 64 + (b - 128)) * 64 + (c - 128) = tk3 a b c := by unfold tk3; omega
         rw [e]
         unfold ends
         simp only [siz3, good_iff]
         have e1 : 0 ≤ tk3 a b c ∧ tk3 a b c < 65536 := by unfold tk3; omega
         by_cases k3 : 2048 ≤ tk3 a b c ∧ (tk3 a b c < 55296 ∨ 57343 < tk3 a b c)
         ·rw [if_pos (by omega), if_pos (by omega)]
         ·rw [if_neg (by omega), if_neg (by omega)]
        ·rw [l0_bad _ _ (by decide) (by decide) (by omega) (by rw [show (1 : Int) + 1 = 2 by decide, hc]; exact k2), if_neg (by omega)]
       ·rw [l0_bad _ _ (by decide) (by decide) (by omega) (by rw [hb]; exact k1), if_neg (by omega)]
     ·simp only [if_neg c4]
      by_cases c5 : a < 248
      ·simp only [if_pos c5]
       rw [if_neg (by decide)]
       simp only [utf_Take.j0]
       match t with
       | [] =>
        simp at hsz
        dsimp only
        rw [if_pos (decide_eq_true (by omega))]
       | [b] =>
        simp at hsz
        dsimp only
        rw [if_pos (decide_eq_true (by omega))]
       | [b, c] =>
        simp at hsz
        dsimp only
        rw [if_pos (decide_eq_true (by omega))]
       | b :: c :: d :: t =>
        simp at hsz
        dsimp only
        have hb : bt s 1 = b := by rw [hbt]; rfl
        have hc : bt s 2 = c := by rw [hbt]; rfl
        have hd : bt s 3 = d := by rw [hbt]; rfl
        rw [if_neg (by simp; omega)]
        have hr := hB b (by simp)
        have hr2 := hB c (by simp)
        have hr3 := hB d (by simp)
        by_cases k1 : 128 ≤ b ∧ b < 192
        ·rw [l0_more _ _ (by decide) (by decide) (by omega) (by rw [hb]; exact k1) (by omega) (by omega) (by decide), hb]
         by_cases k2 : 128 ≤ c ∧ c < 192
         ·rw [l0_more _ _ (by decide) (by decide) (by omega) (by rw [show (1 : Int) + 1 = 2 by decide, hc]; exact k2) (by omega) (by omega) (by decide), show (1 : Int) + 1 = 2 by decide, hc]
          by_cases k3 : 128 ≤ d ∧ d < 192
          ·rw [l0_more _ _ (by decide) (by decide) (by omega) (by rw [show (2 : Int) + 1 = 3 by decide, hd]; exact k3) (by omega) (by omega) (by decide), l0_end _ _ (by decide), show (2 : Int) + 1 = 3 by decide, hd]
           have e : (((a - 240) * 64 + (b - 128)) * 64 + (c - 128)) * 64 + (d - 128) = tk4 a b c d := by unfold tk4; omega
           rw [e]
           unfold ends
           simp only [siz4, good_iff]
           have e1 : 0 ≤ tk4 a b c d := by unfold tk4; omega
           by_cases k3 : 65536 ≤ tk4 a b c d ∧ tk4 a b c d ≤ 1114111
           ·rw [if_pos (by omega), if_pos (by omega)]
           ·rw [if_neg (by omega), if_neg (by omega)]
          ·rw [l0_bad _ _ (by decide) (by decide) (by omega) (by rw [show (2 : Int) + 1 = 3 by decide, hd]; exact k3), if_neg (by omega)]
         ·rw [l0_bad _ _ (by decide) (by decide) (by omega) (by rw [show (1 : Int) + 1 = 2 by decide, hc]; exact k2), if_neg (by omega)]
        ·rw [l0_bad _ _ (by decide) (by decide) (by omega) (by rw [hb]; exact k1), if_neg (by omega)]
      ·simp only [if_neg c5]
       rw [if_pos trivial]
       simp only [utf_Take.j0]
       rw [if_pos trivial]
theorem take_ev (s : ByteArray) : Ev (fun k => utf_Take.f k s) (tk (bytesOf s)) := ⟨6, fun k hk => by
 obtain ⟨m, rfl⟩ : ∃ m, k = m + 6 := ⟨k - 6, by omega⟩
 exact take_eq m s⟩
end Go.Proofs.YtjmmdphkgioooaaDoor.La
end
section
namespace Go.Proofs.YtjmmdphkgioooaaDoor.P
open Go.RowKit Go.Proofs.YtjmmdphkgioooaaDoorW.PrintWords Go.Proofs.YtjmmdphkgioooaaDoorW.PrintLast Go.Proofs.YtjmmdphkgioooaaDoorW.PrintMore
attribute [local go_sem] max2_int min2_int max_two min_two max_three min_three max_four min_four   -- for this text's walks alone
set_option linter.unusedVariables false
set_option linter.unusedSimpArgs false
/-! ### utf_Valid: function 19 -/
def utf_Valid.l0 : Nat → ByteArray → Int → Option (Int × Bool)
 | 0, _, _ => none
 | k + 1, x0, x4 => if x4 < (x0.size : Int) then (if 0 ≤ x4 then (if x4 ≤ (x0.size : Int) then ((utf_Take.f k (x0.extract (x4 : Int).toNat x0.size)).bind fun bt212 => (if bt212.2 = 0 then (some (x4, false)) else (utf_Valid.l0 k x0 (wrap64 (x4 + bt212.2))))) else (none)) else (none)) else (some ((x0.size : Int), true))
def utf_Valid.f (k : Nat) (a0 : ByteArray) : Option (Int × Bool) := utf_Valid.l0 k a0 0
set_option maxHeartbeats 8000000 in
set_option maxRecDepth 100000 in
theorem utf_Valid.calls (k : Nat) (a0 : ByteArray) (r1 : Int) (r2 : Bool) (w : World) (h : utf_Valid.f k a0 = some (r1, r2)) :
  Calls Tryd.prog 19 #[.string a0] w fun e w' => e = .returned (.tuple #[.int .i64 r1, .bool r2]) ∧ Drawn0 w w' := by
 have H : (utf_Valid.l0 k a0 0) = some (r1, r2) := h
 clear h
 have H' := Aside0.mk H
 clear H
 go_enter Tryd.func19, Tryd.ntmps19
 go_wp2
 go_loopg [4] k (fun kq v4 w' => ∃ (x4_1 : Int), v4 = .int .i64 x4_1 ∧ Aside0 (utf_Valid.l0 kq a0 x4_1 = some (r1, r2)) ∧ Aside0 (kq ≤ k) ∧ Drawn0 w w')
 case atStart => exact ⟨(0), (by first | rfl | (simp; done) | (simp [*]; done)), H', ⟨Nat.le_refl _⟩, by repeat (first | exact Drawn0.refl _ | apply Drawn0.step)⟩
 case round =>
  clear H'
  try clear c1
  obtain ⟨x4_1, rfl, HA, HK1, ⟨m1, rfl⟩⟩ := hrel
  cases gk with
  | zero => exact absurd HA.out (by simp [utf_Valid.l0])
  | succ k1 =>
   have H := HA.out
   clear HA
   simp only [utf_Valid.l0] at H
   by_cases c2 : x4_1 < (a0.size : Int)
   ·rw [if_pos c2] at H
    have c2b0 : decide (x4_1 < (a0.size : Int)) = true := decide_eq_true c2
    clear c2
    by_cases c3 : 0 ≤ x4_1
    ·rw [if_pos c3] at H
     have c3b0 := eq_true c3
     have c3b1 : decide (0 ≤ x4_1) = true := decide_eq_true c3
     clear c3
     by_cases c4 : x4_1 ≤ (a0.size : Int)
     ·rw [if_pos c4] at H
      have c4b0 := eq_true c4
      have c4b1 : decide (x4_1 ≤ (a0.size : Int)) = true := decide_eq_true c4
      clear c4
      replace H := Option.bind_eq_some_iff.mp H
      obtain ⟨⟨t212, t213⟩, A50, H⟩ := H
      replace H : (if t213 = 0 then (some (x4_1, false)) else (utf_Valid.l0 k1 a0 (wrap64 (x4_1 + t213)))) = some (r1, r2) := H
      have A5 := Aside0.mk A50
      clear A50
      by_cases c6 : t213 = 0
      ·rw [if_pos c6] at H
       have c6b0 : (t213 == 0) = true := beq_iff_eq.mpr c6
       have c6b1 : (t213 != 0) = false := bne_eq_false_iff_eq.mpr c6
       clear c6
       simp only [Option.some.injEq, Prod.mk.injEq] at H
       obtain ⟨rfl, rfl⟩ := H
       go_wp2_with (first | ((with_reducible refine gate_callee (f := 30) rfl ?_); refine goesL_ (some 15) rfl rfl Tryd.func30 (by kernel_rfl) rfl #[.string (a0.extract (x4_1 : Int).toNat a0.size)] rfl (by (try simp only [List.map_toArray, List.map_cons, List.map_nil]); first | done | rfl | (simp only [List.length_drop, List.length_take]; rfl)) ?_; (with_reducible refine (utf_Take.calls k1 (a0.extract (x4_1 : Int).toNat a0.size) t212 t213 _ A5.out).mono ?_); rintro e w' ⟨rfl, ⟨nd, rfl⟩⟩; refine ⟨_, rfl, ?_⟩))
       go_ret2
       exact ⟨by first | rfl | (simp; done) | (simp [*]; done), by repeat (first | exact Drawn0.refl _ | apply Drawn0.step)⟩
      ·rw [if_neg c6] at H
       have c6b0 : (t213 == 0) = false := beq_eq_false_iff_ne.mpr c6
       have c6b1 : (t213 != 0) = true := bne_iff_ne.mpr c6
       have H' := Aside0.mk H
       clear H
       go_wp2_with (first | ((with_reducible refine gate_callee (f := 30) rfl ?_); refine goesL_ (some 15) rfl rfl Tryd.func30 (by kernel_rfl) rfl #[.string (a0.extract (x4_1 : Int).toNat a0.size)] rfl (by (try simp only [List.map_toArray, List.map_cons, List.map_nil]); first | done | rfl | (simp only [List.length_drop, List.length_take]; rfl)) ?_; (with_reducible refine (utf_Take.calls k1 (a0.extract (x4_1 : Int).toNat a0.size) t212 t213 _ A5.out).mono ?_); rintro e w' ⟨rfl, ⟨nd, rfl⟩⟩; refine ⟨_, rfl, ?_⟩))
       go_roundg k1
       case measure => have := HK1.out; omega
       case rel => exact ⟨(wrap64 (x4_1 + t213)), (by first | rfl | (simp; done) | (simp [*]; done)), H', ⟨by have := HK1.out; omega⟩, by repeat (first | exact Drawn0.refl _ | apply Drawn0.step)⟩
     ·rw [if_neg c4] at H
      exact absurd H (by simp)
    ·rw [if_neg c3] at H
     exact absurd H (by simp)
   ·rw [if_neg c2] at H
    have c2b0 : decide (x4_1 < (a0.size : Int)) = false := decide_eq_false c2
    clear c2
    simp only [Option.some.injEq, Prod.mk.injEq] at H
    obtain ⟨rfl, rfl⟩ := H
    go_wp2
    go_ret2
    exact ⟨by first | rfl | (simp; done) | (simp [*]; done), by repeat (first | exact Drawn0.refl _ | apply Drawn0.step)⟩
end Go.Proofs.YtjmmdphkgioooaaDoor.P
end
section
namespace Go.Proofs.YtjmmdphkgioooaaDoor.P
open Go.RowKit Go.Proofs.YtjmmdphkgioooaaDoorW.PrintWords Go.Proofs.YtjmmdphkgioooaaDoorW.PrintLast Go.Proofs.YtjmmdphkgioooaaDoorW.PrintMore
attribute [local go_sem] max2_int min2_int max_two min_two max_three min_three max_four min_four   -- for this text's walks alone
set_option linter.unusedVariables false
set_option linter.unusedSimpArgs false
/-! ### utf_step: function 81 -/
def utf_step.f (k : Nat) (a0 : ByteArray) : Option (Int) := (utf_Take.f k a0).bind fun bt215 => (some (mx bt215.2 1))
set_option maxHeartbeats 8000000 in
set_option maxRecDepth 100000 in
theorem utf_step.calls (k : Nat) (a0 : ByteArray) (r : Int) (w : World) (h : utf_step.f k a0 = some r) :
  Calls Tryd.prog 81 #[.string a0] w fun e w' => e = .returned (.int .i64 r) ∧ Below w.heap.size w w' := by
 have HB := Aside0.mk (Below.refl w.heap.size w)
 have H : ((utf_Take.f k a0).bind fun bt215 => (some (mx bt215.2 1))) = some r := h
 clear h
 replace H := Option.bind_eq_some_iff.mp H
 obtain ⟨⟨t215, t216⟩, A20, H⟩ := H
 replace H : (some (mx t216 1)) = some r := H
 have A2 := Aside0.mk A20
 clear A20
 obtain ⟨ji3, hji3⟩ : ∃ j_ : Int, (mx t216 1) = j_ := ⟨_, rfl⟩
 replace H : (some ji3) = some r := by first | (rw [hji3] at H; exact H) | (simp only [hji3] at H ⊢; exact H)
 (try rw [hji3] at A2)
 (try (have hji3l : 1 ≤ ji3 := by (rw [← hji3]; unfold mx; (repeat' split) <;> omega)))
 (try (have hji3m : 0 ≤ ji3 := by omega))
 have hji3_ : (if t216 < 1 then 1 else t216) = ji3 := hji3
 obtain rfl := Option.some.inj H
 go_enter Tryd.func81, Tryd.ntmps81
 go_wp2_with (first | ((with_reducible refine gate_callee (f := 30) rfl ?_); refine goesL_ (some 7) rfl rfl Tryd.func30 (by kernel_rfl) rfl #[.string a0] rfl (by (try simp only [List.map_toArray, List.map_cons, List.map_nil]); first | done | rfl | (simp only [List.length_drop, List.length_take]; rfl)) ?_; (with_reducible refine (utf_Take.calls k a0 t215 t216 _ A2.out).mono ?_); rintro e w' ⟨rfl, ⟨nd, rfl⟩⟩; refine ⟨_, rfl, ?_⟩))
 go_ret
 exact ⟨by first | rfl | (simp [errW_none, errW_some] <;> rfl) | (simp [*, errW_none, errW_some, bne]; done) | (simp only [← hji3]; first | rfl | (simp [errW_none, errW_some] <;> rfl)) | (simp [*, errW_none, errW_some] <;> rfl), by repeat (first | (with_reducible first | exact HB.out | apply below_alloc | apply pw_below_drewN | apply below_drew1) | exact HB.out)⟩
end Go.Proofs.YtjmmdphkgioooaaDoor.P
end
section
namespace Go.Proofs.YtjmmdphkgioooaaDoor.P
open Go.RowKit Go.Proofs.YtjmmdphkgioooaaDoorW.PrintWords Go.Proofs.YtjmmdphkgioooaaDoorW.PrintLast Go.Proofs.YtjmmdphkgioooaaDoorW.PrintMore
attribute [local go_sem] max2_int min2_int max_two min_two max_three min_three max_four min_four   -- for this text's walks alone
set_option linter.unusedVariables false
set_option linter.unusedSimpArgs false
/-! ### utf_Count: function 74 -/
def utf_Count.l0 : Nat → ByteArray → Int → Int → Option (Int)
 | 0, _, _, _ => none
 | k + 1, x0, x3, x4 => if x4 < (x0.size : Int) then (if 0 ≤ x4 then (if x4 ≤ (x0.size : Int) then ((utf_step.f k (x0.extract (x4 : Int).toNat x0.size)).bind fun t217 => (utf_Count.l0 k x0 (wrap64 (x3 + 1)) (wrap64 (x4 + t217)))) else (none)) else (none)) else (some x3)
def utf_Count.f (k : Nat) (a0 : ByteArray) : Option (Int) := utf_Count.l0 k a0 0 0
set_option maxHeartbeats 8000000 in
set_option maxRecDepth 100000 in
theorem utf_Count.calls (k : Nat) (a0 : ByteArray) (r : Int) (w : World) (h : utf_Count.f k a0 = some r) :
  Calls Tryd.prog 74 #[.string a0] w fun e w' => e = .returned (.int .i64 r) ∧ Below w.heap.size w w' := by
 have HB := Aside0.mk (Below.refl w.heap.size w)
 have H : (utf_Count.l0 k a0 0 0) = some r := h
 clear h
 have H' := Aside0.mk H
 clear H
 go_enter Tryd.func74, Tryd.ntmps74
 go_wp2
 go_loopg [3, 4] k (fun kq v3 v4 w' => ∃ (x3_1 : Int) (x4_1 : Int), v3 = .int .i64 x3_1 ∧ v4 = .int .i64 x4_1 ∧ Aside0 (utf_Count.l0 kq a0 x3_1 x4_1 = some r) ∧ Aside0 (kq ≤ k) ∧ Aside0 (Below w.heap.size w w'))
 case atStart => exact ⟨(0), (0), (by first | rfl | (simp; done) | (simp [*]; done)), (by first | rfl | (simp; done) | (simp [*]; done)), H', ⟨Nat.le_refl _⟩, ⟨by repeat (first | (with_reducible first | exact HB.out | apply below_alloc | apply pw_below_drewN | apply below_drew1) | exact HB.out)⟩⟩
 case round =>
  clear H'
  obtain ⟨x3_1, x4_1, rfl, rfl, HA, HK1, HB⟩ := hrel
  cases gk with
  | zero => exact absurd HA.out (by simp [utf_Count.l0])
  | succ k1 =>
   have H := HA.out
   clear HA
   simp only [utf_Count.l0] at H
   by_cases c2 : x4_1 < (a0.size : Int)
   ·rw [if_pos c2] at H
    have c2b0 : decide (x4_1 < (a0.size : Int)) = true := decide_eq_true c2
    clear c2
    by_cases c3 : 0 ≤ x4_1
    ·rw [if_pos c3] at H
     have c3b0 := eq_true c3
     have c3b1 : decide (0 ≤ x4_1) = true := decide_eq_true c3
     clear c3
     by_cases c4 : x4_1 ≤ (a0.size : Int)
     ·rw [if_pos c4] at H
      have c4b0 := eq_true c4
      have c4b1 : decide (x4_1 ≤ (a0.size : Int)) = true := decide_eq_true c4
      clear c4
      replace H := Option.bind_eq_some_iff.mp H
      obtain ⟨t217, A50, H⟩ := H
      replace H : (utf_Count.l0 k1 a0 (wrap64 (x3_1 + 1)) (wrap64 (x4_1 + t217))) = some r := H
      have A5 := Aside0.mk A50
      clear A50
      have H' := Aside0.mk H
      clear H
      go_wp2_with (first | ((with_reducible refine gate_callee (f := 81) rfl ?_); refine goesL_ (some 13) rfl rfl Tryd.func81 (by kernel_rfl) rfl #[.string (a0.extract (x4_1 : Int).toNat a0.size)] rfl (by (try simp only [List.map_toArray, List.map_cons, List.map_nil]); first | done | rfl | (simp only [List.length_drop, List.length_take]; rfl)) ?_; (with_reducible refine (utf_step.calls k1 (a0.extract (x4_1 : Int).toNat a0.size) t217 _ A5.out).mono ?_); rintro e w6 ⟨rfl, hb⟩; refine ⟨_, rfl, ?_⟩; have n0_ := Aside0.mk (below_step (by repeat (first | (with_reducible first | exact HB.out | apply below_alloc | apply pw_below_drewN | apply below_drew1) | exact HB.out)) hb); clear HB; have HB := n0_; clear n0_; (try clear hb); (try clear hb2); (try clear hk); (try clear hi)))
      go_roundg k1
      case measure => have := HK1.out; omega
      case rel => exact ⟨(wrap64 (x3_1 + 1)), (wrap64 (x4_1 + t217)), (by first | rfl | (simp; done) | (simp [*]; done)), (by first | rfl | (simp; done) | (simp [*]; done)), H', ⟨by have := HK1.out; omega⟩, ⟨by repeat (first | (with_reducible first | exact HB.out | apply below_alloc | apply pw_below_drewN | apply below_drew1) | exact HB.out)⟩⟩
     ·rw [if_neg c4] at H
      exact absurd H (by simp)
    ·rw [if_neg c3] at H
     exact absurd H (by simp)
   ·rw [if_neg c2] at H
    have c2b0 : decide (x4_1 < (a0.size : Int)) = false := decide_eq_false c2
    clear c2
    obtain rfl := Option.some.inj H
    go_wp2
    go_ret
    exact ⟨by first | rfl | (simp [errW_none, errW_some] <;> rfl) | (simp [*, errW_none, errW_some, bne]; done) | (simp [*, errW_none, errW_some] <;> rfl), by repeat (first | (with_reducible first | exact HB.out | apply below_alloc | apply pw_below_drewN | apply below_drew1) | exact HB.out)⟩
end Go.Proofs.YtjmmdphkgioooaaDoor.P
end
section
namespace Go.Proofs.YtjmmdphkgioooaaDoor.La
open Go.RowKit Go.Proofs.YtjmmdphkgioooaaDoor.P Go.Proofs.YtjmmdphkgioooaaDoorW.PrintWords Go.Proofs.YtjmmdphkgioooaaDoorW.PrintLast Go.Proofs.YtjmmdphkgioooaaDoorW.PrintMore
def badR (size at_ : Nat) : Option Nat → Int × Bool
 | none => ((size : Int), true)
 | some p => (((at_ + p : Nat) : Int), false)
theorem stp_int {l : List Int} (hl : Bytes l) (h : (tk l).2 ≠ 0) : (tk l).2 = (stp l : Int) := by
 have := tk_bound l hl
 unfold stp
 rw [if_neg h]
 omega
theorem valid_l0 (s : ByteArray) (hs : s.size ≤ 140737488355328) (n : Nat) : ∀ (i : Nat), i ≤ s.size → s.size - i = n → Ev (fun k => utf_Valid.l0 k s (i : Int)) (badR s.size i (bad ((bytesOf s).drop i))) := by
 induction n using Nat.strongRecOn with
 | _ n ih =>
 intro i hi hn
 have hL : ((bytesOf s).drop i).length = s.size - i := by rw [List.length_drop, size_of]
 have hBd : Bytes ((bytesOf s).drop i) := (bytes_of s).drop i
 refine Ev.step (fun k => by rw [utf_Valid.l0]) ?_
 by_cases h : i < s.size
 ·have h1 : (i : Int) < (s.size : Int) := by omega
  have h2 : (0 : Int) ≤ (i : Int) := by omega
  have h3 : (i : Int) ≤ (s.size : Int) := by omega
  have hne : (bytesOf s).drop i ≠ [] := fun e => by rw [e] at hL; simp at hL; omega
  simp only [if_pos h1, if_pos h2, if_pos h3, Int.toNat_natCast]
  refine Ev.bind (take_ev _) ?_
  rw [bytesOf_drop]
  by_cases h0 : (tk ((bytesOf s).drop i)).2 = 0
  ·simp only [if_pos h0, bad_none hne h0, badR]
   exact Ev.now _
  ·simp only [if_neg h0]
   have hb := tk_bound _ hBd
   have hp := stp_pos _ hBd
   have hst := stp_le hBd hne
   rw [stp_int hBd h0, wrap_id (by omega) (by omega), bad_step hne h0, List.drop_drop]
   have e : (i : Int) + (stp ((bytesOf s).drop i) : Int) = ((i + stp ((bytesOf s).drop i) : Nat) : Int) := by omega
   rw [e]
   have := ih (s.size - (i + stp ((bytesOf s).drop i))) (by omega) (i + stp ((bytesOf s).drop i)) (by omega) rfl
   generalize stp ((bytesOf s).drop i) = q at *
   cases hc : bad ((bytesOf s).drop (i + q)) with
   | none => rw [hc] at this; exact this
   | some p =>
    rw [hc] at this
    simp only [Option.map_some, badR] at this ⊢
    rw [show i + (p + q) = i + q + p by omega]
    exact this
 ·obtain rfl : i = s.size := by omega
  simp only [if_neg (show ¬ ((s.size : Int) < (s.size : Int)) by omega)]
  rw [List.drop_eq_nil_of_le (by rw [size_of]; omega), bad_nil]
  exact Ev.now _
theorem valid_ev (s : ByteArray) (hs : s.size ≤ 140737488355328) : Ev (fun k => utf_Valid.f k s) (badR s.size 0 (bad (bytesOf s))) :=
 valid_l0 s hs _ 0 (by omega) rfl
theorem mx_stp {l : List Int} (hl : Bytes l) : mx (tk l).2 1 = (stp l : Int) := by
 have := tk_bound l hl
 unfold mx stp
 split <;> split <;> omega
theorem step_ev (s : ByteArray) : Ev (fun k => utf_step.f k s) ((stp (bytesOf s) : Int)) := by
 refine Ev.congr (fun k => by rw [utf_step.f]) (Ev.bind (take_ev s) ?_)
 rw [mx_stp (bytes_of s)]
 exact Ev.now _
theorem count_l0 (s : ByteArray) (hs : s.size ≤ 140737488355328) (n : Nat) : ∀ (c i : Nat), i ≤ s.size → s.size - i = n → c ≤ i → Ev (fun k => utf_Count.l0 k s (c : Int) (i : Int)) (((c + cnt ((bytesOf s).drop i) : Nat) : Int)) := by
 induction n using Nat.strongRecOn with
 | _ n ih =>
 intro c i hi hn hc
 have hL : ((bytesOf s).drop i).length = s.size - i := by rw [List.length_drop, size_of]
 have hBd : Bytes ((bytesOf s).drop i) := (bytes_of s).drop i
 refine Ev.step (fun k => by rw [utf_Count.l0]) ?_
 by_cases h : i < s.size
 ·have h1 : (i : Int) < (s.size : Int) := by omega
  have h2 : (0 : Int) ≤ (i : Int) := by omega
  have h3 : (i : Int) ≤ (s.size : Int) := by omega
  have hne : (bytesOf s).drop i ≠ [] := fun e => by rw [e] at hL; simp at hL; omega
  simp only [if_pos h1, if_pos h2, if_pos h3, Int.toNat_natCast]
  refine Ev.bind (step_ev _) ?_
  rw [bytesOf_drop]
  have hp := stp_pos _ hBd
  have hst := stp_le hBd hne
  rw [wrap_id (by omega) (by omega), wrap_id (by omega) (by omega), cnt_step hne, List.drop_drop]
  have e : (i : Int) + (stp ((bytesOf s).drop i) : Int) = ((i + stp ((bytesOf s).drop i) : Nat) : Int) := by omega
  rw [e, show (c : Int) + 1 = ((c + 1 : Nat) : Int) by omega]
  have := ih (s.size - (i + stp ((bytesOf s).drop i))) (by omega) (c + 1) (i + stp ((bytesOf s).drop i)) (by omega) rfl (by omega)
  rw [show c + (cnt ((bytesOf s).drop (i + stp ((bytesOf s).drop i))) + 1) = c + 1 + cnt ((bytesOf s).drop (i + stp ((bytesOf s).drop i))) by omega]
  exact this
 ·obtain rfl : i = s.size := by omega
  simp only [if_neg (show ¬ ((s.size : Int) < (s.size : Int)) by omega)]
  rw [List.drop_eq_nil_of_le (by rw [size_of]; omega), cnt_nil]
  exact Ev.now _
theorem count_ev (s : ByteArray) (hs : s.size ≤ 140737488355328) : Ev (fun k => utf_Count.f k s) ((cnt (bytesOf s) : Int)) := by
 have := count_l0 s hs _ 0 0 (by omega) rfl (by omega)
 rw [Nat.zero_add] at this
 exact this
end Go.Proofs.YtjmmdphkgioooaaDoor.La
end
section
namespace Go.Proofs.YtjmmdphkgioooaaDoor.P
set_option linter.unusedVariables false
open Go.RowKit Go.Proofs.YtjmmdphkgioooaaDoor.La Go.Proofs.YtjmmdphkgioooaaDoorW.PrintWords Go.Proofs.YtjmmdphkgioooaaDoorW.PrintLast Go.Proofs.YtjmmdphkgioooaaDoorW.PrintMore
/-- May a field not be? -/
def oddS (s : ByteArray) : Bool := (bad (bytesOf s)).isSome || decide (4096 < s.size)
theorem odd_bool (s : ByteArray) : oddS s = (!(badR s.size 0 (bad (bytesOf s))).2 || decide (4096 < (s.size : Int))) := by
 unfold oddS
 have e : decide (4096 < s.size) = decide (4096 < (s.size : Int)) := by rw [decide_eq_decide]; omega
 rw [e]
 cases bad (bytesOf s) <;> rfl
set_option maxHeartbeats 8000000 in
set_option maxRecDepth 100000 in
theorem may_odd (s : ByteArray) (hs : s.size ≤ 10000) (w : World) :
  Calls Tryd.prog 18 #[.string s] w fun e w' => e = .returned (.bool (oddS s)) ∧ Below w.heap.size w w' := by
 obtain ⟨K, hK⟩ := valid_ev s (by omega)
 have hK := hK K (Nat.le_refl _)
 rw [odd_bool]
 generalize badR s.size 0 (bad (bytesOf s)) = q at hK ⊢
 obtain ⟨b1, b2⟩ := q
 simp only
 cases b2 with
 | false =>
  go_enter Tryd.func18, Tryd.ntmps18
  go_wp2_with fail
  refine (utf_Valid.calls K s b1 false _ hK).mono ?_
  rintro e w1 ⟨rfl, n, rfl⟩
  go_wp2
  go_ret
  exact ⟨rfl, pw_below_drewN (Below.refl _ _) n⟩
 | true =>
  go_enter Tryd.func18, Tryd.ntmps18
  go_wp2_with fail
  refine (utf_Valid.calls K s b1 true _ hK).mono ?_
  rintro e w1 ⟨rfl, n, rfl⟩
  go_wp2
  go_ret
  exact ⟨rfl, pw_below_drewN (Below.refl _ _) n⟩
set_option maxHeartbeats 8000000 in
set_option maxRecDepth 100000 in
theorem may_find (A : Option Addr) (c : Nat) (r : List ByteArray) (w : World) (hr : Kd.C Kd.string w A r.length r) (hc : r.length ≤ c) (hN : r.length ≤ 200) (hS : ∀ s ∈ r, s.size ≤ 10000) :
  Calls Tryd.prog 31 #[.slice A r.length c, .func (.func 18) #[] #[]] w fun e w' => ∃ i : Int, e = .returned (.int .i64 i) ∧ decide (0 ≤ i) = r.any oddS ∧ Below w.heap.size w w' := by
 have HR := Lib.hid hr
 have HS := Lib.hid hS
 clear hr hS
 go_enter Tryd.func31, Tryd.ntmps31
 go_wp2_with fail
 go_loopg [5, 8] (r.length + 1) (fun g _ i wx => ∃ x : Nat, x ≤ r.length ∧ g = r.length - x + 1 ∧ i = .int .i64 x ∧ Hid ((r.take x).any oddS = false) ∧ Below w.heap.size w wx)
 case atStart => exact ⟨0, Nat.zero_le _, rfl, rfl, Lib.hid rfl, Below.refl _ _⟩
 case round =>
  obtain ⟨x, hx, hg, rfl, HA, hB⟩ := hrel
  have HG := Lib.hid hg
  clear hg
  by_cases hxl : x < r.length
  ·obtain ⟨ad, rfl, hcell⟩ := Kd.at_string HR.out (x : Int) (by omega) (by omega)
   replace hcell := (hB.cell (World.block_lt_of_cell? w _ hcell)).trans hcell
   have hrd : rdOf ByteArray.empty r (x : Int) = r[x] := by
    unfold rdOf
    rw [Int.toNat_natCast, List.getD_eq_getElem?_getD, List.getElem?_eq_getElem hxl]; rfl
   rw [hrd, Int.toNat_natCast] at hcell
   have hsz := HS.out _ (List.getElem_mem hxl)
   obtain ⟨s, hs⟩ : ∃ s, r[x] = s := ⟨_, rfl⟩
   rw [hs] at hcell hsz
   have htk : (r.take (x + 1)).any oddS = oddS s := by
    rw [List.take_add_one, List.getElem?_eq_getElem hxl, List.any_append, HA.out, hs]
    simp
   have HT := Lib.hid htk
   clear hs hrd htk
   have hO := fun W => may_odd s hsz W
   cases ho : oddS s with
   | true =>
    rw [ho] at hO
    have hany : r.any oddS = true := by
     rw [← List.take_append_drop (x + 1) r, List.any_append, HT.out, ho]; rfl
    have HO := Lib.hid hO
    have HY := Lib.hid hany
    clear hO hany ho
    go_wp2_with (first | (go_at_call 18; refine (HO.out _).mono ?_; rintro e w1 ⟨rfl, hb1⟩))
    go_ret
    exact ⟨x, rfl, by rw [HY.out]; exact decide_eq_true (by omega), below_step hB hb1⟩
   | false =>
    rw [ho] at hO
    have HO := Lib.hid hO
    have HT2 := Lib.hid (HT.out.trans ho)
    clear hO ho
    go_wp2_with (first | (go_at_call 18; refine (HO.out _).mono ?_; rintro e w1 ⟨rfl, hb1⟩))
    have hgk := HG.out
    obtain ⟨g, hgg⟩ : ∃ g, r.length - x + 1 = g + 1 := ⟨_, rfl⟩
    rw [hgg] at hgk
    subst hgk
    go_roundg g
    case measure => omega
    case rel => exact ⟨x + 1, by omega, by omega, by go_num, HT2, below_step hB hb1⟩
  ·have hxe : x = r.length := by omega
   subst hxe
   have hany := HA.out
   rw [List.take_of_length_le (Nat.le_refl _)] at hany
   have HY := Lib.hid hany
   clear hany
   go_wp2
   go_ret
   exact ⟨-1, rfl, by rw [HY.out]; rfl, hB⟩
theorem may_contains (A : Option Addr) (c : Nat) (r : List ByteArray) (w : World) (hr : Kd.C Kd.string w A r.length r) (hc : r.length ≤ c) (hN : r.length ≤ 200) (hS : ∀ s ∈ r, s.size ≤ 10000) :
  Calls Tryd.prog 20 #[.slice A r.length c, .func (.func 18) #[] #[]] w fun e w' => e = .returned (.bool (r.any oddS)) ∧ Below w.heap.size w w' := by
 have HF := Lib.hid (may_find A c r w hr hc hN hS)
 clear hr hS
 go_enter Tryd.func20, Tryd.ntmps20
 go_wp2_with fail
 refine HF.out.mono ?_
 rintro e w1 ⟨i, rfl, hi, hb⟩
 have HI := Lib.hid hi
 clear hi
 go_wp2
 go_ret
 exact ⟨by rw [← HI.out]; rfl, hb⟩
def mayGo (c : Nat) : Nat → List (List ByteArray) → Bool
 | _, [] => true
 | all, r :: t => if r.length < 1 then false else if 64 < r.length then false else if r.length ≠ c then false else if r.any oddS = true then false else if 65536 < all + (rowW r).size then false else mayGo c (all + (rowW r).size) t
def mayR (rows : List (List ByteArray)) : Bool := if 513 < rows.length then false else mayGo (rows.headD []).length 0 rows
def cprint_May.f (rows : List (List ByteArray)) : Option Bool := if fits rows then some (mayR rows) else none
set_option maxHeartbeats 8000000 in
set_option maxRecDepth 100000 in
theorem cprint_May.calls (A0 : Option Addr) (c0 : Nat) (l0 : List (List ByteArray)) (r : Bool) (w : World) (hr0 : Kd.C (Kd.slice 9 Kd.string) w A0 l0.length l0) (hc0 : l0.length ≤ c0) (h : cprint_May.f l0 = some r) :
  Calls Tryd.prog 8 #[.slice A0 l0.length c0] w fun e w' => e = .returned (.bool r) ∧ Below w.heap.size w w' := by
 unfold cprint_May.f at h
 split at h
 ·rename_i hf
  obtain rfl := Option.some.inj h
  clear h
  have hN := hf.1
  have HF := Lib.hid hf.2
  have HR := Lib.hid hr0
  have hm : mayR l0 = mayGo (l0.headD []).length 0 l0 := if_neg (by omega)
  rw [hm]
  clear hf hr0 hm
  have HM0 := Lib.hid (Eq.refl (mayGo (l0.headD []).length 0 l0))
  generalize hRes : mayGo (l0.headD []).length 0 l0 = res at HM0 ⊢
  obtain ⟨C, hC⟩ : ∃ C, (l0.headD []).length = C := ⟨_, rfl⟩
  rw [hC] at hRes
  have HRes := Lib.hid hRes
  have HC := Lib.hid hC
  clear hRes hC HM0
  go_enter Tryd.func8, Tryd.ntmps8
  go_wp2_with fail
  go_loopg [4, 12] (l0.length + 1) (fun g vall i wx => ∃ (x all : Nat), x ≤ l0.length ∧ g = l0.length - x + 1 ∧ i = .int .i64 x ∧ vall = .int .i64 all ∧ all ≤ x * 4000602 ∧ Hid (mayGo C all (l0.drop x) = res) ∧ Hid (Below w.heap.size w wx))
  case atStart => exact ⟨0, 0, Nat.zero_le _, rfl, rfl, rfl, Nat.zero_le _, HRes, Lib.hid (Below.refl _ _)⟩
  case round =>
   obtain ⟨x, all, hx, hg, rfl, rfl, hal, HM, HB⟩ := hrel
   have HG := Lib.hid hg
   clear hg
   have hBw : w.heap.size ≤ wr.heap.size := HB.out.size
   by_cases hxl : x < l0.length
   ·obtain ⟨ad, A1, c1, rfl, hcell, hc1, hC1⟩ := at_rows HR.out x hxl hxl
    obtain ⟨ad', A2, c2, hA', hcell0, hc2, hC2⟩ := at_rows HR.out 0 (by omega) (by omega)
    obtain rfl := Option.some.inj hA'
    rw [show ad.add 0 = ad from if_pos rfl] at hcell0
    replace hcell := (HB.out.cell (World.block_lt_of_cell? w _ hcell)).trans hcell
    replace hcell0 := (HB.out.cell (World.block_lt_of_cell? w _ hcell0)).trans hcell0
    have h0C : (l0[0]'(by omega)).length = C := by
     have h := HC.out
     rw [show l0.headD [] = l0[0]'(by omega) from by cases l0 with | nil => simp at hxl | cons a b => rfl] at h
     exact h
    rw [h0C] at hcell0
    have hf := HF.out _ (List.getElem_mem hxl)
    have hmm := HM.out
    rw [List.drop_eq_getElem_cons hxl] at hmm
    obtain ⟨s, hs⟩ : ∃ s, l0[x] = s := ⟨_, rfl⟩
    rw [hs] at hcell hf hc1 hC1 hmm
    have hCC := fun W (hb : Below wr.heap.size wr W) => may_contains A1 c1 s W (Kd.C_below (Kd.C_below hC1 HB.out) hb) hc1 hf.1 hf.2
    have hRow := fun W (hb : Below wr.heap.size wr W) => cprint_row_ A1 c1 s W (Kd.C_below (Kd.C_below hC1 HB.out) hb) hc1 hf.1 hf.2
    have hsz := rowW_size s hf.1 hf.2
    obtain ⟨z, hz⟩ : ∃ z, (rowW s).size = z := ⟨_, rfl⟩
    obtain ⟨o, ho⟩ : ∃ o, s.any oddS = o := ⟨_, rfl⟩
    obtain ⟨n, hn⟩ : ∃ n, s.length = n := ⟨_, rfl⟩
    rw [mayGo, hz, ho, hn] at hmm
    rw [hz] at hsz
    rw [ho, hn] at hCC
    rw [hn] at hRow hcell
    have hn1 : n ≤ 200 := by rw [← hn]; exact hf.1
    have HCC := Lib.hid hCC
    have HRow := Lib.hid hRow
    have HZ := Lib.hid hz
    have hxx : x * 4000602 ≤ 100 * 4000602 := Nat.mul_le_mul_right _ (by omega)
    have hCl : C ≤ 200 := by rw [← h0C]; exact (HF.out _ (List.getElem_mem (by omega))).1
    clear hCC hRow hz ho hn hf hs hc1 hC1 hC2 hc2 h0C HM
    by_cases g1 : n < 1
    ·rw [if_pos g1] at hmm
     subst hmm
     obtain rfl : n = 0 := by omega
     go_wp2
     go_ret
     exact ⟨rfl, by first | exact HB.out | exact pw_below_drewN HB.out _⟩
    rw [if_neg g1] at hmm
    have e1 : decide ((n : Int) < 1) = false := decide_eq_false (by omega)
    by_cases g2 : 64 < n
    ·rw [if_pos g2] at hmm
     subst hmm
     have e2 : decide (64 < (n : Int)) = true := decide_eq_true (by omega)
     go_wp2
     go_ret
     exact ⟨rfl, by first | exact HB.out | exact pw_below_drewN HB.out _⟩
    rw [if_neg g2] at hmm
    have e2 : decide (64 < (n : Int)) = false := decide_eq_false (by omega)
    by_cases g3 : n ≠ C
    ·rw [if_pos g3] at hmm
     subst hmm
     have e3 : ((n : Int) != (C : Int)) = true := bne_iff_ne.2 (by omega)
     have e4 : ((n : Int) == (C : Int)) = false := beq_eq_false_iff_ne.2 (by omega)
     go_wp2
     go_ret
     exact ⟨rfl, by first | exact HB.out | exact pw_below_drewN HB.out _⟩
    rw [if_neg g3] at hmm
    obtain rfl : n = C := by omega
    have e3 : ((n : Int) != (n : Int)) = false := bne_eq_false_iff_eq.2 rfl
    cases o with
    | true =>
     rw [if_pos rfl] at hmm
     subst hmm
     go_wp2_with fail
     refine (HCC.out _ (Below.refl _ _)).mono ?_
     rintro e w1 ⟨rfl, hb1⟩
     go_wp2
     go_ret
     exact ⟨rfl, below_step HB.out hb1⟩
    | false =>
     rw [if_neg Bool.false_ne_true] at hmm
     have HMM := Lib.hid hmm
     clear hmm
     go_wp2_with fail
     refine (HCC.out _ (Below.refl _ _)).mono ?_
     rintro e w1 ⟨rfl, hb1⟩
     go_wp2_with fail
     refine (HRow.out _ hb1).mono ?_
     rintro e w2 ⟨rfl, hb2⟩
     have HB2 := Lib.hid (below_step (below_step HB.out hb1) hb2)
     clear hb1 hb2
     have hz := HZ.out
     by_cases g5 : 65536 < all + z
     ·have hmm := HMM.out
      rw [if_pos g5] at hmm
      subst hmm
      have e5 : decide (65536 < (all : Int) + (z : Int)) = true := decide_eq_true (by omega)
      go_wp2
      go_ret
      exact ⟨rfl, HB2.out⟩
     ·have hmm := HMM.out
      rw [if_neg g5] at hmm
      have HM2 := Lib.hid hmm
      clear hmm HMM
      have e5 : decide (65536 < (all : Int) + (z : Int)) = false := decide_eq_false (by omega)
      go_wp2
      have hgk := HG.out
      obtain ⟨g, hgg⟩ : ∃ g, l0.length - x + 1 = g + 1 := ⟨_, rfl⟩
      rw [hgg] at hgk
      subst hgk
      go_roundg g
      case rel => exact ⟨x + 1, all + z, by omega, by omega, by go_num, by go_num, by omega, HM2, HB2⟩
      case measure => omega
   ·have hxe : x = l0.length := by omega
    subst hxe
    have hmm := HM.out
    rw [List.drop_eq_nil_of_le (Nat.le_refl _), mayGo] at hmm
    subst hmm
    go_wp2
    go_ret
    exact ⟨rfl, HB.out⟩
 ·cases h
end Go.Proofs.YtjmmdphkgioooaaDoor.P
end
section
namespace Go.Proofs.YtjmmdphkgioooaaDoor.P
open Go.RowKit Go.Proofs.YtjmmdphkgioooaaDoorW.PrintWords Go.Proofs.YtjmmdphkgioooaaDoorW.PrintLast Go.Proofs.YtjmmdphkgioooaaDoorW.PrintMore
attribute [local go_sem] max2_int min2_int max_two min_two max_three min_three max_four min_four   -- for this text's walks alone
set_option linter.unusedVariables false
set_option linter.unusedSimpArgs false
/-! ### dragomanlaw14_awake: function 7 -/
def dragomanlaw14_awake.f  : Option (Bool) := (cprint_Print.f (([(([(⟨#[97]⟩ : ByteArray), (⟨#[98, 44, 99]⟩ : ByteArray)] : List ByteArray))] : List (List ByteArray)))).bind fun t118 => (if t118.toList = ([97, 44, 34, 98, 44, 99, 34, 13, 10] : List UInt8) then ((cprint_May.f (([(([(⟨#[97]⟩ : ByteArray)] : List ByteArray))] : List (List ByteArray)))).bind fun t125 => (if t125 = true then ((cprint_Field.f (⟨#[]⟩ : ByteArray) true).bind fun t126 => (some (t126.toList == ([34, 34] : List UInt8)))) else (some false))) else (some false))
set_option maxHeartbeats 8000000 in
set_option maxRecDepth 100000 in
theorem dragomanlaw14_awake.calls  (r : Bool) (w : World) (h : dragomanlaw14_awake.f  = some r) :
  Calls Tryd.prog 7 #[] w fun e w' => e = .returned (.bool r) ∧ Below w.heap.size w w' := by
 have HB := Aside0.mk (Below.refl w.heap.size w)
 have H : ((cprint_Print.f (([(([(⟨#[97]⟩ : ByteArray), (⟨#[98, 44, 99]⟩ : ByteArray)] : List ByteArray))] : List (List ByteArray)))).bind fun t118 => (if t118.toList = ([97, 44, 34, 98, 44, 99, 34, 13, 10] : List UInt8) then ((cprint_May.f (([(([(⟨#[97]⟩ : ByteArray)] : List ByteArray))] : List (List ByteArray)))).bind fun t125 => (if t125 = true then ((cprint_Field.f (⟨#[]⟩ : ByteArray) true).bind fun t126 => (some (t126.toList == ([34, 34] : List UInt8)))) else (some false))) else (some false))) = some r := h
 clear h
 obtain ⟨y112, hy112⟩ : ∃ y_ : List ByteArray, y_ = (([(⟨#[97]⟩ : ByteArray), (⟨#[98, 44, 99]⟩ : ByteArray)] : List ByteArray)) := ⟨_, rfl⟩
 replace H : ((cprint_Print.f (([y112] : List (List ByteArray)))).bind fun t118 => (if t118.toList = ([97, 44, 34, 98, 44, 99, 34, 13, 10] : List UInt8) then ((cprint_May.f (([(([(⟨#[97]⟩ : ByteArray)] : List ByteArray))] : List (List ByteArray)))).bind fun t125 => (if t125 = true then ((cprint_Field.f (⟨#[]⟩ : ByteArray) true).bind fun t126 => (some (t126.toList == ([34, 34] : List UInt8)))) else (some false))) else (some false))) = some r := by first | (rw [hy112]; with_reducible exact H) | (have H2_ := (Option.bind_some _ _).symm.trans H; rw [hy112]; with_reducible exact H2_) | (have H2_ := (Option.bind_some _ _).symm.trans H; with_reducible exact H2_) | with_reducible exact H | (rw [hy112]; exact H) | exact H
 have Ny112 := Aside0.mk hy112
 clear hy112
 obtain ⟨y115, hy115⟩ : ∃ y_ : List (List ByteArray), y_ = (([y112] : List (List ByteArray))) := ⟨_, rfl⟩
 replace H : ((cprint_Print.f y115).bind fun t118 => (if t118.toList = ([97, 44, 34, 98, 44, 99, 34, 13, 10] : List UInt8) then ((cprint_May.f (([(([(⟨#[97]⟩ : ByteArray)] : List ByteArray))] : List (List ByteArray)))).bind fun t125 => (if t125 = true then ((cprint_Field.f (⟨#[]⟩ : ByteArray) true).bind fun t126 => (some (t126.toList == ([34, 34] : List UInt8)))) else (some false))) else (some false))) = some r := by first | (rw [hy115]; with_reducible exact H) | (have H2_ := (Option.bind_some _ _).symm.trans H; rw [hy115]; with_reducible exact H2_) | (have H2_ := (Option.bind_some _ _).symm.trans H; with_reducible exact H2_) | with_reducible exact H | (rw [hy115]; exact H) | exact H
 have Ny115 := Aside0.mk hy115
 clear hy115
 replace H := Option.bind_eq_some_iff.mp H
 obtain ⟨t118, A10, H⟩ := H
 replace H : (if t118.toList = ([97, 44, 34, 98, 44, 99, 34, 13, 10] : List UInt8) then ((cprint_May.f (([(([(⟨#[97]⟩ : ByteArray)] : List ByteArray))] : List (List ByteArray)))).bind fun t125 => (if t125 = true then ((cprint_Field.f (⟨#[]⟩ : ByteArray) true).bind fun t126 => (some (t126.toList == ([34, 34] : List UInt8)))) else (some false))) else (some false)) = some r := H
 have A1 := Aside0.mk A10
 clear A10
 by_cases c2 : t118.toList = ([97, 44, 34, 98, 44, 99, 34, 13, 10] : List UInt8)
 ·rw [if_pos c2] at H
  have c2b0 : (t118.toList == ([97, 44, 34, 98, 44, 99, 34, 13, 10] : List UInt8)) = true := beq_iff_eq.mpr c2
  have c2b1 : (t118.toList != ([97, 44, 34, 98, 44, 99, 34, 13, 10] : List UInt8)) = false := bne_eq_false_iff_eq.mpr c2
  clear c2
  obtain ⟨y119, hy119⟩ : ∃ y_ : List ByteArray, y_ = (([(⟨#[97]⟩ : ByteArray)] : List ByteArray)) := ⟨_, rfl⟩
  replace H : ((cprint_May.f (([y119] : List (List ByteArray)))).bind fun t125 => (if t125 = true then ((cprint_Field.f (⟨#[]⟩ : ByteArray) true).bind fun t126 => (some (t126.toList == ([34, 34] : List UInt8)))) else (some false))) = some r := by first | (rw [hy119]; with_reducible exact H) | (have H2_ := (Option.bind_some _ _).symm.trans H; rw [hy119]; with_reducible exact H2_) | (have H2_ := (Option.bind_some _ _).symm.trans H; with_reducible exact H2_) | with_reducible exact H | (rw [hy119]; exact H) | exact H
  have Ny119 := Aside0.mk hy119
  clear hy119
  obtain ⟨y122, hy122⟩ : ∃ y_ : List (List ByteArray), y_ = (([y119] : List (List ByteArray))) := ⟨_, rfl⟩
  replace H : ((cprint_May.f y122).bind fun t125 => (if t125 = true then ((cprint_Field.f (⟨#[]⟩ : ByteArray) true).bind fun t126 => (some (t126.toList == ([34, 34] : List UInt8)))) else (some false))) = some r := by first | (rw [hy122]; with_reducible exact H) | (have H2_ := (Option.bind_some _ _).symm.trans H; rw [hy122]; with_reducible exact H2_) | (have H2_ := (Option.bind_some _ _).symm.trans H; with_reducible exact H2_) | with_reducible exact H | (rw [hy122]; exact H) | exact H
  have Ny122 := Aside0.mk hy122
  clear hy122
  replace H := Option.bind_eq_some_iff.mp H
  obtain ⟨t125, A30, H⟩ := H
  replace H : (if t125 = true then ((cprint_Field.f (⟨#[]⟩ : ByteArray) true).bind fun t126 => (some (t126.toList == ([34, 34] : List UInt8)))) else (some false)) = some r := H
  have A3 := Aside0.mk A30
  clear A30
  by_cases c4 : t125 = true
  ·subst c4
   have H1 : ((cprint_Field.f (⟨#[]⟩ : ByteArray) true).bind fun t126 => (some (t126.toList == ([34, 34] : List UInt8)))) = some r := by rw [if_pos rfl] at H; exact H
   clear H
   have H := H1
   clear H1
   replace H := Option.bind_eq_some_iff.mp H
   obtain ⟨t126, A50, H⟩ := H
   replace H : (some (t126.toList == ([34, 34] : List UInt8))) = some r := H
   have A5 := Aside0.mk A50
   clear A50
   obtain rfl := Option.some.inj H
   go_enter Tryd.func7, Tryd.ntmps7
   go_wp2_with (first | ((with_reducible refine gate_dst (N := 1) rfl ?_); (try (refine gate_guard (by rfl) ?_; dsimp only)); refine Kd.R_lit Kd.string _ 9 ?hg (N := 1) ?hd (xs := ([(⟨#[97]⟩ : ByteArray), (⟨#[98, 44, 99]⟩ : ByteArray)] : List ByteArray)) (inner := [.string (⟨#[97]⟩ : ByteArray), .string (⟨#[98, 44, 99]⟩ : ByteArray)]) (ok := fun _ => True) (okp := fun _ => True) ?hr ?hp (fun _ hk => hk) trivial (Below.refl _ _) (Nat.le_refl _) (by simp) ?_; (case hd => rfl); (case hg => rfl); (case hr => first | (go_simp; done) | (go_simp; rfl)); (case hp => exact (Reps.one (show Kd.M Kd.string _ _ _ (⟨#[97]⟩ : ByteArray) [.string (⟨#[97]⟩ : ByteArray)] from rfl) (Reps.one (show Kd.M Kd.string _ _ _ (⟨#[98, 44, 99]⟩ : ByteArray) [.string (⟨#[98, 44, 99]⟩ : ByteArray)] from rfl) (Reps.none _ _)))); intro v113 w6 ho7 hb hg_ hnew_; clear hg_ hnew_; (first | rw [← Ny112.out] at ho7 | (simp only [Int.reduceToNat] at ho7; rw [← Ny112.out] at ho7)); have n0_ := Aside0.mk (Kd.R_lower ho7 (below_size (by repeat (first | (with_reducible first | exact HB.out | apply below_alloc | apply pw_below_drewN | apply below_drew1) | exact HB.out)))); have n1_ := Aside0.mk (below_step (by repeat (first | (with_reducible first | exact HB.out | apply below_alloc | apply pw_below_drewN | apply below_drew1) | exact HB.out)) hb); clear HB; have HO114 := n0_; have HB := n1_; clear n0_ n1_; clear hb ho7; obtain ⟨Ao8, co8, eo8⟩ := Kd.R_slice HO114.out; subst eo8) | ((with_reducible refine gate_dst (N := 2) rfl ?_); (try (refine gate_guard (by rfl) ?_; dsimp only)); refine Kd.N_lit (Kd.slice 9 Kd.string) _ 24 ?hg (N' := 2) ?hd (xs := ([y112] : List (List ByteArray))) (inner := [.slice Ao8 y112.length co8]) (ok := (fun _ => True)) (okp := (fun _ => True)) ?hr ?hp (fun _ hk => hk) ((show ∀ k_, w6.heap.size ≤ k_ → (fun _ => True) k_ from fun k_ hk => trivial) _ (Nat.le_refl _)) (Below.refl _ _) (Nat.le_refl _) (by simp) ?_; (case hd => rfl); (case hg => rfl); (case hr => first | (go_simp; done) | (go_simp; rfl)); (case hp => exact (Reps.one (show Kd.FK (Kd.slice 9 Kd.string) _ _ y112 [.slice Ao8 y112.length co8] from (Kd.FK_slice_mk (Kd.R_reads' (Kd.R_mono (ok' := (fun _ => True)) (HO114.out) (fun k_ hk => trivial))).2.1 (Kd.R_F (Kd.R_mono (ok' := (fun _ => True)) (HO114.out) (fun k_ hk => trivial))))) (Reps.none _ _))); intro v116 w9 ho10 hb hg_ hnew_; clear hg_ hnew_; (first | rw [← Ny115.out] at ho10 | (simp only [Int.reduceToNat] at ho10; rw [← Ny115.out] at ho10)); have n0_ := Aside0.mk (Kd.N_lower ho10 (below_size (by repeat (first | (with_reducible first | exact HB.out | apply below_alloc | apply pw_below_drewN | apply below_drew1) | exact HB.out)))); have n1_ := Aside0.mk (below_step (by repeat (first | (with_reducible first | exact HB.out | apply below_alloc | apply pw_below_drewN | apply below_drew1) | exact HB.out)) hb); clear HB; clear HO114; have HO117 := n0_; have HB := n1_; clear n0_ n1_; clear hb ho10; obtain ⟨Ao11, co11, eo11⟩ := Kd.N_slice HO117.out; subst eo11) | ((with_reducible refine gate_callee (f := 9) rfl ?_); refine goesL_ (some 3) rfl rfl Tryd.func9 (by kernel_rfl) rfl #[.slice Ao11 y115.length co11] rfl (by (try simp only [List.map_toArray, List.map_cons, List.map_nil]); first | done | rfl | (simp only [List.length_drop, List.length_take]; rfl)) ?_; (with_reducible refine (cprint_Print.calls _ _ y115 t118 _ ?side1 ?side2 A1.out).mono ?_); (case side1 => repeat (first | exact (Kd.N_reads' HO117.out).2.2 | (with_reducible refine Kd.C_alloc ?_ _) | (with_reducible refine Kd.C_drewN ?_ _) | (with_reducible refine Kd.C_drew ?_))); (case side2 => exact (Kd.N_reads' HO117.out).2.1); rintro e w12 ⟨rfl, hb⟩; refine ⟨_, rfl, ?_⟩; have n0_ := Aside0.mk (Kd.N_below (by (with_reducible repeat (first | apply Kd.N_alloc | apply Kd.N_drewN | apply Kd.N_drew)); exact HO117.out) hb); have n1_ := Aside0.mk (below_step (by repeat (first | (with_reducible first | exact HB.out | apply below_alloc | apply pw_below_drewN | apply below_drew1) | exact HB.out)) hb); clear HO117; clear HB; have HO117 := n0_; have HB := n1_; clear n0_ n1_; (try clear hb); (try clear hb2); (try clear hk); (try clear hi)) | ((with_reducible refine gate_dst (N := 6) rfl ?_); (try (refine gate_guard (by rfl) ?_; dsimp only)); refine Kd.R_lit Kd.string _ 9 ?hg (N := 6) ?hd (xs := ([(⟨#[97]⟩ : ByteArray)] : List ByteArray)) (inner := [.string (⟨#[97]⟩ : ByteArray)]) (ok := fun _ => True) (okp := fun _ => True) ?hr ?hp (fun _ hk => hk) trivial (Below.refl _ _) (Nat.le_refl _) (by simp) ?_; (case hd => rfl); (case hg => rfl); (case hr => first | (go_simp; done) | (go_simp; rfl)); (case hp => exact (Reps.one (show Kd.M Kd.string _ _ _ (⟨#[97]⟩ : ByteArray) [.string (⟨#[97]⟩ : ByteArray)] from rfl) (Reps.none _ _))); intro v120 w13 ho14 hb hg_ hnew_; clear hg_ hnew_; (first | rw [← Ny119.out] at ho14 | (simp only [Int.reduceToNat] at ho14; rw [← Ny119.out] at ho14)); have n0_ := Aside0.mk (Kd.N_elder' (by (with_reducible repeat (first | apply Kd.N_alloc | apply Kd.N_drewN | apply Kd.N_drew)); exact HO117.out) (Kd.R_base ho14) hb); have n1_ := Aside0.mk (Kd.R_lower ho14 (below_size (by repeat (first | (with_reducible first | exact HB.out | apply below_alloc | apply pw_below_drewN | apply below_drew1) | exact HB.out)))); have n2_ := Aside0.mk (below_step (by repeat (first | (with_reducible first | exact HB.out | apply below_alloc | apply pw_below_drewN | apply below_drew1) | exact HB.out)) hb); clear HO117; clear HB; have HO117 := n0_; have HO121 := n1_; have HB := n2_; clear n0_ n1_ n2_; clear hb ho14; obtain ⟨Ao15, co15, eo15⟩ := Kd.R_slice HO121.out; subst eo15) | ((with_reducible refine gate_dst (N := 7) rfl ?_); (try (refine gate_guard (by rfl) ?_; dsimp only)); refine Kd.N_lit (Kd.slice 9 Kd.string) _ 24 ?hg (N' := 7) ?hd (xs := ([y119] : List (List ByteArray))) (inner := [.slice Ao15 y119.length co15]) (ok := (fun k_ => some k_ ≠ (.slice Ao11 y115.length co11 : Value).ownBlock)) (okp := (fun k_ => some k_ ≠ (.slice Ao11 y115.length co11 : Value).ownBlock)) ?hr ?hp (fun _ hk => hk) ((show ∀ k_, w13.heap.size ≤ k_ → (fun k_ => some k_ ≠ (.slice Ao11 y115.length co11 : Value).ownBlock) k_ from fun k_ hk => Kd.fresh' (Kd.N_lt (by (with_reducible repeat (first | apply Kd.N_alloc | apply Kd.N_drewN | apply Kd.N_drew)); exact HO117.out)) k_ hk) _ (Nat.le_refl _)) (Below.refl _ _) (Nat.le_refl _) (by simp) ?_; (case hd => rfl); (case hg => rfl); (case hr => first | (go_simp; done) | (go_simp; rfl)); (case hp => exact (Reps.one (show Kd.FK (Kd.slice 9 Kd.string) _ _ y119 [.slice Ao15 y119.length co15] from (Kd.FK_slice_mk (Kd.R_reads' (Kd.R_mono (ok' := (fun k_ => some k_ ≠ (.slice Ao11 y115.length co11 : Value).ownBlock)) (Kd.R_apart' (HO121.out) (Kd.N_typed HO117.out) (by decide)) (fun k_ hk => hk.2))).2.1 (Kd.R_F (Kd.R_mono (ok' := (fun k_ => some k_ ≠ (.slice Ao11 y115.length co11 : Value).ownBlock)) (Kd.R_apart' (HO121.out) (Kd.N_typed HO117.out) (by decide)) (fun k_ hk => hk.2))))) (Reps.none _ _))); intro v123 w16 ho17 hb hg_ hnew_; clear hg_ hnew_; (first | rw [← Ny122.out] at ho17 | (simp only [Int.reduceToNat] at ho17; rw [← Ny122.out] at ho17)); have n0_ := Aside0.mk (Kd.N_elder' (by (with_reducible repeat (first | apply Kd.N_alloc | apply Kd.N_drewN | apply Kd.N_drew)); exact HO117.out) (Kd.N_base ho17) hb); have n1_ := Aside0.mk (Kd.N_lower ho17 (below_size (by repeat (first | (with_reducible first | exact HB.out | apply below_alloc | apply pw_below_drewN | apply below_drew1) | exact HB.out)))); have n2_ := Aside0.mk (below_step (by repeat (first | (with_reducible first | exact HB.out | apply below_alloc | apply pw_below_drewN | apply below_drew1) | exact HB.out)) hb); clear HO117; clear HB; clear HO121; have HO117 := n0_; have HO124 := n1_; have HB := n2_; clear n0_ n1_ n2_; clear hb ho17; obtain ⟨Ao18, co18, eo18⟩ := Kd.N_slice HO124.out; subst eo18) | (go_at_call 8; (with_reducible refine (cprint_May.calls _ _ y122 true _ ?side1 ?side2 A3.out).mono ?_); (case side1 => repeat (first | exact (Kd.N_reads' HO124.out).2.2 | (with_reducible refine Kd.C_alloc ?_ _) | (with_reducible refine Kd.C_drewN ?_ _) | (with_reducible refine Kd.C_drew ?_))); (case side2 => exact (Kd.N_reads' HO124.out).2.1); rintro e w19 ⟨rfl, hb⟩; have n0_ := Aside0.mk (Kd.N_below (by (with_reducible repeat (first | apply Kd.N_alloc | apply Kd.N_drewN | apply Kd.N_drew)); exact HO117.out) hb); have n1_ := Aside0.mk (Kd.N_below (by (with_reducible repeat (first | apply Kd.N_alloc | apply Kd.N_drewN | apply Kd.N_drew)); exact HO124.out) hb); have n2_ := Aside0.mk (below_step (by repeat (first | (with_reducible first | exact HB.out | apply below_alloc | apply pw_below_drewN | apply below_drew1) | exact HB.out)) hb); clear HO117; clear HO124; clear HB; have HO117 := n0_; have HO124 := n1_; have HB := n2_; clear n0_ n1_ n2_; (try clear hb); (try clear hb2); (try clear hk); (try clear hi)) | (go_at_call 10; (with_reducible refine (cprint_Field.calls (⟨#[]⟩ : ByteArray) true t126 _ A5.out).mono ?_); rintro e w20 ⟨rfl, hb⟩; have n0_ := Aside0.mk (Kd.N_below (by (with_reducible repeat (first | apply Kd.N_alloc | apply Kd.N_drewN | apply Kd.N_drew)); exact HO117.out) hb); have n1_ := Aside0.mk (Kd.N_below (by (with_reducible repeat (first | apply Kd.N_alloc | apply Kd.N_drewN | apply Kd.N_drew)); exact HO124.out) hb); have n2_ := Aside0.mk (below_step (by repeat (first | (with_reducible first | exact HB.out | apply below_alloc | apply pw_below_drewN | apply below_drew1) | exact HB.out)) hb); clear HO117; clear HO124; clear HB; have HO117 := n0_; have HO124 := n1_; have HB := n2_; clear n0_ n1_ n2_; (try clear hb); (try clear hb2); (try clear hk); (try clear hi)))
   go_ret
   exact ⟨by first | rfl | (simp [errW_none, errW_some] <;> rfl) | (simp [*, errW_none, errW_some, bne]; done) | (simp [*, errW_none, errW_some] <;> rfl), by repeat (first | (with_reducible first | exact HB.out | apply below_alloc | apply pw_below_drewN | apply below_drew1) | exact HB.out)⟩
  ·replace c4 := Bool.eq_false_iff.mpr c4
   subst c4
   have H1 : (some false) = some r := by rw [if_neg (show ¬ (false = true) by decide)] at H; exact H
   clear H
   have H := H1
   clear H1
   obtain rfl := Option.some.inj H
   go_enter Tryd.func7, Tryd.ntmps7
   go_wp2_with (first | ((with_reducible refine gate_dst (N := 1) rfl ?_); (try (refine gate_guard (by rfl) ?_; dsimp only)); refine Kd.R_lit Kd.string _ 9 ?hg (N := 1) ?hd (xs := ([(⟨#[97]⟩ : ByteArray), (⟨#[98, 44, 99]⟩ : ByteArray)] : List ByteArray)) (inner := [.string (⟨#[97]⟩ : ByteArray), .string (⟨#[98, 44, 99]⟩ : ByteArray)]) (ok := fun _ => True) (okp := fun _ => True) ?hr ?hp (fun _ hk => hk) trivial (Below.refl _ _) (Nat.le_refl _) (by simp) ?_; (case hd => rfl); (case hg => rfl); (case hr => first | (go_simp; done) | (go_simp; rfl)); (case hp => exact (Reps.one (show Kd.M Kd.string _ _ _ (⟨#[97]⟩ : ByteArray) [.string (⟨#[97]⟩ : ByteArray)] from rfl) (Reps.one (show Kd.M Kd.string _ _ _ (⟨#[98, 44, 99]⟩ : ByteArray) [.string (⟨#[98, 44, 99]⟩ : ByteArray)] from rfl) (Reps.none _ _)))); intro v113 w21 ho22 hb hg_ hnew_; clear hg_ hnew_; (first | rw [← Ny112.out] at ho22 | (simp only [Int.reduceToNat] at ho22; rw [← Ny112.out] at ho22)); have n0_ := Aside0.mk (Kd.R_lower ho22 (below_size (by repeat (first | (with_reducible first | exact HB.out | apply below_alloc | apply pw_below_drewN | apply below_drew1) | exact HB.out)))); have n1_ := Aside0.mk (below_step (by repeat (first | (with_reducible first | exact HB.out | apply below_alloc | apply pw_below_drewN | apply below_drew1) | exact HB.out)) hb); clear HB; have HO114 := n0_; have HB := n1_; clear n0_ n1_; clear hb ho22; obtain ⟨Ao23, co23, eo23⟩ := Kd.R_slice HO114.out; subst eo23) | ((with_reducible refine gate_dst (N := 2) rfl ?_); (try (refine gate_guard (by rfl) ?_; dsimp only)); refine Kd.N_lit (Kd.slice 9 Kd.string) _ 24 ?hg (N' := 2) ?hd (xs := ([y112] : List (List ByteArray))) (inner := [.slice Ao23 y112.length co23]) (ok := (fun _ => True)) (okp := (fun _ => True)) ?hr ?hp (fun _ hk => hk) ((show ∀ k_, w21.heap.size ≤ k_ → (fun _ => True) k_ from fun k_ hk => trivial) _ (Nat.le_refl _)) (Below.refl _ _) (Nat.le_refl _) (by simp) ?_; (case hd => rfl); (case hg => rfl); (case hr => first | (go_simp; done) | (go_simp; rfl)); (case hp => exact (Reps.one (show Kd.FK (Kd.slice 9 Kd.string) _ _ y112 [.slice Ao23 y112.length co23] from (Kd.FK_slice_mk (Kd.R_reads' (Kd.R_mono (ok' := (fun _ => True)) (HO114.out) (fun k_ hk => trivial))).2.1 (Kd.R_F (Kd.R_mono (ok' := (fun _ => True)) (HO114.out) (fun k_ hk => trivial))))) (Reps.none _ _))); intro v116 w24 ho25 hb hg_ hnew_; clear hg_ hnew_; (first | rw [← Ny115.out] at ho25 | (simp only [Int.reduceToNat] at ho25; rw [← Ny115.out] at ho25)); have n0_ := Aside0.mk (Kd.N_lower ho25 (below_size (by repeat (first | (with_reducible first | exact HB.out | apply below_alloc | apply pw_below_drewN | apply below_drew1) | exact HB.out)))); have n1_ := Aside0.mk (below_step (by repeat (first | (with_reducible first | exact HB.out | apply below_alloc | apply pw_below_drewN | apply below_drew1) | exact HB.out)) hb); clear HB; clear HO114; have HO117 := n0_; have HB := n1_; clear n0_ n1_; clear hb ho25; obtain ⟨Ao26, co26, eo26⟩ := Kd.N_slice HO117.out; subst eo26) | ((with_reducible refine gate_callee (f := 9) rfl ?_); refine goesL_ (some 3) rfl rfl Tryd.func9 (by kernel_rfl) rfl #[.slice Ao26 y115.length co26] rfl (by (try simp only [List.map_toArray, List.map_cons, List.map_nil]); first | done | rfl | (simp only [List.length_drop, List.length_take]; rfl)) ?_; (with_reducible refine (cprint_Print.calls _ _ y115 t118 _ ?side1 ?side2 A1.out).mono ?_); (case side1 => repeat (first | exact (Kd.N_reads' HO117.out).2.2 | (with_reducible refine Kd.C_alloc ?_ _) | (with_reducible refine Kd.C_drewN ?_ _) | (with_reducible refine Kd.C_drew ?_))); (case side2 => exact (Kd.N_reads' HO117.out).2.1); rintro e w27 ⟨rfl, hb⟩; refine ⟨_, rfl, ?_⟩; have n0_ := Aside0.mk (Kd.N_below (by (with_reducible repeat (first | apply Kd.N_alloc | apply Kd.N_drewN | apply Kd.N_drew)); exact HO117.out) hb); have n1_ := Aside0.mk (below_step (by repeat (first | (with_reducible first | exact HB.out | apply below_alloc | apply pw_below_drewN | apply below_drew1) | exact HB.out)) hb); clear HO117; clear HB; have HO117 := n0_; have HB := n1_; clear n0_ n1_; (try clear hb); (try clear hb2); (try clear hk); (try clear hi)) | ((with_reducible refine gate_dst (N := 6) rfl ?_); (try (refine gate_guard (by rfl) ?_; dsimp only)); refine Kd.R_lit Kd.string _ 9 ?hg (N := 6) ?hd (xs := ([(⟨#[97]⟩ : ByteArray)] : List ByteArray)) (inner := [.string (⟨#[97]⟩ : ByteArray)]) (ok := fun _ => True) (okp := fun _ => True) ?hr ?hp (fun _ hk => hk) trivial (Below.refl _ _) (Nat.le_refl _) (by simp) ?_; (case hd => rfl); (case hg => rfl); (case hr => first | (go_simp; done) | (go_simp; rfl)); (case hp => exact (Reps.one (show Kd.M Kd.string _ _ _ (⟨#[97]⟩ : ByteArray) [.string (⟨#[97]⟩ : ByteArray)] from rfl) (Reps.none _ _))); intro v120 w28 ho29 hb hg_ hnew_; clear hg_ hnew_; (first | rw [← Ny119.out] at ho29 | (simp only [Int.reduceToNat] at ho29; rw [← Ny119.out] at ho29)); have n0_ := Aside0.mk (Kd.N_elder' (by (with_reducible repeat (first | apply Kd.N_alloc | apply Kd.N_drewN | apply Kd.N_drew)); exact HO117.out) (Kd.R_base ho29) hb); have n1_ := Aside0.mk (Kd.R_lower ho29 (below_size (by repeat (first | (with_reducible first | exact HB.out | apply below_alloc | apply pw_below_drewN | apply below_drew1) | exact HB.out)))); have n2_ := Aside0.mk (below_step (by repeat (first | (with_reducible first | exact HB.out | apply below_alloc | apply pw_below_drewN | apply below_drew1) | exact HB.out)) hb); clear HO117; clear HB; have HO117 := n0_; have HO121 := n1_; have HB := n2_; clear n0_ n1_ n2_; clear hb ho29; obtain ⟨Ao30, co30, eo30⟩ := Kd.R_slice HO121.out; subst eo30) | ((with_reducible refine gate_dst (N := 7) rfl ?_); (try (refine gate_guard (by rfl) ?_; dsimp only)); refine Kd.N_lit (Kd.slice 9 Kd.string) _ 24 ?hg (N' := 7) ?hd (xs := ([y119] : List (List ByteArray))) (inner := [.slice Ao30 y119.length co30]) (ok := (fun k_ => some k_ ≠ (.slice Ao26 y115.length co26 : Value).ownBlock)) (okp := (fun k_ => some k_ ≠ (.slice Ao26 y115.length co26 : Value).ownBlock)) ?hr ?hp (fun _ hk => hk) ((show ∀ k_, w28.heap.size ≤ k_ → (fun k_ => some k_ ≠ (.slice Ao26 y115.length co26 : Value).ownBlock) k_ from fun k_ hk => Kd.fresh' (Kd.N_lt (by (with_reducible repeat (first | apply Kd.N_alloc | apply Kd.N_drewN | apply Kd.N_drew)); exact HO117.out)) k_ hk) _ (Nat.le_refl _)) (Below.refl _ _) (Nat.le_refl _) (by simp) ?_; (case hd => rfl); (case hg => rfl); (case hr => first | (go_simp; done) | (go_simp; rfl)); (case hp => exact (Reps.one (show Kd.FK (Kd.slice 9 Kd.string) _ _ y119 [.slice Ao30 y119.length co30] from (Kd.FK_slice_mk (Kd.R_reads' (Kd.R_mono (ok' := (fun k_ => some k_ ≠ (.slice Ao26 y115.length co26 : Value).ownBlock)) (Kd.R_apart' (HO121.out) (Kd.N_typed HO117.out) (by decide)) (fun k_ hk => hk.2))).2.1 (Kd.R_F (Kd.R_mono (ok' := (fun k_ => some k_ ≠ (.slice Ao26 y115.length co26 : Value).ownBlock)) (Kd.R_apart' (HO121.out) (Kd.N_typed HO117.out) (by decide)) (fun k_ hk => hk.2))))) (Reps.none _ _))); intro v123 w31 ho32 hb hg_ hnew_; clear hg_ hnew_; (first | rw [← Ny122.out] at ho32 | (simp only [Int.reduceToNat] at ho32; rw [← Ny122.out] at ho32)); have n0_ := Aside0.mk (Kd.N_elder' (by (with_reducible repeat (first | apply Kd.N_alloc | apply Kd.N_drewN | apply Kd.N_drew)); exact HO117.out) (Kd.N_base ho32) hb); have n1_ := Aside0.mk (Kd.N_lower ho32 (below_size (by repeat (first | (with_reducible first | exact HB.out | apply below_alloc | apply pw_below_drewN | apply below_drew1) | exact HB.out)))); have n2_ := Aside0.mk (below_step (by repeat (first | (with_reducible first | exact HB.out | apply below_alloc | apply pw_below_drewN | apply below_drew1) | exact HB.out)) hb); clear HO117; clear HB; clear HO121; have HO117 := n0_; have HO124 := n1_; have HB := n2_; clear n0_ n1_ n2_; clear hb ho32; obtain ⟨Ao33, co33, eo33⟩ := Kd.N_slice HO124.out; subst eo33) | (go_at_call 8; (with_reducible refine (cprint_May.calls _ _ y122 false _ ?side1 ?side2 A3.out).mono ?_); (case side1 => repeat (first | exact (Kd.N_reads' HO124.out).2.2 | (with_reducible refine Kd.C_alloc ?_ _) | (with_reducible refine Kd.C_drewN ?_ _) | (with_reducible refine Kd.C_drew ?_))); (case side2 => exact (Kd.N_reads' HO124.out).2.1); rintro e w34 ⟨rfl, hb⟩; have n0_ := Aside0.mk (Kd.N_below (by (with_reducible repeat (first | apply Kd.N_alloc | apply Kd.N_drewN | apply Kd.N_drew)); exact HO117.out) hb); have n1_ := Aside0.mk (Kd.N_below (by (with_reducible repeat (first | apply Kd.N_alloc | apply Kd.N_drewN | apply Kd.N_drew)); exact HO124.out) hb); have n2_ := Aside0.mk (below_step (by repeat (first | (with_reducible first | exact HB.out | apply below_alloc | apply pw_below_drewN | apply below_drew1) | exact HB.out)) hb); clear HO117; clear HO124; clear HB; have HO117 := n0_; have HO124 := n1_; have HB := n2_; clear n0_ n1_ n2_; (try clear hb); (try clear hb2); (try clear hk); (try clear hi)))
   go_ret
   exact ⟨by first | rfl | (simp [errW_none, errW_some] <;> rfl) | (simp [*, errW_none, errW_some, bne]; done) | (simp [*, errW_none, errW_some] <;> rfl), by repeat (first | (with_reducible first | exact HB.out | apply below_alloc | apply pw_below_drewN | apply below_drew1) | exact HB.out)⟩
 ·rw [if_neg c2] at H
  have c2b0 : (t118.toList == ([97, 44, 34, 98, 44, 99, 34, 13, 10] : List UInt8)) = false := beq_eq_false_iff_ne.mpr c2
  have c2b1 : (t118.toList != ([97, 44, 34, 98, 44, 99, 34, 13, 10] : List UInt8)) = true := bne_iff_ne.mpr c2
  obtain rfl := Option.some.inj H
  go_enter Tryd.func7, Tryd.ntmps7
  go_wp2_with (first | ((with_reducible refine gate_dst (N := 1) rfl ?_); (try (refine gate_guard (by rfl) ?_; dsimp only)); refine Kd.R_lit Kd.string _ 9 ?hg (N := 1) ?hd (xs := ([(⟨#[97]⟩ : ByteArray), (⟨#[98, 44, 99]⟩ : ByteArray)] : List ByteArray)) (inner := [.string (⟨#[97]⟩ : ByteArray), .string (⟨#[98, 44, 99]⟩ : ByteArray)]) (ok := fun _ => True) (okp := fun _ => True) ?hr ?hp (fun _ hk => hk) trivial (Below.refl _ _) (Nat.le_refl _) (by simp) ?_; (case hd => rfl); (case hg => rfl); (case hr => first | (go_simp; done) | (go_simp; rfl)); (case hp => exact (Reps.one (show Kd.M Kd.string _ _ _ (⟨#[97]⟩ : ByteArray) [.string (⟨#[97]⟩ : ByteArray)] from rfl) (Reps.one (show Kd.M Kd.string _ _ _ (⟨#[98, 44, 99]⟩ : ByteArray) [.string (⟨#[98, 44, 99]⟩ : ByteArray)] from rfl) (Reps.none _ _)))); intro v113 w35 ho36 hb hg_ hnew_; clear hg_ hnew_; (first | rw [← Ny112.out] at ho36 | (simp only [Int.reduceToNat] at ho36; rw [← Ny112.out] at ho36)); have n0_ := Aside0.mk (Kd.R_lower ho36 (below_size (by repeat (first | (with_reducible first | exact HB.out | apply below_alloc | apply pw_below_drewN | apply below_drew1) | exact HB.out)))); have n1_ := Aside0.mk (below_step (by repeat (first | (with_reducible first | exact HB.out | apply below_alloc | apply pw_below_drewN | apply below_drew1) | exact HB.out)) hb); clear HB; have HO114 := n0_; have HB := n1_; clear n0_ n1_; clear hb ho36; obtain ⟨Ao37, co37, eo37⟩ := Kd.R_slice HO114.out; subst eo37) | ((with_reducible refine gate_dst (N := 2) rfl ?_); (try (refine gate_guard (by rfl) ?_; dsimp only)); refine Kd.N_lit (Kd.slice 9 Kd.string) _ 24 ?hg (N' := 2) ?hd (xs := ([y112] : List (List ByteArray))) (inner := [.slice Ao37 y112.length co37]) (ok := (fun _ => True)) (okp := (fun _ => True)) ?hr ?hp (fun _ hk => hk) ((show ∀ k_, w35.heap.size ≤ k_ → (fun _ => True) k_ from fun k_ hk => trivial) _ (Nat.le_refl _)) (Below.refl _ _) (Nat.le_refl _) (by simp) ?_; (case hd => rfl); (case hg => rfl); (case hr => first | (go_simp; done) | (go_simp; rfl)); (case hp => exact (Reps.one (show Kd.FK (Kd.slice 9 Kd.string) _ _ y112 [.slice Ao37 y112.length co37] from (Kd.FK_slice_mk (Kd.R_reads' (Kd.R_mono (ok' := (fun _ => True)) (HO114.out) (fun k_ hk => trivial))).2.1 (Kd.R_F (Kd.R_mono (ok' := (fun _ => True)) (HO114.out) (fun k_ hk => trivial))))) (Reps.none _ _))); intro v116 w38 ho39 hb hg_ hnew_; clear hg_ hnew_; (first | rw [← Ny115.out] at ho39 | (simp only [Int.reduceToNat] at ho39; rw [← Ny115.out] at ho39)); have n0_ := Aside0.mk (Kd.N_lower ho39 (below_size (by repeat (first | (with_reducible first | exact HB.out | apply below_alloc | apply pw_below_drewN | apply below_drew1) | exact HB.out)))); have n1_ := Aside0.mk (below_step (by repeat (first | (with_reducible first | exact HB.out | apply below_alloc | apply pw_below_drewN | apply below_drew1) | exact HB.out)) hb); clear HB; clear HO114; have HO117 := n0_; have HB := n1_; clear n0_ n1_; clear hb ho39; obtain ⟨Ao40, co40, eo40⟩ := Kd.N_slice HO117.out; subst eo40) | ((with_reducible refine gate_callee (f := 9) rfl ?_); refine goesL_ (some 3) rfl rfl Tryd.func9 (by kernel_rfl) rfl #[.slice Ao40 y115.length co40] rfl (by (try simp only [List.map_toArray, List.map_cons, List.map_nil]); first | done | rfl | (simp only [List.length_drop, List.length_take]; rfl)) ?_; (with_reducible refine (cprint_Print.calls _ _ y115 t118 _ ?side1 ?side2 A1.out).mono ?_); (case side1 => repeat (first | exact (Kd.N_reads' HO117.out).2.2 | (with_reducible refine Kd.C_alloc ?_ _) | (with_reducible refine Kd.C_drewN ?_ _) | (with_reducible refine Kd.C_drew ?_))); (case side2 => exact (Kd.N_reads' HO117.out).2.1); rintro e w41 ⟨rfl, hb⟩; refine ⟨_, rfl, ?_⟩; have n0_ := Aside0.mk (Kd.N_below (by (with_reducible repeat (first | apply Kd.N_alloc | apply Kd.N_drewN | apply Kd.N_drew)); exact HO117.out) hb); have n1_ := Aside0.mk (below_step (by repeat (first | (with_reducible first | exact HB.out | apply below_alloc | apply pw_below_drewN | apply below_drew1) | exact HB.out)) hb); clear HO117; clear HB; have HO117 := n0_; have HB := n1_; clear n0_ n1_; (try clear hb); (try clear hb2); (try clear hk); (try clear hi)))
  go_ret
  exact ⟨by first | rfl | (simp [errW_none, errW_some] <;> rfl) | (simp [*, errW_none, errW_some, bne]; done) | (simp [*, errW_none, errW_some] <;> rfl), by repeat (first | (with_reducible first | exact HB.out | apply below_alloc | apply pw_below_drewN | apply below_drew1) | exact HB.out)⟩
end Go.Proofs.YtjmmdphkgioooaaDoor.P
end
section
namespace Go.Proofs.YtjmmdphkgioooaaDoor.P
open Go.RowKit Go.Proofs.YtjmmdphkgioooaaDoorW.PrintWords Go.Proofs.YtjmmdphkgioooaaDoorW.PrintLast Go.Proofs.YtjmmdphkgioooaaDoorW.PrintMore
attribute [local go_sem] max2_int min2_int max_two min_two max_three min_three max_four min_four   -- for this text's walks alone
set_option linter.unusedVariables false
set_option linter.unusedSimpArgs false
/-! ### dragomanlaw14_great: function 11 -/
mutual
def dragomanlaw14_great.l0 : Nat → List (List ByteArray) → Int → Option (Bool)
 | 0, _, _ => none
 | k + 1, x0, x3 => if x3 < (x0.length : Int) then (if 0 ≤ x3 then (if ((rd_L1 x0 x3).length : Int) > 70 then (some true) else (dragomanlaw14_great.l1 k x0 x3 0)) else (none)) else (some false)
def dragomanlaw14_great.l1 : Nat → List (List ByteArray) → Int → Int → Option (Bool)
 | 0, _, _, _ => none
 | k + 1, x0, x3, x4 => if 0 ≤ x3 then (if x3 < (x0.length : Int) then (if x4 < ((rd_L1 x0 x3).length : Int) then (if 0 ≤ x4 then (if ((rdOf ByteArray.empty (rd_L1 x0 x3) x4).size : Int) > 5000 then (some true) else (dragomanlaw14_great.l1 k x0 x3 (wrap64 (x4 + 1)))) else (none)) else (dragomanlaw14_great.l0 k x0 (wrap64 (x3 + 1)))) else (none)) else (none)
end
def dragomanlaw14_great.f (k : Nat) (l0 : List (List ByteArray)) : Option (Bool) := if (l0.length : Int) > 30 then (some true) else (dragomanlaw14_great.l0 k l0 0)
set_option maxHeartbeats 8000000 in
set_option maxRecDepth 100000 in
theorem dragomanlaw14_great.calls (k : Nat) (A0 : Option Addr) (c0 : Nat) (l0 : List (List ByteArray)) (r : Bool) (w : World) (hr0 : Kd.C (Kd.slice 9 Kd.string) w A0 l0.length l0) (hc0 : l0.length ≤ c0) (h : dragomanlaw14_great.f k l0 = some r) :
  Calls Tryd.prog 11 #[.slice A0 l0.length c0] w fun e w' => e = .returned (.bool r) ∧ Drawn0 w w' := by
 have HR0 := Aside0.mk hr0
 have HC0 := Aside0.mk hc0
 clear hr0 hc0
 have H : (if (l0.length : Int) > 30 then (some true) else (dragomanlaw14_great.l0 k l0 0)) = some r := h
 clear h
 by_cases c2 : (l0.length : Int) > 30
 ·rw [if_pos c2] at H
  have c2b0 : decide (30 < (l0.length : Int)) = true := decide_eq_true c2
  have c2b1 : decide (30 < l0.length) = true := decide_eq_true (by omega)
  clear c2
  obtain rfl := Option.some.inj H
  go_enter Tryd.func11, Tryd.ntmps11
  go_wp2
  go_ret
  exact ⟨by first | rfl | (simp; done) | (simp [*]; done), by repeat (first | exact Drawn0.refl _ | apply Drawn0.step)⟩
 ·rw [if_neg c2] at H
  have c2b0 : decide (30 < (l0.length : Int)) = false := decide_eq_false c2
  have c2b1 : decide (30 < l0.length) = false := decide_eq_false (by omega)
  clear c2
  have H' := Aside0.mk H
  clear H
  go_enter Tryd.func11, Tryd.ntmps11
  go_wp2
  go_loopg [3] k (fun kq v3 w' => ∃ (x3_1 : Int), v3 = .int .i64 x3_1 ∧ Aside0 (dragomanlaw14_great.l0 kq l0 x3_1 = some r) ∧ Aside0 (kq ≤ k) ∧ Drawn0 w w')
  case atStart => exact ⟨(0), (by first | rfl | (simp; done) | (simp [*]; done)), H', ⟨Nat.le_refl _⟩, by repeat (first | exact Drawn0.refl _ | apply Drawn0.step)⟩
  case round =>
   clear H'
   try clear c1
   try clear c2
   try clear c2b0
   try clear c2b1
   try clear p2
   obtain ⟨x3_1, rfl, HA, HK1, ⟨m1, rfl⟩⟩ := hrel
   cases gk with
   | zero => exact absurd HA.out (by simp [dragomanlaw14_great.l0])
   | succ k1 =>
    have H := HA.out
    clear HA
    simp only [dragomanlaw14_great.l0] at H
    by_cases c3 : x3_1 < (l0.length : Int)
    ·rw [if_pos c3] at H
     have c3b0 : decide (x3_1 < (l0.length : Int)) = true := decide_eq_true c3
     clear c3
     by_cases c4 : 0 ≤ x3_1
     ·rw [if_pos c4] at H
      have c4b0 : decide (0 ≤ x3_1) = true := decide_eq_true c4
      clear c4
      by_cases c5 : ((rd_L1 l0 x3_1).length : Int) > 70
      ·rw [if_pos c5] at H
       have c5b0 : decide (70 < ((rd_L1 l0 x3_1).length : Int)) = true := decide_eq_true c5
       have c5b1 : decide (70 < (rd_L1 l0 x3_1).length) = true := decide_eq_true (by omega)
       clear c5
       obtain rfl := Option.some.inj H
       have p156 : 0 ≤ (x3_1 : Int) := of_decide_eq_true (by first | (with_reducible assumption) | assumption)
       have q156 : x3_1 < (l0.length : Int) := of_decide_eq_true (by first | (with_reducible assumption) | assumption)
       obtain ⟨ad156, A156_0, c156_0, e156, hx156_0, hl156_0, hi156_0⟩ := at_L1 HR0.out x3_1 p156 q156
       cases e156
       have HR156_0 := Aside0.mk hi156_0
       have HC156_0 := Aside0.mk hl156_0
       clear hi156_0 hl156_0
       replace p156 := eq_true p156
       replace q156 := eq_true q156
       go_wp2
       go_ret
       exact ⟨by first | rfl | (simp; done) | (simp [*]; done), by repeat (first | exact Drawn0.refl _ | apply Drawn0.step)⟩
      ·rw [if_neg c5] at H
       have c5b0 : decide (70 < ((rd_L1 l0 x3_1).length : Int)) = false := decide_eq_false c5
       have c5b1 : decide (70 < (rd_L1 l0 x3_1).length) = false := decide_eq_false (by omega)
       clear c5
       have H' := Aside0.mk H
       clear H
       have p156 : 0 ≤ (x3_1 : Int) := of_decide_eq_true (by first | (with_reducible assumption) | assumption)
       have q156 : x3_1 < (l0.length : Int) := of_decide_eq_true (by first | (with_reducible assumption) | assumption)
       obtain ⟨ad156, A156_0, c156_0, e156, hx156_0, hl156_0, hi156_0⟩ := at_L1 HR0.out x3_1 p156 q156
       cases e156
       have HR156_0 := Aside0.mk hi156_0
       have HC156_0 := Aside0.mk hl156_0
       clear hi156_0 hl156_0
       replace p156 := eq_true p156
       replace q156 := eq_true q156
       go_wp2
       go_loopg [4] k1 (fun kq v4 w' => ∃ (x4_2 : Int), v4 = .int .i64 x4_2 ∧ Aside0 (dragomanlaw14_great.l1 kq l0 x3_1 x4_2 = some r) ∧ Aside0 (kq ≤ k1) ∧ Drawn0 w w')
       case atStart => exact ⟨(0), (by first | rfl | (simp; done) | (simp [*]; done)), H', ⟨Nat.le_refl _⟩, by repeat (first | exact Drawn0.refl _ | apply Drawn0.step)⟩
       case round =>
        clear H'
        try clear c1
        try clear p1
        try clear q1
        try clear hx1
        try clear c2
        try clear c2b0
        try clear c2b1
        try clear p2
        try clear c3
        try clear c3b0
        try clear c4
        try clear c4b0
        try clear c5
        try clear c5b0
        try clear c5b1
        try clear hx156_0
        try clear p156
        try clear p2
        try clear q156
        obtain ⟨x4_2, rfl, HA, HK2, ⟨m2, rfl⟩⟩ := hrel
        cases gk with
        | zero => exact absurd HA.out (by simp [dragomanlaw14_great.l1])
        | succ k2 =>
         have H := HA.out
         clear HA
         simp only [dragomanlaw14_great.l1] at H
         by_cases c6 : 0 ≤ x3_1
         ·rw [if_pos c6] at H
          have c6b0 : decide (0 ≤ x3_1) = true := decide_eq_true c6
          clear c6
          by_cases c7 : x3_1 < (l0.length : Int)
          ·rw [if_pos c7] at H
           have c7b0 : decide (x3_1 < (l0.length : Int)) = true := decide_eq_true c7
           clear c7
           by_cases c8 : x4_2 < ((rd_L1 l0 x3_1).length : Int)
           ·rw [if_pos c8] at H
            have c8b0 : decide (x4_2 < ((rd_L1 l0 x3_1).length : Int)) = true := decide_eq_true c8
            clear c8
            by_cases c9 : 0 ≤ x4_2
            ·rw [if_pos c9] at H
             have c9b0 : decide (0 ≤ x4_2) = true := decide_eq_true c9
             clear c9
             by_cases c10 : ((rdOf ByteArray.empty (rd_L1 l0 x3_1) x4_2).size : Int) > 5000
             ·rw [if_pos c10] at H
              have c10b0 : decide (5000 < ((rdOf ByteArray.empty (rd_L1 l0 x3_1) x4_2).size : Int)) = true := decide_eq_true c10
              have c10b1 : decide (5000 < (rdOf ByteArray.empty (rd_L1 l0 x3_1) x4_2).size) = true := decide_eq_true (by omega)
              clear c10
              obtain rfl := Option.some.inj H
              have p157 : 0 ≤ (x3_1 : Int) := of_decide_eq_true (by first | (with_reducible assumption) | assumption)
              have q157 : x3_1 < (l0.length : Int) := of_decide_eq_true (by first | (with_reducible assumption) | assumption)
              obtain ⟨ad157, A157_0, c157_0, e157, hx157_0, hl157_0, hi157_0⟩ := at_L1 HR0.out x3_1 p157 q157
              obtain rfl : ad156 = ad157 := (by injection e157)
              have HR157_0 := Aside0.mk hi157_0
              have HC157_0 := Aside0.mk hl157_0
              clear hi157_0 hl157_0
              replace p157 := eq_true p157
              replace q157 := eq_true q157
              have p158 : 0 ≤ (x3_1 : Int) := of_decide_eq_true (by first | (with_reducible assumption) | assumption)
              have q158 : x3_1 < (l0.length : Int) := of_decide_eq_true (by first | (with_reducible assumption) | assumption)
              obtain ⟨ad158, A158_0, c158_0, e158, hx158_0, hl158_0, hi158_0⟩ := at_L1 HR0.out x3_1 p158 q158
              obtain rfl : ad156 = ad158 := (by injection e158)
              have HR158_0 := Aside0.mk hi158_0
              have HC158_0 := Aside0.mk hl158_0
              clear hi158_0 hl158_0
              replace p158 := eq_true p158
              replace q158 := eq_true q158
              have ea_ := Option.some.inj (hx157_0.symm.trans hx158_0)
              injection ea_ with ea_ en_ ec_
              subst ea_
              subst ec_
              clear en_
              have p159 : 0 ≤ (x4_2 : Int) := of_decide_eq_true (by first | (with_reducible assumption) | assumption)
              have q159 : x4_2 < ((rd_L1 l0 x3_1).length : Int) := of_decide_eq_true (by first | (with_reducible assumption) | assumption)
              obtain ⟨ad159, e159, hx159_0⟩ := Kd.at_string HR158_0.out x4_2 p159 q159
              cases e159
              replace p159 := eq_true p159
              replace q159 := eq_true q159
              go_wp2
              go_ret
              exact ⟨by first | rfl | (simp; done) | (simp [*]; done), by repeat (first | exact Drawn0.refl _ | apply Drawn0.step)⟩
             ·rw [if_neg c10] at H
              have c10b0 : decide (5000 < ((rdOf ByteArray.empty (rd_L1 l0 x3_1) x4_2).size : Int)) = false := decide_eq_false c10
              have c10b1 : decide (5000 < (rdOf ByteArray.empty (rd_L1 l0 x3_1) x4_2).size) = false := decide_eq_false (by omega)
              clear c10
              have H' := Aside0.mk H
              clear H
              have p157 : 0 ≤ (x3_1 : Int) := of_decide_eq_true (by first | (with_reducible assumption) | assumption)
              have q157 : x3_1 < (l0.length : Int) := of_decide_eq_true (by first | (with_reducible assumption) | assumption)
              obtain ⟨ad157, A157_0, c157_0, e157, hx157_0, hl157_0, hi157_0⟩ := at_L1 HR0.out x3_1 p157 q157
              obtain rfl : ad156 = ad157 := (by injection e157)
              have HR157_0 := Aside0.mk hi157_0
              have HC157_0 := Aside0.mk hl157_0
              clear hi157_0 hl157_0
              replace p157 := eq_true p157
              replace q157 := eq_true q157
              have p158 : 0 ≤ (x3_1 : Int) := of_decide_eq_true (by first | (with_reducible assumption) | assumption)
              have q158 : x3_1 < (l0.length : Int) := of_decide_eq_true (by first | (with_reducible assumption) | assumption)
              obtain ⟨ad158, A158_0, c158_0, e158, hx158_0, hl158_0, hi158_0⟩ := at_L1 HR0.out x3_1 p158 q158
              obtain rfl : ad156 = ad158 := (by injection e158)
              have HR158_0 := Aside0.mk hi158_0
              have HC158_0 := Aside0.mk hl158_0
              clear hi158_0 hl158_0
              replace p158 := eq_true p158
              replace q158 := eq_true q158
              have ea_ := Option.some.inj (hx157_0.symm.trans hx158_0)
              injection ea_ with ea_ en_ ec_
              subst ea_
              subst ec_
              clear en_
              have p159 : 0 ≤ (x4_2 : Int) := of_decide_eq_true (by first | (with_reducible assumption) | assumption)
              have q159 : x4_2 < ((rd_L1 l0 x3_1).length : Int) := of_decide_eq_true (by first | (with_reducible assumption) | assumption)
              obtain ⟨ad159, e159, hx159_0⟩ := Kd.at_string HR158_0.out x4_2 p159 q159
              cases e159
              replace p159 := eq_true p159
              replace q159 := eq_true q159
              go_wp2
              go_roundg k2
              case measure => have := HK1.out; have := HK2.out; omega
              case rel => exact ⟨(wrap64 (x4_2 + 1)), (by first | rfl | (simp; done) | (simp [*]; done)), H', ⟨by have := HK1.out; have := HK2.out; omega⟩, by repeat (first | exact Drawn0.refl _ | apply Drawn0.step)⟩
            ·rw [if_neg c9] at H
             exact absurd H (by simp)
           ·rw [if_neg c8] at H
            have c8b0 : decide (x4_2 < ((rd_L1 l0 x3_1).length : Int)) = false := decide_eq_false c8
            clear c8
            have H' := Aside0.mk H
            clear H
            have p157 : 0 ≤ (x3_1 : Int) := of_decide_eq_true (by first | (with_reducible assumption) | assumption)
            have q157 : x3_1 < (l0.length : Int) := of_decide_eq_true (by first | (with_reducible assumption) | assumption)
            obtain ⟨ad157, A157_0, c157_0, e157, hx157_0, hl157_0, hi157_0⟩ := at_L1 HR0.out x3_1 p157 q157
            obtain rfl : ad156 = ad157 := (by injection e157)
            have HR157_0 := Aside0.mk hi157_0
            have HC157_0 := Aside0.mk hl157_0
            clear hi157_0 hl157_0
            replace p157 := eq_true p157
            replace q157 := eq_true q157
            go_wp2
            go_roundg k2
            case measure => have := HK1.out; have := HK2.out; omega
            case rel => exact ⟨(wrap64 (x3_1 + 1)), (by first | rfl | (simp; done) | (simp [*]; done)), H', ⟨by have := HK1.out; have := HK2.out; omega⟩, by repeat (first | exact Drawn0.refl _ | apply Drawn0.step)⟩
          ·rw [if_neg c7] at H
           exact absurd H (by simp)
         ·rw [if_neg c6] at H
          exact absurd H (by simp)
     ·rw [if_neg c4] at H
      exact absurd H (by simp)
    ·rw [if_neg c3] at H
     have c3b0 : decide (x3_1 < (l0.length : Int)) = false := decide_eq_false c3
     clear c3
     obtain rfl := Option.some.inj H
     go_wp2
     go_ret
     exact ⟨by first | rfl | (simp; done) | (simp [*]; done), by repeat (first | exact Drawn0.refl _ | apply Drawn0.step)⟩
end Go.Proofs.YtjmmdphkgioooaaDoor.P
end
section
namespace Go.Proofs.YtjmmdphkgioooaaDoor.P
open Go.RowKit Go.Proofs.YtjmmdphkgioooaaDoorW.PrintWords Go.Proofs.YtjmmdphkgioooaaDoorW.PrintLast Go.Proofs.YtjmmdphkgioooaaDoorW.PrintMore
attribute [local go_sem] max2_int min2_int max_two min_two max_three min_three max_four min_four   -- for this text's walks alone
set_option linter.unusedVariables false
set_option linter.unusedSimpArgs false
/-! ### dragomanref17_Texts: function 28 -/
def dragomanref17_Texts.l0 : Nat → List ByteArray → List ByteArray → Int → Option (Bool)
 | 0, _, _, _ => none
 | k + 1, x0, x1, x5 => if x5 < (x0.length : Int) then (if 0 ≤ x5 then (if x5 < (x1.length : Int) then (if (rdOf ByteArray.empty x0 x5).toList = (rdOf ByteArray.empty x1 x5).toList then (dragomanref17_Texts.l0 k x0 x1 (wrap64 (x5 + 1))) else (some false)) else (none)) else (none)) else (some true)
def dragomanref17_Texts.f (k : Nat) (l0 : List ByteArray) (l1 : List ByteArray) : Option (Bool) := if (l0.length : Int) = (l1.length : Int) then (dragomanref17_Texts.l0 k l0 l1 0) else (some false)
set_option maxHeartbeats 8000000 in
set_option maxRecDepth 100000 in
theorem dragomanref17_Texts.calls (k : Nat) (A0 : Option Addr) (c0 : Nat) (l0 : List ByteArray) (A1 : Option Addr) (c1 : Nat) (l1 : List ByteArray) (r : Bool) (w : World) (hr0 : Kd.C Kd.string w A0 l0.length l0) (hc0 : l0.length ≤ c0) (hr1 : Kd.C Kd.string w A1 l1.length l1) (hc1 : l1.length ≤ c1) (h : dragomanref17_Texts.f k l0 l1 = some r) :
  Calls Tryd.prog 28 #[.slice A0 l0.length c0, .slice A1 l1.length c1] w fun e w' => e = .returned (.bool r) ∧ Drawn0 w w' := by
 have HR0 := Aside0.mk hr0
 have HC0 := Aside0.mk hc0
 clear hr0 hc0
 have HR1 := Aside0.mk hr1
 have HC1 := Aside0.mk hc1
 clear hr1 hc1
 have H : (if (l0.length : Int) = (l1.length : Int) then (dragomanref17_Texts.l0 k l0 l1 0) else (some false)) = some r := h
 clear h
 by_cases c3 : (l0.length : Int) = (l1.length : Int)
 ·rw [if_pos c3] at H
  have c3b0 : ((l0.length : Int) == (l1.length : Int)) = true := beq_iff_eq.mpr c3
  have c3b1 : ((l0.length : Int) != (l1.length : Int)) = false := bne_eq_false_iff_eq.mpr c3
  have c3b2 : (l0.length == l1.length) = true := by first | simpa using c3 | (simp at c3 ⊢; omega)
  clear c3
  have H' := Aside0.mk H
  clear H
  go_enter Tryd.func28, Tryd.ntmps28
  go_wp2
  repeat (go_quiet (fail); try go_wp2)
  go_loopg [5] k (fun kq v5 w' => ∃ (x5_1 : Int), v5 = .int .i64 x5_1 ∧ Aside0 (dragomanref17_Texts.l0 kq l0 l1 x5_1 = some r) ∧ Aside0 (kq ≤ k) ∧ Drawn0 w w')
  case atStart => exact ⟨(0), (by first | rfl | (simp; done) | (simp [*]; done)), H', ⟨Nat.le_refl _⟩, by repeat (first | exact Drawn0.refl _ | apply Drawn0.step)⟩
  case round =>
   clear H'
   try clear c1
   try clear c2
   try clear p2
   try clear c3
   try clear c3b0
   try clear c3b1
   try clear c3b2
   obtain ⟨x5_1, rfl, HA, HK1, ⟨m1, rfl⟩⟩ := hrel
   cases gk with
   | zero => exact absurd HA.out (by simp [dragomanref17_Texts.l0])
   | succ k1 =>
    have H := HA.out
    clear HA
    simp only [dragomanref17_Texts.l0] at H
    by_cases c4 : x5_1 < (l0.length : Int)
    ·rw [if_pos c4] at H
     have c4b0 : decide (x5_1 < (l0.length : Int)) = true := decide_eq_true c4
     clear c4
     by_cases c5 : 0 ≤ x5_1
     ·rw [if_pos c5] at H
      have c5b0 : decide (0 ≤ x5_1) = true := decide_eq_true c5
      clear c5
      by_cases c6 : x5_1 < (l1.length : Int)
      ·rw [if_pos c6] at H
       have c6b0 : decide (x5_1 < (l1.length : Int)) = true := decide_eq_true c6
       clear c6
       by_cases c7 : (rdOf ByteArray.empty l0 x5_1).toList = (rdOf ByteArray.empty l1 x5_1).toList
       ·rw [if_pos c7] at H
        have c7b0 : ((rdOf ByteArray.empty l0 x5_1).toList == (rdOf ByteArray.empty l1 x5_1).toList) = true := beq_iff_eq.mpr c7
        have c7b1 : ((rdOf ByteArray.empty l0 x5_1).toList != (rdOf ByteArray.empty l1 x5_1).toList) = false := bne_eq_false_iff_eq.mpr c7
        clear c7
        have H' := Aside0.mk H
        clear H
        have p257 : 0 ≤ (x5_1 : Int) := of_decide_eq_true (by first | (with_reducible assumption) | assumption)
        have q257 : x5_1 < (l0.length : Int) := of_decide_eq_true (by first | (with_reducible assumption) | assumption)
        obtain ⟨ad257, e257, hx257_0⟩ := Kd.at_string HR0.out x5_1 p257 q257
        cases e257
        replace p257 := eq_true p257
        replace q257 := eq_true q257
        have p258 : 0 ≤ (x5_1 : Int) := of_decide_eq_true (by first | (with_reducible assumption) | assumption)
        have q258 : x5_1 < (l1.length : Int) := of_decide_eq_true (by first | (with_reducible assumption) | assumption)
        obtain ⟨ad258, e258, hx258_0⟩ := Kd.at_string HR1.out x5_1 p258 q258
        cases e258
        replace p258 := eq_true p258
        replace q258 := eq_true q258
        go_wp2
        repeat (go_quiet (fail); try go_wp2)
        go_roundg k1
        case measure => have := HK1.out; omega
        case rel => exact ⟨(wrap64 (x5_1 + 1)), (by first | rfl | (simp; done) | (simp [*]; done)), H', ⟨by have := HK1.out; omega⟩, by repeat (first | exact Drawn0.refl _ | apply Drawn0.step)⟩
       ·rw [if_neg c7] at H
        have c7b0 : ((rdOf ByteArray.empty l0 x5_1).toList == (rdOf ByteArray.empty l1 x5_1).toList) = false := beq_eq_false_iff_ne.mpr c7
        have c7b1 : ((rdOf ByteArray.empty l0 x5_1).toList != (rdOf ByteArray.empty l1 x5_1).toList) = true := bne_iff_ne.mpr c7
        obtain rfl := Option.some.inj H
        have p257 : 0 ≤ (x5_1 : Int) := of_decide_eq_true (by first | (with_reducible assumption) | assumption)
        have q257 : x5_1 < (l0.length : Int) := of_decide_eq_true (by first | (with_reducible assumption) | assumption)
        obtain ⟨ad257, e257, hx257_0⟩ := Kd.at_string HR0.out x5_1 p257 q257
        cases e257
        replace p257 := eq_true p257
        replace q257 := eq_true q257
        have p258 : 0 ≤ (x5_1 : Int) := of_decide_eq_true (by first | (with_reducible assumption) | assumption)
        have q258 : x5_1 < (l1.length : Int) := of_decide_eq_true (by first | (with_reducible assumption) | assumption)
        obtain ⟨ad258, e258, hx258_0⟩ := Kd.at_string HR1.out x5_1 p258 q258
        cases e258
        replace p258 := eq_true p258
        replace q258 := eq_true q258
        go_wp2
        repeat (go_quiet (fail); try go_wp2)
        go_ret
        exact ⟨by first | rfl | (simp; done) | (simp [*]; done), by repeat (first | exact Drawn0.refl _ | apply Drawn0.step)⟩
      ·rw [if_neg c6] at H
       exact absurd H (by simp)
     ·rw [if_neg c5] at H
      exact absurd H (by simp)
    ·rw [if_neg c4] at H
     have c4b0 : decide (x5_1 < (l0.length : Int)) = false := decide_eq_false c4
     clear c4
     obtain rfl := Option.some.inj H
     go_wp2
     repeat (go_quiet (fail); try go_wp2)
     go_ret
     exact ⟨by first | rfl | (simp; done) | (simp [*]; done), by repeat (first | exact Drawn0.refl _ | apply Drawn0.step)⟩
 ·rw [if_neg c3] at H
  have c3b0 : ((l0.length : Int) == (l1.length : Int)) = false := beq_eq_false_iff_ne.mpr c3
  have c3b1 : ((l0.length : Int) != (l1.length : Int)) = true := bne_iff_ne.mpr c3
  have c3b2 : (l0.length == l1.length) = false := by first | simpa using c3 | (simp at c3 ⊢; omega)
  obtain rfl := Option.some.inj H
  go_enter Tryd.func28, Tryd.ntmps28
  go_wp2
  repeat (go_quiet (fail); try go_wp2)
  go_ret
  exact ⟨by first | rfl | (simp; done) | (simp [*]; done), by repeat (first | exact Drawn0.refl _ | apply Drawn0.step)⟩
end Go.Proofs.YtjmmdphkgioooaaDoor.P
end
section
namespace Go.Proofs.YtjmmdphkgioooaaDoor.P
open Go.RowKit Go.Proofs.YtjmmdphkgioooaaDoorW.PrintWords Go.Proofs.YtjmmdphkgioooaaDoorW.PrintLast Go.Proofs.YtjmmdphkgioooaaDoorW.PrintMore
attribute [local go_sem] max2_int min2_int max_two min_two max_three min_three max_four min_four   -- for this text's walks alone
set_option linter.unusedVariables false
set_option linter.unusedSimpArgs false
/-! ### dragomanref17_Rows: function 16 -/
def dragomanref17_Rows.l0 : Nat → List (List ByteArray) → List (List ByteArray) → Int → Option (Bool)
 | 0, _, _, _ => none
 | k + 1, x0, x1, x5 => if x5 < (x0.length : Int) then (if 0 ≤ x5 then (if x5 < (x1.length : Int) then ((dragomanref17_Texts.f k (rd_L1 x0 x5) (rd_L1 x1 x5)).bind fun t261 => (if t261 = true then (dragomanref17_Rows.l0 k x0 x1 (wrap64 (x5 + 1))) else (some false))) else (none)) else (none)) else (some true)
def dragomanref17_Rows.f (k : Nat) (l0 : List (List ByteArray)) (l1 : List (List ByteArray)) : Option (Bool) := if (l0.length : Int) = (l1.length : Int) then (dragomanref17_Rows.l0 k l0 l1 0) else (some false)
set_option maxHeartbeats 8000000 in
set_option maxRecDepth 100000 in
theorem dragomanref17_Rows.calls (k : Nat) (A0 : Option Addr) (c0 : Nat) (l0 : List (List ByteArray)) (A1 : Option Addr) (c1 : Nat) (l1 : List (List ByteArray)) (r : Bool) (w : World) (hr0 : Kd.C (Kd.slice 9 Kd.string) w A0 l0.length l0) (hc0 : l0.length ≤ c0) (hr1 : Kd.C (Kd.slice 9 Kd.string) w A1 l1.length l1) (hc1 : l1.length ≤ c1) (h : dragomanref17_Rows.f k l0 l1 = some r) :
  Calls Tryd.prog 16 #[.slice A0 l0.length c0, .slice A1 l1.length c1] w fun e w' => e = .returned (.bool r) ∧ Drawn0 w w' := by
 have HR0 := Aside0.mk hr0
 have HC0 := Aside0.mk hc0
 clear hr0 hc0
 have HR1 := Aside0.mk hr1
 have HC1 := Aside0.mk hc1
 clear hr1 hc1
 have H : (if (l0.length : Int) = (l1.length : Int) then (dragomanref17_Rows.l0 k l0 l1 0) else (some false)) = some r := h
 clear h
 by_cases c3 : (l0.length : Int) = (l1.length : Int)
 ·rw [if_pos c3] at H
  have c3b0 : ((l0.length : Int) == (l1.length : Int)) = true := beq_iff_eq.mpr c3
  have c3b1 : ((l0.length : Int) != (l1.length : Int)) = false := bne_eq_false_iff_eq.mpr c3
  have c3b2 : (l0.length == l1.length) = true := by first | simpa using c3 | (simp at c3 ⊢; omega)
  clear c3
  have H' := Aside0.mk H
  clear H
  go_enter Tryd.func16, Tryd.ntmps16
  go_wp2
  repeat (go_quiet (fail); try go_wp2)
  go_loopg [5] k (fun kq v5 w' => ∃ (x5_1 : Int), v5 = .int .i64 x5_1 ∧ Aside0 (dragomanref17_Rows.l0 kq l0 l1 x5_1 = some r) ∧ Aside0 (kq ≤ k) ∧ Drawn0 w w')
  case atStart => exact ⟨(0), (by first | rfl | (simp; done) | (simp [*]; done)), H', ⟨Nat.le_refl _⟩, by repeat (first | exact Drawn0.refl _ | apply Drawn0.step)⟩
  case round =>
   clear H'
   try clear c1
   try clear p2
   try clear c3
   try clear c3b0
   try clear c3b1
   try clear c3b2
   obtain ⟨x5_1, rfl, HA, HK1, ⟨m1, rfl⟩⟩ := hrel
   cases gk with
   | zero => exact absurd HA.out (by simp [dragomanref17_Rows.l0])
   | succ k1 =>
    have H := HA.out
    clear HA
    simp only [dragomanref17_Rows.l0] at H
    by_cases c4 : x5_1 < (l0.length : Int)
    ·rw [if_pos c4] at H
     have c4b0 : decide (x5_1 < (l0.length : Int)) = true := decide_eq_true c4
     clear c4
     by_cases c5 : 0 ≤ x5_1
     ·rw [if_pos c5] at H
      have c5b0 : decide (0 ≤ x5_1) = true := decide_eq_true c5
      clear c5
      by_cases c6 : x5_1 < (l1.length : Int)
      ·rw [if_pos c6] at H
       have c6b0 : decide (x5_1 < (l1.length : Int)) = true := decide_eq_true c6
       clear c6
       replace H := Option.bind_eq_some_iff.mp H
       obtain ⟨t261, A70, H⟩ := H
       replace H : (if t261 = true then (dragomanref17_Rows.l0 k1 l0 l1 (wrap64 (x5_1 + 1))) else (some false)) = some r := H
       have A7 := Aside0.mk A70
       clear A70
       by_cases c8 : t261 = true
       ·subst c8
        have H1 : (dragomanref17_Rows.l0 k1 l0 l1 (wrap64 (x5_1 + 1))) = some r := by rw [if_pos rfl] at H; exact H
        clear H
        have H := H1
        clear H1
        have H' := Aside0.mk H
        clear H
        have p259 : 0 ≤ (x5_1 : Int) := of_decide_eq_true (by first | (with_reducible assumption) | assumption)
        have q259 : x5_1 < (l0.length : Int) := of_decide_eq_true (by first | (with_reducible assumption) | assumption)
        obtain ⟨ad259, A259_0, c259_0, e259, hx259_0, hl259_0, hi259_0⟩ := at_L1 HR0.out x5_1 p259 q259
        cases e259
        have HR259_0 := Aside0.mk hi259_0
        have HC259_0 := Aside0.mk hl259_0
        clear hi259_0 hl259_0
        replace p259 := eq_true p259
        replace q259 := eq_true q259
        have p260 : 0 ≤ (x5_1 : Int) := of_decide_eq_true (by first | (with_reducible assumption) | assumption)
        have q260 : x5_1 < (l1.length : Int) := of_decide_eq_true (by first | (with_reducible assumption) | assumption)
        obtain ⟨ad260, A260_0, c260_0, e260, hx260_0, hl260_0, hi260_0⟩ := at_L1 HR1.out x5_1 p260 q260
        cases e260
        have HR260_0 := Aside0.mk hi260_0
        have HC260_0 := Aside0.mk hl260_0
        clear hi260_0 hl260_0
        replace p260 := eq_true p260
        replace q260 := eq_true q260
        go_wp2_with (first | (go_at_call 28; (with_reducible refine (dragomanref17_Texts.calls k1 _ _ (rd_L1 l0 x5_1) _ _ (rd_L1 l1 x5_1) true _ ?side1 ?side2 ?side3 ?side4 A7.out).mono ?_); (case side1 => repeat (first | exact HR259_0.out | (with_reducible refine Kd.C_alloc ?_ _) | (with_reducible refine Kd.C_drewN ?_ _) | (with_reducible refine Kd.C_drew ?_))); (case side2 => exact HC259_0.out); (case side3 => repeat (first | exact HR260_0.out | (with_reducible refine Kd.C_alloc ?_ _) | (with_reducible refine Kd.C_drewN ?_ _) | (with_reducible refine Kd.C_drew ?_))); (case side4 => exact HC260_0.out); rintro e w' ⟨rfl, ⟨nd, rfl⟩⟩; (try first | exact ⟨rfl, _, World.drewN_drewN _ _ _⟩ | exact ⟨rfl, _, Eq.trans (World.drewN_drewN _ _ _) (congrArg (World.drewN _) (Nat.add_assoc _ _ _))⟩)))
        repeat (go_quiet (first | (go_at_call 28; (with_reducible refine (dragomanref17_Texts.calls k1 _ _ (rd_L1 l0 x5_1) _ _ (rd_L1 l1 x5_1) true _ ?side1 ?side2 ?side3 ?side4 A7.out).mono ?_); (case side1 => repeat (first | exact HR259_0.out | (with_reducible refine Kd.C_alloc ?_ _) | (with_reducible refine Kd.C_drewN ?_ _) | (with_reducible refine Kd.C_drew ?_))); (case side2 => exact HC259_0.out); (case side3 => repeat (first | exact HR260_0.out | (with_reducible refine Kd.C_alloc ?_ _) | (with_reducible refine Kd.C_drewN ?_ _) | (with_reducible refine Kd.C_drew ?_))); (case side4 => exact HC260_0.out); rintro e w' ⟨rfl, ⟨nd, rfl⟩⟩; (try first | exact ⟨rfl, _, World.drewN_drewN _ _ _⟩ | exact ⟨rfl, _, Eq.trans (World.drewN_drewN _ _ _) (congrArg (World.drewN _) (Nat.add_assoc _ _ _))⟩))); try go_wp2_with (first | (go_at_call 28; (with_reducible refine (dragomanref17_Texts.calls k1 _ _ (rd_L1 l0 x5_1) _ _ (rd_L1 l1 x5_1) true _ ?side1 ?side2 ?side3 ?side4 A7.out).mono ?_); (case side1 => repeat (first | exact HR259_0.out | (with_reducible refine Kd.C_alloc ?_ _) | (with_reducible refine Kd.C_drewN ?_ _) | (with_reducible refine Kd.C_drew ?_))); (case side2 => exact HC259_0.out); (case side3 => repeat (first | exact HR260_0.out | (with_reducible refine Kd.C_alloc ?_ _) | (with_reducible refine Kd.C_drewN ?_ _) | (with_reducible refine Kd.C_drew ?_))); (case side4 => exact HC260_0.out); rintro e w' ⟨rfl, ⟨nd, rfl⟩⟩; (try first | exact ⟨rfl, _, World.drewN_drewN _ _ _⟩ | exact ⟨rfl, _, Eq.trans (World.drewN_drewN _ _ _) (congrArg (World.drewN _) (Nat.add_assoc _ _ _))⟩))))
        go_roundg k1
        case measure => have := HK1.out; omega
        case rel => exact ⟨(wrap64 (x5_1 + 1)), (by first | rfl | (simp; done) | (simp [*]; done)), H', ⟨by have := HK1.out; omega⟩, by repeat (first | exact Drawn0.refl _ | apply Drawn0.step)⟩
       ·replace c8 := Bool.eq_false_iff.mpr c8
        subst c8
        have H1 : (some false) = some r := by rw [if_neg (show ¬ (false = true) by decide)] at H; exact H
        clear H
        have H := H1
        clear H1
        obtain rfl := Option.some.inj H
        have p259 : 0 ≤ (x5_1 : Int) := of_decide_eq_true (by first | (with_reducible assumption) | assumption)
        have q259 : x5_1 < (l0.length : Int) := of_decide_eq_true (by first | (with_reducible assumption) | assumption)
        obtain ⟨ad259, A259_0, c259_0, e259, hx259_0, hl259_0, hi259_0⟩ := at_L1 HR0.out x5_1 p259 q259
        cases e259
        have HR259_0 := Aside0.mk hi259_0
        have HC259_0 := Aside0.mk hl259_0
        clear hi259_0 hl259_0
        replace p259 := eq_true p259
        replace q259 := eq_true q259
        have p260 : 0 ≤ (x5_1 : Int) := of_decide_eq_true (by first | (with_reducible assumption) | assumption)
        have q260 : x5_1 < (l1.length : Int) := of_decide_eq_true (by first | (with_reducible assumption) | assumption)
        obtain ⟨ad260, A260_0, c260_0, e260, hx260_0, hl260_0, hi260_0⟩ := at_L1 HR1.out x5_1 p260 q260
        cases e260
        have HR260_0 := Aside0.mk hi260_0
        have HC260_0 := Aside0.mk hl260_0
        clear hi260_0 hl260_0
        replace p260 := eq_true p260
        replace q260 := eq_true q260
        go_wp2_with (first | (go_at_call 28; (with_reducible refine (dragomanref17_Texts.calls k1 _ _ (rd_L1 l0 x5_1) _ _ (rd_L1 l1 x5_1) false _ ?side1 ?side2 ?side3 ?side4 A7.out).mono ?_); (case side1 => repeat (first | exact HR259_0.out | (with_reducible refine Kd.C_alloc ?_ _) | (with_reducible refine Kd.C_drewN ?_ _) | (with_reducible refine Kd.C_drew ?_))); (case side2 => exact HC259_0.out); (case side3 => repeat (first | exact HR260_0.out | (with_reducible refine Kd.C_alloc ?_ _) | (with_reducible refine Kd.C_drewN ?_ _) | (with_reducible refine Kd.C_drew ?_))); (case side4 => exact HC260_0.out); rintro e w' ⟨rfl, ⟨nd, rfl⟩⟩; (try first | exact ⟨rfl, _, World.drewN_drewN _ _ _⟩ | exact ⟨rfl, _, Eq.trans (World.drewN_drewN _ _ _) (congrArg (World.drewN _) (Nat.add_assoc _ _ _))⟩)))
        repeat (go_quiet (first | (go_at_call 28; (with_reducible refine (dragomanref17_Texts.calls k1 _ _ (rd_L1 l0 x5_1) _ _ (rd_L1 l1 x5_1) false _ ?side1 ?side2 ?side3 ?side4 A7.out).mono ?_); (case side1 => repeat (first | exact HR259_0.out | (with_reducible refine Kd.C_alloc ?_ _) | (with_reducible refine Kd.C_drewN ?_ _) | (with_reducible refine Kd.C_drew ?_))); (case side2 => exact HC259_0.out); (case side3 => repeat (first | exact HR260_0.out | (with_reducible refine Kd.C_alloc ?_ _) | (with_reducible refine Kd.C_drewN ?_ _) | (with_reducible refine Kd.C_drew ?_))); (case side4 => exact HC260_0.out); rintro e w' ⟨rfl, ⟨nd, rfl⟩⟩; (try first | exact ⟨rfl, _, World.drewN_drewN _ _ _⟩ | exact ⟨rfl, _, Eq.trans (World.drewN_drewN _ _ _) (congrArg (World.drewN _) (Nat.add_assoc _ _ _))⟩))); try go_wp2_with (first | (go_at_call 28; (with_reducible refine (dragomanref17_Texts.calls k1 _ _ (rd_L1 l0 x5_1) _ _ (rd_L1 l1 x5_1) false _ ?side1 ?side2 ?side3 ?side4 A7.out).mono ?_); (case side1 => repeat (first | exact HR259_0.out | (with_reducible refine Kd.C_alloc ?_ _) | (with_reducible refine Kd.C_drewN ?_ _) | (with_reducible refine Kd.C_drew ?_))); (case side2 => exact HC259_0.out); (case side3 => repeat (first | exact HR260_0.out | (with_reducible refine Kd.C_alloc ?_ _) | (with_reducible refine Kd.C_drewN ?_ _) | (with_reducible refine Kd.C_drew ?_))); (case side4 => exact HC260_0.out); rintro e w' ⟨rfl, ⟨nd, rfl⟩⟩; (try first | exact ⟨rfl, _, World.drewN_drewN _ _ _⟩ | exact ⟨rfl, _, Eq.trans (World.drewN_drewN _ _ _) (congrArg (World.drewN _) (Nat.add_assoc _ _ _))⟩))))
        go_ret
        exact ⟨by first | rfl | (simp; done) | (simp [*]; done), by repeat (first | exact Drawn0.refl _ | apply Drawn0.step)⟩
      ·rw [if_neg c6] at H
       exact absurd H (by simp)
     ·rw [if_neg c5] at H
      exact absurd H (by simp)
    ·rw [if_neg c4] at H
     have c4b0 : decide (x5_1 < (l0.length : Int)) = false := decide_eq_false c4
     clear c4
     obtain rfl := Option.some.inj H
     go_wp2
     repeat (go_quiet (fail); try go_wp2)
     go_ret
     exact ⟨by first | rfl | (simp; done) | (simp [*]; done), by repeat (first | exact Drawn0.refl _ | apply Drawn0.step)⟩
 ·rw [if_neg c3] at H
  have c3b0 : ((l0.length : Int) == (l1.length : Int)) = false := beq_eq_false_iff_ne.mpr c3
  have c3b1 : ((l0.length : Int) != (l1.length : Int)) = true := bne_iff_ne.mpr c3
  have c3b2 : (l0.length == l1.length) = false := by first | simpa using c3 | (simp at c3 ⊢; omega)
  obtain rfl := Option.some.inj H
  go_enter Tryd.func16, Tryd.ntmps16
  go_wp2
  repeat (go_quiet (fail); try go_wp2)
  go_ret
  exact ⟨by first | rfl | (simp; done) | (simp [*]; done), by repeat (first | exact Drawn0.refl _ | apply Drawn0.step)⟩
end Go.Proofs.YtjmmdphkgioooaaDoor.P
end
