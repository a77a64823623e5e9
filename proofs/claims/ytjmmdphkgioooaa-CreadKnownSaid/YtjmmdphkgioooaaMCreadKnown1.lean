/- The parts of this claim's proof, in one text: what each Go function answers and that its call comes to it; plain facts of lists of numbers. Conditions as each theorem names them. -/
import Derived.ArgAppend
import Derived.Below
import Derived.BigCall
import Derived.BigQuiet
import Derived.Deep.AppendLies
import Derived.Deep.CutBlock
import Derived.Deep.DeepCutAuto
import Derived.Deep.Draws
import Derived.Deep.LoopGhost
import Derived.Deep.OwnRows
import Derived.Deep.QuietTactic
import Derived.Deep.RegionHeld3
import Derived.Deep.RegionWith
import Derived.Defers
import Derived.KernelRfl
import Derived.Laws.BitsLemmas
import Derived.Laws.BytesArg
import Derived.Laws.IdiomCopy
import Derived.Laws.MakeOwn
import Derived.Laws.OwnMore
import Derived.Laws.RangeAny
import Derived.Laws.Rows
import Derived.Laws.Runes
import Derived.Laws.Slices
import Derived.Lib.AppendStr
import Derived.Lib.Bytealg
import Derived.Lib.Bytes
import Derived.Lib.ConvBytes
import Derived.Lib.Hide
import Derived.Maps.AppendAt
import Derived.OrdersHeld
import Derived.Outline
import Derived.OwnWalk
import Derived.Recover
import Derived.RowKit
import Derived.RowKit3
import Derived.Shelf.LaysM
import Derived.Shelf.Small.Strs
import Derived.Shelf.Small.Utf8
import Derived.Shelf.Strings.AsciiSet
import Derived.Shelf.Strings.Builder1
import Derived.Shelf.Strings.BuilderF
import Derived.Shelf.Strings.BuilderK
import Derived.Shelf.Strings.Count
import Derived.Shelf.Strings.IndexAny
import Derived.Shelf.Strings.IndexAnyAll
import Derived.Shelf.Strings.Prefix
import Derived.Shelf.Strings.Runes
import Derived.Shelf.Strings.Search1
import Derived.Shelf.Strings.Search2
import Derived.Shelf.Strings.Search3
import Derived.Shelf.Strings.Shaped
import Derived.Shelf.Strings.Split
import Derived.Tactics
import Derived.Tactics2
import Derived.WalkKit
import Derived.WalkSmall
import Derived.WideLaws
import Derived.Test.YtjmmdphkgioooaaProg
import Derived.Test.YtjmmdphkgioooaaWApart
import Derived.Test.YtjmmdphkgioooaaWArr
import Derived.Test.YtjmmdphkgioooaaWAt
import Derived.Test.YtjmmdphkgioooaaWEqStruct
import Derived.Test.YtjmmdphkgioooaaWFoot
import Derived.Test.YtjmmdphkgioooaaWFootNe
import Derived.Test.YtjmmdphkgioooaaWFour
import Derived.Test.YtjmmdphkgioooaaWGuard
import Derived.Test.YtjmmdphkgioooaaWInv
import Derived.Test.YtjmmdphkgioooaaWInvWords
import Derived.Test.YtjmmdphkgioooaaWKept
import Derived.Test.YtjmmdphkgioooaaWLast
import Derived.Test.YtjmmdphkgioooaaWMake0
import Derived.Test.YtjmmdphkgioooaaWMore
import Derived.Test.YtjmmdphkgioooaaWN
import Derived.Test.YtjmmdphkgioooaaWNEv
import Derived.Test.YtjmmdphkgioooaaWQPut
import Derived.Test.YtjmmdphkgioooaaWRepsOne
import Derived.Test.YtjmmdphkgioooaaWShare
import Derived.Test.YtjmmdphkgioooaaWTab
import Derived.Test.YtjmmdphkgioooaaWWords
import Derived.Test.YtjmmdphkgioooaaWZeros
section
namespace Go.Proofs.Ytjmmdphkgioooaa.La
open Go.RowKit Go.Proofs.YtjmmdphkgioooaaW.PrintWords Go.Proofs.YtjmmdphkgioooaaW.PrintLast Go.Proofs.YtjmmdphkgioooaaW.PrintMore
theorem bytesOf_data (s : ByteArray) : bytesOf s = s.data.toList.map fun b => (b.toNat : Int) := rfl
theorem toList_data' (s : ByteArray) : s.toList = s.data.toList := ByteArray.toList_eq s
theorem map_toNat_inj {l m : List UInt8} (h : l.map (fun b => (b.toNat : Int)) = m.map fun b => (b.toNat : Int)) : l = m := by
 induction l generalizing m with
 | nil => cases m with
  | nil => rfl
  | cons a t => simp at h
 | cons a t ih => cases m with
  | nil => simp at h
  | cons b u =>
   simp only [List.map_cons, List.cons.injEq] at h
   obtain ⟨h1, h2⟩ := h
   have : a = b := UInt8.toNat_inj.1 (by omega)
   rw [this, ih h2]
theorem bytesOf_inj {s t : ByteArray} (h : bytesOf s = bytesOf t) : s = t := by
 have h1 := map_toNat_inj h
 cases s with | mk a => cases t with | mk b =>
 congr 1
 exact Array.toList_inj.1 h1
theorem toList_eq_iff (s t : ByteArray) : s.toList = t.toList ↔ bytesOf s = bytesOf t := by
 rw [toList_data', toList_data']
 exact ⟨fun h => by rw [bytesOf_data, bytesOf_data, h], fun h => map_toNat_inj h⟩
theorem toList_nil_iff (s : ByteArray) : s.toList = ([] : List UInt8) ↔ bytesOf s = [] := by
 rw [toList_data', bytesOf_data]
 simp
theorem bytesOf_extract (s : ByteArray) (i j : Nat) : bytesOf (s.extract i j) = ((bytesOf s).take j).drop i := by
 simp [bytesOf_data, ByteArray.data_extract, Array.toList_extract, List.map_drop, List.map_take, List.extract, List.take_drop]
 by_cases h : i ≤ j
 ·rw [show i + (j - i) = j by omega]
 ·rw [show j - i = 0 by omega]
  simp
  omega
theorem bytesOf_drop (s : ByteArray) (i : Nat) : bytesOf (s.extract i s.size) = (bytesOf s).drop i := by
 rw [bytesOf_extract, List.take_of_length_le (by rw [bytesOf_length]; omega)]
theorem bytesOf_take (s : ByteArray) (j : Nat) : bytesOf (s.extract 0 j) = (bytesOf s).take j := by
 rw [bytesOf_extract, List.drop_zero]
def Bytes (l : List Int) : Prop := ∀ x ∈ l, 0 ≤ x ∧ x < 256
theorem bytes_of (s : ByteArray) : Bytes (bytesOf s) := by
 intro x hx
 rw [bytesOf_data] at hx
 obtain ⟨b, _, rfl⟩ := List.mem_map.1 hx
 have := b.toNat_lt
 omega
theorem Bytes.drop {l : List Int} (h : Bytes l) (n : Nat) : Bytes (l.drop n) := fun x hx => h x (List.mem_of_mem_drop hx)
theorem Bytes.take {l : List Int} (h : Bytes l) (n : Nat) : Bytes (l.take n) := fun x hx => h x (List.mem_of_mem_take hx)
theorem strOfNums_bytes {l : List Int} (h : Bytes l) : bytesOf (strOfNums l) = l := by
 have : (strOfNums l).data.toList = l.map fun n => UInt8.ofNat n.toNat := by
  have := Go.Lib.strOfNums_toList l
  rw [toList_data'] at this
  exact this
 rw [bytesOf_data, this, List.map_map]
 induction l with
 | nil => rfl
 | cons a t ih =>
  have ha := h a List.mem_cons_self
  rw [List.map_cons, ih (fun x hx => h x (List.mem_cons_of_mem _ hx)) (by
   have := Go.Lib.strOfNums_toList t
   rw [toList_data'] at this
   exact this)]
  simp only [Function.comp_apply, UInt8.toNat_ofNat', List.cons.injEq, and_true]
  omega
theorem size_of (s : ByteArray) : (bytesOf s).length = s.size := bytesOf_length s
theorem size_strOfNums {l : List Int} (h : Bytes l) : (strOfNums l).size = l.length := by rw [← size_of, strOfNums_bytes h]
theorem bt_get (s : ByteArray) (i : Int) : bt s i = (bytesOf s).getD i.toNat 0 := (rd_bytesOf s i).symm
theorem size_take (s : ByteArray) {j : Nat} (h : j ≤ s.size) : (s.extract 0 j).size = j := by
 rw [← size_of, bytesOf_take, List.length_take, size_of]
 omega
theorem wrap_id {n : Int} (h0 : -9223372036854775808 ≤ n) (h1 : n < 9223372036854775808) : wrap64 n = n := by
 unfold wrap64
 omega
end Go.Proofs.Ytjmmdphkgioooaa.La
end
section
namespace Go.Proofs.Ytjmmdphkgioooaa.La
open Go.RowKit Go.Proofs.YtjmmdphkgioooaaW.PrintWords Go.Proofs.YtjmmdphkgioooaaW.PrintLast Go.Proofs.YtjmmdphkgioooaaW.PrintMore
/-- Where a number stands first; -1: nowhere. -/
def idx : List Int → Int → Int
 | [], _ => -1
 | b :: l, c => if b = c then 0 else if idx l c = -1 then -1 else idx l c + 1
/-- How often a number stands there. -/
def cntB : List Int → Int → Nat
 | [], _ => 0
 | b :: l, c => if b = c then cntB l c + 1 else cntB l c
theorem u8_of {c : Int} (h0 : 0 ≤ c) (h1 : c < 256) : ((c.toNat.toUInt8).toNat : Int) = c := by
 simp only [Nat.toUInt8_eq, UInt8.toNat_ofNat']
 omega
theorem u8_eq_iff {b : UInt8} {c : Int} (h0 : 0 ≤ c) (h1 : c < 256) : b = c.toNat.toUInt8 ↔ (b.toNat : Int) = c := by
 rw [← UInt8.toNat_inj]
 have := u8_of h0 h1
 omega
theorem idx_of (l : List UInt8) {c : Int} (h0 : 0 ≤ c) (h1 : c < 256) : Lib.indexByte l c.toNat.toUInt8 = idx (l.map fun b => (b.toNat : Int)) c := by
 induction l with
 | nil => rfl
 | cons b l ih =>
  simp only [Lib.indexByte, List.map_cons, idx, ih, beq_iff_eq, u8_eq_iff h0 h1]
theorem cntB_of (l : List UInt8) {c : Int} (h0 : 0 ≤ c) (h1 : c < 256) : Lib.countByte l c.toNat.toUInt8 = cntB (l.map fun b => (b.toNat : Int)) c := by
 unfold Lib.countByte
 induction l with
 | nil => rfl
 | cons b l ih =>
  simp only [List.count_cons, List.map_cons, cntB, ih, beq_iff_eq, u8_eq_iff h0 h1]
  split <;> rfl
theorem idx_ge (l : List Int) (c : Int) : -1 ≤ idx l c ∧ idx l c < l.length := by
 induction l with
 | nil => simp [idx]
 | cons b l ih =>
  simp only [idx, List.length_cons]
  (repeat' split) <;> omega
theorem cntB_le (l : List Int) (c : Int) : cntB l c ≤ l.length := by
 induction l with
 | nil => simp [cntB]
 | cons b l ih =>
  simp only [cntB, List.length_cons]
  split <;> omega
end Go.Proofs.Ytjmmdphkgioooaa.La
end
section
namespace Go.Proofs.Ytjmmdphkgioooaa.P
open Go.RowKit Go.Proofs.YtjmmdphkgioooaaW.PrintWords Go.Proofs.YtjmmdphkgioooaaW.PrintLast Go.Proofs.YtjmmdphkgioooaaW.PrintMore
attribute [local go_sem] max2_int min2_int max_two min_two max_three min_three max_four min_four   -- for this text's walks alone
set_option linter.unusedVariables false
set_option linter.unusedSimpArgs false
def errW : Option Int → Value
 | none => .nilIface
 | some c => .iface 0 (.int .i64 c)
theorem errW_none : errW none = .nilIface := rfl
theorem errW_some (c : Int) : errW (some c) = .iface 0 (.int .i64 c) := rfl
/-! #### struct type 47 -/
structure S47 where
 f0 : ByteArray
 f1 : Int
def z47 : S47 := ⟨(⟨#[]⟩ : ByteArray), (0 : Int)⟩
def k47 : Kd S47 := Kd.iso (Kd.pair Kd.string (Kd.int .i64)) (fun x : S47 => (x.f0, x.f1))
theorem k47_open {w : World} {x : S47} {cs : List Value} (h : k47.K w x cs) : cs = [.string x.f0, .int .i64 x.f1] := by
 obtain ⟨_, _, rfl, rfl, rfl⟩ := h
 exact rfl
theorem k47_mkM (w : World) (base : Nat) (ok : Nat → Prop) (x : S47)  : k47.M w base ok x [.string x.f0, .int .i64 x.f1] := ⟨[.string x.f0], [.int .i64 x.f1], rfl, rfl, rfl⟩
def rd_T47 (xs : List S47) (i : Int) : S47 := xs.getD i.toNat z47
theorem at_T47 {w : World} {A : Option Addr} {n : Nat} {xs : List S47} (h : Kd.C k47 w A n xs) (i : Int) (h0 : 0 ≤ i) (h1 : i < n) : ∃ ad , A = some ad ∧ w.cell? (ad.add (i.toNat * 2)) = some (.string (rd_T47 xs i).f0) ∧ w.cell? ⟨(ad.add (i.toNat * 2)).block, (ad.add (i.toNat * 2)).off + 1, none⟩ = some (.int .i64 (rd_T47 xs i).f1) := by
 obtain ⟨ad, c, e, _, hK, hc0⟩ := Kd.C_get h z47 i h0 h1
 have hc : ∀ j u, c[j]? = some u → w.cell? (ad.add (i.toNat * 2 + j)) = some u := hc0
 obtain rfl := k47_open hK
 exact ⟨ad, e, hc 0 _ rfl, by rw [← add_field _ _ 1 (by omega)]; exact hc 1 _ rfl⟩
def rd_L4 (xs : List (List ByteArray)) (i : Int) : (List ByteArray) := xs.getD i.toNat ([] : List ByteArray)
theorem at_L4 {w : World} {A : Option Addr} {n : Nat} {xs : List (List ByteArray)} (h : Kd.C (Kd.slice 9 Kd.string) w A n xs) (i : Int) (h0 : 0 ≤ i) (h1 : i < n) : ∃ ad A0 c0, A = some ad ∧ w.cell? (ad.add i.toNat) = some (.slice A0 (rd_L4 xs i).length c0) ∧ (rd_L4 xs i).length ≤ c0 ∧ Kd.string.C w A0 (rd_L4 xs i).length (rd_L4 xs i) := by
 obtain ⟨ad, c, e, _, hK, hc0⟩ := Kd.C_get h ([] : List ByteArray) i h0 h1
 have hc : ∀ j u, c[j]? = some u → w.cell? (ad.add (i.toNat * 1 + j)) = some u := hc0
 obtain ⟨A0, c0, rfl, l0, g0⟩ := hK
 exact ⟨ad, A0, c0, e, by have hq := hc 0 _ rfl; rwa [Nat.mul_one, Nat.add_zero] at hq, l0, g0⟩
end Go.Proofs.Ytjmmdphkgioooaa.P
end
section
namespace Go.Proofs.Ytjmmdphkgioooaa.La
open Go.RowKit Go.Proofs.Ytjmmdphkgioooaa.P Go.Proofs.YtjmmdphkgioooaaW.PrintWords Go.Proofs.YtjmmdphkgioooaaW.PrintLast Go.Proofs.YtjmmdphkgioooaaW.PrintMore
/-- What stands between quotes, behind the first quote: its text, and how many bytes it has with the last quote. -/
def qd : List Int → Option (List Int × Nat)
 | [] => none
 | [b] => if b = 34 then some ([], 1) else none
 | b :: c :: t => if b = 34 then (if c = 34 then (qd t).map (fun p => (34 :: p.1, p.2 + 2)) else some ([], 1)) else (qd (c :: t)).map (fun p => (b :: p.1, p.2 + 1))
/-- How long the row's end is that stands here. -/
def lend (l : List Int) : Nat := if l.take 1 = [10] then 1 else if l.take 2 = [13, 10] then 2 else 0
/-- A byte that no field without quotes has. -/
def odd4 (b : Int) : Bool := b == 44 || b == 10 || b == 13 || b == 34
def pln (l : List Int) : List Int := l.takeWhile (fun b => !odd4 b)
/-- A field's text and how many bytes it has. -/
def raw (l : List Int) : Option (List Int × Nat) := if l.take 1 = [34] then (qd (l.drop 1)).map (fun p => (p.1, p.2 + 1)) else some (pln l, (pln l).length)
/-- Stands here what may not stand behind a field? -/
def fbad (l : List Int) : Prop := l ≠ [] ∧ ¬ l.take 1 = [44] ∧ lend l = 0
instance (l : List Int) : Decidable (fbad l) := by unfold fbad; infer_instance
/-- A field: its text and its bytes' number, or an error and its place. -/
def fieldS (l : List Int) (i : Nat) : (Int × Nat) ⊕ (List Int × Nat) :=
 match raw l with
 | none => .inl (4, i + l.length)
 | some p => if fbad (l.drop p.2) then .inl (4, i + p.2) else if 4096 < p.1.length then .inl (2, i) else .inr p
/-- A row, of so many fields yet. -/
def rowS : Nat → List S47 → List Int → Nat → (Int × Nat) ⊕ (List S47 × List Int × Nat)
 | 0, _, _, i => .inl (2, i)
 | k + 1, acc, l, i =>
  match fieldS l i with
  | .inl e => .inl e
  | .inr p => if (l.drop p.2).take 1 = [44] then rowS k (acc ++ [⟨strOfNums p.1, (i : Int)⟩]) (l.drop (p.2 + 1)) (i + p.2 + 1)
   else .inr (acc ++ [⟨strOfNums p.1, (i : Int)⟩], l.drop (p.2 + lend (l.drop p.2)), i + p.2 + lend (l.drop p.2))
/-- All rows, of so many yet. -/
def wholeS : Nat → List (List S47) → List Int → Nat → (Int × Nat) ⊕ List (List S47)
 | 0, rows, l, i => if l = [] then .inr rows else .inl (2, i)
 | k + 1, rows, l, i => if l = [] then .inr rows else
  match rowS 64 [] l i with
  | .inl e => .inl e
  | .inr (r, l2, j) => if rows ≠ [] ∧ r.length ≠ (rows.headD []).length then .inl (7, i) else wholeS k (rows ++ [r]) l2 j
theorem qd_none_of {l : List Int} (h : (34 : Int) ∉ l) : qd l = none := by
 induction l using qd.induct with
 | case1 => rfl
 | case2 => simp at h
 | case3 b hb => simp [qd, hb]
 | case4 t => simp at h
 | case5 c t hc => simp at h
 | case6 b c t hb ih => rw [qd, if_neg hb, ih (fun h' => h (List.mem_cons_of_mem _ h'))]; rfl
/-- Up to the first quote. -/
theorem qd_pre (a l : List Int) (h : (34 : Int) ∉ a) (hl : l ≠ []) : qd (a ++ l) = (qd l).map (fun p => (a ++ p.1, p.2 + a.length)) := by
 induction a with
 | nil => cases h' : qd l <;> simp [h']
 | cons b a ih =>
  have hb : ¬ b = 34 := fun h' => h (by rw [h']; exact List.mem_cons_self)
  have ih := ih (fun h' => h (List.mem_cons_of_mem _ h'))
  cases hal : a ++ l with
  | nil => simp [hl] at hal
  | cons c t =>
   rw [List.cons_append, hal, qd, if_neg hb, ← hal, ih]
   cases h' : qd l <;> simp; omega
theorem qd_end (l : List Int) (h : ¬ l.take 1 = [34]) : qd (34 :: l) = some ([], 1) := by
 cases l with
 | nil => rfl
 | cons c t =>
  have hc : ¬ c = 34 := fun h' => h (by rw [h']; rfl)
  rw [qd, if_pos rfl, if_neg hc]
theorem qd_two (l : List Int) : qd (34 :: 34 :: l) = (qd l).map (fun p => (34 :: p.1, p.2 + 2)) := by rw [qd, if_pos rfl, if_pos rfl]
theorem qd_len {l : List Int} : ∀ {p}, qd l = some p → p.1.length + 1 ≤ p.2 ∧ p.2 ≤ l.length := by
 induction l using qd.induct with
 | case1 => intro p h; cases h
 | case2 =>
  intro p h
  obtain rfl := Option.some.inj h
  simp
 | case3 b hb => intro p h; rw [qd, if_neg hb] at h; cases h
 | case4 t ih =>
  intro p h
  rw [qd_two] at h
  obtain ⟨q, hq, rfl⟩ := Option.map_eq_some_iff.1 h
  have := ih hq
  simp only [List.length_cons]; omega
 | case5 c t hc =>
  intro p h
  rw [qd, if_pos rfl, if_neg hc] at h
  obtain rfl := Option.some.inj h
  simp
 | case6 b c t hb ih =>
  intro p h
  rw [qd, if_neg hb] at h
  obtain ⟨q, hq, rfl⟩ := Option.map_eq_some_iff.1 h
  have := ih hq
  simp only [List.length_cons] at this ⊢; omega
theorem qd_bytes {l : List Int} (hl : Bytes l) : ∀ {p}, qd l = some p → Bytes p.1 := by
 induction l using qd.induct with
 | case1 => intro p h; cases h
 | case2 =>
  intro p h
  obtain rfl := Option.some.inj h
  intro x hx; cases hx
 | case3 b hb => intro p h; rw [qd, if_neg hb] at h; cases h
 | case4 t ih =>
  intro p h
  rw [qd_two] at h
  obtain ⟨q, hq, rfl⟩ := Option.map_eq_some_iff.1 h
  have := ih (fun x hx => hl x (List.mem_cons_of_mem _ (List.mem_cons_of_mem _ hx))) hq
  intro x hx
  rcases List.mem_cons.1 hx with rfl | hx
  ·omega
  ·exact this x hx
 | case5 c t hc =>
  intro p h
  rw [qd, if_pos rfl, if_neg hc] at h
  obtain rfl := Option.some.inj h
  intro x hx; cases hx
 | case6 b c t hb ih =>
  intro p h
  rw [qd, if_neg hb] at h
  obtain ⟨q, hq, rfl⟩ := Option.map_eq_some_iff.1 h
  have := ih (fun x hx => hl x (List.mem_cons_of_mem _ hx)) hq
  intro x hx
  rcases List.mem_cons.1 hx with rfl | hx
  ·exact hl _ List.mem_cons_self
  ·exact this x hx
theorem lend_le (l : List Int) : lend l ≤ l.length := by
 unfold lend
 split
 ·rename_i h
  have := congrArg List.length h
  simp at this; omega
 ·split
  ·rename_i h
   have := congrArg List.length h
   simp at this; omega
  ·omega
theorem pln_len (l : List Int) : (pln l).length ≤ l.length := (List.takeWhile_prefix _).length_le
theorem pln_take (l : List Int) : l.take (pln l).length = pln l := (List.prefix_iff_eq_take.1 (List.takeWhile_prefix _)).symm
theorem raw_len {l : List Int} {p : List Int × Nat} (h : raw l = some p) : p.1.length ≤ p.2 ∧ p.2 ≤ l.length := by
 unfold raw at h
 split at h
 ·rename_i h1
  obtain ⟨q, hq, rfl⟩ := Option.map_eq_some_iff.1 h
  have := qd_len hq
  have h2 := congrArg List.length h1
  simp at this h2 ⊢; omega
 ·obtain rfl := Option.some.inj h
  have := pln_len l
  simp; omega
theorem raw_bytes {l : List Int} {p : List Int × Nat} (hl : Bytes l) (h : raw l = some p) : Bytes p.1 := by
 unfold raw at h
 split at h
 ·obtain ⟨q, hq, rfl⟩ := Option.map_eq_some_iff.1 h
  exact qd_bytes (p := q) (hl.drop 1) hq
 ·obtain rfl := Option.some.inj h
  intro x hx
  exact hl x ((List.takeWhile_prefix _).subset hx)
theorem fieldS_len {l : List Int} {i : Nat} {p : List Int × Nat} (h : fieldS l i = .inr p) : p.1.length ≤ 4096 ∧ p.1.length ≤ p.2 ∧ p.2 ≤ l.length := by
 unfold fieldS at h
 cases hr : raw l with
 | none => rw [hr] at h; cases h
 | some q =>
  rw [hr] at h
  have := raw_len hr
  simp only at h
  split at h
  ·cases h
  ·split at h
   ·cases h
   ·obtain rfl := Sum.inr.inj h
    omega
theorem idx_none {l : List Int} {c : Int} (h : idx l c < 0) : c ∉ l := by
 induction l with
 | nil => simp
 | cons b l ih =>
  have := idx_ge l c
  simp only [idx] at h
  split at h
  ·omega
  ·rename_i hb
   split at h
   ·rename_i h1
    intro hc
    rcases List.mem_cons.1 hc with rfl | hc
    ·exact hb rfl
    ·exact ih (by omega) hc
   ·omega
theorem idx_some {l : List Int} {c : Int} (h : 0 ≤ idx l c) : ∃ n : Nat, idx l c = n ∧ n < l.length ∧ l = l.take n ++ c :: l.drop (n + 1) ∧ c ∉ l.take n := by
 induction l with
 | nil => simp [idx] at h
 | cons b l ih =>
  have := idx_ge l c
  simp only [idx] at h ⊢
  split
  ·rename_i hb
   exact ⟨0, rfl, by simp, by simp [hb], by simp⟩
  ·rename_i hb
   rw [if_neg hb] at h
   split at h
   ·omega
   ·rename_i h1
    rw [if_neg h1]
    obtain ⟨n, h2, h3, h4, h5⟩ := ih (by omega)
    refine ⟨n + 1, by omega, by simp; omega, ?_, ?_⟩
    ·rw [List.take_succ_cons, List.drop_succ_cons, List.cons_append, ← h4]
    ·rw [List.take_succ_cons]
     intro hc
     rcases List.mem_cons.1 hc with rfl | hc
     ·exact hb rfl
     ·exact h5 hc
def toI (l : List UInt8) : List Int := l.map fun b => (b.toNat : Int)
theorem toI_append (l m : List UInt8) : toI (l ++ m) = toI l ++ toI m := by simp [toI]
theorem mk_of (l : List UInt8) : (⟨l.toArray⟩ : ByteArray) = strOfNums (toI l) := by
 apply bytesOf_inj
 have hB : Bytes (toI l) := by
  intro x hx
  obtain ⟨b, _, rfl⟩ := List.mem_map.1 hx
  have := b.toNat_lt
  omega
 rw [strOfNums_bytes hB]
 simp [bytesOf_data, toI]
/-- The rest of a text between quotes, a piece of it being read. -/
theorem qd_step {L : List Int} {j n : Nat} {res : Option (List Int × Nat)} {acc : List Int} {m : Nat} (hr : res = (qd (L.drop j)).map (fun p => (acc ++ p.1, p.2 + m))) (hn : n < (L.drop j).length) (hd : L.drop j = (L.drop j).take n ++ 34 :: (L.drop j).drop (n + 1)) (h34 : (34 : Int) ∉ (L.drop j).take n) :
  (¬ (L.drop (j + n + 1)).take 1 = [34] → res = some (acc ++ (L.drop j).take n, n + 1 + m)) ∧
  ((L.drop (j + n + 1)).take 1 = [34] → res = (qd (L.drop (j + n + 2))).map (fun p => ((acc ++ (L.drop j).take n) ++ [34] ++ p.1, p.2 + (m + n + 2)))) := by
 have e1 : (L.drop j).drop (n + 1) = L.drop (j + n + 1) := by rw [List.drop_drop]; congr 1
 have hl : ((L.drop j).take n).length = n := by rw [List.length_take]; omega
 rw [e1] at hd
 have hq : qd (L.drop j) = (qd (34 :: L.drop (j + n + 1))).map (fun p => ((L.drop j).take n ++ p.1, p.2 + n)) := by
  have := qd_pre ((L.drop j).take n) (34 :: L.drop (j + n + 1)) h34 (by simp)
  rw [hl, ← hd] at this
  exact this
 constructor
 ·intro h
  rw [hr, hq, qd_end _ h]
  simp; omega
 ·intro h
  have e2 : L.drop (j + n + 1) = 34 :: L.drop (j + n + 2) := by
   match hx : L.drop (j + n + 1), h with
   | a :: t, h =>
    obtain rfl : a = 34 := by simpa using h
    have : L.drop (j + n + 2) = (L.drop (j + n + 1)).drop 1 := by rw [List.drop_drop]
    rw [this, hx]; rfl
  rw [hr, hq, e2, qd_two]
  cases qd (L.drop (j + n + 2)) with
  | none => rfl
  | some p => simp; omega
end Go.Proofs.Ytjmmdphkgioooaa.La
end
section
namespace Go.Proofs.Ytjmmdphkgioooaa.La
open Go.RowKit Go.Proofs.Ytjmmdphkgioooaa.P Go.Proofs.YtjmmdphkgioooaaW.PrintWords Go.Proofs.YtjmmdphkgioooaaW.PrintLast Go.Proofs.YtjmmdphkgioooaaW.PrintMore
/-- What may stand behind a field. -/
def Behind (r : List Int) : Prop := r = [] ∨ r.take 1 = [44] ∨ lend r ≠ 0
/-- The bytes p.1 are read as the field p.2. -/
def Wr (p : List Int × List Int) : Prop := (∀ r, Behind r → raw (p.1 ++ r) = some (p.2, p.1.length)) ∧ p.2.length ≤ 4096
def joinC : List (List Int) → List Int
 | [] => []
 | [a] => a
 | a :: b :: t => a ++ 44 :: joinC (b :: t)
/-- A line: its fields, its end. -/
abbrev Line := List (List Int × List Int) × List Int
def Line.text (l : Line) : List Int := joinC (l.1.map Prod.fst) ++ l.2
def Line.good (l : Line) : Prop := l.1 ≠ [] ∧ (∀ p ∈ l.1, Wr p) ∧ (l.2 = [10] ∨ l.2 = [13, 10]) ∧ l.1.length ≤ 64
end Go.Proofs.Ytjmmdphkgioooaa.La
end
section
namespace Go.Proofs.Ytjmmdphkgioooaa.La
def good (r : Int) : Prop := 0 ≤ r ∧ r ≤ 1114111 ∧ (r < 55296 ∨ 57343 < r)
theorem good_iff {r : Int} : good r ↔ 0 ≤ r ∧ r ≤ 1114111 ∧ (r < 55296 ∨ 57343 < r) := Iff.rfl
instance (r : Int) : Decidable (good r) := by unfold good; infer_instance
def enc (r : Int) : List Int :=
 if r < 128 then [r] else if r < 2048 then [192 + r / 64, 128 + r % 64]
 else if r < 65536 then [224 + r / 4096, 128 + r / 64 % 64, 128 + r % 64]
 else [240 + r / 262144, 128 + r / 4096 % 64, 128 + r / 64 % 64, 128 + r % 64]
def tk2 (a b : Int) : Int := (a - 192) * 64 + (b - 128)
def tk3 (a b c : Int) : Int := (a - 224) * 4096 + (b - 128) * 64 + (c - 128)
def tk4 (a b c d : Int) : Int := (a - 240) * 262144 + (b - 128) * 4096 + (c - 128) * 64 + (d - 128)
/-- The letter that a list begins with, and how many bytes it has; 0, 0: none. -/
def tk : List Int → Int × Int
 | [] => (0, 0)
 | a :: t =>
  if a < 128 then (a, 1)
  else if a < 192 then (0, 0)
  else if a < 224 then
   match t with
   | b :: _ => if 128 ≤ b ∧ b < 192 ∧ 128 ≤ tk2 a b then (tk2 a b, 2) else (0, 0)
   | [] => (0, 0)
  else if a < 240 then
   match t with
   | b :: c :: _ => if 128 ≤ b ∧ b < 192 ∧ 128 ≤ c ∧ c < 192 ∧ 2048 ≤ tk3 a b c ∧ (tk3 a b c < 55296 ∨ 57343 < tk3 a b c) then (tk3 a b c, 3) else (0, 0)
   | _ => (0, 0)
  else if a < 248 then
   match t with
   | b :: c :: d :: _ => if 128 ≤ b ∧ b < 192 ∧ 128 ≤ c ∧ c < 192 ∧ 128 ≤ d ∧ d < 192 ∧ 65536 ≤ tk4 a b c d ∧ tk4 a b c d ≤ 1114111 then (tk4 a b c d, 4) else (0, 0)
   | _ => (0, 0)
  else (0, 0)
theorem enc_len (r : Int) : 1 ≤ (enc r).length ∧ (enc r).length ≤ 4 := by
 unfold enc
 split
 ·simp
 ·split
  ·simp
  ·split <;> simp
/-- What is read was written. -/
theorem tk_inv (l : List Int) (hl : ∀ x ∈ l, 0 ≤ x ∧ x < 256) : tk l = (0, 0) ∨ (good (tk l).1 ∧ (tk l).2 = ((enc (tk l).1).length : Int) ∧ ∃ m, l = enc (tk l).1 ++ m) := by
 match l with
 | [] => exact .inl rfl
 | a :: t =>
  have ha := hl a List.mem_cons_self
  simp only [tk]
  split
  ·rename_i h1
   refine .inr ⟨by unfold good; omega, ?_, t, ?_⟩ <;> simp [enc, h1]
  ·rename_i h1
   split
   ·exact .inl rfl
   ·rename_i h2
    split
    ·rename_i h3
     match t with
     | [] => exact .inl rfl
     | b :: t =>
      simp only
      split
      ·rename_i h4
       have hr : ¬ (tk2 a b < 128) := by omega
       have hr' : tk2 a b < 2048 := by unfold tk2; omega
       refine .inr ⟨by unfold good; omega, ?_, t, ?_⟩
       ·simp [enc, hr, hr']
       ·simp only [enc, if_neg hr, if_pos hr']
        have e1 : 192 + tk2 a b / 64 = a := by unfold tk2; omega
        have e2 : 128 + tk2 a b % 64 = b := by unfold tk2; omega
        rw [e1, e2]
        rfl
      ·exact .inl rfl
    ·rename_i h3
     split
     ·rename_i h4
      match t with
      | [] => exact .inl rfl
      | [_] => exact .inl rfl
      | b :: c :: t =>
       simp only
       split
       ·rename_i h5
        have hr : ¬ (tk3 a b c < 128) := by omega
        have hr' : ¬ (tk3 a b c < 2048) := by omega
        have hr'' : tk3 a b c < 65536 := by unfold tk3; omega
        refine .inr ⟨by unfold good; omega, ?_, t, ?_⟩
        ·simp [enc, hr, hr', hr'']
        ·simp only [enc, if_neg hr, if_neg hr', if_pos hr'']
         have e1 : 224 + tk3 a b c / 4096 = a := by unfold tk3; omega
         have e2 : 128 + tk3 a b c / 64 % 64 = b := by unfold tk3; omega
         have e3 : 128 + tk3 a b c % 64 = c := by unfold tk3; omega
         rw [e1, e2, e3]
         rfl
       ·exact .inl rfl
     ·rename_i h4
      split
      ·rename_i h4'
       match t with
       | [] => exact .inl rfl
       | [_] => exact .inl rfl
       | [_, _] => exact .inl rfl
       | b :: c :: d :: t =>
        simp only
        split
        ·rename_i h5
         have hr : ¬ (tk4 a b c d < 128) := by omega
         have hr' : ¬ (tk4 a b c d < 2048) := by omega
         have hr'' : ¬ (tk4 a b c d < 65536) := by omega
         refine .inr ⟨by unfold good; omega, ?_, t, ?_⟩
         ·simp [enc, hr, hr', hr'']
         ·simp only [enc, if_neg hr, if_neg hr', if_neg hr'']
          have e1 : 240 + tk4 a b c d / 262144 = a := by unfold tk4; omega
          have e2 : 128 + tk4 a b c d / 4096 % 64 = b := by unfold tk4; omega
          have e3 : 128 + tk4 a b c d / 64 % 64 = c := by unfold tk4; omega
          have e4 : 128 + tk4 a b c d % 64 = d := by unfold tk4; omega
          rw [e1, e2, e3, e4]
          rfl
        ·exact .inl rfl
      ·exact .inl rfl
/-- How far the reading goes on. -/
def stp (l : List Int) : Nat := if (tk l).2 = 0 then 1 else (tk l).2.toNat
theorem tk_bound (l : List Int) (hl : ∀ x ∈ l, 0 ≤ x ∧ x < 256) : 0 ≤ (tk l).2 ∧ (tk l).2 ≤ 4 ∧ (tk l).2 ≤ l.length ∧ 0 ≤ (tk l).1 ∧ (tk l).1 ≤ 1114111 := by
 rcases tk_inv l hl with h | ⟨hg, hn, m, hm⟩
 ·rw [h]; simp
 ·have := enc_len (tk l).1
  have h2 : l.length = (enc (tk l).1).length + m.length := by
   have := congrArg List.length hm
   rwa [List.length_append] at this
  unfold good at hg
  omega
theorem stp_pos (l : List Int) (hl : ∀ x ∈ l, 0 ≤ x ∧ x < 256) : 1 ≤ stp l ∧ stp l ≤ 4 := by
 have := tk_bound l hl
 unfold stp
 split <;> omega
theorem stp_pos' (l : List Int) : 1 ≤ stp l := by
 unfold stp
 split
 ·omega
 ·have : 0 ≤ (tk l).2 := by
   match l with
   | [] => simp [tk]
   | a :: t =>
    unfold tk
    (repeat' split) <;> simp
  omega
theorem stp_le {l : List Int} (hl : ∀ x ∈ l, 0 ≤ x ∧ x < 256) (h : l ≠ []) : stp l ≤ l.length := by
 have := tk_bound l hl
 have : 0 < l.length := List.length_pos_iff.2 h
 unfold stp
 split <;> omega
theorem drop_lt {l : List Int} (h : l ≠ []) : (l.drop (stp l)).length < l.length := by
 have := stp_pos' l
 have : 0 < l.length := List.length_pos_iff.2 h
 rw [List.length_drop]
 omega
/-- How many letters. -/
def cnt (l : List Int) : Nat := if _h : l = [] then 0 else cnt (l.drop (stp l)) + 1
termination_by l.length
decreasing_by exact drop_lt (by assumption)
/-- Where the first byte stands that begins none. -/
def bad (l : List Int) : Option Nat := if _h : l = [] then none else if (tk l).2 = 0 then some 0 else (bad (l.drop (stp l))).map (· + stp l)
termination_by l.length
decreasing_by exact drop_lt (by assumption)
theorem cnt_nil : cnt [] = 0 := by rw [cnt]; simp
theorem cnt_step {l : List Int} (h : l ≠ []) : cnt l = cnt (l.drop (stp l)) + 1 := by rw [cnt, dif_neg h]
theorem bad_nil : bad [] = none := by rw [bad]; simp
theorem bad_none {l : List Int} (h : l ≠ []) (h0 : (tk l).2 = 0) : bad l = some 0 := by rw [bad, dif_neg h, if_pos h0]
theorem bad_step {l : List Int} (h : l ≠ []) (h0 : (tk l).2 ≠ 0) : bad l = (bad (l.drop (stp l))).map (· + stp l) := by rw [bad, dif_neg h, if_neg h0]
theorem cnt_le (l : List Int) : cnt l ≤ l.length := by
 by_cases h : l = []
 ·subst h; rw [cnt_nil]; simp
 ·have := cnt_le (l.drop (stp l))
  have := drop_lt h
  rw [cnt_step h]
  omega
termination_by l.length
decreasing_by exact drop_lt h
end Go.Proofs.Ytjmmdphkgioooaa.La
end
section
namespace Go.Proofs.Ytjmmdphkgioooaa.P
open Go.RowKit Go.Proofs.YtjmmdphkgioooaaW.PrintWords Go.Proofs.YtjmmdphkgioooaaW.PrintLast Go.Proofs.YtjmmdphkgioooaaW.PrintMore
attribute [local go_sem] max2_int min2_int max_two min_two max_three min_three max_four min_four   -- for this text's walks alone
set_option linter.unusedVariables false
set_option linter.unusedSimpArgs false
/-! ### utf_begins: function 42 -/
def utf_begins.f (a0 : Int) : Option (Int × Int) := if a0 < 128 then (some (1, wrap64 (a0))) else (if a0 < 192 then (some (0, 0)) else (if a0 < 224 then (some (2, wrap64 (Go.bits .andNot .u8 a0 192))) else (if a0 < 240 then (some (3, wrap64 (Go.bits .andNot .u8 a0 224))) else (if a0 < 248 then (some (4, wrap64 (Go.bits .andNot .u8 a0 240))) else (some (0, 0))))))
set_option maxHeartbeats 8000000 in
set_option maxRecDepth 100000 in
theorem utf_begins.calls (a0 : Int) (r1 : Int) (r2 : Int) (w : World) (h : utf_begins.f a0 = some (r1, r2)) :
  Calls Try.prog 42 #[.int .u8 a0] w fun e w' => e = .returned (.tuple #[.int .i64 r1, .int .i64 r2]) ∧ Drawn0 w w' := by
 have H : (if a0 < 128 then (some (1, wrap64 (a0))) else (if a0 < 192 then (some (0, 0)) else (if a0 < 224 then (some (2, wrap64 (Go.bits .andNot .u8 a0 192))) else (if a0 < 240 then (some (3, wrap64 (Go.bits .andNot .u8 a0 224))) else (if a0 < 248 then (some (4, wrap64 (Go.bits .andNot .u8 a0 240))) else (some (0, 0))))))) = some (r1, r2) := h
 clear h
 by_cases c2 : a0 < 128
 ·rw [if_pos c2] at H
  have c2b0 : decide (a0 < 128) = true := decide_eq_true c2
  clear c2
  simp only [Option.some.injEq, Prod.mk.injEq] at H
  obtain ⟨rfl, rfl⟩ := H
  go_enter Try.func42, Try.ntmps42
  go_wp2
  go_ret2
  exact ⟨by first | rfl | (simp; done) | (simp [*]; done), by repeat (first | exact Drawn0.refl _ | apply Drawn0.step)⟩
 ·rw [if_neg c2] at H
  have c2b0 : decide (a0 < 128) = false := decide_eq_false c2
  clear c2
  by_cases c3 : a0 < 192
  ·rw [if_pos c3] at H
   have c3b0 : decide (a0 < 192) = true := decide_eq_true c3
   clear c3
   simp only [Option.some.injEq, Prod.mk.injEq] at H
   obtain ⟨rfl, rfl⟩ := H
   go_enter Try.func42, Try.ntmps42
   go_wp2
   go_ret2
   exact ⟨by first | rfl | (simp; done) | (simp [*]; done), by repeat (first | exact Drawn0.refl _ | apply Drawn0.step)⟩
  ·rw [if_neg c3] at H
   have c3b0 : decide (a0 < 192) = false := decide_eq_false c3
   clear c3
   by_cases c4 : a0 < 224
   ·rw [if_pos c4] at H
    have c4b0 : decide (a0 < 224) = true := decide_eq_true c4
    clear c4
    simp only [Option.some.injEq, Prod.mk.injEq] at H
    obtain ⟨rfl, rfl⟩ := H
    go_enter Try.func42, Try.ntmps42
    go_wp2
    go_ret2
    exact ⟨by first | rfl | (simp; done) | (simp [*]; done), by repeat (first | exact Drawn0.refl _ | apply Drawn0.step)⟩
   ·rw [if_neg c4] at H
    have c4b0 : decide (a0 < 224) = false := decide_eq_false c4
    clear c4
    by_cases c5 : a0 < 240
    ·rw [if_pos c5] at H
     have c5b0 : decide (a0 < 240) = true := decide_eq_true c5
     clear c5
     simp only [Option.some.injEq, Prod.mk.injEq] at H
     obtain ⟨rfl, rfl⟩ := H
     go_enter Try.func42, Try.ntmps42
     go_wp2
     go_ret2
     exact ⟨by first | rfl | (simp; done) | (simp [*]; done), by repeat (first | exact Drawn0.refl _ | apply Drawn0.step)⟩
    ·rw [if_neg c5] at H
     have c5b0 : decide (a0 < 240) = false := decide_eq_false c5
     clear c5
     by_cases c6 : a0 < 248
     ·rw [if_pos c6] at H
      have c6b0 : decide (a0 < 248) = true := decide_eq_true c6
      clear c6
      simp only [Option.some.injEq, Prod.mk.injEq] at H
      obtain ⟨rfl, rfl⟩ := H
      go_enter Try.func42, Try.ntmps42
      go_wp2
      go_ret2
      exact ⟨by first | rfl | (simp; done) | (simp [*]; done), by repeat (first | exact Drawn0.refl _ | apply Drawn0.step)⟩
     ·rw [if_neg c6] at H
      have c6b0 : decide (a0 < 248) = false := decide_eq_false c6
      clear c6
      simp only [Option.some.injEq, Prod.mk.injEq] at H
      obtain ⟨rfl, rfl⟩ := H
      go_enter Try.func42, Try.ntmps42
      go_wp2
      go_ret2
      exact ⟨by first | rfl | (simp; done) | (simp [*]; done), by repeat (first | exact Drawn0.refl _ | apply Drawn0.step)⟩
end Go.Proofs.Ytjmmdphkgioooaa.P
end
section
namespace Go.Proofs.Ytjmmdphkgioooaa.P
open Go.RowKit Go.Proofs.YtjmmdphkgioooaaW.PrintWords Go.Proofs.YtjmmdphkgioooaaW.PrintLast Go.Proofs.YtjmmdphkgioooaaW.PrintMore
attribute [local go_sem] max2_int min2_int max_two min_two max_three min_three max_four min_four   -- for this text's walks alone
set_option linter.unusedVariables false
set_option linter.unusedSimpArgs false
/-! ### utf_Good: function 43 -/
def utf_Good.f (a0 : Int) : Option (Bool) := if a0 ≥ 0 then (if a0 ≤ 1114111 then (if a0 < 55296 then (some true) else (some (decide (a0 > 57343)))) else (some false)) else (some false)
set_option maxHeartbeats 8000000 in
set_option maxRecDepth 100000 in
theorem utf_Good.calls (a0 : Int) (r : Bool) (w : World) (h : utf_Good.f a0 = some r) :
  Calls Try.prog 43 #[.int .i64 a0] w fun e w' => e = .returned (.bool r) ∧ Drawn0 w w' := by
 have H : (if a0 ≥ 0 then (if a0 ≤ 1114111 then (if a0 < 55296 then (some true) else (some (decide (a0 > 57343)))) else (some false)) else (some false)) = some r := h
 clear h
 by_cases c2 : a0 ≥ 0
 ·rw [if_pos c2] at H
  have c2b0 : decide (0 ≤ a0) = true := decide_eq_true c2
  clear c2
  by_cases c3 : a0 ≤ 1114111
  ·rw [if_pos c3] at H
   have c3b0 : decide (a0 ≤ 1114111) = true := decide_eq_true c3
   clear c3
   by_cases c4 : a0 < 55296
   ·rw [if_pos c4] at H
    have c4b0 : decide (a0 < 55296) = true := decide_eq_true c4
    clear c4
    obtain rfl := Option.some.inj H
    go_enter Try.func43, Try.ntmps43
    go_wp2
    go_ret
    exact ⟨by first | rfl | (simp; done) | (simp [*]; done), by repeat (first | exact Drawn0.refl _ | apply Drawn0.step)⟩
   ·rw [if_neg c4] at H
    have c4b0 : decide (a0 < 55296) = false := decide_eq_false c4
    clear c4
    obtain rfl := Option.some.inj H
    go_enter Try.func43, Try.ntmps43
    go_wp2
    go_ret
    exact ⟨by first | rfl | (simp; done) | (simp [*]; done), by repeat (first | exact Drawn0.refl _ | apply Drawn0.step)⟩
  ·rw [if_neg c3] at H
   have c3b0 : decide (a0 ≤ 1114111) = false := decide_eq_false c3
   clear c3
   obtain rfl := Option.some.inj H
   go_enter Try.func43, Try.ntmps43
   go_wp2
   go_ret
   exact ⟨by first | rfl | (simp; done) | (simp [*]; done), by repeat (first | exact Drawn0.refl _ | apply Drawn0.step)⟩
 ·rw [if_neg c2] at H
  have c2b0 : decide (0 ≤ a0) = false := decide_eq_false c2
  clear c2
  obtain rfl := Option.some.inj H
  go_enter Try.func43, Try.ntmps43
  go_wp2
  go_ret
  exact ⟨by first | rfl | (simp; done) | (simp [*]; done), by repeat (first | exact Drawn0.refl _ | apply Drawn0.step)⟩
end Go.Proofs.Ytjmmdphkgioooaa.P
end
section
namespace Go.Proofs.Ytjmmdphkgioooaa.P
open Go.RowKit Go.Proofs.YtjmmdphkgioooaaW.PrintWords Go.Proofs.YtjmmdphkgioooaaW.PrintLast Go.Proofs.YtjmmdphkgioooaaW.PrintMore
attribute [local go_sem] max2_int min2_int max_two min_two max_three min_three max_four min_four   -- for this text's walks alone
set_option linter.unusedVariables false
set_option linter.unusedSimpArgs false
/-! ### utf_size: function 44 -/
def utf_size.f (a0 : Int) : Option (Int) := if a0 < 128 then (some 1) else (if a0 < 2048 then (some 2) else (if a0 < 65536 then (some 3) else (some 4)))
set_option maxHeartbeats 8000000 in
set_option maxRecDepth 100000 in
theorem utf_size.calls (a0 : Int) (r : Int) (w : World) (h : utf_size.f a0 = some r) :
  Calls Try.prog 44 #[.int .i64 a0] w fun e w' => e = .returned (.int .i64 r) ∧ Drawn0 w w' := by
 have H : (if a0 < 128 then (some 1) else (if a0 < 2048 then (some 2) else (if a0 < 65536 then (some 3) else (some 4)))) = some r := h
 clear h
 by_cases c2 : a0 < 128
 ·rw [if_pos c2] at H
  have c2b0 : decide (a0 < 128) = true := decide_eq_true c2
  clear c2
  obtain rfl := Option.some.inj H
  go_enter Try.func44, Try.ntmps44
  go_wp2
  go_ret
  exact ⟨by first | rfl | (simp; done) | (simp [*]; done), by repeat (first | exact Drawn0.refl _ | apply Drawn0.step)⟩
 ·rw [if_neg c2] at H
  have c2b0 : decide (a0 < 128) = false := decide_eq_false c2
  clear c2
  by_cases c3 : a0 < 2048
  ·rw [if_pos c3] at H
   have c3b0 : decide (a0 < 2048) = true := decide_eq_true c3
   clear c3
   obtain rfl := Option.some.inj H
   go_enter Try.func44, Try.ntmps44
   go_wp2
   go_ret
   exact ⟨by first | rfl | (simp; done) | (simp [*]; done), by repeat (first | exact Drawn0.refl _ | apply Drawn0.step)⟩
  ·rw [if_neg c3] at H
   have c3b0 : decide (a0 < 2048) = false := decide_eq_false c3
   clear c3
   by_cases c4 : a0 < 65536
   ·rw [if_pos c4] at H
    have c4b0 : decide (a0 < 65536) = true := decide_eq_true c4
    clear c4
    obtain rfl := Option.some.inj H
    go_enter Try.func44, Try.ntmps44
    go_wp2
    go_ret
    exact ⟨by first | rfl | (simp; done) | (simp [*]; done), by repeat (first | exact Drawn0.refl _ | apply Drawn0.step)⟩
   ·rw [if_neg c4] at H
    have c4b0 : decide (a0 < 65536) = false := decide_eq_false c4
    clear c4
    obtain rfl := Option.some.inj H
    go_enter Try.func44, Try.ntmps44
    go_wp2
    go_ret
    exact ⟨by first | rfl | (simp; done) | (simp [*]; done), by repeat (first | exact Drawn0.refl _ | apply Drawn0.step)⟩
end Go.Proofs.Ytjmmdphkgioooaa.P
end
section
namespace Go.Proofs.Ytjmmdphkgioooaa.P
open Go.RowKit Go.Proofs.YtjmmdphkgioooaaW.PrintWords Go.Proofs.YtjmmdphkgioooaaW.PrintLast Go.Proofs.YtjmmdphkgioooaaW.PrintMore
attribute [local go_sem] max2_int min2_int max_two min_two max_three min_three max_four min_four   -- for this text's walks alone
set_option linter.unusedVariables false
set_option linter.unusedSimpArgs false
/-! ### utf_Take: function 33 -/
mutual
def utf_Take.j0 : Nat → ByteArray → Int → Int → Bool → Option (Int × Int)
 | 0, _, _, _, _ => none
 | k + 1, x0, x4, x5, x22 => if x22 = true then (some (0, 0)) else (utf_Take.l0 k x0 x4 x5 1)
def utf_Take.l0 : Nat → ByteArray → Int → Int → Int → Option (Int × Int)
 | 0, _, _, _, _ => none
 | k + 1, x0, x4, x5, x6 => if x6 < x4 then (if 0 ≤ x6 then (if x6 < (x0.size : Int) then (if (Go.bits .and .u8 (bt x0 x6) 192) = 128 then (utf_Take.l0 k x0 x4 (Go.bits .or .i64 (wrap64 (x5 * 64)) (wrap64 (Go.bits .and .u8 (bt x0 x6) 63))) (wrap64 (x6 + 1))) else (some (0, 0))) else (none)) else (none)) else ((utf_Good.f x5).bind fun t106 => (if t106 = true then ((utf_size.f x5).bind fun t107 => (if t107 = x4 then (some (x5, x4)) else (some (0, 0)))) else (some (0, 0))))
end
def utf_Take.f (k : Nat) (a0 : ByteArray) : Option (Int × Int) := if a0.toList = ([] : List UInt8) then (some (0, 0)) else (if 0 < (a0.size : Int) then ((utf_begins.f (bt a0 0)).bind fun bt104 => (if bt104.1 = 0 then (utf_Take.j0 k a0 bt104.1 bt104.2 true) else (utf_Take.j0 k a0 bt104.1 bt104.2 (decide (bt104.1 > (a0.size : Int)))))) else (none))
set_option maxHeartbeats 8000000 in
set_option maxRecDepth 100000 in
theorem utf_Take.calls (k : Nat) (a0 : ByteArray) (r1 : Int) (r2 : Int) (w : World) (h : utf_Take.f k a0 = some (r1, r2)) :
  Calls Try.prog 33 #[.string a0] w fun e w' => e = .returned (.tuple #[.int .i64 r1, .int .i64 r2]) ∧ Drawn0 w w' := by
 have H : (if a0.toList = ([] : List UInt8) then (some (0, 0)) else (if 0 < (a0.size : Int) then ((utf_begins.f (bt a0 0)).bind fun bt104 => (if bt104.1 = 0 then (utf_Take.j0 k a0 bt104.1 bt104.2 true) else (utf_Take.j0 k a0 bt104.1 bt104.2 (decide (bt104.1 > (a0.size : Int)))))) else (none))) = some (r1, r2) := h
 clear h
 by_cases c2 : a0.toList = ([] : List UInt8)
 ·rw [if_pos c2] at H
  have c2b0 : (a0.toList == ([] : List UInt8)) = true := beq_iff_eq.mpr c2
  have c2b1 : (a0.toList != ([] : List UInt8)) = false := bne_eq_false_iff_eq.mpr c2
  clear c2
  simp only [Option.some.injEq, Prod.mk.injEq] at H
  obtain ⟨rfl, rfl⟩ := H
  go_enter Try.func33, Try.ntmps33
  go_wp2
  go_ret2
  exact ⟨by first | rfl | (simp; done) | (simp [*]; done), by repeat (first | exact Drawn0.refl _ | apply Drawn0.step)⟩
 ·rw [if_neg c2] at H
  have c2b0 : (a0.toList == ([] : List UInt8)) = false := beq_eq_false_iff_ne.mpr c2
  have c2b1 : (a0.toList != ([] : List UInt8)) = true := bne_iff_ne.mpr c2
  by_cases c3 : 0 < (a0.size : Int)
  ·rw [if_pos c3] at H
   have c3b0 : decide (0 < (a0.size : Int)) = true := decide_eq_true c3
   have c3b1 : decide (0 < a0.size) = true := decide_eq_true (by omega)
   clear c3
   replace H := Option.bind_eq_some_iff.mp H
   obtain ⟨⟨t104, t105⟩, A50, H⟩ := H
   replace H : (if t104 = 0 then (utf_Take.j0 k a0 t104 t105 true) else (utf_Take.j0 k a0 t104 t105 (decide (t104 > (a0.size : Int))))) = some (r1, r2) := H
   have A5 := Aside0.mk A50
   clear A50
   have HC6 := Aside0.mk H
   clear H
   have p4 : 0 ≤ (0 : Int) := (by omega)
   have q4 : 0 < a0.size := (by have : (0 : Int) < (a0.size : Int) := of_decide_eq_true (by first | (with_reducible assumption) | assumption); omega)
   have hx4 : ∀ h : 0 < a0.size, ((a0[0]'h).toNat : Int) = bt a0 0 := bt_at a0 0
   clear p4
   have qi4 : (0 < (a0.size : Int)) = True := eq_true (of_decide_eq_true (by first | (with_reducible assumption) | assumption))
   replace q4 := eq_true q4
   go_enter Try.func33, Try.ntmps33
   go_upto_region 4 with (first | ((with_reducible refine gate_callee (f := 42) rfl ?_); refine goesL_ (some 12) rfl rfl Try.func42 (by kernel_rfl) rfl #[.int .u8 (bt a0 0)] rfl (by (try simp only [List.map_toArray, List.map_cons, List.map_nil]); first | done | rfl | (simp only [List.length_drop, List.length_take]; rfl)) ?_; (with_reducible refine (utf_begins.calls (bt a0 0) t104 t105 _ A5.out).mono ?_); rintro e w' ⟨rfl, ⟨nd, rfl⟩⟩; refine ⟨_, rfl, ?_⟩))
   (try simp only [Act.put, List.setIfInBounds_toArray, List.set_cons_zero, List.set_cons_succ])
   go_cut [22] (fun v22 wc => ∃ (kq : Nat) (x22_5 : Bool), v22 = .bool x22_5 ∧ Aside0 (utf_Take.j0 kq a0 t104 t105 x22_5 = some (r1, r2)) ∧ Aside0 (kq ≤ k) ∧ Drawn0 w wc)
   case first =>
    have H := HC6.out
    clear HC6
    by_cases c7 : t104 = 0
    ·rw [if_pos c7] at H
     have c7b0 : (t104 == 0) = true := beq_iff_eq.mpr c7
     have c7b1 : (t104 != 0) = false := bne_eq_false_iff_eq.mpr c7
     clear c7
     (first | rw [c7b0] | (simp only [i64_w, i32_w]; rw [c7b0]) | skip)
     have H' := Aside0.mk H
     clear H
     go_wp2
     go_meet
     case rel => exact ⟨_, (true), (by first | rfl | (simp; done) | (simp [*]; done)), H', ⟨by first | omega | exact Nat.le_refl _⟩, by repeat (first | exact Drawn0.refl _ | apply Drawn0.step)⟩
    ·rw [if_neg c7] at H
     have c7b0 : (t104 == 0) = false := beq_eq_false_iff_ne.mpr c7
     have c7b1 : (t104 != 0) = true := bne_iff_ne.mpr c7
     (first | rw [c7b0] | (simp only [i64_w, i32_w]; rw [c7b0]) | skip)
     have H' := Aside0.mk H
     clear H
     go_wp2
     go_meet
     case rel => exact ⟨_, (decide (t104 > (a0.size : Int))), (by first | rfl | (simp; done) | (simp [*]; done)), H', ⟨by first | omega | exact Nat.le_refl _⟩, by repeat (first | exact Drawn0.refl _ | apply Drawn0.step)⟩
   case rest =>
    clear HC6
    try clear c2
    try clear c2b0
    try clear c2b1
    try clear p2
    try clear c3
    try clear c3b0
    try clear c3b1
    try clear c4
    try clear p4
    try clear q4
    try clear hx4
    try clear qi4
    try clear c7
    try clear c7b0
    try clear c7b1
    try clear p4
    try clear q4
    obtain ⟨kq, x22_5, rfl, HA, HJ5, ⟨mc5, rfl⟩⟩ := hcut
    cases kq with
    | zero => exact absurd HA.out (by simp [utf_Take.j0])
    | succ kj5 =>
     have H := HA.out
     clear HA
     simp only [utf_Take.j0] at H
     by_cases c8 : x22_5 = true
     ·subst c8
      have H1 : (some (0, 0)) = some (r1, r2) := by rw [if_pos rfl] at H; exact H
      clear H
      have H := H1
      clear H1
      simp only [Option.some.injEq, Prod.mk.injEq] at H
      obtain ⟨rfl, rfl⟩ := H
      go_wp2
      go_ret2
      exact ⟨by first | rfl | (simp; done) | (simp [*]; done), by repeat (first | exact Drawn0.refl _ | apply Drawn0.step)⟩
     ·replace c8 := Bool.eq_false_iff.mpr c8
      subst c8
      have H1 : (utf_Take.l0 kj5 a0 t104 t105 1) = some (r1, r2) := by rw [if_neg (show ¬ (false = true) by decide)] at H; exact H
      clear H
      have H := H1
      clear H1
      have H' := Aside0.mk H
      clear H
      go_wp2
      go_loopg [5, 6] kj5 (fun kq v5 v6 w' => ∃ (x5_2 : Int) (x6_2 : Int), v5 = .int .i64 x5_2 ∧ v6 = .int .i64 x6_2 ∧ Aside0 (utf_Take.l0 kq a0 t104 x5_2 x6_2 = some (r1, r2)) ∧ Aside0 (kq ≤ kj5) ∧ Drawn0 w w')
      case atStart => exact ⟨(t105), (1), (by first | rfl | (simp; done) | (simp [*]; done)), (by first | rfl | (simp; done) | (simp [*]; done)), H', ⟨Nat.le_refl _⟩, by repeat (first | exact Drawn0.refl _ | apply Drawn0.step)⟩
      case round =>
       clear H'
       try clear c2
       try clear c2b0
       try clear c2b1
       try clear p2
       try clear c3
       try clear c3b0
       try clear c3b1
       try clear c4
       try clear p4
       try clear q4
       try clear hx4
       try clear qi4
       try clear c5
       try clear c7
       try clear c7b0
       try clear c7b1
       try clear c8
       try clear p2
       try clear p4
       try clear q4
       obtain ⟨x5_2, x6_2, rfl, rfl, HA, HK2, ⟨m2, rfl⟩⟩ := hrel
       cases gk with
       | zero => exact absurd HA.out (by simp [utf_Take.l0])
       | succ k2 =>
        have H := HA.out
        clear HA
        simp only [utf_Take.l0] at H
        by_cases c9 : x6_2 < t104
        ·rw [if_pos c9] at H
         have c9b0 : decide (x6_2 < t104) = true := decide_eq_true c9
         clear c9
         by_cases c10 : 0 ≤ x6_2
         ·rw [if_pos c10] at H
          have c10b0 : decide (0 ≤ x6_2) = true := decide_eq_true c10
          clear c10
          by_cases c11 : x6_2 < (a0.size : Int)
          ·rw [if_pos c11] at H
           have c11b0 : decide (x6_2 < (a0.size : Int)) = true := decide_eq_true c11
           clear c11
           by_cases c13 : (Go.bits .and .u8 (bt a0 x6_2) 192) = 128
           ·rw [if_pos c13] at H
            have c13b0 : ((Go.bits .and .u8 (bt a0 x6_2) 192) == 128) = true := beq_iff_eq.mpr c13
            have c13b1 : ((Go.bits .and .u8 (bt a0 x6_2) 192) != 128) = false := bne_eq_false_iff_eq.mpr c13
            clear c13
            have H' := Aside0.mk H
            clear H
            have p12 : 0 ≤ (x6_2 : Int) := of_decide_eq_true (by first | (with_reducible assumption) | assumption)
            have q12 : x6_2 < (a0.size : Int) := of_decide_eq_true (by first | (with_reducible assumption) | assumption)
            have hx12 := bt_at a0 x6_2
            replace p12 := eq_true p12
            replace q12 := eq_true q12
            have p14 : 0 ≤ (x6_2 : Int) := of_decide_eq_true (by first | (with_reducible assumption) | assumption)
            have q14 : x6_2 < (a0.size : Int) := of_decide_eq_true (by first | (with_reducible assumption) | assumption)
            have hx14 := bt_at a0 x6_2
            replace p14 := eq_true p14
            replace q14 := eq_true q14
            go_wp2
            go_roundg k2
            case measure => have := HJ5.out; have := HK2.out; omega
            case rel => exact ⟨(Go.bits .or .i64 (wrap64 (x5_2 * 64)) (wrap64 (Go.bits .and .u8 (bt a0 x6_2) 63))), (wrap64 (x6_2 + 1)), (by first | rfl | (simp; done) | (simp [*]; done)), (by first | rfl | (simp; done) | (simp [*]; done)), H', ⟨by have := HJ5.out; have := HK2.out; omega⟩, by repeat (first | exact Drawn0.refl _ | apply Drawn0.step)⟩
           ·rw [if_neg c13] at H
            have c13b0 : ((Go.bits .and .u8 (bt a0 x6_2) 192) == 128) = false := beq_eq_false_iff_ne.mpr c13
            have c13b1 : ((Go.bits .and .u8 (bt a0 x6_2) 192) != 128) = true := bne_iff_ne.mpr c13
            simp only [Option.some.injEq, Prod.mk.injEq] at H
            obtain ⟨rfl, rfl⟩ := H
            have p12 : 0 ≤ (x6_2 : Int) := of_decide_eq_true (by first | (with_reducible assumption) | assumption)
            have q12 : x6_2 < (a0.size : Int) := of_decide_eq_true (by first | (with_reducible assumption) | assumption)
            have hx12 := bt_at a0 x6_2
            replace p12 := eq_true p12
            replace q12 := eq_true q12
            go_wp2
            go_ret2
            exact ⟨by first | rfl | (simp; done) | (simp [*]; done), by repeat (first | exact Drawn0.refl _ | apply Drawn0.step)⟩
          ·rw [if_neg c11] at H
           exact absurd H (by simp)
         ·rw [if_neg c10] at H
          exact absurd H (by simp)
        ·rw [if_neg c9] at H
         have c9b0 : decide (x6_2 < t104) = false := decide_eq_false c9
         clear c9
         replace H := Option.bind_eq_some_iff.mp H
         obtain ⟨t106, A150, H⟩ := H
         replace H : (if t106 = true then ((utf_size.f x5_2).bind fun t107 => (if t107 = t104 then (some (x5_2, t104)) else (some (0, 0)))) else (some (0, 0))) = some (r1, r2) := H
         have A15 := Aside0.mk A150
         clear A150
         by_cases c16 : t106 = true
         ·subst c16
          have H1 : ((utf_size.f x5_2).bind fun t107 => (if t107 = t104 then (some (x5_2, t104)) else (some (0, 0)))) = some (r1, r2) := by rw [if_pos rfl] at H; exact H
          clear H
          have H := H1
          clear H1
          replace H := Option.bind_eq_some_iff.mp H
          obtain ⟨t107, A170, H⟩ := H
          replace H : (if t107 = t104 then (some (x5_2, t104)) else (some (0, 0))) = some (r1, r2) := H
          have A17 := Aside0.mk A170
          clear A170
          by_cases c18 : t107 = t104
          ·rw [if_pos c18] at H
           have c18b0 : (t107 == t104) = true := beq_iff_eq.mpr c18
           have c18b1 : (t107 != t104) = false := bne_eq_false_iff_eq.mpr c18
           clear c18
           simp only [Option.some.injEq, Prod.mk.injEq] at H
           obtain ⟨rfl, rfl⟩ := H
           go_wp2_with (first | ((with_reducible refine gate_callee (f := 43) rfl ?_); refine goesL_ (some 42) rfl rfl Try.func43 (by kernel_rfl) rfl #[.int .i64 x5_2] rfl (by (try simp only [List.map_toArray, List.map_cons, List.map_nil]); first | done | rfl | (simp only [List.length_drop, List.length_take]; rfl)) ?_; (with_reducible refine (utf_Good.calls x5_2 true _ A15.out).mono ?_); rintro e w' ⟨rfl, ⟨nd, rfl⟩⟩; refine ⟨_, rfl, ?_⟩) | (go_at_call 44; (with_reducible refine (utf_size.calls x5_2 t107 _ A17.out).mono ?_); rintro e w' ⟨rfl, ⟨nd, rfl⟩⟩))
           go_ret2
           exact ⟨by first | rfl | (simp; done) | (simp [*]; done), by repeat (first | exact Drawn0.refl _ | apply Drawn0.step)⟩
          ·rw [if_neg c18] at H
           have c18b0 : (t107 == t104) = false := beq_eq_false_iff_ne.mpr c18
           have c18b1 : (t107 != t104) = true := bne_iff_ne.mpr c18
           simp only [Option.some.injEq, Prod.mk.injEq] at H
           obtain ⟨rfl, rfl⟩ := H
           go_wp2_with (first | ((with_reducible refine gate_callee (f := 43) rfl ?_); refine goesL_ (some 42) rfl rfl Try.func43 (by kernel_rfl) rfl #[.int .i64 x5_2] rfl (by (try simp only [List.map_toArray, List.map_cons, List.map_nil]); first | done | rfl | (simp only [List.length_drop, List.length_take]; rfl)) ?_; (with_reducible refine (utf_Good.calls x5_2 true _ A15.out).mono ?_); rintro e w' ⟨rfl, ⟨nd, rfl⟩⟩; refine ⟨_, rfl, ?_⟩) | (go_at_call 44; (with_reducible refine (utf_size.calls x5_2 t107 _ A17.out).mono ?_); rintro e w' ⟨rfl, ⟨nd, rfl⟩⟩))
           go_ret2
           exact ⟨by first | rfl | (simp; done) | (simp [*]; done), by repeat (first | exact Drawn0.refl _ | apply Drawn0.step)⟩
         ·replace c16 := Bool.eq_false_iff.mpr c16
          subst c16
          have H1 : (some (0, 0)) = some (r1, r2) := by rw [if_neg (show ¬ (false = true) by decide)] at H; exact H
          clear H
          have H := H1
          clear H1
          simp only [Option.some.injEq, Prod.mk.injEq] at H
          obtain ⟨rfl, rfl⟩ := H
          go_wp2_with (first | ((with_reducible refine gate_callee (f := 43) rfl ?_); refine goesL_ (some 42) rfl rfl Try.func43 (by kernel_rfl) rfl #[.int .i64 x5_2] rfl (by (try simp only [List.map_toArray, List.map_cons, List.map_nil]); first | done | rfl | (simp only [List.length_drop, List.length_take]; rfl)) ?_; (with_reducible refine (utf_Good.calls x5_2 false _ A15.out).mono ?_); rintro e w' ⟨rfl, ⟨nd, rfl⟩⟩; refine ⟨_, rfl, ?_⟩))
          go_ret2
          exact ⟨by first | rfl | (simp; done) | (simp [*]; done), by repeat (first | exact Drawn0.refl _ | apply Drawn0.step)⟩
  ·rw [if_neg c3] at H
   exact absurd H (by simp)
end Go.Proofs.Ytjmmdphkgioooaa.P
end
section
namespace Go.Proofs.Ytjmmdphkgioooaa.La
open Go.RowKit Go.Proofs.Ytjmmdphkgioooaa.P Go.Proofs.YtjmmdphkgioooaaW.PrintWords Go.Proofs.YtjmmdphkgioooaaW.PrintLast Go.Proofs.YtjmmdphkgioooaaW.PrintMore
theorem wraps_i64 (n : Int) (h₀ : 0 ≤ n) (h₁ : n < 2 ^ 62) : IntKind.i64.wrap n = n := by rw [IntKind.wrap_i64]; omega
theorem i64_or6 {x y : Int} (hx₀ : 0 ≤ x) (hx : x % 64 = 0) (hx₁ : x < 2 ^ 62) (h₀ : 0 ≤ y) (h₁ : y < 64) : Go.bits .or .i64 x y = x + y :=
 bits_join .i64 62 (by decide) wraps_i64 6 x y hx₀ hx hx₁ h₀ h₁ (by omega)
theorem byte_cont : ∀ b : Fin 256, decide (Go.bits .and .u8 (b.val : Int) 192 = 128) = decide (128 ≤ b.val ∧ b.val < 192) := by decide +kernel
theorem cont_iff {b : Int} (h0 : 0 ≤ b) (h1 : b < 256) : Go.bits .and .u8 b 192 = 128 ↔ 128 ≤ b ∧ b < 192 := by
 obtain ⟨n, rfl⟩ := Int.eq_ofNat_of_zero_le h0
 have := decide_eq_decide.1 (byte_cont ⟨n, by omega⟩)
 simp only at this
 rw [this]
 omega
theorem byte_not : ∀ b : Fin 256, (192 ≤ b.val → b.val < 224 → Go.bits .andNot .u8 (b.val : Int) 192 = (b.val : Int) - 192) ∧ (224 ≤ b.val → b.val < 240 → Go.bits .andNot .u8 (b.val : Int) 224 = (b.val : Int) - 224) ∧ (240 ≤ b.val → b.val < 248 → Go.bits .andNot .u8 (b.val : Int) 240 = (b.val : Int) - 240) := by
 decide +kernel
theorem not192 {b : Int} (h0 : 192 ≤ b) (h1 : b < 224) : Go.bits .andNot .u8 b 192 = b - 192 := by
 obtain ⟨n, rfl⟩ := Int.eq_ofNat_of_zero_le (show 0 ≤ b by omega)
 exact (byte_not ⟨n, by omega⟩).1 (by simp only; omega) (by simp only; omega)
theorem not224 {b : Int} (h0 : 224 ≤ b) (h1 : b < 240) : Go.bits .andNot .u8 b 224 = b - 224 := by
 obtain ⟨n, rfl⟩ := Int.eq_ofNat_of_zero_le (show 0 ≤ b by omega)
 exact (byte_not ⟨n, by omega⟩).2.1 (by simp only; omega) (by simp only; omega)
theorem not240 {b : Int} (h0 : 240 ≤ b) (h1 : b < 248) : Go.bits .andNot .u8 b 240 = b - 240 := by
 obtain ⟨n, rfl⟩ := Int.eq_ofNat_of_zero_le (show 0 ≤ b by omega)
 exact (byte_not ⟨n, by omega⟩).2.2 (by simp only; omega) (by simp only; omega)
theorem good_eq (r : Int) : utf_Good.f r = some (decide (good r)) := by
 unfold utf_Good.f
 split
 ·split
  ·split
   ·rw [decide_eq_true (good_iff.2 (by omega))]
   ·exact congrArg some (decide_eq_decide.2 (by rw [good_iff]; omega))
  ·rw [decide_eq_false (fun h => by rw [good_iff] at h; omega)]
 ·rw [decide_eq_false (fun h => by rw [good_iff] at h; omega)]
def siz (r : Int) : Int := if r < 128 then 1 else if r < 2048 then 2 else if r < 65536 then 3 else 4
theorem size_eq (r : Int) : utf_size.f r = some (siz r) := by
 unfold utf_size.f siz
 (repeat' split) <;> rfl
theorem begins_eq {b : Int} (h0 : 0 ≤ b) (h1 : b < 256) : utf_begins.f b = some (if b < 128 then (1, b) else if b < 192 then (0, 0) else if b < 224 then (2, b - 192) else if b < 240 then (3, b - 224) else if b < 248 then (4, b - 240) else (0, 0)) := by
 unfold utf_begins.f
 split
 ·rw [wrap_id (by omega) (by omega)]
 ·split
  ·rfl
  ·split
   ·rw [not192 (by omega) (by omega), wrap_id (by omega) (by omega)]
   ·split
    ·rw [not224 (by omega) (by omega), wrap_id (by omega) (by omega)]
    ·split
     ·rw [not240 (by omega) (by omega), wrap_id (by omega) (by omega)]
     ·rfl
theorem siz1 {r : Int} : siz r = 1 ↔ r < 128 := by unfold siz; (repeat' split) <;> omega
theorem siz2 {r : Int} : siz r = 2 ↔ 128 ≤ r ∧ r < 2048 := by unfold siz; (repeat' split) <;> omega
theorem siz3 {r : Int} : siz r = 3 ↔ 2048 ≤ r ∧ r < 65536 := by unfold siz; (repeat' split) <;> omega
theorem siz4 {r : Int} : siz r = 4 ↔ 65536 ≤ r := by unfold siz; (repeat' split) <;> omega
def ends (r n : Int) : Int × Int := if good r ∧ siz r = n then (r, n) else (0, 0)
theorem l0_end (k : Nat) (s : ByteArray) {n r i : Int} (h : ¬ i < n) : utf_Take.l0 (k + 1) s n r i = some (ends r n) := by
 simp only [utf_Take.l0]
 rw [if_neg h, good_eq, Option.bind_some, size_eq, Option.bind_some]
 unfold ends
 by_cases hg : good r
 ·rw [if_pos (decide_eq_true hg)]
  by_cases hs : siz r = n
  ·rw [if_pos hs, if_pos ⟨hg, hs⟩]
  ·rw [if_neg hs, if_neg (fun h => hs h.2)]
 ·rw [if_neg (by simpa using hg), if_neg (fun h => hg h.1)]
theorem l0_bad (k : Nat) (s : ByteArray) {n r i : Int} (h : i < n) (h0 : 0 ≤ i) (hs : i < s.size) (hb : ¬ (128 ≤ bt s i ∧ bt s i < 192)) : utf_Take.l0 (k + 1) s n r i = some (0, 0) := by
 have hr := bt_range s i
 simp only [utf_Take.l0]
 rw [if_pos h, if_pos h0, if_pos hs, if_neg (fun he => hb ((cont_iff (by omega) (by omega)).1 he))]
theorem l0_more (k : Nat) (s : ByteArray) {n r i : Int} (h : i < n) (h0 : 0 ≤ i) (hs : i < s.size) (hb : 128 ≤ bt s i ∧ bt s i < 192) (r0 : 0 ≤ r) (r1 : r < 2097152) (i1 : i < 10) : utf_Take.l0 (k + 1) s n r i = utf_Take.l0 k s n (r * 64 + (bt s i - 128)) (i + 1) := by
 simp only [utf_Take.l0]
 rw [if_pos h, if_pos h0, if_pos hs, if_pos ((cont_iff (by omega) (by omega)).2 hb), u8_and63 _ (by omega) (by omega), wrap_id (n := r * 64) (by omega) (by omega), wrap_id (n := bt s i % 64) (by omega) (by omega), wrap_id (n := i + 1) (by omega) (by omega),
  i64_or6 (by omega) (by omega) (by omega) (by omega) (by omega), show bt s i % 64 = bt s i - 128 by omega]
theorem take_eq (k : Nat) (s : ByteArray) : utf_Take.f (k + 6) s = some (tk (bytesOf s)) := by
 have hB := bytes_of s
 have hS := size_of s
 generalize hl : bytesOf s = l at hB hS
 have hbt : ∀ i, bt s i = l.getD i.toNat 0 := fun i => by rw [bt_get, hl]
 unfold utf_Take.f
 match l with
 | [] => rw [if_pos ((toList_nil_iff s).2 hl)]; rfl
 | a :: t =>
  have ha := hB a List.mem_cons_self
  have h0 : bt s 0 = a := by rw [hbt]; rfl
  rw [if_neg (fun h => by rw [toList_nil_iff, hl] at h; cases h), if_pos (by rw [← hS]; simp), h0, begins_eq ha.1 ha.2, Option.bind_some]
  have hsz : (s.size : Int) = (t.length : Int) + 1 := by rw [← hS]; simp
  simp only [tk]
  by_cases c1 : a < 128
  ·simp only [if_pos c1]
   rw [if_neg (by decide), decide_eq_false (by omega)]
   simp only [utf_Take.j0]
   rw [if_neg (by decide), l0_end _ _ (by decide)]
   unfold ends
   rw [if_pos ⟨good_iff.2 (by omega), siz1.2 c1⟩]
  ·simp only [if_neg c1]
   by_cases c2 : a < 192
   ·simp only [if_pos c2]
    rw [if_pos trivial]
    simp only [utf_Take.j0]
    rw [if_pos trivial]
   ·simp only [if_neg c2]
    by_cases c3 : a < 224
    ·simp only [if_pos c3]
     rw [if_neg (by decide)]
     simp only [utf_Take.j0]
     match t with
     | [] =>
      simp at hsz
      dsimp only
      rw [if_pos (decide_eq_true (by omega))]
     | b :: t =>
      simp at hsz
      dsimp only
      have hb : bt s 1 = b := by rw [hbt]; rfl
      rw [if_neg (by simp; omega)]
      have hr := hB b (by simp)
      by_cases k1 : 128 ≤ b ∧ b < 192
      ·rw [l0_more _ _ (by decide) (by decide) (by omega) (by rw [hb]; exact k1) (by omega) (by omega) (by decide), l0_end _ _ (by decide), hb]
       have e : (a - 192) * 64 + (b - 128) = tk2 a b := rfl
       rw [e]
       unfold ends
       simp only [siz2, good_iff]
       have e1 : 0 ≤ tk2 a b ∧ tk2 a b < 2048 := by unfold tk2; omega
       by_cases k2 : 128 ≤ tk2 a b
       ·rw [if_pos (by omega), if_pos (by omega)]
       ·rw [if_neg (by omega), if_neg (by omega)]
      ·rw [l0_bad _ _ (by decide) (by decide) (by omega) (by rw [hb]; exact k1), if_neg (by omega)]
    ·simp only [if_neg c3]
     by_cases c4 : a < 240
     ·simp only [if_pos c4]
      rw [if_neg (by decide)]
      simp only [utf_Take.j0]
      match t with
      | [] =>
       simp at hsz
       dsimp only
       rw [if_pos (decide_eq_true (by omega))]
      | [b] =>
       simp at hsz
       dsimp only
       rw [if_pos (decide_eq_true (by omega))]
      | b :: c :: t =>
       simp at hsz
       dsimp only
       have hb : bt s 1 = b := by rw [hbt]; rfl
       have hc : bt s 2 = c := by rw [hbt]; rfl
       rw [if_neg (by simp; omega)]
       have hr := hB b (by simp)
       have hr2 := hB c (by simp)
       by_cases k1 : 128 ≤ b ∧ b < 192
       ·rw [l0_more _ _ (by decide) (by decide) (by omega) (by rw [hb]; exact k1) (by omega) (by omega) (by decide), hb]
        by_cases k2 : 128 ≤ c ∧ c < 192
        ·rw [l0_more _ _ (by decide) (by decide) (by omega) (by rw [show (1 : Int) + 1 = 2 by decide, hc]; exact k2) (by omega) (by omega) (by decide), l0_end _ _ (by decide), show (1 : Int) + 1 = 2 by decide, hc]
         have e : ((a - 224) * 64 + (b - 128)) * 64 + (c - 128) = tk3 a b c := by unfold tk3; omega
         rw [e]
         unfold ends
         simp only [siz3, good_iff]
         have e1 : 0 ≤ tk3 a b c ∧ tk3 a b c < 65536 := by unfold tk3; omega
         by_cases k3 : 2048 ≤ tk3 a b c ∧ (tk3 a b c < 55296 ∨ 57343 < tk3 a b c)
         ·rw [if_pos (by omega), if_pos (by omega)]
         ·rw [if_neg (by omega), if_neg (by omega)]
        ·rw [l0_bad _ _ (by decide) (by decide) (by omega) (by rw [show (1 : Int) + 1 = 2 by decide, hc]; exact k2), if_neg (by omega)]
       ·rw [l0_bad _ _ (by decide) (by decide) (by omega) (by rw [hb]; exact k1), if_neg (by omega)]
     ·simp only [if_neg c4]
      by_cases c5 : a < 248
      ·simp only [if_pos c5]
       rw [if_neg (by decide)]
       simp only [utf_Take.j0]
       match t with
       | [] =>
        simp at hsz
        dsimp only
        rw [if_pos (decide_eq_true (by omega))]
       | [b] =>
        simp at hsz
        dsimp only
        rw [if_pos (decide_eq_true (by omega))]
       | [b, c] =>
        simp at hsz
        dsimp only
        rw [if_pos (decide_eq_true (by omega))]
       | b :: c :: d :: t =>
        simp at hsz
        dsimp only
        have hb : bt s 1 = b := by rw [hbt]; rfl
        have hc : bt s 2 = c := by rw [hbt]; rfl
        have hd : bt s 3 = d := by rw [hbt]; rfl
        rw [if_neg (by simp; omega)]
        have hr := hB b (by simp)
        have hr2 := hB c (by simp)
        have hr3 := hB d (by simp)
        by_cases k1 : 128 ≤ b ∧ b < 192
        ·rw [l0_more _ _ (by decide) (by decide) (by omega) (by rw [hb]; exact k1) (by omega) (by omega) (by decide), hb]
         by_cases k2 : 128 ≤ c ∧ c < 192
         ·rw [l0_more _ _ (by decide) (by decide) (by omega) (by rw [show (1 : Int) + 1 = 2 by decide, hc]; exact k2) (by omega) (by omega) (by decide), show (1 : Int) + 1 = 2 by decide, hc]
          by_cases k3 : 128 ≤ d ∧ d < 192
          ·rw [l0_more _ _ (by decide) (by decide) (by omega) (by rw [show (2 : Int) + 1 = 3 by decide, hd]; exact k3) (by omega) (by omega) (by decide), l0_end _ _ (by decide), show (2 : Int) + 1 = 3 by decide, hd]
           have e : (((a - 240) * 64 + (b - 128)) * 64 + (c - 128)) * 64 + (d - 128) = tk4 a b c d := by unfold tk4; omega
           rw [e]
           unfold ends
           simp only [siz4, good_iff]
           have e1 : 0 ≤ tk4 a b c d := by unfold tk4; omega
           by_cases k3 : 65536 ≤ tk4 a b c d ∧ tk4 a b c d ≤ 1114111
           ·rw [if_pos (by omega), if_pos (by omega)]
           ·rw [if_neg (by omega), if_neg (by omega)]
          ·rw [l0_bad _ _ (by decide) (by decide) (by omega) (by rw [show (2 : Int) + 1 = 3 by decide, hd]; exact k3), if_neg (by omega)]
         ·rw [l0_bad _ _ (by decide) (by decide) (by omega) (by rw [show (1 : Int) + 1 = 2 by decide, hc]; exact k2), if_neg (by omega)]
        ·rw [l0_bad _ _ (by decide) (by decide) (by omega) (by rw [hb]; exact k1), if_neg (by omega)]
      ·simp only [if_neg c5]
       rw [if_pos trivial]
       simp only [utf_Take.j0]
       rw [if_pos trivial]
theorem take_ev (s : ByteArray) : Ev (fun k => utf_Take.f k s) (tk (bytesOf s)) := ⟨6, fun k hk => by
 obtain ⟨m, rfl⟩ : ∃ m, k = m + 6 := ⟨k - 6, by omega⟩
 exact take_eq m s⟩
end Go.Proofs.Ytjmmdphkgioooaa.La
end
section
namespace Go.Proofs.Ytjmmdphkgioooaa.P
open Go.RowKit Go.Proofs.YtjmmdphkgioooaaW.PrintWords Go.Proofs.YtjmmdphkgioooaaW.PrintLast Go.Proofs.YtjmmdphkgioooaaW.PrintMore
attribute [local go_sem] max2_int min2_int max_two min_two max_three min_three max_four min_four   -- for this text's walks alone
set_option linter.unusedVariables false
set_option linter.unusedSimpArgs false
/-! ### utf_Valid: function 27 -/
def utf_Valid.l0 : Nat → ByteArray → Int → Option (Int × Bool)
 | 0, _, _ => none
 | k + 1, x0, x4 => if x4 < (x0.size : Int) then (if 0 ≤ x4 then (if x4 ≤ (x0.size : Int) then ((utf_Take.f k (x0.extract (x4 : Int).toNat x0.size)).bind fun bt119 => (if bt119.2 = 0 then (some (x4, false)) else (utf_Valid.l0 k x0 (wrap64 (x4 + bt119.2))))) else (none)) else (none)) else (some ((x0.size : Int), true))
def utf_Valid.f (k : Nat) (a0 : ByteArray) : Option (Int × Bool) := utf_Valid.l0 k a0 0
set_option maxHeartbeats 8000000 in
set_option maxRecDepth 100000 in
theorem utf_Valid.calls (k : Nat) (a0 : ByteArray) (r1 : Int) (r2 : Bool) (w : World) (h : utf_Valid.f k a0 = some (r1, r2)) :
  Calls Try.prog 27 #[.string a0] w fun e w' => e = .returned (.tuple #[.int .i64 r1, .bool r2]) ∧ Drawn0 w w' := by
 have H : (utf_Valid.l0 k a0 0) = some (r1, r2) := h
 clear h
 have H' := Aside0.mk H
 clear H
 go_enter Try.func27, Try.ntmps27
 go_wp2
 go_loopg [4] k (fun kq v4 w' => ∃ (x4_1 : Int), v4 = .int .i64 x4_1 ∧ Aside0 (utf_Valid.l0 kq a0 x4_1 = some (r1, r2)) ∧ Aside0 (kq ≤ k) ∧ Drawn0 w w')
 case atStart => exact ⟨(0), (by first | rfl | (simp; done) | (simp [*]; done)), H', ⟨Nat.le_refl _⟩, by repeat (first | exact Drawn0.refl _ | apply Drawn0.step)⟩
 case round =>
  clear H'
  obtain ⟨x4_1, rfl, HA, HK1, ⟨m1, rfl⟩⟩ := hrel
  cases gk with
  | zero => exact absurd HA.out (by simp [utf_Valid.l0])
  | succ k1 =>
   have H := HA.out
   clear HA
   simp only [utf_Valid.l0] at H
   by_cases c2 : x4_1 < (a0.size : Int)
   ·rw [if_pos c2] at H
    have c2b0 : decide (x4_1 < (a0.size : Int)) = true := decide_eq_true c2
    clear c2
    by_cases c3 : 0 ≤ x4_1
    ·rw [if_pos c3] at H
     have c3b0 := eq_true c3
     have c3b1 : decide (0 ≤ x4_1) = true := decide_eq_true c3
     clear c3
     by_cases c4 : x4_1 ≤ (a0.size : Int)
     ·rw [if_pos c4] at H
      have c4b0 := eq_true c4
      have c4b1 : decide (x4_1 ≤ (a0.size : Int)) = true := decide_eq_true c4
      clear c4
      replace H := Option.bind_eq_some_iff.mp H
      obtain ⟨⟨t119, t120⟩, A50, H⟩ := H
      replace H : (if t120 = 0 then (some (x4_1, false)) else (utf_Valid.l0 k1 a0 (wrap64 (x4_1 + t120)))) = some (r1, r2) := H
      have A5 := Aside0.mk A50
      clear A50
      by_cases c6 : t120 = 0
      ·rw [if_pos c6] at H
       have c6b0 : (t120 == 0) = true := beq_iff_eq.mpr c6
       have c6b1 : (t120 != 0) = false := bne_eq_false_iff_eq.mpr c6
       clear c6
       simp only [Option.some.injEq, Prod.mk.injEq] at H
       obtain ⟨rfl, rfl⟩ := H
       go_wp2_with (first | ((with_reducible refine gate_callee (f := 33) rfl ?_); refine goesL_ (some 15) rfl rfl Try.func33 (by kernel_rfl) rfl #[.string (a0.extract (x4_1 : Int).toNat a0.size)] rfl (by (try simp only [List.map_toArray, List.map_cons, List.map_nil]); first | done | rfl | (simp only [List.length_drop, List.length_take]; rfl)) ?_; (with_reducible refine (utf_Take.calls k1 (a0.extract (x4_1 : Int).toNat a0.size) t119 t120 _ A5.out).mono ?_); rintro e w' ⟨rfl, ⟨nd, rfl⟩⟩; refine ⟨_, rfl, ?_⟩))
       go_ret2
       exact ⟨by first | rfl | (simp; done) | (simp [*]; done), by repeat (first | exact Drawn0.refl _ | apply Drawn0.step)⟩
      ·rw [if_neg c6] at H
       have c6b0 : (t120 == 0) = false := beq_eq_false_iff_ne.mpr c6
       have c6b1 : (t120 != 0) = true := bne_iff_ne.mpr c6
       have H' := Aside0.mk H
       clear H
       go_wp2_with (first | ((with_reducible refine gate_callee (f := 33) rfl ?_); refine goesL_ (some 15) rfl rfl Try.func33 (by kernel_rfl) rfl #[.string (a0.extract (x4_1 : Int).toNat a0.size)] rfl (by (try simp only [List.map_toArray, List.map_cons, List.map_nil]); first | done | rfl | (simp only [List.length_drop, List.length_take]; rfl)) ?_; (with_reducible refine (utf_Take.calls k1 (a0.extract (x4_1 : Int).toNat a0.size) t119 t120 _ A5.out).mono ?_); rintro e w' ⟨rfl, ⟨nd, rfl⟩⟩; refine ⟨_, rfl, ?_⟩))
       go_roundg k1
       case measure => have := HK1.out; omega
       case rel => exact ⟨(wrap64 (x4_1 + t120)), (by first | rfl | (simp; done) | (simp [*]; done)), H', ⟨by have := HK1.out; omega⟩, by repeat (first | exact Drawn0.refl _ | apply Drawn0.step)⟩
     ·rw [if_neg c4] at H
      exact absurd H (by simp)
    ·rw [if_neg c3] at H
     exact absurd H (by simp)
   ·rw [if_neg c2] at H
    have c2b0 : decide (x4_1 < (a0.size : Int)) = false := decide_eq_false c2
    clear c2
    simp only [Option.some.injEq, Prod.mk.injEq] at H
    obtain ⟨rfl, rfl⟩ := H
    go_wp2
    go_ret2
    exact ⟨by first | rfl | (simp; done) | (simp [*]; done), by repeat (first | exact Drawn0.refl _ | apply Drawn0.step)⟩
end Go.Proofs.Ytjmmdphkgioooaa.P
end
section
namespace Go.Proofs.Ytjmmdphkgioooaa.P
open Go.RowKit Go.Proofs.YtjmmdphkgioooaaW.PrintWords Go.Proofs.YtjmmdphkgioooaaW.PrintLast Go.Proofs.YtjmmdphkgioooaaW.PrintMore
attribute [local go_sem] max2_int min2_int max_two min_two max_three min_three max_four min_four   -- for this text's walks alone
set_option linter.unusedVariables false
set_option linter.unusedSimpArgs false
/-! ### utf_step: function 52 -/
def utf_step.f (k : Nat) (a0 : ByteArray) : Option (Int) := (utf_Take.f k a0).bind fun bt108 => (some (mx bt108.2 1))
set_option maxHeartbeats 8000000 in
set_option maxRecDepth 100000 in
theorem utf_step.calls (k : Nat) (a0 : ByteArray) (r : Int) (w : World) (h : utf_step.f k a0 = some r) :
  Calls Try.prog 52 #[.string a0] w fun e w' => e = .returned (.int .i64 r) ∧ Below w.heap.size w w' := by
 have HB := Aside0.mk (Below.refl w.heap.size w)
 have H : ((utf_Take.f k a0).bind fun bt108 => (some (mx bt108.2 1))) = some r := h
 clear h
 replace H := Option.bind_eq_some_iff.mp H
 obtain ⟨⟨t108, t109⟩, A20, H⟩ := H
 replace H : (some (mx t109 1)) = some r := H
 have A2 := Aside0.mk A20
 clear A20
 obtain ⟨ji3, hji3⟩ : ∃ j_ : Int, (mx t109 1) = j_ := ⟨_, rfl⟩
 replace H : (some ji3) = some r := by first | (rw [hji3] at H; exact H) | (simp only [hji3] at H ⊢; exact H)
 (try rw [hji3] at A2)
 (try (have hji3l : 1 ≤ ji3 := by (rw [← hji3]; unfold mx; (repeat' split) <;> omega)))
 (try (have hji3m : 0 ≤ ji3 := by omega))
 have hji3_ : (if t109 < 1 then 1 else t109) = ji3 := hji3
 obtain rfl := Option.some.inj H
 go_enter Try.func52, Try.ntmps52
 go_wp2_with (first | ((with_reducible refine gate_callee (f := 33) rfl ?_); refine goesL_ (some 7) rfl rfl Try.func33 (by kernel_rfl) rfl #[.string a0] rfl (by (try simp only [List.map_toArray, List.map_cons, List.map_nil]); first | done | rfl | (simp only [List.length_drop, List.length_take]; rfl)) ?_; (with_reducible refine (utf_Take.calls k a0 t108 t109 _ A2.out).mono ?_); rintro e w' ⟨rfl, ⟨nd, rfl⟩⟩; refine ⟨_, rfl, ?_⟩))
 go_ret
 exact ⟨by first | rfl | (simp [errW_none, errW_some] <;> rfl) | (simp [*, errW_none, errW_some, bne]; done) | (simp only [← hji3]; first | rfl | (simp [errW_none, errW_some] <;> rfl)) | (simp [*, errW_none, errW_some] <;> rfl), by repeat (first | (with_reducible first | exact HB.out | apply below_alloc | apply pw_below_drewN | apply below_drew1) | exact HB.out)⟩
end Go.Proofs.Ytjmmdphkgioooaa.P
end
section
namespace Go.Proofs.Ytjmmdphkgioooaa.P
open Go.RowKit Go.Proofs.YtjmmdphkgioooaaW.PrintWords Go.Proofs.YtjmmdphkgioooaaW.PrintLast Go.Proofs.YtjmmdphkgioooaaW.PrintMore
attribute [local go_sem] max2_int min2_int max_two min_two max_three min_three max_four min_four   -- for this text's walks alone
set_option linter.unusedVariables false
set_option linter.unusedSimpArgs false
/-! ### utf_Count: function 41 -/
def utf_Count.l0 : Nat → ByteArray → Int → Int → Option (Int)
 | 0, _, _, _ => none
 | k + 1, x0, x3, x4 => if x4 < (x0.size : Int) then (if 0 ≤ x4 then (if x4 ≤ (x0.size : Int) then ((utf_step.f k (x0.extract (x4 : Int).toNat x0.size)).bind fun t110 => (utf_Count.l0 k x0 (wrap64 (x3 + 1)) (wrap64 (x4 + t110)))) else (none)) else (none)) else (some x3)
def utf_Count.f (k : Nat) (a0 : ByteArray) : Option (Int) := utf_Count.l0 k a0 0 0
set_option maxHeartbeats 8000000 in
set_option maxRecDepth 100000 in
theorem utf_Count.calls (k : Nat) (a0 : ByteArray) (r : Int) (w : World) (h : utf_Count.f k a0 = some r) :
  Calls Try.prog 41 #[.string a0] w fun e w' => e = .returned (.int .i64 r) ∧ Below w.heap.size w w' := by
 have HB := Aside0.mk (Below.refl w.heap.size w)
 have H : (utf_Count.l0 k a0 0 0) = some r := h
 clear h
 have H' := Aside0.mk H
 clear H
 go_enter Try.func41, Try.ntmps41
 go_wp2
 go_loopg [3, 4] k (fun kq v3 v4 w' => ∃ (x3_1 : Int) (x4_1 : Int), v3 = .int .i64 x3_1 ∧ v4 = .int .i64 x4_1 ∧ Aside0 (utf_Count.l0 kq a0 x3_1 x4_1 = some r) ∧ Aside0 (kq ≤ k) ∧ Aside0 (Below w.heap.size w w'))
 case atStart => exact ⟨(0), (0), (by first | rfl | (simp; done) | (simp [*]; done)), (by first | rfl | (simp; done) | (simp [*]; done)), H', ⟨Nat.le_refl _⟩, ⟨by repeat (first | (with_reducible first | exact HB.out | apply below_alloc | apply pw_below_drewN | apply below_drew1) | exact HB.out)⟩⟩
 case round =>
  clear H'
  obtain ⟨x3_1, x4_1, rfl, rfl, HA, HK1, HB⟩ := hrel
  cases gk with
  | zero => exact absurd HA.out (by simp [utf_Count.l0])
  | succ k1 =>
   have H := HA.out
   clear HA
   simp only [utf_Count.l0] at H
   by_cases c2 : x4_1 < (a0.size : Int)
   ·rw [if_pos c2] at H
    have c2b0 : decide (x4_1 < (a0.size : Int)) = true := decide_eq_true c2
    clear c2
    by_cases c3 : 0 ≤ x4_1
    ·rw [if_pos c3] at H
     have c3b0 := eq_true c3
     have c3b1 : decide (0 ≤ x4_1) = true := decide_eq_true c3
     clear c3
     by_cases c4 : x4_1 ≤ (a0.size : Int)
     ·rw [if_pos c4] at H
      have c4b0 := eq_true c4
      have c4b1 : decide (x4_1 ≤ (a0.size : Int)) = true := decide_eq_true c4
      clear c4
      replace H := Option.bind_eq_some_iff.mp H
      obtain ⟨t110, A50, H⟩ := H
      replace H : (utf_Count.l0 k1 a0 (wrap64 (x3_1 + 1)) (wrap64 (x4_1 + t110))) = some r := H
      have A5 := Aside0.mk A50
      clear A50
      have H' := Aside0.mk H
      clear H
      go_wp2_with (first | ((with_reducible refine gate_callee (f := 52) rfl ?_); refine goesL_ (some 13) rfl rfl Try.func52 (by kernel_rfl) rfl #[.string (a0.extract (x4_1 : Int).toNat a0.size)] rfl (by (try simp only [List.map_toArray, List.map_cons, List.map_nil]); first | done | rfl | (simp only [List.length_drop, List.length_take]; rfl)) ?_; (with_reducible refine (utf_step.calls k1 (a0.extract (x4_1 : Int).toNat a0.size) t110 _ A5.out).mono ?_); rintro e w6 ⟨rfl, hb⟩; refine ⟨_, rfl, ?_⟩; have n0_ := Aside0.mk (below_step (by repeat (first | (with_reducible first | exact HB.out | apply below_alloc | apply pw_below_drewN | apply below_drew1) | exact HB.out)) hb); clear HB; have HB := n0_; clear n0_; (try clear hb); (try clear hb2); (try clear hk); (try clear hi)))
      go_roundg k1
      case measure => have := HK1.out; omega
      case rel => exact ⟨(wrap64 (x3_1 + 1)), (wrap64 (x4_1 + t110)), (by first | rfl | (simp; done) | (simp [*]; done)), (by first | rfl | (simp; done) | (simp [*]; done)), H', ⟨by have := HK1.out; omega⟩, ⟨by repeat (first | (with_reducible first | exact HB.out | apply below_alloc | apply pw_below_drewN | apply below_drew1) | exact HB.out)⟩⟩
     ·rw [if_neg c4] at H
      exact absurd H (by simp)
    ·rw [if_neg c3] at H
     exact absurd H (by simp)
   ·rw [if_neg c2] at H
    have c2b0 : decide (x4_1 < (a0.size : Int)) = false := decide_eq_false c2
    clear c2
    obtain rfl := Option.some.inj H
    go_wp2
    go_ret
    exact ⟨by first | rfl | (simp [errW_none, errW_some] <;> rfl) | (simp [*, errW_none, errW_some, bne]; done) | (simp [*, errW_none, errW_some] <;> rfl), by repeat (first | (with_reducible first | exact HB.out | apply below_alloc | apply pw_below_drewN | apply below_drew1) | exact HB.out)⟩
end Go.Proofs.Ytjmmdphkgioooaa.P
end
section
namespace Go.Proofs.Ytjmmdphkgioooaa.La
open Go.RowKit Go.Proofs.Ytjmmdphkgioooaa.P Go.Proofs.YtjmmdphkgioooaaW.PrintWords Go.Proofs.YtjmmdphkgioooaaW.PrintLast Go.Proofs.YtjmmdphkgioooaaW.PrintMore
def badR (size at_ : Nat) : Option Nat → Int × Bool
 | none => ((size : Int), true)
 | some p => (((at_ + p : Nat) : Int), false)
theorem stp_int {l : List Int} (hl : Bytes l) (h : (tk l).2 ≠ 0) : (tk l).2 = (stp l : Int) := by
 have := tk_bound l hl
 unfold stp
 rw [if_neg h]
 omega
theorem valid_l0 (s : ByteArray) (hs : s.size ≤ 140737488355328) (n : Nat) : ∀ (i : Nat), i ≤ s.size → s.size - i = n → Ev (fun k => utf_Valid.l0 k s (i : Int)) (badR s.size i (bad ((bytesOf s).drop i))) := by
 induction n using Nat.strongRecOn with
 | _ n ih =>
 intro i hi hn
 have hL : ((bytesOf s).drop i).length = s.size - i := by rw [List.length_drop, size_of]
 have hBd : Bytes ((bytesOf s).drop i) := (bytes_of s).drop i
 refine Ev.step (fun k => by rw [utf_Valid.l0]) ?_
 by_cases h : i < s.size
 ·have h1 : (i : Int) < (s.size : Int) := by omega
  have h2 : (0 : Int) ≤ (i : Int) := by omega
  have h3 : (i : Int) ≤ (s.size : Int) := by omega
  have hne : (bytesOf s).drop i ≠ [] := fun e => by rw [e] at hL; simp at hL; omega
  simp only [if_pos h1, if_pos h2, if_pos h3, Int.toNat_natCast]
  refine Ev.bind (take_ev _) ?_
  rw [bytesOf_drop]
  by_cases h0 : (tk ((bytesOf s).drop i)).2 = 0
  ·simp only [if_pos h0, bad_none hne h0, badR]
   exact Ev.now _
  ·simp only [if_neg h0]
   have hb := tk_bound _ hBd
   have hp := stp_pos _ hBd
   have hst := stp_le hBd hne
   rw [stp_int hBd h0, wrap_id (by omega) (by omega), bad_step hne h0, List.drop_drop]
   have e : (i : Int) + (stp ((bytesOf s).drop i) : Int) = ((i + stp ((bytesOf s).drop i) : Nat) : Int) := by omega
   rw [e]
   have := ih (s.size - (i + stp ((bytesOf s).drop i))) (by omega) (i + stp ((bytesOf s).drop i)) (by omega) rfl
   generalize stp ((bytesOf s).drop i) = q at *
   cases hc : bad ((bytesOf s).drop (i + q)) with
   | none => rw [hc] at this; exact this
   | some p =>
    rw [hc] at this
    simp only [Option.map_some, badR] at this ⊢
    rw [show i + (p + q) = i + q + p by omega]
    exact this
 ·obtain rfl : i = s.size := by omega
  simp only [if_neg (show ¬ ((s.size : Int) < (s.size : Int)) by omega)]
  rw [List.drop_eq_nil_of_le (by rw [size_of]; omega), bad_nil]
  exact Ev.now _
theorem valid_ev (s : ByteArray) (hs : s.size ≤ 140737488355328) : Ev (fun k => utf_Valid.f k s) (badR s.size 0 (bad (bytesOf s))) :=
 valid_l0 s hs _ 0 (by omega) rfl
theorem mx_stp {l : List Int} (hl : Bytes l) : mx (tk l).2 1 = (stp l : Int) := by
 have := tk_bound l hl
 unfold mx stp
 split <;> split <;> omega
theorem step_ev (s : ByteArray) : Ev (fun k => utf_step.f k s) ((stp (bytesOf s) : Int)) := by
 refine Ev.congr (fun k => by rw [utf_step.f]) (Ev.bind (take_ev s) ?_)
 rw [mx_stp (bytes_of s)]
 exact Ev.now _
theorem count_l0 (s : ByteArray) (hs : s.size ≤ 140737488355328) (n : Nat) : ∀ (c i : Nat), i ≤ s.size → s.size - i = n → c ≤ i → Ev (fun k => utf_Count.l0 k s (c : Int) (i : Int)) (((c + cnt ((bytesOf s).drop i) : Nat) : Int)) := by
 induction n using Nat.strongRecOn with
 | _ n ih =>
 intro c i hi hn hc
 have hL : ((bytesOf s).drop i).length = s.size - i := by rw [List.length_drop, size_of]
 have hBd : Bytes ((bytesOf s).drop i) := (bytes_of s).drop i
 refine Ev.step (fun k => by rw [utf_Count.l0]) ?_
 by_cases h : i < s.size
 ·have h1 : (i : Int) < (s.size : Int) := by omega
  have h2 : (0 : Int) ≤ (i : Int) := by omega
  have h3 : (i : Int) ≤ (s.size : Int) := by omega
  have hne : (bytesOf s).drop i ≠ [] := fun e => by rw [e] at hL; simp at hL; omega
  simp only [if_pos h1, if_pos h2, if_pos h3, Int.toNat_natCast]
  refine Ev.bind (step_ev _) ?_
  rw [bytesOf_drop]
  have hp := stp_pos _ hBd
  have hst := stp_le hBd hne
  rw [wrap_id (by omega) (by omega), wrap_id (by omega) (by omega), cnt_step hne, List.drop_drop]
  have e : (i : Int) + (stp ((bytesOf s).drop i) : Int) = ((i + stp ((bytesOf s).drop i) : Nat) : Int) := by omega
  rw [e, show (c : Int) + 1 = ((c + 1 : Nat) : Int) by omega]
  have := ih (s.size - (i + stp ((bytesOf s).drop i))) (by omega) (c + 1) (i + stp ((bytesOf s).drop i)) (by omega) rfl (by omega)
  rw [show c + (cnt ((bytesOf s).drop (i + stp ((bytesOf s).drop i))) + 1) = c + 1 + cnt ((bytesOf s).drop (i + stp ((bytesOf s).drop i))) by omega]
  exact this
 ·obtain rfl : i = s.size := by omega
  simp only [if_neg (show ¬ ((s.size : Int) < (s.size : Int)) by omega)]
  rw [List.drop_eq_nil_of_le (by rw [size_of]; omega), cnt_nil]
  exact Ev.now _
theorem count_ev (s : ByteArray) (hs : s.size ≤ 140737488355328) : Ev (fun k => utf_Count.f k s) ((cnt (bytesOf s) : Int)) := by
 have := count_l0 s hs _ 0 0 (by omega) rfl (by omega)
 rw [Nat.zero_add] at this
 exact this
end Go.Proofs.Ytjmmdphkgioooaa.La
end
section
namespace Go.Proofs.Ytjmmdphkgioooaa.P
open Go.RowKit Go.Proofs.YtjmmdphkgioooaaW.PrintWords Go.Proofs.YtjmmdphkgioooaaW.PrintLast Go.Proofs.YtjmmdphkgioooaaW.PrintMore
attribute [local go_sem] max2_int min2_int max_two min_two max_three min_three max_four min_four   -- for this text's walks alone
set_option linter.unusedVariables false
set_option linter.unusedSimpArgs false
/-! ### stringslite_HasPrefix: function 47 -/
def stringslite_HasPrefix.f (a0 : ByteArray) (a1 : ByteArray) : Option (Bool) := if (a0.size : Int) ≥ (a1.size : Int) then (if 0 ≤ (a1.size : Int) then (if (a1.size : Int) ≤ (a0.size : Int) then (some ((a0.extract 0 ((a1.size : Int) : Int).toNat).toList == a1.toList)) else (none)) else (none)) else (some false)
set_option maxHeartbeats 8000000 in
set_option maxRecDepth 100000 in
theorem stringslite_HasPrefix.calls (a0 : ByteArray) (a1 : ByteArray) (r : Bool) (w : World) (h : stringslite_HasPrefix.f a0 a1 = some r) :
  Calls Try.prog 47 #[.string a0, .string a1] w fun e w' => e = .returned (.bool r) ∧ Drawn0 w w' := by
 have H : (if (a0.size : Int) ≥ (a1.size : Int) then (if 0 ≤ (a1.size : Int) then (if (a1.size : Int) ≤ (a0.size : Int) then (some ((a0.extract 0 ((a1.size : Int) : Int).toNat).toList == a1.toList)) else (none)) else (none)) else (some false)) = some r := h
 clear h
 by_cases c3 : (a0.size : Int) ≥ (a1.size : Int)
 ·rw [if_pos c3] at H
  have c3b0 : decide ((a1.size : Int) ≤ (a0.size : Int)) = true := decide_eq_true c3
  have c3b1 : decide (a1.size ≤ a0.size) = true := decide_eq_true (Int.ofNat_le.mp c3)
  clear c3
  by_cases c4 : 0 ≤ (a1.size : Int)
  ·rw [if_pos c4] at H
   have c4b0 := eq_true c4
   have c4b1 : decide (0 ≤ (a1.size : Int)) = true := decide_eq_true c4
   clear c4
   by_cases c5 : (a1.size : Int) ≤ (a0.size : Int)
   ·rw [if_pos c5] at H
    have c5b0 := eq_true c5
    have c5b1 : decide ((a1.size : Int) ≤ (a0.size : Int)) = true := decide_eq_true c5
    clear c5
    obtain rfl := Option.some.inj H
    go_enter Try.func47, Try.ntmps47
    go_wp2
    go_ret
    exact ⟨by first | rfl | (simp; done) | (simp [*]; done), by repeat (first | exact Drawn0.refl _ | apply Drawn0.step)⟩
   ·rw [if_neg c5] at H
    exact absurd H (by simp)
  ·rw [if_neg c4] at H
   exact absurd H (by simp)
 ·rw [if_neg c3] at H
  have c3b0 : decide ((a1.size : Int) ≤ (a0.size : Int)) = false := decide_eq_false c3
  have c3b1 : decide (a1.size ≤ a0.size) = false := decide_eq_false (fun h => c3 (Int.ofNat_le.mpr h))
  clear c3
  obtain rfl := Option.some.inj H
  go_enter Try.func47, Try.ntmps47
  go_wp2
  go_ret
  exact ⟨by first | rfl | (simp; done) | (simp [*]; done), by repeat (first | exact Drawn0.refl _ | apply Drawn0.step)⟩
end Go.Proofs.Ytjmmdphkgioooaa.P
end
section
namespace Go.Proofs.Ytjmmdphkgioooaa.P
open Go.RowKit Go.Proofs.YtjmmdphkgioooaaW.PrintWords Go.Proofs.YtjmmdphkgioooaaW.PrintLast Go.Proofs.YtjmmdphkgioooaaW.PrintMore
attribute [local go_sem] max2_int min2_int max_two min_two max_three min_three max_four min_four   -- for this text's walks alone
set_option linter.unusedVariables false
set_option linter.unusedSimpArgs false
/-! ### strings_HasPrefix: function 36 -/
def strings_HasPrefix.f (a0 : ByteArray) (a1 : ByteArray) : Option (Bool) := (stringslite_HasPrefix.f a0 a1).bind fun t132 => (some t132)
set_option maxHeartbeats 8000000 in
set_option maxRecDepth 100000 in
theorem strings_HasPrefix.calls (a0 : ByteArray) (a1 : ByteArray) (r : Bool) (w : World) (h : strings_HasPrefix.f a0 a1 = some r) :
  Calls Try.prog 36 #[.string a0, .string a1] w fun e w' => e = .returned (.bool r) ∧ Drawn0 w w' := by
 have H : ((stringslite_HasPrefix.f a0 a1).bind fun t132 => (some t132)) = some r := h
 clear h
 replace H := Option.bind_eq_some_iff.mp H
 obtain ⟨t132, A30, H⟩ := H
 replace H : (some t132) = some r := H
 have A3 := Aside0.mk A30
 clear A30
 obtain rfl := Option.some.inj H
 go_enter Try.func36, Try.ntmps36
 go_wp2_with (first | ((with_reducible refine gate_callee (f := 47) rfl ?_); refine goesL_ (some 7) rfl rfl Try.func47 (by kernel_rfl) rfl #[.string a0, .string a1] rfl (by (try simp only [List.map_toArray, List.map_cons, List.map_nil]); first | done | rfl | (simp only [List.length_drop, List.length_take]; rfl)) ?_; (with_reducible refine (stringslite_HasPrefix.calls a0 a1 t132 _ A3.out).mono ?_); rintro e w' ⟨rfl, ⟨nd, rfl⟩⟩; refine ⟨_, rfl, ?_⟩))
 go_ret
 exact ⟨by first | rfl | (simp; done) | (simp [*]; done), by repeat (first | exact Drawn0.refl _ | apply Drawn0.step)⟩
end Go.Proofs.Ytjmmdphkgioooaa.P
end
section
namespace Go.Proofs.Ytjmmdphkgioooaa.La
open Go.RowKit Go.Proofs.Ytjmmdphkgioooaa.P Go.Proofs.YtjmmdphkgioooaaW.PrintWords Go.Proofs.YtjmmdphkgioooaaW.PrintLast Go.Proofs.YtjmmdphkgioooaaW.PrintMore
theorem hasPrefix_eq (s p : ByteArray) : strings_HasPrefix.f s p = some (decide ((bytesOf s).take p.size = bytesOf p)) := by
 unfold strings_HasPrefix.f stringslite_HasPrefix.f
 by_cases h : (s.size : Int) ≥ (p.size : Int)
 ·rw [if_pos h, if_pos (by omega), if_pos h, Option.bind_some]
  congr 1
  rw [Bool.eq_iff_iff, beq_iff_eq, decide_eq_true_eq, toList_eq_iff, bytesOf_take, Int.toNat_natCast]
 ·rw [if_neg h, Option.bind_some]
  congr 1
  rw [eq_comm, decide_eq_false_iff_not]
  intro e
  have := congrArg List.length e
  rw [List.length_take, size_of, size_of] at this
  omega
theorem pre_at (t : ByteArray) (i : Nat) (p : ByteArray) : strings_HasPrefix.f (t.extract i t.size) p = some (decide (((bytesOf t).drop i).take p.size = bytesOf p)) := by rw [hasPrefix_eq, bytesOf_drop]
end Go.Proofs.Ytjmmdphkgioooaa.La
end
section
namespace Go.Proofs
open Go.Shelf
def Try.lays169_ren : Go.Shelf.Ren := ⟨fun | 169 => 55 | n => n, fun | 70 => 79 | 9 => 9 | 0 => 0 | 72 => 81 | 37 => 38 | 127 => 87 | 3 => 3 | 5 => 5 | n => n, fun | n => n⟩
theorem Try.lays169 : Go.Proofs.Lays.n169 Try.prog Try.lays169_ren := {
 mixed := by kernel_rfl
 f169 := Try.func55.trans (congrArg some (by kernel_rfl))
 t0 := Try.underlying0
 a0 := Try.isAgg0
 z0 := Try.sizeOf0
 v0 := Try.zeroValue0
 t3 := Try.underlying3
 a3 := Try.isAgg3
 z3 := Try.sizeOf3
 v3 := Try.zeroValue3
 t9 := Try.underlying9
 a9 := Try.isAgg9
 z9 := Try.sizeOf9
 v9 := Try.zeroValue9
 t37 := Try.underlying38
 a37 := Try.isAgg38
 z37 := Try.sizeOf38
 v37 := Try.zeroValue38
 t70 := Try.underlying79
 a70 := Try.isAgg79
 z70 := Try.sizeOf79
 v70 := Try.zeroValue79
 t72 := Try.underlying81
 a72 := Try.isAgg81
 z72 := Try.sizeOf81
 v72 := Try.zeroValue81
 t127 := Try.underlying87
 a127 := Try.isAgg87
 z127 := Try.sizeOf87
 v127 := Try.zeroValue87 }
theorem Try.Builder_Extra_169 : Builder.Extra Try.prog Try.lays169_ren := {
 sizeBuilder := by kernel_rfl
 liesBuilder := by kernel_rfl
 t5 := Try.underlying5
 a5 := Try.isAgg5
 z5 := Try.sizeOf5
 v5 := Try.zeroValue5
 infoByte := by kernel_rfl
 cellsByte := by kernel_rfl
 sizeByte := by kernel_rfl
 neB5 := by decide }
def Try.lays119_ren : Go.Shelf.Ren := ⟨fun | 119 => 70 | n => n, fun | 21 => 21 | 4 => 4 | n => n, fun | n => n⟩
theorem Try.lays119 : Go.Proofs.Lays.n119 Try.prog Try.lays119_ren := {
 mixed := by kernel_rfl
 f119 := Try.func70.trans (congrArg some (by kernel_rfl))
 t4 := Try.underlying4
 a4 := Try.isAgg4
 z4 := Try.sizeOf4
 v4 := Try.zeroValue4
 t21 := Try.underlying21
 a21 := Try.isAgg21
 z21 := Try.sizeOf21
 v21 := Try.zeroValue21 }
theorem Try.utf8_ValidRune (r : Int) (w : World) :
  Calls Try.prog 70 #[.int .i32 r] w fun e w' => e = .returned (.bool (Lib.validRune r)) ∧ w' = w := Any.utf8_ValidRune Try.lays119 r w
def Try.lays137_ren : Go.Shelf.Ren := ⟨fun | 137 => 53 | 217 => 59 | 266 => 68 | n => n, fun | 9 => 9 | 5 => 5 | 3 => 3 | n => n, fun | n => n⟩
theorem Try.lays137 : Go.Proofs.Lays.n137 Try.prog Try.lays137_ren := {
 mixed := by kernel_rfl
 f137 := Try.func53.trans (congrArg some (by kernel_rfl))
 f217 := Try.func59.trans (congrArg some (by kernel_rfl))
 f266 := Try.func68.trans (congrArg some (by kernel_rfl))
 t3 := Try.underlying3
 a3 := Try.isAgg3
 z3 := Try.sizeOf3
 v3 := Try.zeroValue3
 t5 := Try.underlying5
 a5 := Try.isAgg5
 z5 := Try.sizeOf5
 v5 := Try.zeroValue5
 t9 := Try.underlying9
 a9 := Try.isAgg9
 z9 := Try.sizeOf9
 v9 := Try.zeroValue9 }
open Go.RowKit in
theorem Try.strings_IndexByte (s : ByteArray) (c : Int) (w : World) :
  Calls Try.prog 53 #[.string s, .int .u8 c] w fun e w' => e = .returned (.int .i64 (Lib.indexByte s.data.toList c.toNat.toUInt8)) ∧ w' = w := Any.strings_IndexByte Try.lays137 s c w
open Go.RowKit in
theorem Try.Builder_String_any_k (B b : Nat) (l : List UInt8) (w : World) (h : Lib.IsBuilderF 81 5 B b (Lib.byteCells l) w) (hBw : B ≤ w.heap.size) :
  Calls Try.prog 55 #[.pointer (some ⟨b, 0, none⟩)] w fun e w' => e = .returned (.string ⟨l.toArray⟩) ∧ (Lib.IsBuilderF 81 5 B b (Lib.byteCells l) w' ∧ Below B w w' ∧ Lib.OthersKept 5 (some b) w w') := Any.Builder_String_any_k Try.lays169 Try.Builder_Extra_169 B b l w h hBw
def Try.lays138_ren : Go.Shelf.Ren := ⟨fun | 138 => 40 | 195 => 49 | 218 => 50 | 143 => 51 | 219 => 58 | 217 => 59 | 225 => 65 | 224 => 66 | 267 => 67 | 266 => 68 | 314 => 71 | n => n, fun | 9 => 9 | 3 => 3 | 4 => 4 | 5 => 5 | 0 => 0 | 46 => 76 | 146 => 99 | 51 => 98 | n => n, fun | 1 => 0 | n => n⟩
theorem Try.lays138 : Go.Proofs.Lays.n138 Try.prog Try.lays138_ren := {
 mixed := by kernel_rfl
 f138 := Try.func40.trans (congrArg some (by kernel_rfl))
 f143 := Try.func51.trans (congrArg some (by kernel_rfl))
 f195 := Try.func49.trans (congrArg some (by kernel_rfl))
 f217 := Try.func59.trans (congrArg some (by kernel_rfl))
 f218 := Try.func50.trans (congrArg some (by kernel_rfl))
 f219 := Try.func58.trans (congrArg some (by kernel_rfl))
 f224 := Try.func66.trans (congrArg some (by kernel_rfl))
 f225 := Try.func65.trans (congrArg some (by kernel_rfl))
 f266 := Try.func68.trans (congrArg some (by kernel_rfl))
 f267 := Try.func67.trans (congrArg some (by kernel_rfl))
 f314 := Try.func71.trans (congrArg some (by kernel_rfl))
 t0 := Try.underlying0
 a0 := Try.isAgg0
 z0 := Try.sizeOf0
 v0 := Try.zeroValue0
 t3 := Try.underlying3
 a3 := Try.isAgg3
 z3 := Try.sizeOf3
 v3 := Try.zeroValue3
 t4 := Try.underlying4
 a4 := Try.isAgg4
 z4 := Try.sizeOf4
 v4 := Try.zeroValue4
 t5 := Try.underlying5
 a5 := Try.isAgg5
 z5 := Try.sizeOf5
 v5 := Try.zeroValue5
 t9 := Try.underlying9
 a9 := Try.isAgg9
 z9 := Try.sizeOf9
 v9 := Try.zeroValue9
 t46 := Try.underlying76
 a46 := Try.isAgg76
 z46 := Try.sizeOf76
 v46 := Try.zeroValue76
 t51 := Try.underlying98
 a51 := Try.isAgg98
 z51 := Try.sizeOf98
 v51 := Try.zeroValue98
 t146 := Try.underlying99
 a146 := Try.isAgg99
 z146 := Try.sizeOf99
 v146 := Try.zeroValue99
 g1 := by kernel_rfl }
open Go.RowKit Go.Lib in
theorem Try.strings_Count_one (s : ByteArray) (c : UInt8) (w : World) :
  Calls Try.prog 40 #[.string s, .string ⟨#[c]⟩] w fun e w' => e = .returned (.int .i64 (Lib.countByte s.data.toList c)) ∧ w' = w := Any.strings_Count_one Try.lays138 s c w
def Try.lays152_ren : Go.Shelf.Ren := ⟨fun | 152 => 61 | 137 => 53 | 119 => 70 | 224 => 66 | 225 => 65 | 217 => 59 | 266 => 68 | n => n, fun | 9 => 9 | 21 => 21 | 3 => 3 | 4 => 4 | 5 => 5 | 0 => 0 | 46 => 76 | n => n, fun | n => n⟩
theorem Try.lays152 : Go.Proofs.Lays.n152 Try.prog Try.lays152_ren := {
 mixed := by kernel_rfl
 f119 := Try.func70.trans (congrArg some (by kernel_rfl))
 f137 := Try.func53.trans (congrArg some (by kernel_rfl))
 f152 := Try.func61.trans (congrArg some (by kernel_rfl))
 f217 := Try.func59.trans (congrArg some (by kernel_rfl))
 f224 := Try.func66.trans (congrArg some (by kernel_rfl))
 f225 := Try.func65.trans (congrArg some (by kernel_rfl))
 f266 := Try.func68.trans (congrArg some (by kernel_rfl))
 t0 := Try.underlying0
 a0 := Try.isAgg0
 z0 := Try.sizeOf0
 v0 := Try.zeroValue0
 t3 := Try.underlying3
 a3 := Try.isAgg3
 z3 := Try.sizeOf3
 v3 := Try.zeroValue3
 t4 := Try.underlying4
 a4 := Try.isAgg4
 z4 := Try.sizeOf4
 v4 := Try.zeroValue4
 t5 := Try.underlying5
 a5 := Try.isAgg5
 z5 := Try.sizeOf5
 v5 := Try.zeroValue5
 t9 := Try.underlying9
 a9 := Try.isAgg9
 z9 := Try.sizeOf9
 v9 := Try.zeroValue9
 t21 := Try.underlying21
 a21 := Try.isAgg21
 z21 := Try.sizeOf21
 v21 := Try.zeroValue21
 t46 := Try.underlying76
 a46 := Try.isAgg76
 z46 := Try.sizeOf76
 v46 := Try.zeroValue76 }
open Go.RowKit Go.Lib in
theorem Try.strings_IndexRune_ascii (s : ByteArray) (r : Int) (w : World) (h0 : 0 ≤ r) (h1 : r < 128) :
  Calls Try.prog 61 #[.string s, .int .i32 r] w fun e w' => e = .returned (.int .i64 (Lib.indexByte s.data.toList r.toNat.toUInt8)) ∧ w' = w := Any.strings_IndexRune_ascii Try.lays152 s r w h0 h1
def Try.lays226_ren : Go.Shelf.Ren := ⟨fun | 226 => 62 | n => n, fun | 3 => 3 | 4 => 4 | n => n, fun | n => n⟩
theorem Try.lays226 : Go.Proofs.Lays.n226 Try.prog Try.lays226_ren := {
 mixed := by kernel_rfl
 f226 := Try.func62.trans (congrArg some (by kernel_rfl))
 t3 := Try.underlying3
 a3 := Try.isAgg3
 z3 := Try.sizeOf3
 v3 := Try.zeroValue3
 t4 := Try.underlying4
 a4 := Try.isAgg4
 z4 := Try.sizeOf4
 v4 := Try.zeroValue4 }
open Go.RowKit Go.Lib in
theorem Try.strings_shouldUseASCIISet (n : Int) (w : World) :
  Calls Try.prog 62 #[.int .i64 n] w fun e w' => e = .returned (.bool (decide (8 < n))) ∧ w' = w := Any.strings_shouldUseASCIISet Try.lays226 n w
def Try.lays153_ren : Go.Shelf.Ren := ⟨fun | 153 => 57 | 152 => 61 | 226 => 62 | 227 => 63 | 228 => 64 | 137 => 53 | 119 => 70 | 224 => 66 | 225 => 65 | 217 => 59 | 266 => 68 | n => n, fun | 9 => 9 | 3 => 3 | 4 => 4 | 5 => 5 | 21 => 21 | 117 => 91 | 116 => 90 | 0 => 0 | 46 => 76 | 124 => 97 | n => n, fun | n => n⟩
theorem Try.lays153 : Go.Proofs.Lays.n153 Try.prog Try.lays153_ren := {
 mixed := by kernel_rfl
 f119 := Try.func70.trans (congrArg some (by kernel_rfl))
 f137 := Try.func53.trans (congrArg some (by kernel_rfl))
 f152 := Try.func61.trans (congrArg some (by kernel_rfl))
 f153 := Try.func57.trans (congrArg some (by kernel_rfl))
 f217 := Try.func59.trans (congrArg some (by kernel_rfl))
 f224 := Try.func66.trans (congrArg some (by kernel_rfl))
 f225 := Try.func65.trans (congrArg some (by kernel_rfl))
 f226 := Try.func62.trans (congrArg some (by kernel_rfl))
 f227 := Try.func63.trans (congrArg some (by kernel_rfl))
 f228 := Try.func64.trans (congrArg some (by kernel_rfl))
 f266 := Try.func68.trans (congrArg some (by kernel_rfl))
 t0 := Try.underlying0
 a0 := Try.isAgg0
 z0 := Try.sizeOf0
 v0 := Try.zeroValue0
 t3 := Try.underlying3
 a3 := Try.isAgg3
 z3 := Try.sizeOf3
 v3 := Try.zeroValue3
 t4 := Try.underlying4
 a4 := Try.isAgg4
 z4 := Try.sizeOf4
 v4 := Try.zeroValue4
 t5 := Try.underlying5
 a5 := Try.isAgg5
 z5 := Try.sizeOf5
 v5 := Try.zeroValue5
 t9 := Try.underlying9
 a9 := Try.isAgg9
 z9 := Try.sizeOf9
 v9 := Try.zeroValue9
 t21 := Try.underlying21
 a21 := Try.isAgg21
 z21 := Try.sizeOf21
 v21 := Try.zeroValue21
 t46 := Try.underlying76
 a46 := Try.isAgg76
 z46 := Try.sizeOf76
 v46 := Try.zeroValue76
 t116 := Try.underlying90
 a116 := Try.isAgg90
 z116 := Try.sizeOf90
 t117 := Try.underlying91
 a117 := Try.isAgg91
 z117 := Try.sizeOf91
 v117 := Try.zeroValue91
 t124 := Try.underlying97
 a124 := Try.isAgg97
 z124 := Try.sizeOf97
 v124 := Try.zeroValue97 }
open Go.RowKit Go.Lib in
theorem Try.strings_IndexAny_long (hv116 : ∀ w, (zeroValue 90).run Try.prog w = .ok (.agg (Array.replicate 256 (.bool false))) w) (s chars : ByteArray) (w : World) (h2 : 2 ≤ chars.size) (h8 : 8 < s.size) (hs : s.size < 4294967281) (hcs : chars.size < 4294967281) (hascii : ∀ (j : Nat) b, chars.data.toList[j]? = some b → b.toNat < 128) :
  Calls Try.prog 57 #[.string s, .string chars] w fun e w' => e = .returned (.int .i64 (Lib.indexAny s.data.toList chars.data.toList)) ∧ w' = ((w.alloc (.cells (Lib.setCells chars.data.toList) 90)).alloc (.cells (Lib.setCells chars.data.toList) 90)) := Any.strings_IndexAny_long Try.lays153 hv116 (by kernel_rfl) s chars w h2 h8 hs hcs hascii
end Go.Proofs
end
section
namespace Go.Proofs.Ytjmmdphkgioooaa.P
open Go.RowKit Go.Proofs.Ytjmmdphkgioooaa.La Go.Proofs.YtjmmdphkgioooaaW.PrintWords Go.Proofs.YtjmmdphkgioooaaW.PrintLast Go.Proofs.YtjmmdphkgioooaaW.PrintMore
abbrev IsB (B b : Nat) (bs : List Value) (w : World) : Prop := Lib.IsBuilderF 81 5 B b bs w
abbrev AtB (B b : Nat) (bs : List Value) (w : World) : Prop := Lib.BuilderAtF 81 5 B b (.pointer (some ⟨b, 0, none⟩)) bs w
theorem bsize : (Try.prog.info? 81).map (·.size) = some 2 := by kernel_rfl
theorem blies : liesAt Try.prog Try.prog.depth 81 (2 / Try.prog.cellsOf 81) 0 81 1 = true := by kernel_rfl
theorem bbyte : (Try.prog.info? 5).map (fun i => (i.zero, i.size, i.bytes)) = some (some (.int .u8 0), 1, 1) := by kernel_rfl
set_option maxHeartbeats 2000000 in
set_option maxRecDepth 100000 in
theorem bcheck_new (b : Nat) (w : World) (h0 : w.cell? ⟨b, 0, none⟩ = some (.pointer none)) (hsh : w.shape? b = some (81, 2)) (hfz : w.frozen? ⟨b, 0, none⟩ = false) :
  Calls Try.prog 60 #[.pointer (some ⟨b, 0, none⟩)] w fun e w' => e = .returned (.tuple #[]) ∧ w' = w.setCell ⟨b, 0, none⟩ (.pointer (some ⟨b, 0, none⟩)) := by
 obtain ⟨j, hj, hjs⟩ := Option.map_eq_some_iff.1 bsize
 go_enter Try.func60, Try.ntmps60
 go_wp2
 rw [Lib.run_to_unsafe w ⟨b, 0, none⟩ Try.underlying79 Try.underlying94 hj (by rw [hjs]; decide) hsh (Nat.zero_lt_succ 1)]
 simp only [Result.andThen]
 rw [Oper.upon_value]
 go_wp2
 rw [run_callFunc_extern Try.func69 (by kernel_rfl) (by kernel_rfl) (by kernel_rfl) (e := Extern.AbiNoEscape.same) (by kernel_rfl)]
 rw [Lib.run_noEscape]
 simp only [Result.andThen]
 rw [Oper.upon_value]
 go_wp2
 rw [Lib.run_from_unsafe w ⟨b, 0, none⟩ Try.underlying94 Try.underlying79 hj hsh blies]
 simp only [Result.andThen]
 rw [Oper.upon_value]
 go_wp2
 go_end0
 exact ⟨rfl, rfl⟩
set_option maxHeartbeats 2000000 in
set_option maxRecDepth 100000 in
theorem bcheck_used (b : Nat) (w : World) (h0 : w.cell? ⟨b, 0, none⟩ = some (.pointer (some ⟨b, 0, none⟩))) :
  Calls Try.prog 60 #[.pointer (some ⟨b, 0, none⟩)] w fun e w' => e = .returned (.tuple #[]) ∧ w' = w := by
 obtain ⟨j, hj, _⟩ := Option.map_eq_some_iff.1 bsize
 go_enter Try.func60, Try.ntmps60
 go_wp2
 rw [Lib.run_neq_ptr_same w _ Try.underlying79 hj]
 go_wp2
 go_end0
 exact ⟨rfl, rfl⟩
theorem bcheck (B b : Nat) (bs : List Value) (w : World) (h : IsB B b bs w) :
  Calls Try.prog 60 #[.pointer (some ⟨b, 0, none⟩)] w fun e w' => e = .returned (.tuple #[]) ∧ AtB B b bs w' ∧ Below B w w' := by
 rcases h with h | h
 ·refine (bcheck_new b w h.cell0 h.shape h.frozen0).mono ?_
  rintro e w' ⟨rfl, rfl⟩
  exact ⟨rfl, h.used _, (Below.refl B w).setCell (p := ⟨b, 0, none⟩) h.1 _⟩
 ·refine (bcheck_used b w h.cell0).mono ?_
  rintro e w' ⟨rfl, rfl⟩
  exact ⟨rfl, h, Below.refl B _⟩
theorem bblk_lt {w : World} {g : Nat} {o : Obj} (h : w.heap[g]? = some o) : g < w.heap.size := by
 rcases Nat.lt_or_ge g w.heap.size with hlt | hge
 ·exact hlt
 ·rw [Array.getElem?_eq_none hge] at h; cases h
set_option maxHeartbeats 4000000 in
set_option maxRecDepth 100000 in
/-- WriteString. -/
theorem bwrite (B b : Nat) (bs : List Value) (s : ByteArray) (w : World) (h : IsB B b bs w) (hlen : bs.length + s.size ≤ 140737488355328) (hBw : B ≤ w.heap.size) :
  Calls Try.prog 54 #[.pointer (some ⟨b, 0, none⟩), .string s] w fun e w' => e = .returned (.tuple #[.int .i64 s.size, .nilIface]) ∧ AtB B b (bs ++ Lib.strCells s) w' ∧ Below B w w' := by
 obtain ⟨i0, hi, hz0, hz1, hz2⟩ := info_parts bbyte
 go_enter Try.func54, Try.ntmps54
 go_wp2_with (go_at_call 60; refine (bcheck B b bs _ h).mono ?_)
 rintro e w1 ⟨rfl, h1, hb1⟩
 obtain ⟨hB, v, hbk, hown, hne⟩ := h1
 have c0 : w1.cell? ⟨b, 0, none⟩ = some (.pointer (some ⟨b, 0, none⟩)) := by rw [Lib.cell_of_heap hbk]; rfl
 have c1 : w1.cell? ⟨b, 1, none⟩ = some v := by rw [Lib.cell_of_heap hbk]; rfl
 go_wp2_with (at_builtin; refine Lib.wpList_append_own_stringF _ rfl _ _ 38 9 rfl B 5 i0 Try.underlying38 Try.underlying9 hi hz0 hz1 hz2 _ _ _ rfl hown s rfl ?c3 ?c4 ?c5 ?_)
 case c3 => unfold maxLen; omega
 case c4 => omega
 case c5 => have := hb1.size; omega
 intro v' w2 hown' hgrow _
 have hlt := bblk_lt hbk
 have hb2 : w2.heap[b]? = some (.cells #[.pointer (some ⟨b, 0, none⟩), v] 81 (0, 0)) := by
  rw [hgrow.block b hlt (fun e => hne e.symm)]
  exact hbk
 have d0 : w2.cell? ⟨b, 0, none⟩ = some (.pointer (some ⟨b, 0, none⟩)) := by rw [Lib.cell_of_heap hb2]; rfl
 have d1 : w2.cell? ⟨b, 1, none⟩ = some v := by rw [Lib.cell_of_heap hb2]; rfl
 have f1 : w2.frozen? ⟨b, 1, none⟩ = false := Lib.frozen_of_heap hb2 1
 obtain ⟨ao, n', cap, rfl⟩ : ∃ ao n' cap, v' = .slice ao n' cap := by
  rcases hown'.2 with ⟨hv, _⟩ | ⟨g, cap, cur, fz, hv, _⟩
  ·exact ⟨_, _, _, hv⟩
  ·exact ⟨_, _, _, hv⟩
 go_wp2
 go_ret2
 exact ⟨rfl, Lib.BuilderAtF.put (T := 81) (e := 5) hB hb2 (bs' := bs ++ Lib.strCells s) (by simpa [Lib.strCells_length] using hown') (by decide), (hb1.grown hgrow (by have := hb1.size; omega) (fun k hk => (hown.lt k hk).1)).setCell (p := ⟨b, 1, none⟩) hB _⟩
set_option maxHeartbeats 4000000 in
set_option maxRecDepth 100000 in
/-- WriteByte. -/
theorem bbyte_ (B b : Nat) (bs : List Value) (c : Int) (w : World) (h : IsB B b bs w) (hlen : bs.length + 1 ≤ 140737488355328) (hBw : B ≤ w.heap.size) :
  Calls Try.prog 56 #[.pointer (some ⟨b, 0, none⟩), .int .u8 c] w fun e w' => e = .returned .nilIface ∧ AtB B b (bs ++ [.int .u8 c]) w' ∧ Below B w w' := by
 obtain ⟨i0, hi, hz0, hz1, hz2⟩ := info_parts bbyte
 go_enter Try.func56, Try.ntmps56
 go_wp2_with (go_at_call 60; refine (bcheck B b bs _ h).mono ?_)
 rintro e w1 ⟨rfl, h1, hb1⟩
 obtain ⟨hB, v, hbk, hown, hne⟩ := h1
 have c0 : w1.cell? ⟨b, 0, none⟩ = some (.pointer (some ⟨b, 0, none⟩)) := by rw [Lib.cell_of_heap hbk]; rfl
 have c1 : w1.cell? ⟨b, 1, none⟩ = some v := by rw [Lib.cell_of_heap hbk]; rfl
 go_wp2_with (at_builtin; refine wpList_append_ownF _ rfl _ _ 38 rfl B 5 i0 (.int .u8 0) 1 1 Try.underlying38 hi hz0 hz1 hz2 rfl (by decide) _ _ _ rfl (hown.alloc _) ⟨w1.heap.size, 0, none⟩ 1 1 [.int .u8 c] rfl rfl ?c1 ?c2 ?c3 ?c4 ?c5 ?_)
 case c1 =>
  intro j u hj
  match j, hj with
  | 0, hj => simp at hj; subst hj; simp [Addr.add]
 case c2 => intro u hu; simp at hu; subst hu; rfl
 case c3 => unfold maxLen; omega
 case c4 => omega
 case c5 => have := hb1.size; simp; omega
 intro v' w2 hown' hgrow _
 have hlt := bblk_lt hbk
 have hb2 : w2.heap[b]? = some (.cells #[.pointer (some ⟨b, 0, none⟩), v] 81 (0, 0)) := by
  rw [hgrow.block b (by simp; omega) (fun e => hne e.symm), Lib.alloc_old w1 _ b hlt]
  exact hbk
 have d0 : w2.cell? ⟨b, 0, none⟩ = some (.pointer (some ⟨b, 0, none⟩)) := by rw [Lib.cell_of_heap hb2]; rfl
 have d1 : w2.cell? ⟨b, 1, none⟩ = some v := by rw [Lib.cell_of_heap hb2]; rfl
 have f1 : w2.frozen? ⟨b, 1, none⟩ = false := Lib.frozen_of_heap hb2 1
 obtain ⟨g, cap, rfl⟩ : ∃ g cap, v' = .slice (some ⟨g, 0, none⟩) (bs.length + 1) cap := by
  rcases hown'.2 with ⟨_, h0⟩ | ⟨g, cap, cur, fz, hv, _⟩
  ·omega
  ·exact ⟨g, cap, hv⟩
 go_wp2
 go_ret
 exact ⟨rfl, Lib.BuilderAtF.put (T := 81) (e := 5) hB hb2 (bs' := bs ++ [.int .u8 c]) (by simpa using hown') (by decide), ((hb1.alloc (by have := hb1.size; omega) _).grown hgrow (by have := hb1.size; simp; omega) (fun k hk => (hown.lt k hk).1)).setCell (p := ⟨b, 1, none⟩) hB _⟩
theorem AtB_far {B b g i : Nat} {p : Value} {bs : List Value} {w : World} (h : Lib.BuilderAtF 81 5 B b p bs w) (hg : g < B) (u : Value) : Lib.BuilderAtF 81 5 B b p bs (w.setCell ⟨g, i, none⟩ u) := by
 obtain ⟨hB, v, hb, hown, hne⟩ := h
 refine ⟨hB, v, ?_, ?_, hne⟩
 ·rw [Below.heap_setCell _ _ _ _ (show b ≠ g by omega)]; exact hb
 ·refine hown.kept (row := some g) ⟨rfl, rfl, rfl, by simp [World.setCell], fun k _ hk => Below.heap_setCell _ _ _ _ (fun e => hk (by simp [e]))⟩ (Or.inr fun e => ?_)
  have := (hown.lt g e).1
  omega
theorem IsB.far {B b g i : Nat} {bs : List Value} {w : World} (h : IsB B b bs w) (hg : g < B) (u : Value) : IsB B b bs (w.setCell ⟨g, i, none⟩ u) :=
 h.elim (fun x => .inl (AtB_far x hg u)) (fun x => .inr (AtB_far x hg u))
theorem IsB.drewN {B b : Nat} {bs : List Value} {w : World} (h : IsB B b bs w) (n : Nat) : IsB B b bs (w.drewN n) := h
theorem builder_more {B b : Nat} {l : List UInt8} {s : ByteArray} {w : World} (h : AtB B b (Lib.byteCells l ++ Lib.strCells s) w) : IsB B b (Lib.byteCells (l ++ s.data.toList)) w := by
 rw [Lib.strCells_eq, ← Lib.byteCells_append] at h
 exact .inr h
/-- String. -/
theorem bstring (B b : Nat) (l : List UInt8) (w : World) (h : IsB B b (Lib.byteCells l) w) (hBw : B ≤ w.heap.size) :
  Calls Try.prog 55 #[.pointer (some ⟨b, 0, none⟩)] w fun e w' => e = .returned (.string ⟨l.toArray⟩) ∧ Below B w w' :=
 (Try.Builder_String_any_k B b l w h hBw).mono fun _ _ h => ⟨h.1, h.2.2.1⟩
end Go.Proofs.Ytjmmdphkgioooaa.P
end
section
namespace Go.Proofs.Ytjmmdphkgioooaa.P
open Go.RowKit Go.Proofs.Ytjmmdphkgioooaa.La Go.Proofs.YtjmmdphkgioooaaW.PrintWords Go.Proofs.YtjmmdphkgioooaaW.PrintLast Go.Proofs.YtjmmdphkgioooaaW.PrintMore
def strings_IndexByte.f (a0 : ByteArray) (a1 : Int) : Option Int := if 0 ≤ a1 ∧ a1 < 256 then some (idx (bytesOf a0) a1) else none
theorem strings_IndexByte.calls (a0 : ByteArray) (a1 : Int) (r : Int) (w : World) (h : strings_IndexByte.f a0 a1 = some r) :
  Calls Try.prog 53 #[.string a0, .int .u8 a1] w fun e w' => e = .returned (.int .i64 r) ∧ Drawn0 w w' := by
 unfold strings_IndexByte.f at h
 split at h
 ·rename_i hc
  obtain rfl := Option.some.inj h
  refine (Try.strings_IndexByte a0 a1 w).mono fun e w' he => ?_
  obtain ⟨rfl, rfl⟩ := he
  exact ⟨by rw [idx_of _ hc.1 hc.2]; rfl, Drawn0.refl _⟩
 ·cases h
def strings_Count.f (a0 a1 : ByteArray) : Option Int := if a1.size = 1 then some (cntB (bytesOf a0) (bt a1 0) : Int) else none
theorem strings_Count.calls (a0 a1 : ByteArray) (r : Int) (w : World) (h : strings_Count.f a0 a1 = some r) :
  Calls Try.prog 40 #[.string a0, .string a1] w fun e w' => e = .returned (.int .i64 r) ∧ Drawn0 w w' := by
 unfold strings_Count.f at h
 split at h
 ·rename_i hc
  obtain rfl := Option.some.inj h
  have hb := bt_range a1 0
  have ha : a1 = ⟨#[(bt a1 0).toNat.toUInt8]⟩ := by
   apply bytesOf_inj
   have hl : (bytesOf a1).length = 1 := by rw [size_of, hc]
   match hm : bytesOf a1, hl with
   | [x], _ =>
    have h1 : bt a1 0 = x := by rw [bt_get, hm]; rfl
    have h2 := bytes_of a1 x (by rw [hm]; exact List.mem_cons_self)
    rw [h1]
    simp only [bytesOf_data, List.map_cons, List.map_nil, u8_of h2.1 h2.2]
  have := Try.strings_Count_one a0 (bt a1 0).toNat.toUInt8 w
  rw [← ha] at this
  refine this.mono fun e w' he => ?_
  obtain ⟨rfl, rfl⟩ := he
  exact ⟨by rw [cntB_of _ hb.1 (by omega)]; rfl, Drawn0.refl _⟩
 ·cases h
end Go.Proofs.Ytjmmdphkgioooaa.P
end
section
namespace Go.Proofs.Ytjmmdphkgioooaa.P
open Go.RowKit Go.Proofs.Ytjmmdphkgioooaa.La Go.Proofs.YtjmmdphkgioooaaW.PrintWords Go.Proofs.YtjmmdphkgioooaaW.PrintLast Go.Proofs.YtjmmdphkgioooaaW.PrintMore
theorem cwrap (n : Int) (h₀ : 0 ≤ n) (h₁ : n < 2 ^ 62) : IntKind.i64.wrap n = n := by rw [IntKind.wrap_i64]; omega
/-- What a call that writes block g may have done: the blocks that were there are as they were, but for g. -/
def Mv (g : Nat) (w w' : World) : Prop := Below g w w' ∧ ∀ k, k < w.heap.size → k ≠ g → w'.heap[k]? = w.heap[k]?
theorem Mv.refl (g : Nat) (w : World) : Mv g w w := ⟨Below.refl _ _, fun _ _ _ => rfl⟩
theorem Mv.trans {g : Nat} {a b c : World} (h : Mv g a b) (k : Mv g b c) : Mv g a c :=
 ⟨h.1.trans k.1, fun i hi hg => (k.2 i (Nat.lt_of_lt_of_le hi h.1.size) hg).trans (h.2 i hi hg)⟩
theorem Mv.of_below {g : Nat} {w w' : World} (h : Below w.heap.size w w') (hg : g ≤ w.heap.size) : Mv g w w' := ⟨h.mono hg, fun i hi _ => h.block i hi⟩
theorem Mv.then {g : Nat} {w W w1 : World} (h : Mv g w W) (hb : Below w.heap.size W w1) (hg : g ≤ w.heap.size) : Mv g w w1 :=
 ⟨h.1.trans (hb.mono hg), fun k hk hne => (hb.block k hk).trans (h.2 k hk hne)⟩
theorem Mv.set (g : Nat) (w : World) (j : Nat) (u : Value) : Mv g w (w.setCell ⟨g, j, none⟩ u) :=
 ⟨(Below.refl g w).setCell (p := ⟨g, j, none⟩) (Nat.le_refl _) _, fun _ _ hk => Below.heap_setCell _ _ _ _ hk⟩
theorem Mv.drewN {g : Nat} {w W : World} (h : Mv g w W) (n : Nat) : Mv g w (W.drewN n) := ⟨pw_below_drewN h.1 n, h.2⟩
theorem Mv.low {g B : Nat} {w W : World} (h : Mv g w W) (hB : B ≤ g) : Below B w W := h.1.mono hB
theorem cblk_set {w : World} {g t : Nat} {cs : Array Value} (h : w.heap[g]? = some (.cells cs t (0, 0))) (i : Nat) (u : Value) : (w.setCell ⟨g, i, none⟩ u).heap[g]? = some (.cells (cs.setIfInBounds i u) t (0, 0)) := by
 simp [World.setCell, Array.getElem?_modify, h]
theorem cblk_lt {w : World} {g : Nat} {o : Obj} (h : w.heap[g]? = some o) : g < w.heap.size := by
 rcases Nat.lt_or_ge g w.heap.size with hlt | hge
 ·exact hlt
 ·rw [Array.getElem?_eq_none hge] at h; cases h
theorem cblk_cell {w : World} {g t : Nat} {cs : Array Value} (h : w.heap[g]? = some (.cells cs t (0, 0))) (i : Nat) : w.cell? ⟨g, i, none⟩ = cs[i]? := cell_of_row w g i cs t (0, 0) h
theorem cblk_free {w : World} {g t : Nat} {cs : Array Value} (h : w.heap[g]? = some (.cells cs t (0, 0))) (i : Nat) : w.frozen? ⟨g, i, none⟩ = false := by simp [World.frozen?, h]
/-- Block g holds a reader: its text, its place, its rows. -/
def Cur (w : World) (g : Nat) (text : ByteArray) (at_ : Int) (rv : Value) : Prop := w.heap[g]? = some (.cells #[.string text, .int .i64 at_, rv] 66 (0, 0))
theorem Cur.open_ {w : World} {g : Nat} {text : ByteArray} {at_ : Int} {rv : Value} (h : Cur w g text at_ rv) :
  w.cell? ⟨g, 0, none⟩ = some (.string text) ∧ w.cell? ⟨g, 1, none⟩ = some (.int .i64 at_) ∧ w.cell? ⟨g, 2, none⟩ = some rv ∧ w.frozen? ⟨g, 1, none⟩ = false ∧ w.frozen? ⟨g, 2, none⟩ = false ∧ g < w.heap.size :=
 ⟨by rw [cblk_cell h]; rfl, by rw [cblk_cell h]; rfl, by rw [cblk_cell h]; rfl, cblk_free h 1, cblk_free h 2, cblk_lt h⟩
theorem Cur.drewN {w : World} {g : Nat} {text : ByteArray} {at_ : Int} {rv : Value} (h : Cur w g text at_ rv) (n : Nat) : Cur (w.drewN n) g text at_ rv := h
theorem Cur.below {w w1 : World} {g : Nat} {text : ByteArray} {at_ : Int} {rv : Value} (h : Cur w g text at_ rv) (hb : Below w.heap.size w w1) : Cur w1 g text at_ rv := (hb.block g (cblk_lt h)).trans h
theorem Cur.moved {w : World} {g : Nat} {text : ByteArray} {at_ : Int} {rv : Value} (h : Cur w g text at_ rv) (at1 : Int) : Cur (w.setCell ⟨g, 1, none⟩ (.int .i64 at1)) g text at1 rv := cblk_set h 1 (.int .i64 at1)
theorem Cur.put {w : World} {g : Nat} {text : ByteArray} {at_ : Int} {rv : Value} (h : Cur w g text at_ rv) (rv1 : Value) : Cur (w.setCell ⟨g, 2, none⟩ rv1) g text at_ rv1 := cblk_set h 2 rv1
/-- What is thrown. -/
def thrown (e at_ : Int) : Ending := .panicked [{ v := .iface 62 (.agg #[.int .i64 e, .int .i64 at_]), recovered := false }]
theorem cfail (e at_ : Int) (w : World) : Calls Try.prog 34 #[.int .i64 e, .int .i64 at_] w fun x w' => x = thrown e at_ ∧ w' = w := by
 go_enter Try.func34, Try.ntmps34
 go_wp2
 exact ⟨rfl, rfl, rfl⟩
set_option maxRecDepth 100000 in
set_option maxHeartbeats 4000000 in
theorem cend {w : World} {g : Nat} {text : ByteArray} {i : Nat} {rv : Value} (hC : Cur w g text i rv) (hi : i ≤ text.size) :
  Calls Try.prog 37 #[.pointer (some ⟨g, 0, none⟩)] w fun x w' => x = .returned (.int .i64 (lend ((bytesOf text).drop i) : Nat)) ∧ Drawn0 w w' := by
 obtain ⟨c0, c1, c2, f1, f2, hlt⟩ := hC.open_
 have c3b0 := eq_true (show (0 : Int) ≤ (i : Int) by omega)
 have c3b1 : decide ((0 : Int) ≤ (i : Int)) = true := decide_eq_true (by omega)
 have c4b0 := eq_true (show (i : Int) ≤ (text.size : Int) by omega)
 have c4b1 : decide ((i : Int) ≤ (text.size : Int)) = true := decide_eq_true (by omega)
 have H1 := Lib.hid (pre_at text (i : Int).toNat ⟨#[10]⟩)
 have H2 := Lib.hid (pre_at text (i : Int).toNat ⟨#[13, 10]⟩)
 rw [Int.toNat_natCast] at H1 H2
 have HL := Lib.hid (show lend ((bytesOf text).drop i) = if decide (((bytesOf text).drop i).take (⟨#[10]⟩ : ByteArray).size = bytesOf ⟨#[10]⟩) = true then 1 else if decide (((bytesOf text).drop i).take (⟨#[13, 10]⟩ : ByteArray).size = bytesOf ⟨#[13, 10]⟩) = true then 2 else 0 by
  simp only [decide_eq_true_eq]; rfl)
 generalize decide (((bytesOf text).drop i).take (⟨#[10]⟩ : ByteArray).size = bytesOf ⟨#[10]⟩) = r1 at H1 HL
 generalize decide (((bytesOf text).drop i).take (⟨#[13, 10]⟩ : ByteArray).size = bytesOf ⟨#[13, 10]⟩) = r2 at H2 HL
 generalize lend ((bytesOf text).drop i) = L at HL ⊢
 go_enter Try.func37, Try.ntmps37
 go_wp2_with fail
 go_quiet (fail)
 go_wp2_with fail
 refine (strings_HasPrefix.calls _ _ r1 _ H1.out).mono ?_
 rintro e w' ⟨rfl, n1, rfl⟩
 cases r1 with
 | true =>
  go_wp2
  go_ret
  exact ⟨by rw [HL.out]; rfl, _, rfl⟩
 | false =>
  go_wp2_with fail
  refine (strings_HasPrefix.calls _ _ r2 _ H2.out).mono ?_
  rintro e w' ⟨rfl, n2, rfl⟩
  cases r2 with
  | true =>
   go_wp2
   go_ret
   exact ⟨by rw [HL.out]; rfl, _, rfl⟩
  | false =>
   go_wp2
   go_ret
   exact ⟨by rw [HL.out]; rfl, _, rfl⟩
/-- The state of the loop that reads what stands between quotes. -/
def QInv (w : World) (g : Nat) (text : ByteArray) (i : Nat) (rv : Value) (res : Option (List Int × Nat)) (k : Nat) (wr : World) : Prop :=
 ∃ (j : Nat) (l : List UInt8), Cur wr g text j rv ∧ Mv g w wr ∧ IsB w.heap.size w.heap.size (Lib.byteCells l) wr ∧ i + 1 ≤ j ∧ j ≤ text.size ∧ text.size - j < k ∧ l.length ≤ j ∧
  res = (qd ((bytesOf text).drop j)).map (fun p => (toI l ++ p.1, p.2 + (j - (i + 1))))
set_option maxRecDepth 100000 in
set_option maxHeartbeats 8000000 in
theorem cquoted {w : World} {g : Nat} {text : ByteArray} {i : Nat} {rv : Value} (hC : Cur w g text i rv) (hi : i < text.size) (hs : text.size ≤ 70000) :
  Calls Try.prog 45 #[.pointer (some ⟨g, 0, none⟩)] w fun x w' => Mv g w w' ∧
   match qd ((bytesOf text).drop (i + 1)) with
   | none => x = thrown 4 text.size
   | some p => x = .returned (.string (strOfNums p.1)) ∧ Cur w' g text ((i + 1 + p.2 : Nat) : Int) rv := by
 obtain ⟨c0, c1, c2, f1, f2, hlt⟩ := hC.open_
 have hC1 := (hC.moved ((i : Int) + 1)).below (below_alloc (Below.refl _ _) (.cells #[.pointer none, .slice none 0 0] 81))
 have hM1 : Mv g w ((w.setCell ⟨g, 1, none⟩ (.int .i64 ((i : Int) + 1))).alloc (.cells #[.pointer none, .slice none 0 0] 81)) :=
  (Mv.set g w 1 _).trans (Mv.of_below (below_alloc (Below.refl _ _) _) (by rw [World.size_setCell]; omega))
 have hb1 : IsB w.heap.size w.heap.size [] ((w.setCell ⟨g, 1, none⟩ (.int .i64 ((i : Int) + 1))).alloc (.cells #[.pointer none, .slice none 0 0] 81)) := by
  have := Lib.IsBuilderF.of (Lib.fresh_isBuilder 81 5 (w.setCell ⟨g, 1, none⟩ (.int .i64 ((i : Int) + 1))))
  rw [World.size_setCell] at this
  exact this
 generalize hres : qd ((bytesOf text).drop (i + 1)) = res
 go_enter Try.func45, Try.ntmps45
 go_wp2_with fail
 generalize (w.setCell ⟨g, 1, none⟩ (.int .i64 ((i : Int) + 1))).alloc (.cells #[.pointer none, .slice none 0 0] 81) = w1 at hC1 hM1 hb1 ⊢
 clear c0 c1 c2 f1 f2 hC
 go_loopg [] (text.size + 1) (fun k wr => QInv w g text i rv res k wr)
 case atStart =>
  refine ⟨i + 1, [], by rw [Int.natCast_add]; exact hC1, hM1, hb1, Nat.le_refl _, hi, by omega, by simp, ?_⟩
  rw [← hres]
  cases qd ((bytesOf text).drop (i + 1)) <;> simp [toI]
 case round =>
  clear hC1 hM1 hb1 hres
  obtain ⟨j, l, hC, hM, hb, h1, h2, h3, h4, hr⟩ := hrel
  obtain ⟨c0, c1, c2, f1, f2, hlt2⟩ := hC.open_
  cases gk with
  | zero => omega
  | succ k =>
  have c3b0 := eq_true (show (0 : Int) ≤ (j : Int) by omega)
  have c3b1 : decide ((0 : Int) ≤ (j : Int)) = true := decide_eq_true (by omega)
  have c4b0 := eq_true (show (j : Int) ≤ (text.size : Int) by omega)
  have c4b1 : decide ((j : Int) ≤ (text.size : Int)) = true := decide_eq_true (by omega)
  have HI := Lib.hid (show strings_IndexByte.f (text.extract j text.size) 34 = some (idx ((bytesOf text).drop j) 34) by
   unfold strings_IndexByte.f; rw [if_pos (by omega), bytesOf_drop])
  have hdl : ((bytesOf text).drop j).length = text.size - j := by rw [List.length_drop, size_of]
  go_wp2_with fail
  go_quiet (first | (go_at_call 53; (with_reducible refine (strings_IndexByte.calls (text.extract j text.size) 34 _ _ HI.out).mono ?_); rintro e w' ⟨rfl, ⟨nd, rfl⟩⟩; (try first | exact ⟨rfl, _, World.drewN_drewN _ _ _⟩ | exact ⟨rfl, _, Eq.trans (World.drewN_drewN _ _ _) (congrArg (World.drewN _) (Nat.add_assoc _ _ _))⟩)))
  by_cases hneg : idx ((bytesOf text).drop j) 34 < 0
  ·have hq := qd_none_of (idx_none hneg)
   rw [hq] at hr
   have d1 : decide (idx ((bytesOf text).drop j) 34 < 0) = true := decide_eq_true hneg
   go_wp2_with fail
   refine (cfail _ _ _).mono ?_
   rintro e w3 ⟨rfl, rfl⟩
   exact ⟨rfl, hM.drewN _, by rw [hr]; rfl⟩
  ·obtain ⟨n, hn, hnl, hd, h34⟩ := idx_some (Int.not_lt.1 hneg)
   have hst := Lib.hid (qd_step hr hnl hd h34)
   have d1 : decide (idx ((bytesOf text).drop j) 34 < 0) = false := decide_eq_false hneg
   rw [hn] at d1 ⊢
   rw [hdl] at hnl
   clear hr hd h34 hneg
   have c5b0 := eq_true (show (j : Int) ≤ (j : Int) + (n : Int) by omega)
   have c5b1 : decide ((j : Int) ≤ (j : Int) + (n : Int)) = true := decide_eq_true (by omega)
   have c6b0 := eq_true (show (j : Int) + (n : Int) ≤ (text.size : Int) by omega)
   have c6b1 : decide ((j : Int) + (n : Int) ≤ (text.size : Int)) = true := decide_eq_true (by omega)
   have hjn : ((j : Int) + (n : Int)).toNat = j + n := by omega
   have hes : bytesOf (text.extract j ((j : Int) + (n : Int)).toNat) = ((bytesOf text).drop j).take n := by
    rw [hjn, bytesOf_extract, List.drop_take, Nat.add_sub_cancel_left]
   have hez : (text.extract j ((j : Int) + (n : Int)).toNat).size = n := by
    rw [← size_of, hes, List.length_take, hdl]; omega
   have hcl : (Lib.byteCells l).length + (text.extract j ((j : Int) + (n : Int)).toNat).size ≤ 140737488355328 := by
    rw [hez, Lib.byteCells_length]; omega
   have hlow : w.heap.size ≤ wr.heap.size := hM.1.size
   have hw1 : IntKind.i64.wrap ((j : Int) + (n : Int)) = (j : Int) + (n : Int) := cwrap _ (by omega) (by omega)
   go_wp2_with fail
   go_region_held3 (fun w' => w'.cell? ⟨g, 0, none⟩ = some (.string text) ∧ w'.cell? ⟨g, 1, none⟩ = some (.int .i64 (j : Int))) (first | go_keep | (simp [*]; done) | (go_simp; done)) (first | (go_at_call 54; refine (bwrite w.heap.size w.heap.size _ _ _ (IsB.drewN hb _) hcl hlow).mono ?_; rintro e w5 ⟨rfl, hb5, hl5⟩; have hC5 := (show w5.heap[g]? = _ from (hl5.block g hlt)).trans hC; have e0 := (Cur.open_ hC5).1; have e1 := (Cur.open_ hC5).2.1))
   have hm5 : Mv g w w5 := (hM.drewN _).then hl5 (by omega)
   have hb6 := builder_more hb5
   have hL6 : toI (l ++ (text.extract j ((j : Int) + (n : Int)).toNat).data.toList) = toI l ++ ((bytesOf text).drop j).take n := by
    rw [toI_append, ← hes]; rfl
   have hl6 : (l ++ (text.extract j ((j : Int) + (n : Int)).toNat).data.toList).length = l.length + n := by
    rw [List.length_append, ← Lib.size_eq, hez]
   generalize l ++ (text.extract j ((j : Int) + (n : Int)).toNat).data.toList = l6 at hb6 hL6 hl6
   clear hb5 hcl hez hes hl5 hb hC c0 c1 c2 f1 f2 hw1 c5b0 c5b1 c6b0 c6b1
   obtain ⟨c0, c1, c2, f1, f2, hlt5⟩ := Cur.open_ hC5
   obtain ⟨m, hm⟩ : ∃ m : Nat, m = j + n + 1 := ⟨_, rfl⟩
   have hC7 := Cur.moved hC5 (m : Int)
   have hm7 : Mv g w (w5.setCell ⟨g, 1, none⟩ (.int .i64 (m : Int))) := hm5.trans (Mv.set g w5 1 _)
   have hb7 := hb6.far (i := 1) hlt (.int .i64 (m : Int))
   have hw1 : IntKind.i64.wrap ((n : Int) + 1) = (n : Int) + 1 := cwrap _ (by omega) (by omega)
   have hw2 : IntKind.i64.wrap ((j : Int) + ((n : Int) + 1)) = (m : Int) := by rw [cwrap _ (by omega) (by omega)]; omega
   have hdm : (bytesOf text).drop (j + n + 1) = (bytesOf text).drop m := by rw [hm]
   rw [hdm] at hst
   have HM := Lib.hid hm
   clear hm hdm
   go_wp2_with fail
   generalize w5.setCell ⟨g, 1, none⟩ (.int .i64 (m : Int)) = w7 at hC7 hm7 hb7 ⊢
   clear c0 c1 c2 f1 f2 hC5 hm5 hb6 e0 e1 c3b0 c3b1 c4b0 c4b1 hw1 hw2
   obtain ⟨c0, c1, c2, f1, f2, hlt7⟩ := Cur.open_ hC7
   have hmz : m ≤ text.size := by have := HM.out; omega
   have c3b0 := eq_true (show (0 : Int) ≤ (m : Int) by omega)
   have c3b1 : decide ((0 : Int) ≤ (m : Int)) = true := decide_eq_true (by omega)
   have c4b0 := eq_true (show (m : Int) ≤ (text.size : Int) by omega)
   have c4b1 : decide ((m : Int) ≤ (text.size : Int)) = true := decide_eq_true (by omega)
   obtain ⟨r, hr⟩ : ∃ r : Bool, decide (((bytesOf text).drop m).take (⟨#[34]⟩ : ByteArray).size = bytesOf ⟨#[34]⟩) = r := ⟨_, rfl⟩
   have HP := Lib.hid ((pre_at text m ⟨#[34]⟩).trans (by rw [hr]))
   have HR := Lib.hid hr
   clear hr
   go_wp2_with fail
   cases r with
   | true =>
    have hst := Lib.hid (hst.out.2 (of_decide_eq_true HR.out))
    go_quiet (first | (go_at_call 36; (with_reducible refine (strings_HasPrefix.calls (text.extract m text.size) (⟨#[34]⟩ : ByteArray) true _ HP.out).mono ?_); rintro e w' ⟨rfl, ⟨nd, rfl⟩⟩; (try first | exact ⟨rfl, _, World.drewN_drewN _ _ _⟩ | exact ⟨rfl, _, Eq.trans (World.drewN_drewN _ _ _) (congrArg (World.drewN _) (Nat.add_assoc _ _ _))⟩)))
    go_wp2_with fail
    refine (bbyte_ w.heap.size w.heap.size _ 34 _ (IsB.drewN hb7 _) (by rw [Lib.byteCells_length]; omega) (Nat.le_trans (Nat.le_of_eq rfl) hm7.1.size)).mono ?_
    rintro e w8 ⟨rfl, hb8, hl8⟩
    have hC8 : Cur w8 g text m rv := (show w8.heap[g]? = _ from (hl8.block g hlt)).trans hC7
    have hm8 : Mv g w w8 := (hm7.drewN _).then hl8 (by omega)
    have hb9 := builder_more (s := ⟨#[34]⟩) hb8
    clear hb8 hb7 hC7 hm7 hl8 c0 c1 c2 f1 f2
    obtain ⟨c0, c1, c2, f1, f2, hlt8⟩ := Cur.open_ hC8
    have hC9 := Cur.moved hC8 ((m : Int) + 1)
    have hm9 : Mv g w (w8.setCell ⟨g, 1, none⟩ (.int .i64 ((m : Int) + 1))) := hm8.trans (Mv.set g w8 1 _)
    have hb10 := hb9.far (i := 1) hlt (.int .i64 ((m : Int) + 1))
    have hw2 : IntKind.i64.wrap ((m : Int) + 1) = (m : Int) + 1 := cwrap _ (by omega) (by omega)
    go_wp2_with fail
    go_roundg k
    case rel =>
     have hmj := HM.out
     have hmlt : m < text.size := by
      have h1 := congrArg List.length (show ((bytesOf text).drop m).take 1 = [34] from of_decide_eq_true HR.out)
      rw [List.length_take, List.length_drop, size_of] at h1
      simp at h1; omega
     refine ⟨m + 1, l6 ++ [34], by rw [Int.natCast_add]; exact hC9, hm9, hb10, by omega, by omega, by omega, by rw [List.length_append, hl6]; simp; omega, ?_⟩
     rw [hst.out, toI_append, hL6, hmj]
     congr 1
     funext p
     simp only [List.append_assoc, Prod.mk.injEq]
     exact ⟨rfl, by omega⟩
    case measure => omega
   | false =>
    have hst := Lib.hid (hst.out.1 (of_decide_eq_false HR.out))
    go_quiet (first | (go_at_call 36; (with_reducible refine (strings_HasPrefix.calls (text.extract m text.size) (⟨#[34]⟩ : ByteArray) false _ HP.out).mono ?_); rintro e w' ⟨rfl, ⟨nd, rfl⟩⟩; (try first | exact ⟨rfl, _, World.drewN_drewN _ _ _⟩ | exact ⟨rfl, _, Eq.trans (World.drewN_drewN _ _ _) (congrArg (World.drewN _) (Nat.add_assoc _ _ _))⟩)))
    go_wp2_with fail
    refine (bstring w.heap.size w.heap.size l6 _ (IsB.drewN hb7 _) (Nat.le_trans (Nat.le_of_eq rfl) hm7.1.size)).mono ?_
    rintro e w8 ⟨rfl, hl8⟩
    have hC8 : Cur w8 g text m rv := (show w8.heap[g]? = _ from (hl8.block g hlt)).trans hC7
    have hm8 : Mv g w w8 := (hm7.drewN _).then hl8 (by omega)
    have hmj := HM.out
    have hres := hst.out
    clear hst HM
    subst hres
    go_wp2_with fail
    go_ret
    refine ⟨hm8, by rw [mk_of, hL6]; rfl, ?_⟩
    rw [show (i : Int) + 1 + ((n : Int) + 1 + ((j - (i + 1) : Nat) : Int)) = (m : Int) by omega]
    exact hC8
end Go.Proofs.Ytjmmdphkgioooaa.P
end
section
namespace Go.Proofs.Ytjmmdphkgioooaa.P
open Go.RowKit Go.Proofs.Ytjmmdphkgioooaa.La Go.Proofs.YtjmmdphkgioooaaW.PrintWords Go.Proofs.YtjmmdphkgioooaaW.PrintLast Go.Proofs.YtjmmdphkgioooaaW.PrintMore
/-- The bytes of a letter that is no ASCII. -/
theorem decode_bytes (s : ByteArray) (pos : Nat) (h : pos < s.size) (ha : 128 ≤ (s[pos]'h).toNat) : pos + (Utf8.decode s pos).2 ≤ s.size ∧ ∀ k, k < (Utf8.decode s pos).2 → 128 ≤ (s.get! (pos + k)).toNat := by
 have h0 : 128 ≤ (s.get! (pos + 0)).toNat := by rw [get_at s pos h]; exact ha
 have hn : ¬ (s.get! (pos + 0)).toNat < 128 := by omega
 unfold Utf8.decode
 simp only [hn, if_false]
 repeat' split
 all_goals (try simp only [Bool.and_eq_true, beq_iff_eq, decide_eq_true_eq] at *)
 all_goals refine ⟨by omega, fun k hk => ?_⟩
 all_goals
  match k with
  | 0 => exact h0
  | 1 => omega
  | 2 => omega
  | 3 => omega
  | k + 4 => omega
set_option maxRecDepth 100000 in
set_option maxHeartbeats 8000000 in
theorem idxRune_high (chars : ByteArray) (h4 : chars.size = 4) (hc : ∀ (j : Nat) b, chars.data.toList[j]? = some b → b.toNat < 128) (r : Int) (h0 : 128 ≤ r) (h1 : r ≤ 2147483647) (w : World) :
  Calls Try.prog 61 #[.string chars, .int .i32 r] w fun e w' => e = .returned (.int .i64 (-1)) ∧ Below w.heap.size w w' := by
 have HA := Lib.hid hc
 clear hc
 have d1 : decide (r < 128) = false := decide_eq_false (by omega)
 have d2 : decide (0 ≤ r) = true := decide_eq_true (by omega)
 by_cases hre : r = 65533
 ·have d3 : (r == 65533) = true := beq_iff_eq.2 hre
  clear hre
  go_enter Try.func61, Try.ntmps61
  go_wp2_with fail
  go_loopg [] 4 (fun g wx => ∃ i : Nat, i + g = 4 ∧ wx = w.iter chars i)
  case atStart => exact ⟨0, rfl, rfl⟩
  case round =>
   obtain ⟨i, hig, rfl⟩ := hrel
   cases gk with
   | zero =>
    obtain rfl : i = 4 := by omega
    have hnx := run_next_end (P := Try.prog) w chars 4
    go_wp2
    go_ret
    exact ⟨rfl, below_alloc (Below.refl _ _) _⟩
   | succ g =>
    have hi : i < chars.size := by omega
    obtain ⟨x, hx⟩ : ∃ x : UInt8, chars[i]'hi = x := ⟨_, rfl⟩
    have hx128 : x.toNat < 128 := HA.out i x (by rw [← hx]; exact Lib.data_getElem? chars i hi)
    have hnx := fun ty => run_next_ascii (P := Try.prog) w chars i ty hi (by rw [hx]; exact hx128)
    rw [hx] at hnx
    have d4 : ((x.toNat : Int) == 65533) = false := beq_eq_false_iff_ne.2 (by omega)
    clear hx
    go_wp2_with fail
    go_roundg g
    case measure => omega
    case rel => exact ⟨i + 1, by omega, rfl⟩
 ·have d3 : (r == 65533) = false := beq_eq_false_iff_ne.2 hre
  clear hre
  cases hv : Lib.validRune r with
  | false =>
   go_enter Try.func61, Try.ntmps61
   go_wp2_with fail
   refine (Try.utf8_ValidRune r w).mono ?_
   rintro e w' ⟨rfl, rfl⟩
   rw [hv]
   go_wp2
   go_ret
   exact ⟨rfl, Below.refl _ _⟩
  | true =>
   go_enter Try.func61, Try.ntmps61
   go_wp2_with fail
   refine (Try.utf8_ValidRune r w).mono ?_
   rintro e w' ⟨rfl, rfl⟩
   rw [hv]
   have hv2 := (validRune_eq r).trans (show _ = true from hv)
   obtain ⟨e2, e4, el⟩ := encode_facts r hv2 h0
   go_wp2_with fail
   go_step3
   go_wp2_with fail
   generalize Utf8.encode r = rs at e2 e4 el ⊢
   obtain ⟨m, hm⟩ : ∃ m : Nat, rs.size = m + 1 := ⟨rs.size - 1, by omega⟩
   have hlt : m < rs.size := by omega
   have hlc : m < chars.size := by omega
   obtain ⟨y, hy⟩ : ∃ y : UInt8, rs[m]'hlt = y := ⟨_, rfl⟩
   have hy128 : 128 ≤ y.toNat := by
    have := el (by omega)
    simp only [hm, Nat.add_sub_cancel] at this
    rw [← hy]; exact this
   rw [show (rs.size : Int) - 1 = (m : Int) by omega]
   obtain ⟨x, hx⟩ : ∃ x : UInt8, chars[m]'hlc = x := ⟨_, rfl⟩
   have hx128 : x.toNat < 128 := HA.out m x (by rw [← hx]; exact Lib.data_getElem? chars m hlc)
   have hxy : ((x.toNat : Int) != (y.toNat : Int)) = true := bne_iff_ne.2 (by omega)
   have HB := Lib.hid (show strings_IndexByte.f (chars.extract (m + 1) chars.size) (y.toNat : Int) = some (-1) by
    have h1 := y.toNat_lt
    unfold strings_IndexByte.f
    rw [if_pos (by omega)]
    have h2 := idx_ge (bytesOf (chars.extract (m + 1) chars.size)) (y.toNat : Int)
    have h3 : ¬ 0 ≤ idx (bytesOf (chars.extract (m + 1) chars.size)) (y.toNat : Int) := by
     intro h
     obtain ⟨n, _, h4, h5, _⟩ := idx_some h
     have h6 : (y.toNat : Int) ∈ bytesOf (chars.extract (m + 1) chars.size) := by rw [h5]; simp
     rw [bytesOf_drop] at h6
     have h7 := List.mem_of_mem_drop h6
     rw [bytesOf_data] at h7
     obtain ⟨b, hb, hbe⟩ := List.mem_map.1 h7
     obtain ⟨j, hj, hjb⟩ := List.getElem_of_mem hb
     have := HA.out j b (by rw [List.getElem?_eq_getElem hj, hjb])
     omega
    congr 1; omega)
   have q1 := eq_true (show (0 : Int) ≤ (m : Int) by omega)
   have q2 := eq_true (show (m : Int) < (chars.size : Int) by omega)
   have q3 := eq_true (show (m : Int) < (rs.size : Int) by omega)
   have q4 := eq_true hlt
   have q5 := eq_true hlc
   have q6 : decide ((m : Int) < (chars.size : Int)) = true := decide_eq_true (by omega)
   have q7 : decide ((m : Int) < (rs.size : Int)) = true := decide_eq_true (by omega)
   have q8 := eq_true (show (0 : Int) ≤ (m : Int) + 1 by omega)
   have q9 := eq_true (show (m : Int) + 1 ≤ (chars.size : Int) by omega)
   have hw1 : IntKind.i64.wrap ((m : Int) + 1) = (m : Int) + 1 := by rw [IntKind.wrap_i64]; omega
   have hx1 : ∀ h : m < chars.size, (chars[m]'h) = x := fun _ => hx
   have hy1 : ∀ h : m < rs.size, (rs[m]'h) = y := fun _ => hy
   clear hx hy el hm h4 e2 e4 d1 d2 d3
   go_loopg [9, 10] 1 (fun g i f wx => g = 1 ∧ i = .int .i64 (m : Int) ∧ f = .int .i64 0 ∧ wx = w')
   case atStart => exact ⟨rfl, rfl, rfl, rfl⟩
   case round =>
    obtain ⟨rfl, rfl, rfl, rfl⟩ := hrel
    go_wp2_with fail
    go_step3
    go_wp2_with fail
    go_quiet (fail)
    go_wp2_with fail
    go_quiet (first | (go_at_call 53; (with_reducible refine (strings_IndexByte.calls (chars.extract (m + 1) chars.size) (y.toNat : Int) (-1) _ HB.out).mono ?_); rintro e w' ⟨rfl, ⟨nd, rfl⟩⟩; (try first | exact ⟨rfl, _, World.drewN_drewN _ _ _⟩ | exact ⟨rfl, _, Eq.trans (World.drewN_drewN _ _ _) (congrArg (World.drewN _) (Nat.add_assoc _ _ _))⟩)))
    go_wp2_with fail
    rw [Exit.noGoto_ret]
    show Exit.noGoto _ Exit.ret _ _
    rw [Exit.noGoto_ret]
    show Exit.noGoto _ Exit.ret _ _
    rw [Exit.noGoto_ret]
    iterate 4 (show Exit.noGoto _ Exit.ret _ _; rw [Exit.noGoto_ret])
    go_ret
    exact ⟨rfl, pw_below_drewN (Below.refl _ _) _⟩
theorem noAny_high {s chars : ByteArray} {i n : Nat} (h : Lib.NoAny s.data.toList chars.data.toList i) (hc : ∀ (j : Nat) b, chars.data.toList[j]? = some b → b.toNat < 128) (hn : i + n ≤ s.size) (hb : ∀ k, k < n → 128 ≤ (s.get! (i + k)).toNat) : Lib.NoAny s.data.toList chars.data.toList (i + n) := by
 intro j b hj hjb
 by_cases hlt : j < i
 ·exact h j b hlt hjb
 ·have h1 := hb (j - i) (by omega)
  rw [show i + (j - i) = j by omega] at h1
  have hjz : j < s.size := by omega
  have h2 : s.get! j = b := by
   have e1 := get_at s j hjz
   rw [Nat.add_zero] at e1
   have e2 := Lib.data_getElem? s j hjz
   rw [e2] at hjb
   rw [e1]; exact Option.some.inj hjb
  rw [h2] at h1
  cases hcon : chars.data.toList.contains b with
  | false => rfl
  | true =>
   have hm := List.contains_iff_mem.1 hcon
   obtain ⟨q, hq, hqb⟩ := List.getElem_of_mem hm
   have := hc q b (by rw [List.getElem?_eq_getElem hq, hqb])
   omega
set_option maxRecDepth 100000 in
set_option maxHeartbeats 8000000 in
theorem idxAny_short (s chars : ByteArray) (h4 : chars.size = 4) (hc : ∀ (j : Nat) b, chars.data.toList[j]? = some b → b.toNat < 128) (h8 : s.size ≤ 8) (w : World) :
  Calls Try.prog 57 #[.string s, .string chars] w fun e w' => e = .returned (.int .i64 (Lib.indexAny s.data.toList chars.data.toList)) ∧ Below w.heap.size w w' := by
 have HA := Lib.hid hc
 have H4 := Lib.hid h4
 have hemp : chars.toList.isEmpty = false := by
  rw [Lib.toList_data]
  cases h : chars.data.toList with
  | nil => have := Lib.size_eq chars; rw [h, List.length_nil] at this; omega
  | cons _ _ => rfl
 have hn1 : ((chars.size : Int) == 1) = false := beq_eq_false_iff_ne.2 (by omega)
 have h8z : decide ((8 : Int) < (s.size : Int)) = false := decide_eq_false (by omega)
 clear hc h4
 go_enter Try.func57, Try.ntmps57
 go_wp2_with (go_at_call 62; refine (Try.strings_shouldUseASCIISet _ _).mono ?_; rintro e w' ⟨rfl, hw⟩; rw [hw, h8z])
 go_loopg [] (s.size + 1) (fun k wx => ∃ i : Nat, i ≤ s.size ∧ s.size - i < k ∧ Below w.heap.size w wx ∧ w.heap.size < wx.heap.size ∧ wx.heap[w.heap.size]? = some (.stringIter s i) ∧ Lib.NoAny s.data.toList chars.data.toList i)
 case atStart => exact ⟨0, by omega, by omega, below_alloc (Below.refl _ _) _, by simp [World.iter], World.iter_heap w s 0, Lib.NoAny.zero _ _⟩
 case round =>
  obtain ⟨i, h1, h2, hB, hlt, hk, hno⟩ := hrel
  have HN := Lib.hid hno
  clear hno
  cases gk with
  | zero => omega
  | succ k =>
  by_cases hi : i < s.size
  ·obtain ⟨x, hx⟩ : ∃ x : UInt8, s[i]'hi = x := ⟨_, rfl⟩
   by_cases hx128 : x.toNat < 128
   ·have hnx := fun ty => Lib.run_next_ascii_at (P := Try.prog) wr w.heap.size s i ty hk hi (by rw [hx]; exact hx128)
    rw [hx] at hnx
    have HX := Lib.hid (show s.data.toList[i]? = some x by rw [← hx]; exact Lib.data_getElem? s i hi)
    have hk2 := Lib.iterAt_heap wr w.heap.size s i (i + 1) hk
    have hB2 := Lib.below_iterAt hB (Nat.le_refl _) s (i + 1)
    have hlt2 : w.heap.size < (wr.iterAt w.heap.size s (i + 1)).heap.size := by rw [Lib.iterAt_size]; exact hlt
    have hcon := Lib.contains_iff_indexByte chars.data.toList x
    have hback : ((x.toNat : Int)).toNat.toUInt8 = x := by simp
    clear hx
    cases hin : chars.data.toList.contains x with
    | false =>
     rw [hin] at hcon
     have hlt3 : decide ((0 : Int) ≤ Lib.indexByte chars.data.toList x) = false := hcon.symm
     clear hcon
     go_wp2_with (go_at_call 61; refine (Try.strings_IndexRune_ascii _ _ _ (by omega) (by omega)).mono ?_; rintro e w' ⟨rfl, hw⟩; rw [hw, hback])
     go_roundg k
     case measure => omega
     case rel => exact ⟨i + 1, by omega, by omega, hB2, hlt2, hk2, HN.out.succ HX.out hin⟩
    | true =>
     rw [hin] at hcon
     have hge : decide ((0 : Int) ≤ Lib.indexByte chars.data.toList x) = true := hcon.symm
     clear hcon
     go_wp2_with (go_at_call 61; refine (Try.strings_IndexRune_ascii _ _ _ (by omega) (by omega)).mono ?_; rintro e w' ⟨rfl, hw⟩; rw [hw, hback])
     go_ret
     exact ⟨by rw [Lib.indexAny_hit HN.out HX.out hin]; rfl, hB2⟩
   ·obtain ⟨d1, d2⟩ := decode_high s i hi (by rw [hx]; omega)
    have d3 := decode_le s i
    obtain ⟨d4, d5⟩ := decode_bytes s i hi (by rw [hx]; omega)
    have hnx := fun ty => Lib.run_next_any_at (P := Try.prog) wr w.heap.size s i ty hk hi
    have HN2 := Lib.hid (noAny_high HN.out HA.out d4 d5)
    clear d5
    generalize (Utf8.decode s i).1 = r at d1 d3 hnx
    generalize (Utf8.decode s i).2 = n at d2 d4 hnx HN2
    have hk2 := Lib.iterAt_heap wr w.heap.size s i (i + n) hk
    have hB2 := Lib.below_iterAt hB (Nat.le_refl _) s (i + n)
    have hlt2 : w.heap.size < (wr.iterAt w.heap.size s (i + n)).heap.size := by rw [Lib.iterAt_size]; exact hlt
    go_wp2_with (go_at_call 61; refine (idxRune_high chars H4.out HA.out (r : Int) (by omega) (by omega) _).mono ?_; rintro e w5 ⟨rfl, hb5⟩)
    have hk3 := (hb5.block _ hlt2).trans hk2
    have hB3 := below_step hB2 hb5
    have hlt3 := Nat.lt_of_lt_of_le hlt2 hb5.size
    go_wp2
    go_roundg k
    case measure => omega
    case rel => exact ⟨i + n, by omega, by omega, hB3, hlt3, hk3, HN2.out⟩
  ·obtain rfl : i = s.size := by omega
   have hnx := fun ty => Lib.run_next_end_at (P := Try.prog) wr w.heap.size s s.size ty hk (by omega)
   go_wp2
   go_ret
   exact ⟨by rw [Lib.indexAny_none (by rw [← Lib.size_eq]; exact HN.out)]; rfl, hB⟩
end Go.Proofs.Ytjmmdphkgioooaa.P
end
section
namespace Go.Proofs.Ytjmmdphkgioooaa.P
open Go.RowKit Go.Proofs.Ytjmmdphkgioooaa.La Go.Proofs.YtjmmdphkgioooaaW.PrintWords Go.Proofs.YtjmmdphkgioooaaW.PrintLast Go.Proofs.YtjmmdphkgioooaaW.PrintMore
theorem contains4 (b : UInt8) : ([44, 10, 13, 34] : List UInt8).contains b = odd4 (b.toNat : Int) := by
 have h : ∀ c : UInt8, (b == c) = ((b.toNat : Int) == (c.toNat : Int)) := by
  intro c
  rw [Bool.eq_iff_iff, beq_iff_eq, beq_iff_eq, ← UInt8.toNat_inj]
  omega
 simp only [List.contains_cons, List.contains_nil, Bool.or_false, odd4]
 rw [h 44, h 10, h 13, h 34]
 simp only [Bool.or_assoc]
 rfl
theorem idx4 (l : List UInt8) : Lib.indexAny l [44, 10, 13, 34] = if (pln (toI l)).length = l.length then -1 else ((pln (toI l)).length : Int) := by
 induction l with
 | nil => rfl
 | cons b l ih =>
  have hl := pln_len (toI l)
  have htl : (toI l).length = l.length := List.length_map _
  have hp : pln (toI (b :: l)) = if odd4 (b.toNat : Int) = true then [] else (b.toNat : Int) :: pln (toI l) := by
   show List.takeWhile _ ((b.toNat : Int) :: toI l) = _
   rw [List.takeWhile_cons]
   cases odd4 (b.toNat : Int) <;> rfl
  rw [Lib.indexAny, contains4, hp, ih]
  cases odd4 (b.toNat : Int) with
  | true => simp
  | false =>
   simp only [Bool.false_eq_true, if_false, List.length_cons]
   by_cases he : (pln (toI l)).length = l.length
   ·simp [he]
   ·have e1 : ((((pln (toI l)).length : Nat) : Int) == -1) = false := beq_eq_false_iff_ne.2 (by omega)
    simp only [he, if_false, e1, Bool.false_eq_true]
    split <;> omega
theorem asciiInfo : (Try.prog.info? 90).map (fun i => (i.zero, i.size)) = some (some (.agg (Array.replicate 256 (.bool false))), 256) := by kernel_rfl
theorem idxAny4 (s : ByteArray) (hs : s.size < 4294967281) (w : World) :
  Calls Try.prog 57 #[.string s, .string ⟨#[44, 10, 13, 34]⟩] w fun e w' => e = .returned (.int .i64 (if (pln (bytesOf s)).length = s.size then -1 else ((pln (bytesOf s)).length : Int))) ∧ Below w.heap.size w w' := by
 have hc : ∀ (j : Nat) (b : UInt8), (⟨#[44, 10, 13, 34]⟩ : ByteArray).data.toList[j]? = some b → b.toNat < 128 := by
  intro j b h
  match j, h with
  | 0, h => obtain rfl := Option.some.inj h; decide
  | 1, h => obtain rfl := Option.some.inj h; decide
  | 2, h => obtain rfl := Option.some.inj h; decide
  | 3, h => obtain rfl := Option.some.inj h; decide
 have e : Lib.indexAny s.data.toList (⟨#[44, 10, 13, 34]⟩ : ByteArray).data.toList = (if (pln (bytesOf s)).length = s.size then -1 else ((pln (bytesOf s)).length : Int)) := by
  rw [Lib.size_eq]; exact idx4 s.data.toList
 rw [← e]
 by_cases h8 : s.size ≤ 8
 ·exact idxAny_short s _ rfl hc h8 w
 ·refine (Try.strings_IndexAny_long (zero_of_info asciiInfo).1 s _ w (by decide) (by omega) hs (by decide) hc).mono fun e w' h => ⟨h.1, ?_⟩
  rw [h.2]
  exact below_alloc (below_alloc (Below.refl _ _) _) _
set_option maxRecDepth 100000 in
set_option maxHeartbeats 8000000 in
theorem cplain {w : World} {g : Nat} {text : ByteArray} {i : Nat} {rv : Value} (hC : Cur w g text i rv) (hi : i ≤ text.size) (hs : text.size ≤ 70000) :
  Calls Try.prog 46 #[.pointer (some ⟨g, 0, none⟩)] w fun x w' => x = .returned (.string (strOfNums (pln ((bytesOf text).drop i)))) ∧ Mv g w w' ∧ Cur w' g text ((i + (pln ((bytesOf text).drop i)).length : Nat) : Int) rv := by
 obtain ⟨c0, c1, c2, f1, f2, hlt⟩ := hC.open_
 have c3b0 := eq_true (show (0 : Int) ≤ (i : Int) by omega)
 have c3b1 : decide ((0 : Int) ≤ (i : Int)) = true := decide_eq_true (by omega)
 have c4b0 := eq_true (show (i : Int) ≤ (text.size : Int) by omega)
 have c4b1 : decide ((i : Int) ≤ (text.size : Int)) = true := decide_eq_true (by omega)
 have hrb := bytesOf_drop text i
 have hpl := pln_len ((bytesOf text).drop i)
 have hpt := pln_take ((bytesOf text).drop i)
 have hpB : Bytes (pln ((bytesOf text).drop i)) := fun x hx => bytes_of text x (List.mem_of_mem_drop ((List.takeWhile_prefix _).subset hx))
 generalize hP : pln ((bytesOf text).drop i) = P at hpl hpt hpB ⊢
 rw [List.length_drop, size_of] at hpl
 have hrz : (text.extract i text.size).size = text.size - i := by rw [← size_of, hrb, List.length_drop, size_of]
 go_enter Try.func46, Try.ntmps46
 go_wp2_with fail
 go_quiet (fail)
 generalize text.extract i text.size = rest at hrb hrz ⊢
 go_wp2_with fail
 refine (idxAny4 rest (by omega) _).mono ?_
 rintro e w1 ⟨rfl, hb1⟩
 have hC1 := (hC.drewN nq).below hb1
 have hm1 : Mv g w w1 := ((Mv.refl g w).drewN nq).trans (Mv.of_below hb1 (Nat.le_of_lt hlt))
 clear c0 c1 c2 f1 f2
 obtain ⟨c0, c1, c2, f1, f2, hlt1⟩ := hC1.open_
 have hpb : rest.extract 0 P.length = strOfNums P := by
  apply bytesOf_inj
  rw [strOfNums_bytes hpB, bytesOf_take, hrb, hpt]
 rw [hrb, hP]
 obtain ⟨n, hn⟩ : ∃ n : Nat, P.length = n := ⟨_, rfl⟩
 rw [hn] at hpl hpb ⊢
 have HPB := Lib.hid hpb
 have HN := Lib.hid hn
 have hC2 := hC1.moved ((i : Int) + (n : Int))
 have hm2 : Mv g w (w1.setCell ⟨g, 1, none⟩ (.int .i64 ((i : Int) + (n : Int)))) := hm1.trans (Mv.set g w1 1 _)
 have hw1 : IntKind.i64.wrap ((i : Int) + (n : Int)) = (i : Int) + (n : Int) := cwrap _ (by omega) (by omega)
 have q1 := eq_true (show (0 : Int) ≤ (n : Int) by omega)
 have q2 := eq_true (show (n : Int) ≤ (rest.size : Int) by omega)
 clear hpb hn hrb hP hpt
 by_cases he : n = rest.size
 ·rw [if_pos he]
  have HE := Lib.hid he
  rw [he] at hC2 hm2 hw1 q1 q2
  clear he hrz hpl
  have d1 : decide ((-1 : Int) < 0) = true := rfl
  go_wp2_with fail
  go_ret
  exact ⟨by rw [← HPB.out, HE.out, show rest.extract 0 rest.size = rest by simp]; rfl, hm2, by rw [HN.out, Int.natCast_add, HE.out]; exact hC2⟩
 ·rw [if_neg he]
  have d1 : decide ((n : Int) < 0) = false := decide_eq_false (by omega)
  go_wp2_with fail
  go_ret
  exact ⟨by rw [← HPB.out]; rfl, hm2, by rw [HN.out, Int.natCast_add]; exact hC2⟩
/-- What a field's reading leaves. -/
def FRes (_w w' : World) (g : Nat) (text : ByteArray) (i : Nat) (rv : Value) (x : Ending) : (Int × Nat) ⊕ (List Int × Nat) → Prop
 | .inl e => x = thrown e.1 e.2
 | .inr p => x = .returned (.agg #[.string (strOfNums p.1), .int .i64 i]) ∧ Cur w' g text ((i + p.2 : Nat) : Int) rv
/-- Block b holds a field. -/
def FB (w : World) (b : Nat) (s : ByteArray) (i : Nat) : Prop := w.heap[b]? = some (.cells #[.string s, .int .i64 i] 47 (0, 0))
theorem FB.open_ {w : World} {b : Nat} {s : ByteArray} {i : Nat} (h : FB w b s i) : w.cell? ⟨b, 0, none⟩ = some (.string s) ∧ w.cell? ⟨b, 1, none⟩ = some (.int .i64 i) ∧ w.frozen? ⟨b, 0, none⟩ = false ∧ w.frozen? ⟨b, 1, none⟩ = false ∧ b < w.heap.size :=
 ⟨by rw [cblk_cell h]; rfl, by rw [cblk_cell h]; rfl, cblk_free h 0, cblk_free h 1, cblk_lt h⟩
theorem FB.mv {w w' : World} {b g : Nat} {s : ByteArray} {i : Nat} (h : FB w b s i) (hm : Mv g w w') (hne : b ≠ g) : FB w' b s i := (hm.2 b (cblk_lt h) hne).trans h
theorem FB.new (W : World) (s : ByteArray) (i : Nat) : FB (W.alloc (.cells #[.string s, .int .i64 i] 47)) W.heap.size s i := by
 unfold FB
 show (W.heap.push _)[W.heap.size]? = _
 exact Array.getElem?_push_size
theorem FB.put {w : World} {b : Nat} {s : ByteArray} {i : Nat} (h : FB w b s i) (s' : ByteArray) : FB (w.setCell ⟨b, 0, none⟩ (.string s')) b s' i := cblk_set h 0 _
theorem FB.put1 {w : World} {b : Nat} {s : ByteArray} {i : Nat} (h : FB w b s i) (i' : Nat) : FB (w.setCell ⟨b, 1, none⟩ (.int .i64 i')) b s i' := cblk_set h 1 _
theorem Mv.far {g b : Nat} {w W : World} (h : Mv g w W) (hb : w.heap.size ≤ b) (hg : g ≤ w.heap.size) (j : Nat) (u : Value) : Mv g w (W.setCell ⟨b, j, none⟩ u) :=
 h.then ((Below.refl w.heap.size W).setCell (p := ⟨b, j, none⟩) hb u) hg
theorem Cur.far {w : World} {g b : Nat} {text : ByteArray} {at_ : Int} {rv : Value} (h : Cur w g text at_ rv) (hne : g ≠ b) (j : Nat) (u : Value) : Cur (w.setCell ⟨b, j, none⟩ u) g text at_ rv :=
 (Below.heap_setCell w ⟨b, j, none⟩ u g hne).trans h
theorem FB.far {w : World} {b b' : Nat} {s : ByteArray} {i : Nat} (h : FB w b s i) (hne : b ≠ b') (j : Nat) (u : Value) : FB (w.setCell ⟨b', j, none⟩ u) b s i :=
 (Below.heap_setCell w ⟨b', j, none⟩ u b hne).trans h
theorem FB.drewN {w : World} {b : Nat} {s : ByteArray} {i : Nat} (h : FB w b s i) (n : Nat) : FB (w.drewN n) b s i := h
/-- What is checked behind a field's text. -/
theorem fieldS_raw {l : List Int} {i : Nat} {p : List Int × Nat} (h : raw l = some p) : fieldS l i = if fbad (l.drop p.2) then .inl (4, i + p.2) else if 4096 < p.1.length then .inl (2, i) else .inr p := by
 unfold fieldS
 rw [h]
set_option maxRecDepth 100000 in
set_option maxHeartbeats 8000000 in
theorem cfield {w : World} {g : Nat} {text : ByteArray} {i : Nat} {rv : Value} (hC : Cur w g text i rv) (hi : i ≤ text.size) (hs : text.size ≤ 70000) :
  Calls Try.prog 35 #[.pointer (some ⟨g, 0, none⟩)] w fun x w' => Mv g w w' ∧ FRes w w' g text i rv x (fieldS ((bytesOf text).drop i) i) := by
 obtain ⟨c0, c1, c2, f1, f2, hlt⟩ := hC.open_
 have c3b0 := eq_true (show (0 : Int) ≤ (i : Int) by omega)
 have c3b1 : decide ((0 : Int) ≤ (i : Int)) = true := decide_eq_true (by omega)
 have c4b0 := eq_true (show (i : Int) ≤ (text.size : Int) by omega)
 have c4b1 : decide ((i : Int) ≤ (text.size : Int)) = true := decide_eq_true (by omega)
 obtain ⟨r, hr⟩ : ∃ r : Bool, decide (((bytesOf text).drop i).take (⟨#[34]⟩ : ByteArray).size = bytesOf ⟨#[34]⟩) = r := ⟨_, rfl⟩
 have HP := Lib.hid ((pre_at text i ⟨#[34]⟩).trans (by rw [hr]))
 have HR := Lib.hid hr
 clear hr
 have hm1 : Mv g w ((w.alloc (.cells #[.string ⟨#[]⟩, .int .i64 0] 47)).alloc (.cells #[.string ⟨#[]⟩, .int .i64 i] 47)) :=
  Mv.of_below (below_alloc (below_alloc (Below.refl _ _) _) _) (Nat.le_of_lt hlt)
 have hC1 := (hC.below (below_alloc (below_alloc (Below.refl _ _) (.cells #[.string ⟨#[]⟩, .int .i64 0] 47)) (.cells #[.string ⟨#[]⟩, .int .i64 i] 47)))
 have hF1 : FB ((w.alloc (.cells #[.string ⟨#[]⟩, .int .i64 0] 47)).alloc (.cells #[.string ⟨#[]⟩, .int .i64 i] 47)) (w.heap.size + 1) ⟨#[]⟩ i := by
  have h := FB.new (w.alloc (.cells #[.string ⟨#[]⟩, .int .i64 0] 47)) ⟨#[]⟩ i
  rw [show (w.alloc (.cells #[.string ⟨#[]⟩, .int .i64 0] 47)).heap.size = w.heap.size + 1 from Array.size_push _] at h
  exact h
 have hG1 : FB ((w.alloc (.cells #[.string ⟨#[]⟩, .int .i64 0] 47)).alloc (.cells #[.string ⟨#[]⟩, .int .i64 i] 47)) w.heap.size ⟨#[]⟩ 0 := by
  have h := FB.new w ⟨#[]⟩ 0
  exact (below_alloc (Below.refl _ _) (.cells #[.string ⟨#[]⟩, .int .i64 i] 47)).block w.heap.size (cblk_lt h) |>.trans h
 go_enter Try.func35, Try.ntmps35
 go_wp2_with fail
 generalize (w.alloc (.cells #[.string ⟨#[]⟩, .int .i64 0] 47)).alloc (.cells #[.string ⟨#[]⟩, .int .i64 i] 47) = w1 at hm1 hC1 hF1 hG1 ⊢
 clear c0 c1 c2 f1 f2 hC
 obtain ⟨c0, c1, c2, f1, f2, hlt1⟩ := hC1.open_
 go_quiet (first | (go_at_call 36; (with_reducible refine (strings_HasPrefix.calls (text.extract i text.size) (⟨#[34]⟩ : ByteArray) r _ HP.out).mono ?_); rintro e w' ⟨rfl, ⟨nd, rfl⟩⟩; (try first | exact ⟨rfl, _, World.drewN_drewN _ _ _⟩ | exact ⟨rfl, _, Eq.trans (World.drewN_drewN _ _ _) (congrArg (World.drewN _) (Nat.add_assoc _ _ _))⟩)))
 have hraw : Hid (raw ((bytesOf text).drop i) = if r = true then (qd ((bytesOf text).drop (i + 1))).map (fun p => (p.1, p.2 + 1)) else some (pln ((bytesOf text).drop i), (pln ((bytesOf text).drop i)).length)) := by
  unfold raw
  rw [List.drop_drop]
  congr 1
  exact propext ⟨fun h => HR.out.symm.trans (decide_eq_true h), fun h => of_decide_eq_true (HR.out.trans h)⟩
 cases r
 case' true =>
  have hilt : i < text.size := by
   have h1 := congrArg List.length (show ((bytesOf text).drop i).take 1 = [34] from of_decide_eq_true HR.out)
   rw [List.length_take, List.length_drop, size_of] at h1
   simp at h1; omega
  go_wp2_with fail
  refine (cquoted (hC1.drewN nq) hilt hs).mono ?_
  rintro e w3 ⟨hm3, hq⟩
  replace hraw : raw ((bytesOf text).drop i) = (qd ((bytesOf text).drop (i + 1))).map (fun p => (p.1, p.2 + 1)) := by
   first | exact hraw.out.trans (if_pos rfl) | exact hraw.out.trans (if_pos trivial)
  have hm4 : Mv g w w3 := (hm1.drewN nq).trans hm3
  have hF3 : FB w3 (w.heap.size + 1) ⟨#[]⟩ i := hF1.mv ((Mv.refl g w1).drewN nq |>.trans hm3) (by omega)
  have hG3 : FB w3 w.heap.size ⟨#[]⟩ 0 := hG1.mv ((Mv.refl g w1).drewN nq |>.trans hm3) (by omega)
  cases hqd : qd ((bytesOf text).drop (i + 1))
  case none =>
   rw [hqd] at hq hraw
   obtain rfl := hq
   refine ⟨rfl, hm4, ?_⟩
   unfold fieldS
   rw [hraw]
   show _ = thrown 4 ((i + ((bytesOf text).drop i).length : Nat) : Int)
   rw [List.length_drop, size_of, show i + (text.size - i) = text.size by omega]
   rfl
  case' some p =>
   rw [hqd] at hq hraw
   obtain ⟨rfl, hC3⟩ := hq
   replace hC3 : Cur w3 g text ((i + (p.2 + 1) : Nat) : Int) rv := by rw [show i + (p.2 + 1) = i + 1 + p.2 by omega]; exact hC3
   obtain ⟨q, hq⟩ : ∃ q : List Int × Nat, (p.1, p.2 + 1) = q := ⟨_, rfl⟩
   replace hraw : raw ((bytesOf text).drop i) = some q := by rw [← hq]; exact hraw
   rw [show p.2 + 1 = q.2 by rw [← hq]] at hC3
   rw [show p.1 = q.1 by rw [← hq]]
   clear hq hqd hilt
 case' false =>
  go_wp2_with fail
  refine (cplain (hC1.drewN nq) hi hs).mono ?_
  rintro e w3 ⟨rfl, hm3, hC3⟩
  replace hraw : raw ((bytesOf text).drop i) = some (pln ((bytesOf text).drop i), (pln ((bytesOf text).drop i)).length) := by
   first | exact hraw.out.trans (if_neg Bool.false_ne_true) | exact hraw.out.trans (if_neg not_false)
  have hm4 : Mv g w w3 := (hm1.drewN nq).trans hm3
  have hF3 : FB w3 (w.heap.size + 1) ⟨#[]⟩ i := hF1.mv ((Mv.refl g w1).drewN nq |>.trans hm3) (by omega)
  have hG3 : FB w3 w.heap.size ⟨#[]⟩ 0 := hG1.mv ((Mv.refl g w1).drewN nq |>.trans hm3) (by omega)
  obtain ⟨q, hq⟩ : ∃ q : List Int × Nat, (pln ((bytesOf text).drop i), (pln ((bytesOf text).drop i)).length) = q := ⟨_, rfl⟩
  rw [hq] at hraw
  rw [show (pln ((bytesOf text).drop i)).length = q.2 by rw [← hq]] at hC3
  rw [show pln ((bytesOf text).drop i) = q.1 by rw [← hq]]
  clear hq
 all_goals
  clear hC1 hm1 hF1 hG1 hm3 HP HR c0 c1 c2 f1 f2
  have hql := raw_len hraw
  have hqB := raw_bytes ((bytes_of text).drop i) hraw
  rw [List.length_drop, size_of] at hql
  have HF := Lib.hid (fieldS_raw (i := i) hraw)
  rw [List.drop_drop] at HF
  obtain ⟨s, n⟩ := q
  obtain ⟨j, hj⟩ : ∃ j : Nat, i + n = j := ⟨_, rfl⟩
  simp only [hj] at HF hC3 ⊢
  have HJ := Lib.hid hj
  have hjz : j ≤ text.size := by simp only at hql; omega
  have hsz : (strOfNums s).size = s.length := size_strOfNums hqB
  simp only at hql ⊢
  obtain ⟨k0, k1, k2, k3, k4⟩ := hF3.open_
  have hF4 := hF3.put (strOfNums s)
  have hG4 := hG3.far (b' := w.heap.size + 1) (by omega) 0 (.string (strOfNums s))
  have hm5 := hm4.far (b := w.heap.size + 1) (by omega) (Nat.le_of_lt hlt) 0 (.string (strOfNums s))
  have hC4 := hC3.far (b := w.heap.size + 1) (by omega) 0 (.string (strOfNums s))
  obtain ⟨S, HSB⟩ : ∃ S, S = strOfNums s := ⟨_, rfl⟩
  rw [← HSB] at hsz hF4 hG4 hm5 hC4 ⊢
  replace HSB := Lib.hid HSB
  go_wp2_with fail
  generalize w3.setCell ⟨w.heap.size + 1, 0, none⟩ (.string S) = w5 at hF4 hG4 hm5 hC4 ⊢
  clear hF3 hG3 hm4 hC3 k0 k1 k2 k3 k4
  obtain ⟨k0, k1, k2, k3, k4⟩ := hF4.open_
  obtain ⟨c0, c1, c2, f1, f2, hlt5⟩ := hC4.open_
  obtain ⟨m0, m1, m2, m3, m4⟩ := hG4.open_
  by_cases hjl : j < text.size
  ·have e1 : decide ((j : Int) < (text.size : Int)) = true := decide_eq_true (by omega)
   have p1 := eq_true (show (0 : Int) ≤ (j : Int) by omega)
   have p2 := eq_true (show (j : Int) < (text.size : Int) by omega)
   have p3 := eq_true hjl
   obtain ⟨x, hx⟩ : ∃ x : UInt8, text[j]'hjl = x := ⟨_, rfl⟩
   have hx1 : ∀ h : j < text.size, (text[j]'h) = x := fun _ => hx
   have hdj : ((bytesOf text).drop j).take 1 = [(x.toNat : Int)] := by
    rw [← hx, List.drop_eq_getElem_cons (by rw [size_of]; exact hjl)]
    simp [bytesOf_data]; rfl
   clear hx
   by_cases h44 : (x.toNat : Int) = 44
   ·have e2 : ((x.toNat : Int) != 44) = false := by rw [h44]; rfl
    have hnb : ¬ fbad ((bytesOf text).drop j) := fun h => h.2.1 (by rw [hdj, h44])
    clear h44 hdj
    go_wp2_with fail
    go_quiet (first | (go_at_call 37; (with_reducible refine (cend (hC4.drewN _) hjz).mono ?_); rintro e w' ⟨rfl, ⟨nd, rfl⟩⟩; (try first | exact ⟨rfl, _, World.drewN_drewN _ _ _⟩ | exact ⟨rfl, _, Eq.trans (World.drewN_drewN _ _ _) (congrArg (World.drewN _) (Nat.add_assoc _ _ _))⟩)))
    replace hm5 := hm5.drewN nq
    replace hC4 := hC4.drewN nq
    have HF2 : Hid (fieldS ((bytesOf text).drop i) i = if 4096 < s.length then .inl (2, i) else .inr (s, n)) := HF.out.trans (if_neg hnb)
    by_cases h4 : 4096 < s.length
    ·have e4 : decide ((4096 : Int) < (S.size : Int)) = true := decide_eq_true (by omega)
     go_wp2_with fail
     refine (cfail _ _ _).mono ?_
     rintro e w7 ⟨rfl, rfl⟩
     exact ⟨rfl, hm5, by rw [HF2.out, if_pos h4]; rfl⟩
    ·have e4 : decide ((4096 : Int) < (S.size : Int)) = false := decide_eq_false (by omega)
     go_wp2_with fail
     have hG6 := (FB.put hG4 S).put1 i
     refine bodyPost_ret (results_cell_row rfl _ _ w.heap.size 47 #[.string S, .int .i64 i] (0, 0) _ rfl (by first | exact hG6 | exact hG6.drewN nq) Try.underlying47 rfl (by kernel_rfl)) rfl ?_
     have hm6 := (hm5.far (b := w.heap.size) (Nat.le_refl _) (Nat.le_of_lt hlt) 0 (.string S)).far (b := w.heap.size) (Nat.le_refl _) (Nat.le_of_lt hlt) 1 (.int .i64 i)
     have hC6 := (hC4.far (b := w.heap.size) (by omega) 0 (.string S)).far (b := w.heap.size) (by omega) 1 (.int .i64 i)
     refine ⟨hm6, ?_⟩
     rw [HF2.out, if_neg h4]
     exact ⟨by rw [← HSB.out], by show Cur _ g text ((i + n : Nat) : Int) rv; rw [HJ.out]; exact hC6⟩
   ·have e2 : ((x.toNat : Int) != 44) = true := bne_iff_ne.2 h44
    by_cases hlz : lend ((bytesOf text).drop j) = 0
    ·have e3 : (((lend ((bytesOf text).drop j) : Nat) : Int) == 0) = true := by rw [hlz]; rfl
     have hb : fbad ((bytesOf text).drop j) := ⟨fun h => by rw [h] at hdj; simp at hdj, fun h => h44 (by rw [hdj] at h; simpa using h), hlz⟩
     have HF2 := Lib.hid (HF.out.trans (if_pos hb))
     clear hlz hb hdj h44
     go_wp2_with fail
     go_quiet (first | (go_at_call 37; (with_reducible refine (cend (hC4.drewN _) hjz).mono ?_); rintro e w' ⟨rfl, ⟨nd, rfl⟩⟩; (try first | exact ⟨rfl, _, World.drewN_drewN _ _ _⟩ | exact ⟨rfl, _, Eq.trans (World.drewN_drewN _ _ _) (congrArg (World.drewN _) (Nat.add_assoc _ _ _))⟩)))
     replace hm5 := hm5.drewN nq
     replace hC4 := hC4.drewN nq
     go_wp2_with fail
     refine (cfail _ _ _).mono ?_
     rintro e w7 ⟨rfl, rfl⟩
     exact ⟨rfl, hm5, by rw [HF2.out]; rfl⟩
    ·have e3 : (((lend ((bytesOf text).drop j) : Nat) : Int) == 0) = false := beq_eq_false_iff_ne.2 (by omega)
     have hnb : ¬ fbad ((bytesOf text).drop j) := fun h => hlz h.2.2
     clear hlz hdj h44
     go_wp2_with fail
     go_quiet (first | (go_at_call 37; (with_reducible refine (cend (hC4.drewN _) hjz).mono ?_); rintro e w' ⟨rfl, ⟨nd, rfl⟩⟩; (try first | exact ⟨rfl, _, World.drewN_drewN _ _ _⟩ | exact ⟨rfl, _, Eq.trans (World.drewN_drewN _ _ _) (congrArg (World.drewN _) (Nat.add_assoc _ _ _))⟩)))
     replace hm5 := hm5.drewN nq
     replace hC4 := hC4.drewN nq
     have HF2 : Hid (fieldS ((bytesOf text).drop i) i = if 4096 < s.length then .inl (2, i) else .inr (s, n)) := HF.out.trans (if_neg hnb)
     by_cases h4 : 4096 < s.length
     ·have e4 : decide ((4096 : Int) < (S.size : Int)) = true := decide_eq_true (by omega)
      go_wp2_with fail
      refine (cfail _ _ _).mono ?_
      rintro e w7 ⟨rfl, rfl⟩
      exact ⟨rfl, hm5, by rw [HF2.out, if_pos h4]; rfl⟩
     ·have e4 : decide ((4096 : Int) < (S.size : Int)) = false := decide_eq_false (by omega)
      go_wp2_with fail
      have hG6 := (FB.put hG4 S).put1 i
      refine bodyPost_ret (results_cell_row rfl _ _ w.heap.size 47 #[.string S, .int .i64 i] (0, 0) _ rfl (by first | exact hG6 | exact hG6.drewN nq) Try.underlying47 rfl (by kernel_rfl)) rfl ?_
      have hm6 := (hm5.far (b := w.heap.size) (Nat.le_refl _) (Nat.le_of_lt hlt) 0 (.string S)).far (b := w.heap.size) (Nat.le_refl _) (Nat.le_of_lt hlt) 1 (.int .i64 i)
      have hC6 := (hC4.far (b := w.heap.size) (by omega) 0 (.string S)).far (b := w.heap.size) (by omega) 1 (.int .i64 i)
      refine ⟨hm6, ?_⟩
      rw [HF2.out, if_neg h4]
      exact ⟨by rw [← HSB.out], by show Cur _ g text ((i + n : Nat) : Int) rv; rw [HJ.out]; exact hC6⟩
  ·have e1 : decide ((j : Int) < (text.size : Int)) = false := decide_eq_false (by omega)
   have hnb : ¬ fbad ((bytesOf text).drop j) := fun h => h.1 (List.drop_eq_nil_of_le (by rw [size_of]; omega))
   go_wp2_with fail
   go_quiet (first | (go_at_call 37; (with_reducible refine (cend (hC4.drewN _) hjz).mono ?_); rintro e w' ⟨rfl, ⟨nd, rfl⟩⟩; (try first | exact ⟨rfl, _, World.drewN_drewN _ _ _⟩ | exact ⟨rfl, _, Eq.trans (World.drewN_drewN _ _ _) (congrArg (World.drewN _) (Nat.add_assoc _ _ _))⟩)))
   replace hm5 := hm5.drewN nq
   replace hC4 := hC4.drewN nq
   have HF2 : Hid (fieldS ((bytesOf text).drop i) i = if 4096 < s.length then .inl (2, i) else .inr (s, n)) := HF.out.trans (if_neg hnb)
   by_cases h4 : 4096 < s.length
   ·have e4 : decide ((4096 : Int) < (S.size : Int)) = true := decide_eq_true (by omega)
    go_wp2_with fail
    refine (cfail _ _ _).mono ?_
    rintro e w7 ⟨rfl, rfl⟩
    exact ⟨rfl, hm5, by rw [HF2.out, if_pos h4]; rfl⟩
   ·have e4 : decide ((4096 : Int) < (S.size : Int)) = false := decide_eq_false (by omega)
    go_wp2_with fail
    have hG6 := (FB.put hG4 S).put1 i
    refine bodyPost_ret (results_cell_row rfl _ _ w.heap.size 47 #[.string S, .int .i64 i] (0, 0) _ rfl (by first | exact hG6 | exact hG6.drewN nq) Try.underlying47 rfl (by kernel_rfl)) rfl ?_
    have hm6 := (hm5.far (b := w.heap.size) (Nat.le_refl _) (Nat.le_of_lt hlt) 0 (.string S)).far (b := w.heap.size) (Nat.le_refl _) (Nat.le_of_lt hlt) 1 (.int .i64 i)
    have hC6 := (hC4.far (b := w.heap.size) (by omega) 0 (.string S)).far (b := w.heap.size) (by omega) 1 (.int .i64 i)
    refine ⟨hm6, ?_⟩
    rw [HF2.out, if_neg h4]
    exact ⟨by rw [← HSB.out], by show Cur _ g text ((i + n : Nat) : Int) rv; rw [HJ.out]; exact hC6⟩
end Go.Proofs.Ytjmmdphkgioooaa.P
end
section
namespace Go.Proofs.Ytjmmdphkgioooaa.P
open Go.RowKit Go.Proofs.Ytjmmdphkgioooaa.La Go.Proofs.YtjmmdphkgioooaaW.PrintWords Go.Proofs.YtjmmdphkgioooaaW.PrintLast Go.Proofs.YtjmmdphkgioooaaW.PrintMore
theorem cinfoF : (Try.prog.info? 47).map (fun i => (i.zero, i.size, i.bytes)) = some (some (.agg #[.string ⟨#[]⟩, .int .i64 0]), 2, 24) := by kernel_rfl
theorem cinfoR : (Try.prog.info? 45).map (fun i => (i.zero, i.size, i.bytes)) = some (some (.slice none 0 0), 1, 24) := by kernel_rfl
/-- What a row's reading says. -/
def rowR (rows : List (List S47)) (l : List Int) (i : Nat) : (Int × Nat) ⊕ (List S47 × Nat) :=
 if 512 < rows.length then .inl (2, i) else
 match rowS 64 [] l i with
 | .inl e => .inl e
 | .inr (r, _, j) => if rows ≠ [] ∧ r.length ≠ (rows.headD []).length then .inl (7, i) else .inr (r, j)
/-- What it leaves. -/
def RRes (B : Nat) (w' : World) (g : Nat) (text : ByteArray) (rows : List (List S47)) (x : Ending) : (Int × Nat) ⊕ (List S47 × Nat) → Prop
 | .inl e => x = thrown e.1 e.2
 | .inr p => x = .returned (.tuple #[]) ∧ ∃ rv', Cur w' g text (p.2 : Nat) rv' ∧ Kd.S (Kd.slice 47 k47) 45 w' B (fun k => k ≠ g) rv' (rows ++ [p.1])
/-- The state of the loop over a row's fields. -/
def RInv (w : World) (g : Nat) (text : ByteArray) (rv : Value) (res : (Int × Nat) ⊕ (List S47 × List Int × Nat)) (k : Nat) (vl : Value) (wx : World) : Prop :=
 ∃ (n j : Nat) (acc : List S47), k = n + 1 ∧ Cur wx g text j rv ∧ Mv g w wx ∧ Kd.R k47 47 wx w.heap.size (fun _ => True) vl acc ∧ acc.length + n = 64 ∧ j ≤ text.size ∧
  res = rowS n acc ((bytesOf text).drop j) j
set_option maxRecDepth 100000 in
set_option maxHeartbeats 8000000 in
theorem crow {B : Nat} {w : World} {g : Nat} {text : ByteArray} {i : Nat} {rv : Value} {rows : List (List S47)} (hC : Cur w g text i rv) (hS : Kd.S (Kd.slice 47 k47) 45 w B (fun k => k ≠ g) rv rows) (hB : B ≤ g) (hi : i ≤ text.size) (hs : text.size ≤ 70000) (hr : rows.length ≤ 513) :
  Calls Try.prog 29 #[.pointer (some ⟨g, 0, none⟩)] w fun x w' => Below B w w' ∧ RRes B w' g text rows x (rowR rows ((bytesOf text).drop i) i) := by
 obtain ⟨c0, c1, c2, f1, f2, hlt⟩ := hC.open_
 obtain ⟨RA, RC, hrv, hrc, hRC⟩ := Kd.S_reads hS
 have HRV := Lib.hid hrv
 obtain ⟨res, hres⟩ : ∃ res, rowS 64 [] ((bytesOf text).drop i) i = res := ⟨_, rfl⟩
 have HRES := Lib.hid hres
 by_cases h512 : 512 < rows.length
 ·have e1 : decide ((512 : Int) < (rows.length : Int)) = true := decide_eq_true (by omega)
  rw [hrv] at c2
  go_enter Try.func29, Try.ntmps29
  go_wp2_with fail
  refine (cfail _ _ _).mono ?_
  rintro e w7 ⟨rfl, rfl⟩
  refine ⟨rfl, Below.refl _ _, ?_⟩
  unfold rowR
  rw [if_pos h512]
  rfl
 ·have e1 : decide ((512 : Int) < (rows.length : Int)) = false := decide_eq_false (by omega)
  have c2' := c2
  rw [hrv] at c2'
  go_enter Try.func29, Try.ntmps29
  clear c2
  go_wp2_with fail
  go_loopg [3] 65 (fun k vl wx => RInv w g text rv res k vl wx)
  case atStart => exact ⟨64, i, [], rfl, hC, Mv.refl g w, Kd.R_nil _ _ _ _ _, rfl, hi, HRES.out.symm⟩
  case round =>
   obtain ⟨n, j, acc, hk, hCx, hm, hR, hn, hj, hresx⟩ := hrel
   obtain ⟨LA, LC, hvl, hlc, hLC⟩ := Kd.R_reads hR
   clear c0 c1 c2' f1 f2 e1
   obtain ⟨c0, c1, c2, f1, f2, hltx⟩ := hCx.open_
   have HRX := Lib.hid hresx
   have HK := Lib.hid hk
   clear hresx hres hk
   cases n with
   | zero =>
    have e2 : (((acc.length : Nat) : Int) == 64) = true := beq_iff_eq.2 (by omega)
    rw [hvl]
    go_wp2_with fail
    refine (cfail _ _ _).mono ?_
    rintro e w7 ⟨rfl, rfl⟩
    refine ⟨rfl, hm.low hB, ?_⟩
    unfold rowR
    rw [if_neg h512, HRES.out, HRX.out]
    rfl
   | succ n =>
    have e2 : (((acc.length : Nat) : Int) == 64) = false := beq_eq_false_iff_ne.2 (by omega)
    have hvl' := hvl
    subst hvl'
    go_wp2_with fail
    refine (cfield hCx hj hs).mono ?_
    rintro e w3 ⟨hm3, hf⟩
    have hm4 := hm.trans hm3
    cases hfs : fieldS ((bytesOf text).drop j) j with
    | inl e =>
     rw [hfs] at hf
     obtain rfl := hf
     refine ⟨rfl, hm4.low hB, ?_⟩
     unfold rowR
     rw [if_neg h512, HRES.out, HRX.out, rowS, hfs]
     rfl
    | inr p =>
     rw [hfs] at hf
     obtain ⟨rfl, hC3⟩ := hf
     obtain ⟨hp1, hp2, hp3⟩ := fieldS_len hfs
     rw [List.length_drop, size_of] at hp3
     have hRX : Hid (res = if (((bytesOf text).drop j).drop p.2).take 1 = [44] then rowS n (acc ++ [⟨strOfNums p.1, (j : Int)⟩]) (((bytesOf text).drop j).drop (p.2 + 1)) (j + p.2 + 1)
       else .inr (acc ++ [⟨strOfNums p.1, (j : Int)⟩], ((bytesOf text).drop j).drop (p.2 + lend (((bytesOf text).drop j).drop p.2)), j + p.2 + lend (((bytesOf text).drop j).drop p.2))) := by
      rw [HRX.out, rowS, hfs]
      rfl
     simp only [List.drop_drop] at hRX
     have hR3 := Kd.R_mono (Kd.R_step (w1 := w3) (Kd.R_bound hR) (fun k hk hlt => hm3.2 k hlt (by have := hk.2.1; omega))) (fun _ hk => hk.1)
     have hlow3 : w.heap.size ≤ w3.heap.size := hm4.1.size
     have hF := k47_mkM w3 w.heap.size (fun _ => False) (⟨strOfNums p.1, (j : Int)⟩ : S47)
     simp only at hF
     clear hfs HRX hR hLC c0 c1 c2 f1 f2 hCx
     generalize strOfNums p.1 = S at hRX hF ⊢
     obtain ⟨m, hmj⟩ : ∃ m : Nat, j + p.2 = m := ⟨_, rfl⟩
     rw [hmj] at hC3 hRX
     have hmz : m ≤ text.size := by omega
     go_wp2_with (at_builtin; refine Kd.R_append k47 (w0 := w3) w.heap.size rfl (.tmp 24) (.tmp 27) 45 47 (.agg #[.string ⟨#[]⟩, .int .i64 0]) 24 rfl Try.underlying45 cinfoF rfl (by decide) (by omega) (.slice LA acc.length LC) acc (⟨S, (j : Int)⟩ : S47) [.string S, .int .i64 (j : Int)] (fun _ => True) (fun _ => False) rfl (by first | (go_simp; done) | (go_simp; rfl)) hF (fun _ hk => hk.elim) (fun _ _ => trivial) hR3 (Below.refl _ _) hlow3 (by omega) ?_)
     intro v1 w4 hR4 hb4 hg4 hat4
     have hm5 := hm4.then hb4 (Nat.le_of_lt hlt)
     have hC4 : Cur w4 g text (m : Int) rv := (show w4.heap[g]? = _ from (hb4.block g hlt)).trans hC3
     clear hR3 hF hC3 hm4 hm3 hg4 hat4 hb4
     obtain ⟨c0, c1, c2, f1, f2, hlt4⟩ := hC4.open_
     have c3b0 := eq_true (show (0 : Int) ≤ (m : Int) by omega)
     have c3b1 : decide ((0 : Int) ≤ (m : Int)) = true := decide_eq_true (by omega)
     have c4b0 := eq_true (show (m : Int) ≤ (text.size : Int) by omega)
     have c4b1 : decide ((m : Int) ≤ (text.size : Int)) = true := decide_eq_true (by omega)
     obtain ⟨r, hr44⟩ : ∃ r : Bool, decide (((bytesOf text).drop m).take (⟨#[44]⟩ : ByteArray).size = bytesOf ⟨#[44]⟩) = r := ⟨_, rfl⟩
     have HP := Lib.hid ((pre_at text m ⟨#[44]⟩).trans (by rw [hr44]))
     have HR := Lib.hid hr44
     have HMJ := Lib.hid hmj
     clear hr44 hmj
     cases r with
     | true =>
      go_wp2_with fail
      go_quiet (first | (go_at_call 36; (with_reducible refine (strings_HasPrefix.calls (text.extract m text.size) (⟨#[44]⟩ : ByteArray) true _ HP.out).mono ?_); rintro e w' ⟨rfl, ⟨nd, rfl⟩⟩; (try first | exact ⟨rfl, _, World.drewN_drewN _ _ _⟩ | exact ⟨rfl, _, Eq.trans (World.drewN_drewN _ _ _) (congrArg (World.drewN _) (Nat.add_assoc _ _ _))⟩)))
      have hC5 := (hC4.drewN nq).moved ((m : Int) + 1)
      have hm6 := (hm5.drewN nq).trans (Mv.set g (w4.drewN nq) 1 (.int .i64 ((m : Int) + 1)))
      have hR5 := Kd.R_mono (Kd.R_step (w1 := (w4.drewN nq).setCell ⟨g, 1, none⟩ (.int .i64 ((m : Int) + 1))) (Kd.R_bound (Kd.R_drewN hR4 nq)) (fun k hk hlt' => (Mv.set g (w4.drewN nq) 1 (.int .i64 ((m : Int) + 1))).2 k hlt' (by have := hk.2.1; omega))) (fun _ hk => hk.1)
      have hmlt : m < text.size := by
       have h1 := congrArg List.length (show ((bytesOf text).drop m).take 1 = [44] from of_decide_eq_true HR.out)
       rw [List.length_take, List.length_drop, size_of] at h1
       simp at h1; omega
      have hRX2 := Lib.hid (hRX.out.trans (if_pos (show ((bytesOf text).drop m).take 1 = [44] from of_decide_eq_true HR.out)))
      have hw2 : IntKind.i64.wrap ((m : Int) + 1) = (m : Int) + 1 := cwrap _ (by omega) (by omega)
      go_wp2_with fail
      have hk := HK.out
      subst hk
      go_roundg (n + 1)
      case rel =>
       have hmj := HMJ.out
       refine ⟨n, m + 1, acc ++ [⟨S, (j : Int)⟩], rfl, by rw [Int.natCast_add]; exact hC5, hm6, hR5, by rw [List.length_append]; simp; omega, by omega, ?_⟩
       rw [hRX2.out, ← hmj]
       rfl
      case measure => omega
     | false =>
      go_wp2_with fail
      go_quiet (first | (go_at_call 36; (with_reducible refine (strings_HasPrefix.calls (text.extract m text.size) (⟨#[44]⟩ : ByteArray) false _ HP.out).mono ?_); rintro e w' ⟨rfl, ⟨nd, rfl⟩⟩; (try first | exact ⟨rfl, _, World.drewN_drewN _ _ _⟩ | exact ⟨rfl, _, Eq.trans (World.drewN_drewN _ _ _) (congrArg (World.drewN _) (Nat.add_assoc _ _ _))⟩)))
      have hC5 := hC4.drewN nq
      have hm6 := hm5.drewN nq
      have hR5 := Kd.R_drewN hR4 nq
      have hRX2 := Lib.hid (hRX.out.trans (if_neg (show ¬ ((bytesOf text).drop m).take 1 = [44] from of_decide_eq_false HR.out)))
      clear hRX
      have hLz := lend_le ((bytesOf text).drop m)
      rw [List.length_drop, size_of] at hLz
      obtain ⟨L, hL⟩ : ∃ L, lend ((bytesOf text).drop m) = L := ⟨_, rfl⟩
      have HCE := fun (q : Nat) => cend (w := w4.drewN q) (i := m) (hC4.drewN q) hmz
      simp only [hL] at HCE hRX2 hLz
      have hw3 : IntKind.i64.wrap ((m : Int) + (L : Int)) = (m : Int) + (L : Int) := cwrap _ (by omega) (by omega)
      go_wp2_with fail
      go_region_with (first | (go_at_call 37; refine (HCE _).mono ?_; rintro e w5 ⟨rfl, n5, rfl⟩))
      all_goals
       obtain ⟨q, hq⟩ : ∃ q : Nat, nq + 1 + n5 = q := ⟨_, rfl⟩
       rw [hq]
       have hC7 := (hC4.drewN q).moved ((m : Int) + (L : Int))
       have hm7 := (hm5.drewN q).trans (Mv.set g (w4.drewN q) 1 (.int .i64 ((m : Int) + (L : Int))))
       have hR7 := Kd.R_mono (Kd.R_step (w1 := (w4.drewN q).setCell ⟨g, 1, none⟩ (.int .i64 ((m : Int) + (L : Int)))) (Kd.R_bound (Kd.R_drewN hR4 q)) (fun k hk hlt' => (Mv.set g (w4.drewN q) 1 (.int .i64 ((m : Int) + (L : Int)))).2 k hlt' (by have := hk.2.1; omega))) (fun _ hk => hk.1)
       generalize (w4.drewN q).setCell ⟨g, 1, none⟩ (.int .i64 ((m : Int) + (L : Int))) = w7 at hC7 hm7 hR7 ⊢
       clear hq hC5 hm6 hR5 hC4 hm5 hR4 c0 c1 c2 f1 f2 HCE hw3
       have hS7 := Kd.S_step hS (w1 := w7) (fun k hk hlt' => hm7.2 k hlt' hk)
       have hRC7 : Kd.C (Kd.slice 47 k47) w7 RA rows.length rows := by
        have h := hS7
        rw [HRV.out] at h
        exact (Kd.S_reads' h).2.2
       obtain ⟨c0, c1, c2, f1, f2, hlt7⟩ := hC7.open_
       have c2' := c2
       rw [HRV.out] at c2'
       obtain ⟨V1, hv1a⟩ : ∃ V, v1 = V := ⟨_, rfl⟩
       obtain ⟨LA1, LC1, hv1, hlc1, hLC1⟩ := Kd.R_reads hR7
       have hnl : (acc ++ [(⟨S, (j : Int)⟩ : S47)]).length = acc.length + 1 := by simp
       rw [hnl] at hv1
       have HV1 := Lib.hid hv1
       clear hv1a
       subst hv1
       have hRR : Hid (rowR rows ((bytesOf text).drop i) i = if rows ≠ [] ∧ acc.length + 1 ≠ (rows.headD []).length then .inl (7, i) else .inr (acc ++ [(⟨S, (j : Int)⟩ : S47)], m + L)) := by
        unfold rowR
        rw [if_neg h512, HRES.out, hRX2.out]
        refine Lib.hid ?_
        show (if rows ≠ [] ∧ (acc ++ [(⟨S, (j : Int)⟩ : S47)]).length ≠ (rows.headD []).length then Sum.inl (7, i) else Sum.inr (acc ++ [(⟨S, (j : Int)⟩ : S47)], m + L)) = _
        rw [hnl]
       have hown : ∀ k, (Value.slice RA rows.length RC).ownBlock = some k → k < w.heap.size := by
        intro k hk
        exact Kd.S_lt hS k (by rw [HRV.out]; exact hk)
       have hO7 : Kd.S (Kd.slice 47 k47) 45 w7 B (fun k => k ≠ g ∧ ¬ w.heap.size ≤ k) (.slice RA rows.length RC) rows := by
        rw [← HRV.out]
        exact Kd.S_mono (Kd.S_step (Kd.S_bound hS) (fun k hk hlt' => hm7.2 k hlt' hk.1)) (fun k hk => ⟨hk.1, by have := hk.2.2.1; omega⟩)
       have hP7 : (Kd.slice 47 k47).M w7 B (fun k => w.heap.size ≤ k) (acc ++ [(⟨S, (j : Int)⟩ : S47)]) [.slice LA1 (acc.length + 1) LC1] :=
        ⟨_, rfl, Kd.R_mono (Kd.R_lower (Kd.R_bound hR7) (by omega)) (fun k hk => hk.2.1)⟩
       have hlow7 : w.heap.size ≤ w7.heap.size := hm7.1.size
       have hN := Lib.hid hnl
       clear hr hnl hR7 hS7 hRX2
       by_cases hr0 : rows = []
       ·have e3 : decide ((0 : Int) < (rows.length : Int)) = false := by rw [hr0]; rfl
        have e5 := eq_false (show ¬ 0 < rows.length by rw [hr0]; simp)
        have HRR := Lib.hid (hRR.out.trans (if_neg (fun h => h.1 hr0)))
        clear hr0 hRR
        go_wp2_with (at_builtin; refine Kd.S_append (Kd.slice 47 k47) (w0 := w7) B rfl (.tmp 80) (.tmp 82) 42 45 (.slice none 0 0) 24 rfl Try.underlying42 cinfoR rfl (by decide) (by omega) (.slice RA rows.length RC) rows (acc ++ [(⟨S, (j : Int)⟩ : S47)]) [.slice LA1 (acc.length + 1) LC1] (fun k => k ≠ g) (fun k => w.heap.size ≤ k) rfl (by first | (go_simp; done) | (go_simp; rfl)) hP7 (fun k hk => ⟨by omega, fun e => by have := hown k e.symm; omega⟩) (fun k hk => by omega) hO7 (Below.refl _ _) (by omega) (by omega) ?_)
        intro v2 w8 hS8 hb8 hg8 hat8
        have hC8 : Cur w8 g text ((m : Int) + (L : Int)) rv := (show w8.heap[g]? = _ from hg8.block g hlt7 (Kd.S_away hO7 (fun k hk => hk.1))).trans hC7
        obtain ⟨A2, cc2, rfl, _, _⟩ := Kd.S_reads hS8
        have hC9 := hC8.put (.slice A2 (rows ++ [acc ++ [(⟨S, (j : Int)⟩ : S47)]]).length cc2)
        have hS9 := Kd.S_far hS8 (p := ⟨g, 2, none⟩) (fun k hk => hk) (.slice A2 (rows ++ [acc ++ [(⟨S, (j : Int)⟩ : S47)]]).length cc2)
        have hB9 := (((hm7.low hB).trans hb8).setCell (p := ⟨g, 2, none⟩) hB (.slice A2 (rows ++ [acc ++ [(⟨S, (j : Int)⟩ : S47)]]).length cc2))
        generalize (rows ++ [acc ++ [(⟨S, (j : Int)⟩ : S47)]]).length = nn at hC9 hS9 hB9 ⊢
        clear c0 c1 c2 c2' f1 f2 hg8 hat8
        obtain ⟨c0, c1, c2, f1, f2, hlt8⟩ := hC8.open_
        go_wp2_with fail
        go_end0
        refine ⟨hB9, ?_⟩
        rw [HRR.out]
        exact ⟨rfl, _, by rw [Int.natCast_add]; exact hC9, hS9⟩
       ·have hpos : 0 < rows.length := List.length_pos_iff.2 hr0
        have e3 : decide ((0 : Int) < (rows.length : Int)) = true := decide_eq_true (by omega)
        have e5 := eq_true hpos
        obtain ⟨ad, cs0, hA0, _, ⟨A0, C0, rfl, _, _⟩, hc0⟩ := Kd.C_get hRC7 [] 0 (by omega) (by omega)
        have hh : rows.getD (0 : Int).toNat [] = rows.headD [] := by
         cases rows <;> rfl
        have hcell := hc0 0 _ rfl
        rw [hh] at hcell
        clear hh hc0
        subst hA0
        replace hcell : w7.cell? ad = some (.slice A0 (rows.headD []).length C0) := hcell
        generalize (rows.headD []).length = hd at hcell hRR
        by_cases hle : acc.length + 1 = hd
        ·have e4 : (((acc.length : Int) + 1) != (hd : Int)) = false := by rw [← hle]; simp
         have HRR := Lib.hid (hRR.out.trans (if_neg (fun h => h.2 hle)))
         clear hr0 hRR hle
         go_wp2_with (at_builtin; refine Kd.S_append (Kd.slice 47 k47) (w0 := w7) B rfl (.tmp 80) (.tmp 82) 42 45 (.slice none 0 0) 24 rfl Try.underlying42 cinfoR rfl (by decide) (by omega) (.slice (some ad) rows.length RC) rows (acc ++ [(⟨S, (j : Int)⟩ : S47)]) [.slice LA1 (acc.length + 1) LC1] (fun k => k ≠ g) (fun k => w.heap.size ≤ k) rfl (by first | (go_simp; done) | (go_simp; rfl)) hP7 (fun k hk => ⟨by omega, fun e => by have := hown k e.symm; omega⟩) (fun k hk => by omega) hO7 (Below.refl _ _) (by omega) (by omega) ?_)
         intro v2 w8 hS8 hb8 hg8 hat8
         have hC8 : Cur w8 g text ((m : Int) + (L : Int)) rv := (show w8.heap[g]? = _ from hg8.block g hlt7 (Kd.S_away hO7 (fun k hk => hk.1))).trans hC7
         obtain ⟨A2, cc2, rfl, _, _⟩ := Kd.S_reads hS8
         have hC9 := hC8.put (.slice A2 (rows ++ [acc ++ [(⟨S, (j : Int)⟩ : S47)]]).length cc2)
         have hS9 := Kd.S_far hS8 (p := ⟨g, 2, none⟩) (fun k hk => hk) (.slice A2 (rows ++ [acc ++ [(⟨S, (j : Int)⟩ : S47)]]).length cc2)
         have hB9 := (((hm7.low hB).trans hb8).setCell (p := ⟨g, 2, none⟩) hB (.slice A2 (rows ++ [acc ++ [(⟨S, (j : Int)⟩ : S47)]]).length cc2))
         generalize (rows ++ [acc ++ [(⟨S, (j : Int)⟩ : S47)]]).length = nn at hC9 hS9 hB9 ⊢
         clear c0 c1 c2 c2' f1 f2 hg8 hat8
         obtain ⟨c0, c1, c2, f1, f2, hlt8⟩ := hC8.open_
         go_wp2_with fail
         go_end0
         refine ⟨hB9, ?_⟩
         rw [HRR.out]
         exact ⟨rfl, _, by rw [Int.natCast_add]; exact hC9, hS9⟩
        ·have e4 : (((acc.length : Int) + 1) != (hd : Int)) = true := bne_iff_ne.2 (by omega)
         have HRR := Lib.hid (hRR.out.trans (if_pos ⟨hr0, hle⟩))
         clear hr0 hRR hle
         go_wp2_with fail
         refine (cfail _ _ _).mono ?_
         rintro e w8 ⟨rfl, rfl⟩
         refine ⟨rfl, hm7.low hB, ?_⟩
         rw [HRR.out]
         rfl
end Go.Proofs.Ytjmmdphkgioooaa.P
end
section
namespace Go.Proofs.Ytjmmdphkgioooaa.La
/-- Where the last line begins. -/
def lst : List Int → Nat
 | [] => 0
 | b :: t => if 0 < lst t then lst t + 1 else if b = 10 then 1 else 0
def nl (l : List Int) : Nat := cntB l 10
theorem lst_le (l : List Int) : lst l ≤ l.length := by
 induction l with
 | nil => simp [lst]
 | cons b t ih => simp only [lst, List.length_cons]; (repeat' split) <;> omega
theorem lst_append (a b : List Int) : lst (a ++ b) = if 0 < lst b then a.length + lst b else lst a := by
 induction a with
 | nil => simp [lst]
 | cons x a ih =>
  simp only [List.cons_append, lst, ih, List.length_cons]
  by_cases h : 0 < lst b
  ·simp only [if_pos h]
   rw [if_pos (by omega)]
   omega
  ·simp only [if_neg h]
theorem lst_snoc (a : List Int) (x : Int) : lst (a ++ [x]) = if x = 10 then a.length + 1 else lst a := by
 rw [lst_append]
 by_cases h : x = 10
 ·simp [lst, h]
 ·simp [lst, h]
end Go.Proofs.Ytjmmdphkgioooaa.La
end
section
namespace Go.Proofs.Ytjmmdphkgioooaa.P
open Go.RowKit Go.Proofs.YtjmmdphkgioooaaW.PrintWords Go.Proofs.YtjmmdphkgioooaaW.PrintLast Go.Proofs.YtjmmdphkgioooaaW.PrintMore
attribute [local go_sem] max2_int min2_int max_two min_two max_three min_three max_four min_four   -- for this text's walks alone
set_option linter.unusedVariables false
set_option linter.unusedSimpArgs false
/-! ### place_clamp: function 32 -/
def place_clamp.f (a0 : ByteArray) (a1 : Int) : Option (Int) := some (mn (mx a1 0) (a0.size : Int))
set_option maxHeartbeats 8000000 in
set_option maxRecDepth 100000 in
theorem place_clamp.calls (a0 : ByteArray) (a1 : Int) (r : Int) (w : World) (h : place_clamp.f a0 a1 = some r) :
  Calls Try.prog 32 #[.string a0, .int .i64 a1] w fun e w' => e = .returned (.int .i64 r) ∧ Below w.heap.size w w' := by
 have HB := Aside0.mk (Below.refl w.heap.size w)
 have H : (some (mn (mx a1 0) (a0.size : Int))) = some r := h
 clear h
 obtain ⟨ji3, hji3⟩ : ∃ j_ : Int, (mx a1 0) = j_ := ⟨_, rfl⟩
 replace H : (some (mn (ji3) (a0.size : Int))) = some r := by first | (rw [hji3] at H; exact H) | (simp only [hji3] at H ⊢; exact H)
 (try (have hji3l : 0 ≤ ji3 := by (rw [← hji3]; unfold mx; (repeat' split) <;> omega)))
 (try (have hji3m : 0 ≤ ji3 := by omega))
 have hji3_ : (if a1 < 0 then 0 else a1) = ji3 := hji3
 obtain ⟨ji4, hji4⟩ : ∃ j_ : Int, (mn (ji3) (a0.size : Int)) = j_ := ⟨_, rfl⟩
 replace H : (some ji4) = some r := by first | (rw [hji4] at H; exact H) | (simp only [hji4] at H ⊢; exact H)
 have hji4_ : (if (a0.size : Int) < (ji3) then (a0.size : Int) else (ji3)) = ji4 := hji4
 obtain rfl := Option.some.inj H
 go_enter Try.func32, Try.ntmps32
 go_wp2
 go_ret
 exact ⟨by first | rfl | (simp [errW_none, errW_some] <;> rfl) | (simp [*, errW_none, errW_some, bne]; done) | (simp only [← hji3, ← hji4]; first | rfl | (simp [errW_none, errW_some] <;> rfl)) | (simp [*, errW_none, errW_some] <;> rfl), by repeat (first | (with_reducible first | exact HB.out | apply below_alloc | apply pw_below_drewN | apply below_drew1) | exact HB.out)⟩
end Go.Proofs.Ytjmmdphkgioooaa.P
end
section
namespace Go.Proofs.Ytjmmdphkgioooaa.P
open Go.RowKit Go.Proofs.YtjmmdphkgioooaaW.PrintWords Go.Proofs.YtjmmdphkgioooaaW.PrintLast Go.Proofs.YtjmmdphkgioooaaW.PrintMore
attribute [local go_sem] max2_int min2_int max_two min_two max_three min_three max_four min_four   -- for this text's walks alone
set_option linter.unusedVariables false
set_option linter.unusedSimpArgs false
/-! ### bytealg_LastIndexByteString: function 48 -/
def bytealg_LastIndexByteString.l0 : Nat → ByteArray → Int → Int → Option (Int)
 | 0, _, _, _ => none
 | k + 1, x0, x1, x5 => if x5 ≥ 0 then (if 0 ≤ x5 then (if x5 < (x0.size : Int) then (if (bt x0 x5) = x1 then (some x5) else (bytealg_LastIndexByteString.l0 k x0 x1 (wrap64 (x5 - 1)))) else (none)) else (none)) else (some (-1))
def bytealg_LastIndexByteString.f (k : Nat) (a0 : ByteArray) (a1 : Int) : Option (Int) := bytealg_LastIndexByteString.l0 k a0 a1 (wrap64 ((a0.size : Int) - 1))
set_option maxHeartbeats 8000000 in
set_option maxRecDepth 100000 in
theorem bytealg_LastIndexByteString.calls (k : Nat) (a0 : ByteArray) (a1 : Int) (r : Int) (w : World) (h : bytealg_LastIndexByteString.f k a0 a1 = some r) :
  Calls Try.prog 48 #[.string a0, .int .u8 a1] w fun e w' => e = .returned (.int .i64 r) ∧ Drawn0 w w' := by
 have H : (bytealg_LastIndexByteString.l0 k a0 a1 (wrap64 ((a0.size : Int) - 1))) = some r := h
 clear h
 have H' := Aside0.mk H
 clear H
 go_enter Try.func48, Try.ntmps48
 go_wp2
 go_loopg [5] k (fun kq v5 w' => ∃ (x5_1 : Int), v5 = .int .i64 x5_1 ∧ Aside0 (bytealg_LastIndexByteString.l0 kq a0 a1 x5_1 = some r) ∧ Aside0 (kq ≤ k) ∧ Drawn0 w w')
 case atStart => exact ⟨(wrap64 ((a0.size : Int) - 1)), (by first | rfl | (simp; done) | (simp [*]; done)), H', ⟨Nat.le_refl _⟩, by repeat (first | exact Drawn0.refl _ | apply Drawn0.step)⟩
 case round =>
  clear H'
  try clear p2
  obtain ⟨x5_1, rfl, HA, HK1, ⟨m1, rfl⟩⟩ := hrel
  cases gk with
  | zero => exact absurd HA.out (by simp [bytealg_LastIndexByteString.l0])
  | succ k1 =>
   have H := HA.out
   clear HA
   simp only [bytealg_LastIndexByteString.l0] at H
   by_cases c3 : x5_1 ≥ 0
   ·rw [if_pos c3] at H
    have c3b0 : decide (0 ≤ x5_1) = true := decide_eq_true c3
    clear c3
    by_cases c4 : 0 ≤ x5_1
    ·rw [if_pos c4] at H
     have c4b0 : decide (0 ≤ x5_1) = true := decide_eq_true c4
     clear c4
     by_cases c5 : x5_1 < (a0.size : Int)
     ·rw [if_pos c5] at H
      have c5b0 : decide (x5_1 < (a0.size : Int)) = true := decide_eq_true c5
      clear c5
      by_cases c7 : (bt a0 x5_1) = a1
      ·rw [if_pos c7] at H
       have c7b0 : ((bt a0 x5_1) == a1) = true := beq_iff_eq.mpr c7
       have c7b1 : ((bt a0 x5_1) != a1) = false := bne_eq_false_iff_eq.mpr c7
       clear c7
       obtain rfl := Option.some.inj H
       have p6 : 0 ≤ (x5_1 : Int) := of_decide_eq_true (by first | (with_reducible assumption) | assumption)
       have q6 : x5_1 < (a0.size : Int) := of_decide_eq_true (by first | (with_reducible assumption) | assumption)
       have hx6 := bt_at a0 x5_1
       replace p6 := eq_true p6
       replace q6 := eq_true q6
       go_wp2
       go_ret
       exact ⟨by first | rfl | (simp; done) | (simp [*]; done), by repeat (first | exact Drawn0.refl _ | apply Drawn0.step)⟩
      ·rw [if_neg c7] at H
       have c7b0 : ((bt a0 x5_1) == a1) = false := beq_eq_false_iff_ne.mpr c7
       have c7b1 : ((bt a0 x5_1) != a1) = true := bne_iff_ne.mpr c7
       have H' := Aside0.mk H
       clear H
       have p6 : 0 ≤ (x5_1 : Int) := of_decide_eq_true (by first | (with_reducible assumption) | assumption)
       have q6 : x5_1 < (a0.size : Int) := of_decide_eq_true (by first | (with_reducible assumption) | assumption)
       have hx6 := bt_at a0 x5_1
       replace p6 := eq_true p6
       replace q6 := eq_true q6
       go_wp2
       go_roundg k1
       case measure => have := HK1.out; omega
       case rel => exact ⟨(wrap64 (x5_1 - 1)), (by first | rfl | (simp; done) | (simp [*]; done)), H', ⟨by have := HK1.out; omega⟩, by repeat (first | exact Drawn0.refl _ | apply Drawn0.step)⟩
     ·rw [if_neg c5] at H
      exact absurd H (by simp)
    ·rw [if_neg c4] at H
     exact absurd H (by simp)
   ·rw [if_neg c3] at H
    have c3b0 : decide (0 ≤ x5_1) = false := decide_eq_false c3
    clear c3
    obtain rfl := Option.some.inj H
    go_wp2
    go_ret
    exact ⟨by first | rfl | (simp; done) | (simp [*]; done), by repeat (first | exact Drawn0.refl _ | apply Drawn0.step)⟩
end Go.Proofs.Ytjmmdphkgioooaa.P
end
section
namespace Go.Proofs.Ytjmmdphkgioooaa.P
open Go.RowKit Go.Proofs.YtjmmdphkgioooaaW.PrintWords Go.Proofs.YtjmmdphkgioooaaW.PrintLast Go.Proofs.YtjmmdphkgioooaaW.PrintMore
attribute [local go_sem] max2_int min2_int max_two min_two max_three min_three max_four min_four   -- for this text's walks alone
set_option linter.unusedVariables false
set_option linter.unusedSimpArgs false
/-! ### strings_LastIndexByte: function 39 -/
def strings_LastIndexByte.f (k : Nat) (a0 : ByteArray) (a1 : Int) : Option (Int) := (bytealg_LastIndexByteString.f k a0 a1).bind fun t101 => (some t101)
set_option maxHeartbeats 8000000 in
set_option maxRecDepth 100000 in
theorem strings_LastIndexByte.calls (k : Nat) (a0 : ByteArray) (a1 : Int) (r : Int) (w : World) (h : strings_LastIndexByte.f k a0 a1 = some r) :
  Calls Try.prog 39 #[.string a0, .int .u8 a1] w fun e w' => e = .returned (.int .i64 r) ∧ Drawn0 w w' := by
 have H : ((bytealg_LastIndexByteString.f k a0 a1).bind fun t101 => (some t101)) = some r := h
 clear h
 replace H := Option.bind_eq_some_iff.mp H
 obtain ⟨t101, A30, H⟩ := H
 replace H : (some t101) = some r := H
 have A3 := Aside0.mk A30
 clear A30
 obtain rfl := Option.some.inj H
 go_enter Try.func39, Try.ntmps39
 go_wp2_with (first | ((with_reducible refine gate_callee (f := 48) rfl ?_); refine goesL_ (some 7) rfl rfl Try.func48 (by kernel_rfl) rfl #[.string a0, .int .u8 a1] rfl (by (try simp only [List.map_toArray, List.map_cons, List.map_nil]); first | done | rfl | (simp only [List.length_drop, List.length_take]; rfl)) ?_; (with_reducible refine (bytealg_LastIndexByteString.calls k a0 a1 t101 _ A3.out).mono ?_); rintro e w' ⟨rfl, ⟨nd, rfl⟩⟩; refine ⟨_, rfl, ?_⟩))
 go_ret
 exact ⟨by first | rfl | (simp; done) | (simp [*]; done), by repeat (first | exact Drawn0.refl _ | apply Drawn0.step)⟩
end Go.Proofs.Ytjmmdphkgioooaa.P
end
section
namespace Go.Proofs.Ytjmmdphkgioooaa.P
open Go.RowKit Go.Proofs.YtjmmdphkgioooaaW.PrintWords Go.Proofs.YtjmmdphkgioooaaW.PrintLast Go.Proofs.YtjmmdphkgioooaaW.PrintMore
attribute [local go_sem] max2_int min2_int max_two min_two max_three min_three max_four min_four   -- for this text's walks alone
set_option linter.unusedVariables false
set_option linter.unusedSimpArgs false
/-! ### place_Of: function 31 -/
def place_Of.f (k : Nat) (a0 : ByteArray) (a1 : Int) : Option (Int × Int) := (place_clamp.f a0 a1).bind fun t111 => (if 0 ≤ t111 then (if t111 ≤ (a0.size : Int) then ((strings_LastIndexByte.f k (a0.extract 0 (t111 : Int).toNat) 10).bind fun t112 => ((strings_Count.f (a0.extract 0 (t111 : Int).toNat) (⟨#[10]⟩ : ByteArray)).bind fun t113 => (if 0 ≤ (wrap64 (t112 + 1)) then (if (wrap64 (t112 + 1)) ≤ ((a0.extract 0 (t111 : Int).toNat).size : Int) then ((utf_Count.f k ((a0.extract 0 (t111 : Int).toNat).extract ((wrap64 (t112 + 1)) : Int).toNat (a0.extract 0 (t111 : Int).toNat).size)).bind fun t114 => (some (wrap64 (t113 + 1), wrap64 (t114 + 1)))) else (none)) else (none)))) else (none)) else (none))
def place_Of.T3 : Bool × List (List Nat × List Nat) := (true, [([], []), ([0], [0]), ([1], [1]), ([], []), ([], []), ([3, 4], [3, 4]), ([5, 1], [5]), ([6], [6]), ([2, 6, 0, 1, 2], [2]), ([7, 8, 0, 1, 2, 3, 4, 5, 6, 7, 8], [7])])
def place_Of.B3 : List Nat := [0, 1, 3, 0, 0, 24, 59, 123, 127, 511]
theorem place_Of.tab3 : rtab .any (opsOf Try.f31 3) = place_Of.T3 := by kernel_rfl
theorem place_Of.bits3 : waitsOk place_Of.T3.2 place_Of.B3 = true := by kernel_rfl
set_option maxHeartbeats 8000000 in
set_option maxRecDepth 100000 in
theorem place_Of.calls (k : Nat) (a0 : ByteArray) (a1 : Int) (r1 : Int) (r2 : Int) (w : World) (h : place_Of.f k a0 a1 = some (r1, r2)) :
  Calls Try.prog 31 #[.string a0, .int .i64 a1] w fun e w' => e = .returned (.tuple #[.int .i64 r1, .int .i64 r2]) ∧ Below w.heap.size w w' := by
 have HB := Aside0.mk (Below.refl w.heap.size w)
 have H : ((place_clamp.f a0 a1).bind fun t111 => (if 0 ≤ t111 then (if t111 ≤ (a0.size : Int) then ((strings_LastIndexByte.f k (a0.extract 0 (t111 : Int).toNat) 10).bind fun t112 => ((strings_Count.f (a0.extract 0 (t111 : Int).toNat) (⟨#[10]⟩ : ByteArray)).bind fun t113 => (if 0 ≤ (wrap64 (t112 + 1)) then (if (wrap64 (t112 + 1)) ≤ ((a0.extract 0 (t111 : Int).toNat).size : Int) then ((utf_Count.f k ((a0.extract 0 (t111 : Int).toNat).extract ((wrap64 (t112 + 1)) : Int).toNat (a0.extract 0 (t111 : Int).toNat).size)).bind fun t114 => (some (wrap64 (t113 + 1), wrap64 (t114 + 1)))) else (none)) else (none)))) else (none)) else (none))) = some (r1, r2) := h
 clear h
 replace H := Option.bind_eq_some_iff.mp H
 obtain ⟨t111, A30, H⟩ := H
 replace H : (if 0 ≤ t111 then (if t111 ≤ (a0.size : Int) then ((strings_LastIndexByte.f k (a0.extract 0 (t111 : Int).toNat) 10).bind fun t112 => ((strings_Count.f (a0.extract 0 (t111 : Int).toNat) (⟨#[10]⟩ : ByteArray)).bind fun t113 => (if 0 ≤ (wrap64 (t112 + 1)) then (if (wrap64 (t112 + 1)) ≤ ((a0.extract 0 (t111 : Int).toNat).size : Int) then ((utf_Count.f k ((a0.extract 0 (t111 : Int).toNat).extract ((wrap64 (t112 + 1)) : Int).toNat (a0.extract 0 (t111 : Int).toNat).size)).bind fun t114 => (some (wrap64 (t113 + 1), wrap64 (t114 + 1)))) else (none)) else (none)))) else (none)) else (none)) = some (r1, r2) := H
 have A3 := Aside0.mk A30
 clear A30
 by_cases c4 : 0 ≤ t111
 ·rw [if_pos c4] at H
  have c4b0 := eq_true c4
  have c4b1 : decide (0 ≤ t111) = true := decide_eq_true c4
  clear c4
  by_cases c5 : t111 ≤ (a0.size : Int)
  ·rw [if_pos c5] at H
   have c5b0 := eq_true c5
   have c5b1 : decide (t111 ≤ (a0.size : Int)) = true := decide_eq_true c5
   clear c5
   replace H := Option.bind_eq_some_iff.mp H
   obtain ⟨t112, A60, H⟩ := H
   replace H : ((strings_Count.f (a0.extract 0 (t111 : Int).toNat) (⟨#[10]⟩ : ByteArray)).bind fun t113 => (if 0 ≤ (wrap64 (t112 + 1)) then (if (wrap64 (t112 + 1)) ≤ ((a0.extract 0 (t111 : Int).toNat).size : Int) then ((utf_Count.f k ((a0.extract 0 (t111 : Int).toNat).extract ((wrap64 (t112 + 1)) : Int).toNat (a0.extract 0 (t111 : Int).toNat).size)).bind fun t114 => (some (wrap64 (t113 + 1), wrap64 (t114 + 1)))) else (none)) else (none))) = some (r1, r2) := H
   have A6 := Aside0.mk A60
   clear A60
   replace H := Option.bind_eq_some_iff.mp H
   obtain ⟨t113, A70, H⟩ := H
   replace H : (if 0 ≤ (wrap64 (t112 + 1)) then (if (wrap64 (t112 + 1)) ≤ ((a0.extract 0 (t111 : Int).toNat).size : Int) then ((utf_Count.f k ((a0.extract 0 (t111 : Int).toNat).extract ((wrap64 (t112 + 1)) : Int).toNat (a0.extract 0 (t111 : Int).toNat).size)).bind fun t114 => (some (wrap64 (t113 + 1), wrap64 (t114 + 1)))) else (none)) else (none)) = some (r1, r2) := H
   have A7 := Aside0.mk A70
   clear A70
   obtain ⟨ji8, hji8⟩ : ∃ j_ : Int, (wrap64 (t112 + 1)) = j_ := ⟨_, rfl⟩
   replace H : (if 0 ≤ (ji8) then (if (ji8) ≤ ((a0.extract 0 (t111 : Int).toNat).size : Int) then ((utf_Count.f k ((a0.extract 0 (t111 : Int).toNat).extract ((ji8) : Int).toNat (a0.extract 0 (t111 : Int).toNat).size)).bind fun t114 => (some (wrap64 (t113 + 1), wrap64 (t114 + 1)))) else (none)) else (none)) = some (r1, r2) := by first | (rw [hji8] at H; exact H) | (simp only [hji8] at H ⊢; exact H)
   (try rw [hji8] at A3)
   (try rw [hji8] at A6)
   (try rw [hji8] at A7)
   have hji8w : (IntKind.i64.wrap (t112 + 1)) = ji8 := (i64_w _).trans hji8
   by_cases c9 : 0 ≤ (ji8)
   ·rw [if_pos c9] at H
    have c9b0 := eq_true c9
    have c9b1 : decide (0 ≤ (ji8)) = true := decide_eq_true c9
    clear c9
    by_cases c10 : (ji8) ≤ ((a0.extract 0 (t111 : Int).toNat).size : Int)
    ·rw [if_pos c10] at H
     have c10b0 := eq_true c10
     have c10b1 : decide ((ji8) ≤ ((a0.extract 0 (t111 : Int).toNat).size : Int)) = true := decide_eq_true c10
     have c10x : (ji8 ≤ max t111 0) = True := eq_true (by have h1_ := of_decide_eq_true c10b1; rw [ByteArray.size_extract] at h1_; have h2_ := of_decide_eq_true c5b1; omega)
     clear c10
     replace H := Option.bind_eq_some_iff.mp H
     obtain ⟨t114, A110, H⟩ := H
     replace H : (some (wrap64 (t113 + 1), wrap64 (t114 + 1))) = some (r1, r2) := H
     have A11 := Aside0.mk A110
     clear A110
     simp only [Option.some.injEq, Prod.mk.injEq] at H
     obtain ⟨rfl, rfl⟩ := H
     go_enter Try.func31, Try.ntmps31
     try go_wp2_with (first | ((with_reducible refine gate_callee (f := 32) rfl ?_); refine goesL_ (some 11) rfl rfl Try.func32 (by kernel_rfl) rfl #[.string a0, .int .i64 a1] rfl (by (try simp only [List.map_toArray, List.map_cons, List.map_nil]); first | done | rfl | (simp only [List.length_drop, List.length_take]; rfl)) ?_; (with_reducible refine (place_clamp.calls a0 a1 t111 _ A3.out).mono ?_); rintro e w12 ⟨rfl, hb⟩; refine ⟨_, rfl, ?_⟩; have n0_ := Aside0.mk (below_step (by repeat (first | (with_reducible first | exact HB.out | apply below_alloc | apply pw_below_drewN | apply below_drew1) | exact HB.out)) hb); clear HB; have HB := n0_; clear n0_; (try clear hb); (try clear hb2); (try clear hk); (try clear hi)) | ((with_reducible refine gate_callee (f := 39) rfl ?_); refine goesL_ (some 14) rfl rfl Try.func39 (by kernel_rfl) rfl #[.string (a0.extract 0 (t111 : Int).toNat), .int .u8 10] rfl (by (try simp only [List.map_toArray, List.map_cons, List.map_nil]); first | done | rfl | (simp only [List.length_drop, List.length_take]; rfl)) ?_; (with_reducible refine (strings_LastIndexByte.calls k (a0.extract 0 (t111 : Int).toNat) 10 t112 _ A6.out).mono ?_); rintro e w' ⟨rfl, ⟨nd, rfl⟩⟩; refine ⟨_, rfl, ?_⟩))
     (try (rw [drewN_self w12]; generalize hq_ : World.drewN w12 _ = w12; have n0_ : Aside0 (Below w.heap.size w w12) := ⟨by rw [← hq_]; exact (by repeat (first | (with_reducible first | exact HB.out | apply below_alloc | apply pw_below_drewN | apply below_drew1) | exact HB.out))⟩; clear HB hq_; have HB := n0_; clear n0_))
     have n0_ := Aside0.mk (below_drew1 HB.out)
     clear HB
     have HB := n0_
     clear n0_
     refine start_ (n := 10) (S := fun w' => True) (ds := []) #[false, false, false, false, false, false, false, false, false, false] (by kernel_rfl) rfl rfl trivial (fun hHeld => ?_); refine with_tabW place_Of.tab3 place_Of.bits3 (fun HT_ HW_ => ?_)
     generalize w12.drew = w13 at HB hHeld ⊢
     refine pure_ (i := 0) (N := some 16) (v := ?_) (a' := ?_) #[true, false, false, false, false, false, false, false, false, false] rfl rfl (any_of HT_.out (by kernel_rfl)) (fun _ _ _ h => h) (Or.inl ⟨by rfl, ?_⟩) ?_ ?_
     rotate_left
     ·intro w'
      go_simp
      with_reducible rfl
     rotate_left
     ·simp only [Act.put, List.setIfInBounds_toArray, List.set_cons_zero, List.set_cons_succ, i64_w, i32_w]
      rfl
     refine pure_ (i := 3) (N := some 19) (v := ?_) (a' := ?_) #[true, false, false, true, false, false, false, false, false, false] rfl rfl (any_of HT_.out (by kernel_rfl)) (fun _ _ _ h => h) (Or.inl ⟨by rfl, ?_⟩) ?_ ?_
     rotate_left
     ·intro w'
      go_simp
      with_reducible rfl
     rotate_left
     ·simp only [Act.put, List.setIfInBounds_toArray, List.set_cons_zero, List.set_cons_succ, i64_w, i32_w]
      rfl
     refine pure_ (i := 4) (N := some 20) (v := ?_) (a' := ?_) #[true, false, false, true, true, false, false, false, false, false] rfl rfl (any_of HT_.out (by kernel_rfl)) (fun _ _ _ h => h) (Or.inl ⟨by rfl, ?_⟩) ?_ ?_
     rotate_left
     ·intro w'
      go_simp
      with_reducible rfl
     rotate_left
     ·simp only [Act.put, List.setIfInBounds_toArray, List.set_cons_zero, List.set_cons_succ, i64_w, i32_w]
      rfl
     refine pure_ (i := 5) (N := some 21) (v := ?_) (a' := ?_) #[true, false, false, true, true, true, false, false, false, false] rfl rfl (any_of HT_.out (by kernel_rfl)) (fun _ _ _ h => h) (Or.inl ⟨by rfl, ?_⟩) ?_ ?_
     rotate_left
     ·intro w'
      go_simp
      with_reducible rfl
     rotate_left
     ·simp only [Act.put, List.setIfInBounds_toArray, List.set_cons_zero, List.set_cons_succ, i64_w, i32_w]
      rfl
     refine one_ (i := 1) (N := some 17) #[true, true, false, true, true, true, false, false, false, false] rfl rfl (one_of HT_.out (by kernel_rfl)) (by decide) (fun K hK => ?_)
     refine goes_ Try.func40 (by kernel_rfl) rfl #[.string (a0.extract 0 (t111 : Int).toNat), .string (⟨#[10]⟩ : ByteArray)] (by rfl) rfl rfl (by (try simp only [List.map_toArray, List.map_cons, List.map_nil]); first | done | rfl | (simp only [List.length_drop, List.length_take]; rfl)) ?_
     with_reducible refine (strings_Count.calls (a0.extract 0 (t111 : Int).toNat) (⟨#[10]⟩ : ByteArray) t113 _ A7.out).mono ?_
     rintro e w' ⟨rfl, ⟨nd, rfl⟩⟩
     refine ⟨_, rfl, ?_⟩
     refine hK.out _ _ trivial (fun hHeld => ?_)
     clear hK K
     refine norm_ (a' := ?_) ?_ ?_
     rotate_left
     ·show Act.put _ (some 17) _ = _
      simp only [Act.put, List.setIfInBounds_toArray, List.set_cons_zero, List.set_cons_succ, i64_w, i32_w]
      rfl
     refine pure_ (i := 2) (N := some 18) (v := ?_) (a' := ?_) #[true, true, true, true, true, true, false, false, false, false] rfl rfl (any_of HT_.out (by kernel_rfl)) (fun _ _ _ h => h) (Or.inl ⟨by rfl, ?_⟩) ?_ ?_
     rotate_left
     ·intro w'
      go_simp
      with_reducible rfl
     rotate_left
     ·simp only [Act.put, List.setIfInBounds_toArray, List.set_cons_zero, List.set_cons_succ, i64_w, i32_w]
      rfl
     refine one_ (i := 6) (N := some 22) #[true, true, true, true, true, true, true, false, false, false] rfl rfl (one_of HT_.out (by kernel_rfl)) (by decide) (fun K hK => ?_)
     refine goes_ Try.func41 (by kernel_rfl) rfl #[.string ((a0.extract 0 (t111 : Int).toNat).extract ((ji8) : Int).toNat (a0.extract 0 (t111 : Int).toNat).size)] (by rfl) rfl rfl (by (try simp only [List.map_toArray, List.map_cons, List.map_nil]); first | done | (rw [show (a0.extract 0 (t111 : Int).toNat).size = (t111 : Int).toNat from (by rw [ByteArray.size_extract]; have h2_ := of_decide_eq_true c5b1; have h1_ := of_decide_eq_true c4b1; omega)]; rfl) | (simp only [hji8]; rfl) | rfl | (simp only [List.length_drop, List.length_take]; rfl)) ?_
     with_reducible refine (utf_Count.calls k ((a0.extract 0 (t111 : Int).toNat).extract ((ji8) : Int).toNat (a0.extract 0 (t111 : Int).toNat).size) t114 _ A11.out).mono ?_
     rintro e w14 ⟨rfl, hb⟩
     refine ⟨_, rfl, ?_⟩
     have n0_ := Aside0.mk (below_step (by repeat (first | (with_reducible first | exact HB.out | apply below_alloc | apply pw_below_drewN | apply below_drew1) | exact HB.out)) hb)
     clear HB
     have HB := n0_
     clear n0_
     (try clear hb)
     (try clear hb2)
     (try clear hk)
     (try clear hi)
     refine hK.out _ _ trivial (fun hHeld => ?_)
     clear hK K
     refine norm_ (a' := ?_) ?_ ?_
     rotate_left
     ·show Act.put _ (some 22) _ = _
      simp only [Act.put, List.setIfInBounds_toArray, List.set_cons_zero, List.set_cons_succ, i64_w, i32_w]
      rfl
     refine pure_ (i := 7) (N := some 23) (v := ?_) (a' := ?_) #[true, true, true, true, true, true, true, true, false, false] rfl rfl (any_of HT_.out (by kernel_rfl)) (fun _ _ _ h => h) (Or.inl ⟨by rfl, ?_⟩) ?_ ?_
     rotate_left
     ·intro w'
      go_simp
      with_reducible rfl
     rotate_left
     ·simp only [Act.put, List.setIfInBounds_toArray, List.set_cons_zero, List.set_cons_succ, i64_w, i32_w]
      rfl
     refine pure_ (i := 8) (N := some 4) (v := ?_) (a' := ?_) #[true, true, true, true, true, true, true, true, true, false] rfl rfl (any_of HT_.out (by kernel_rfl)) (fun _ _ _ h => h) (Or.inl ⟨by rfl, ?_⟩) ?_ ?_
     rotate_left
     ·intro w'
      go_simp
      with_reducible rfl
     rotate_left
     ·simp only [Act.put, List.setIfInBounds_toArray, List.set_cons_zero, List.set_cons_succ, i64_w, i32_w]
      rfl
     refine pure_ (i := 9) (N := some 5) (v := ?_) (a' := ?_) #[true, true, true, true, true, true, true, true, true, true] rfl rfl (any_of HT_.out (by kernel_rfl)) (fun _ _ _ h => h) (Or.inl ⟨by rfl, ?_⟩) ?_ ?_
     rotate_left
     ·intro w'
      go_simp
      with_reducible rfl
     rotate_left
     ·simp only [Act.put, List.setIfInBounds_toArray, List.set_cons_zero, List.set_cons_succ, i64_w, i32_w]
      rfl
     refine done_ (done_of HT_.out (by kernel_rfl)) ?_
     try go_wp2
     go_ret2
     exact ⟨by first | rfl | (simp [errW_none, errW_some] <;> rfl) | (simp [*, errW_none, errW_some, bne]; done) | (simp only [← hji8]; first | rfl | (simp [errW_none, errW_some] <;> rfl)) | (simp [*, errW_none, errW_some] <;> rfl), by repeat (first | (with_reducible first | exact HB.out | apply below_alloc | apply pw_below_drewN | apply below_drew1) | exact HB.out)⟩
    ·rw [if_neg c10] at H
     exact absurd H (by simp)
   ·rw [if_neg c9] at H
    exact absurd H (by simp)
  ·rw [if_neg c5] at H
   exact absurd H (by simp)
 ·rw [if_neg c4] at H
  exact absurd H (by simp)
end Go.Proofs.Ytjmmdphkgioooaa.P
end
section
namespace Go.Proofs.Ytjmmdphkgioooaa.P
open Go.RowKit Go.Proofs.YtjmmdphkgioooaaW.PrintWords Go.Proofs.YtjmmdphkgioooaaW.PrintLast Go.Proofs.YtjmmdphkgioooaaW.PrintMore
attribute [local go_sem] max2_int min2_int max_two min_two max_three min_three max_four min_four   -- for this text's walks alone
set_option linter.unusedVariables false
set_option linter.unusedSimpArgs false
/-! ### place_Fault: function 26 -/
def place_Fault.f (k : Nat) (a0 : ByteArray) (a1 : Int) (a2 : Int) : Option (Int × Int × Int × Int) := (place_Of.f k a0 a1).bind fun bt116 => ((place_clamp.f a0 a1).bind fun t118 => (some (a2, t118, bt116.1, bt116.2)))
set_option maxHeartbeats 8000000 in
set_option maxRecDepth 100000 in
theorem place_Fault.calls (k : Nat) (a0 : ByteArray) (a1 : Int) (a2 : Int) (r1 : Int) (r2 : Int) (r3 : Int) (r4 : Int) (w : World) (h : place_Fault.f k a0 a1 a2 = some (r1, r2, r3, r4)) :
  Calls Try.prog 26 #[.string a0, .int .i64 a1, .int .i64 a2] w fun e w' => e = .returned (.agg #[.int .i64 r1, .int .i64 r2, .int .i64 r3, .int .i64 r4]) ∧ Below w.heap.size w w' := by
 have hu26 := Try.underlying26
 have HB := Aside0.mk (Below.refl w.heap.size w)
 have H : ((place_Of.f k a0 a1).bind fun bt116 => ((place_clamp.f a0 a1).bind fun t118 => (some (a2, t118, bt116.1, bt116.2)))) = some (r1, r2, r3, r4) := h
 clear h
 replace H := Option.bind_eq_some_iff.mp H
 obtain ⟨⟨t116, t117⟩, A40, H⟩ := H
 replace H : ((place_clamp.f a0 a1).bind fun t118 => (some (a2, t118, t116, t117))) = some (r1, r2, r3, r4) := H
 have A4 := Aside0.mk A40
 clear A40
 replace H := Option.bind_eq_some_iff.mp H
 obtain ⟨t118, A50, H⟩ := H
 replace H : (some (a2, t118, t116, t117)) = some (r1, r2, r3, r4) := H
 have A5 := Aside0.mk A50
 clear A50
 simp only [Option.some.injEq, Prod.mk.injEq] at H
 obtain ⟨rfl, rfl, rfl, rfl⟩ := H
 go_enter Try.func26, Try.ntmps26
 go_wp2_with (first | ((with_reducible refine gate_dst (N := 6) rfl ?_); refine box_event ?hg (N := 6) ?hd (cs := #[.int .i64 0, .int .i64 0, .int .i64 0, .int .i64 0]) (t := 26) ?hr ?_; (case hd => rfl); (case hg => rfl); (case hr => first | (go_simp; done) | (go_simp; rfl)); intro gb115 hg w6 hbox hb; have n0_ := Aside0.mk (below_step (by repeat (first | (with_reducible first | exact HB.out | apply below_alloc | apply pw_below_drewN | apply below_drew1) | exact HB.out)) hb); have n1_ := Aside0.mk (hbox); have n2_ := Aside0.mk ((by rw [hg]; exact (below_size (by repeat (first | (with_reducible first | exact HB.out | apply below_alloc | apply pw_below_drewN | apply below_drew1) | exact HB.out))) : w.heap.size ≤ gb115)); have n3_ := Aside0.mk ((by rw [hg]; exact (below_size (by repeat (first | (with_reducible first | exact HB.out | apply below_alloc | apply pw_below_drewN | apply below_drew1) | exact HB.out))) : w.heap.size ≤ gb115)); clear HB; have HB := n0_; have BK115 := n1_; have GW115 := n2_; have GE115 := n3_; clear n0_ n1_ n2_ n3_; clear hb hbox hg) | ((with_reducible refine gate_callee (f := 31) rfl ?_); refine goesL_ (some 12) rfl rfl Try.func31 (by kernel_rfl) rfl #[.string a0, .int .i64 a1] rfl (by (try simp only [List.map_toArray, List.map_cons, List.map_nil]); first | done | rfl | (simp only [List.length_drop, List.length_take]; rfl)) ?_; (with_reducible refine (place_Of.calls k a0 a1 t116 t117 _ A4.out).mono ?_); rintro e w7 ⟨rfl, hb⟩; refine ⟨_, rfl, ?_⟩; have n0_ := Aside0.mk (blk_below (g := gb115) (o := .cells #[.int .i64 0, .int .i64 0, .int .i64 0, .int .i64 0] 26 (0, 0)) (by (with_reducible repeat (first | refine blk_drewN ?_ _ | refine blk_drew ?_ | refine blk_alloc ?_ _)); exact BK115.out) hb); have n1_ := Aside0.mk (below_step (by repeat (first | (with_reducible first | exact HB.out | apply below_alloc | apply pw_below_drewN | apply below_drew1 | refine below_set ?_ GE115.out) | exact HB.out)) hb); clear BK115; clear HB; have BK115 := n0_; have HB := n1_; clear n0_ n1_; (try clear hb); (try clear hb2); (try clear hk); (try clear hi)) | ((with_reducible refine gate_callee (f := 32) rfl ?_); refine goesL_ (some 18) rfl rfl Try.func32 (by kernel_rfl) rfl #[.string a0, .int .i64 a1] rfl (by (try simp only [List.map_toArray, List.map_cons, List.map_nil]); first | done | rfl | (simp only [List.length_drop, List.length_take]; rfl)) ?_; (with_reducible refine (place_clamp.calls a0 a1 t118 _ A5.out).mono ?_); rintro e w8 ⟨rfl, hb⟩; refine ⟨_, rfl, ?_⟩; have n0_ := Aside0.mk (blk_below (g := gb115) (o := .cells #[.int .i64 0, .int .i64 0, .int .i64 0, .int .i64 0] 26 (0, 0)) (by (with_reducible repeat (first | refine blk_drewN ?_ _ | refine blk_drew ?_ | refine blk_alloc ?_ _)); exact BK115.out) hb); have n1_ := Aside0.mk (below_step (by repeat (first | (with_reducible first | exact HB.out | apply below_alloc | apply pw_below_drewN | apply below_drew1 | refine below_set ?_ GE115.out) | exact HB.out)) hb); clear BK115; clear HB; have BK115 := n0_; have HB := n1_; clear n0_ n1_; (try clear hb); (try clear hb2); (try clear hk); (try clear hi); have hcz9_0 : w8.cell? ⟨gb115, 0, none⟩ = some (.int .i64 0) := (blk_cell BK115.out 0).trans rfl; have hcz9_1 : w8.cell? ⟨gb115, 1, none⟩ = some (.int .i64 0) := (blk_cell BK115.out 1).trans rfl; have hcz9_2 : w8.cell? ⟨gb115, 2, none⟩ = some (.int .i64 0) := (blk_cell BK115.out 2).trans rfl; have hcz9_3 : w8.cell? ⟨gb115, 3, none⟩ = some (.int .i64 0) := (blk_cell BK115.out 3).trans rfl; have hfz9_0 := blk_frozen BK115.out 0; have hfz9_1 := blk_frozen BK115.out 1; have hfz9_2 := blk_frozen BK115.out 2; have hfz9_3 := blk_frozen BK115.out 3))
 refine bodyPost_ret (results_cell_row rfl _ _ gb115 26 #[.int .i64 a2, .int .i64 t118, .int .i64 t116, .int .i64 t117] (0, 0) _ rfl (by (with_reducible repeat (first | refine blk_drewN ?_ _ | refine blk_drew ?_ | refine blk_alloc ?_ _)); refine blk_put (cs := #[.int .i64 a2, .int .i64 t118, .int .i64 t116, .int .i64 0]) ?_ 3 _ rfl; (with_reducible repeat (first | refine blk_drewN ?_ _ | refine blk_drew ?_ | refine blk_alloc ?_ _)); refine blk_put (cs := #[.int .i64 a2, .int .i64 t118, .int .i64 0, .int .i64 0]) ?_ 2 _ rfl; (with_reducible repeat (first | refine blk_drewN ?_ _ | refine blk_drew ?_ | refine blk_alloc ?_ _)); refine blk_put (cs := #[.int .i64 a2, .int .i64 0, .int .i64 0, .int .i64 0]) ?_ 1 _ rfl; (with_reducible repeat (first | refine blk_drewN ?_ _ | refine blk_drew ?_ | refine blk_alloc ?_ _)); refine blk_put (cs := #[.int .i64 0, .int .i64 0, .int .i64 0, .int .i64 0]) ?_ 0 _ rfl; (with_reducible repeat (first | refine blk_drewN ?_ _ | refine blk_drew ?_ | refine blk_alloc ?_ _)); exact BK115.out) Try.underlying26 rfl (by kernel_rfl)) rfl ?_
 exact ⟨by first | rfl | (simp [errW_none, errW_some] <;> rfl) | (simp [*, errW_none, errW_some, bne]; done) | (simp [*, errW_none, errW_some] <;> rfl), by repeat (first | (with_reducible first | exact HB.out | apply below_alloc | apply pw_below_drewN | apply below_drew1 | refine below_set ?_ GE115.out) | exact HB.out)⟩
end Go.Proofs.Ytjmmdphkgioooaa.P
end
section
namespace Go.Proofs.Ytjmmdphkgioooaa.La
open Go.RowKit Go.Proofs.Ytjmmdphkgioooaa.P Go.Proofs.YtjmmdphkgioooaaW.PrintWords Go.Proofs.YtjmmdphkgioooaaW.PrintLast Go.Proofs.YtjmmdphkgioooaaW.PrintMore
def clamp (size : Nat) (i : Int) : Nat := if i < 0 then 0 else if i > (size : Int) then size else i.toNat
theorem clamp_le (size : Nat) (i : Int) : clamp size i ≤ size := by unfold clamp; (repeat' split) <;> omega
theorem clamp_eq (s : ByteArray) (i : Int) : place_clamp.f s i = some (clamp s.size i : Int) := by
 unfold place_clamp.f mn mx clamp
 congr 1
 (repeat' split) <;> omega
theorem count10 (s : ByteArray) : strings_Count.f s (⟨#[10]⟩ : ByteArray) = some (nl (bytesOf s) : Int) := by
 unfold strings_Count.f
 rw [if_pos (by rfl)]
 rfl
theorem last_l0 (s : ByteArray) (hs : s.size ≤ 140737488355328) (m : Nat) : m ≤ s.size → Ev (fun k => bytealg_LastIndexByteString.l0 k s 10 ((m : Int) - 1)) ((lst ((bytesOf s).take m) : Int) - 1) := by
 induction m with
 | zero =>
  intro _
  refine Ev.step (fun k => by rw [bytealg_LastIndexByteString.l0]) ?_
  simp only [if_neg (show ¬ (((0 : Nat) : Int) - 1 ≥ 0) by omega)]
  exact Ev.now _
 | succ m ih =>
  intro hm
  refine Ev.step (fun k => by rw [bytealg_LastIndexByteString.l0]) ?_
  have e : ((m + 1 : Nat) : Int) - 1 = (m : Int) := by omega
  have hlt : m < (bytesOf s).length := by rw [size_of]; omega
  have hb : bt s (m : Int) = (bytesOf s)[m] := by rw [bt_get]; simp [List.getD_eq_getElem?_getD, hlt]
  simp only [e, if_pos (show (m : Int) ≥ 0 by omega), if_pos (show (m : Int) < (s.size : Int) by omega)]
  rw [List.take_succ_eq_append_getElem hlt, lst_snoc, hb]
  by_cases h : (bytesOf s)[m] = 10
  ·simp only [if_pos h, List.length_take, Nat.min_eq_left (Nat.le_of_lt hlt)]
   have : ((m + 1 : Nat) : Int) - 1 = (m : Int) := by omega
   rw [this]
   exact Ev.now _
  ·simp only [if_neg h]
   rw [wrap_id (by omega) (by omega)]
   exact ih (by omega)
theorem last_ev (s : ByteArray) (hs : s.size ≤ 140737488355328) : Ev (fun k => strings_LastIndexByte.f k s 10) ((lst (bytesOf s) : Int) - 1) := by
 have h := last_l0 s hs s.size (Nat.le_refl _)
 rw [List.take_of_length_le (by rw [size_of]; omega)] at h
 refine Ev.congr (fun k => by rw [strings_LastIndexByte.f, bytealg_LastIndexByteString.f, wrap_id (by omega) (by omega)]) (Ev.bind h ?_)
 exact Ev.now _
/-- A place's line and column. -/
def lineOf (l : List Int) : Int := (nl l : Int) + 1
def colOf (l : List Int) : Int := (cnt (l.drop (lst l)) : Int) + 1
theorem of_ev (s : ByteArray) (hs : s.size ≤ 8796093022208) (i : Int) : Ev (fun k => place_Of.f k s i) (lineOf ((bytesOf s).take (clamp s.size i)), colOf ((bytesOf s).take (clamp s.size i))) := by
 have hc := clamp_le s.size i
 refine Ev.congr (fun k => by rw [place_Of.f, clamp_eq, Option.bind_some]) ?_
 generalize clamp s.size i = c at *
 have hsz : (s.extract 0 c).size = c := size_take s hc
 have hl := lst_le ((bytesOf s).take c)
 rw [List.length_take, size_of, Nat.min_eq_left hc] at hl
 simp only [if_pos (show (0 : Int) ≤ (c : Int) by omega), if_pos (show (c : Int) ≤ (s.size : Int) by omega), Int.toNat_natCast]
 refine Ev.bind (last_ev (s.extract 0 c) (by rw [hsz]; omega)) ?_
 rw [bytesOf_take]
 have hn : nl ((bytesOf s).take c) ≤ c := by
  have := cntB_le ((bytesOf s).take c) 10
  rw [List.length_take, size_of, Nat.min_eq_left hc] at this
  exact this
 have hw : wrap64 ((lst ((bytesOf s).take c) : Int) - 1 + 1) = (lst ((bytesOf s).take c) : Int) := by rw [wrap_id (by omega) (by omega)]; omega
 simp only [count10, Option.bind_some, hw, hsz, bytesOf_take, if_pos (show (0 : Int) ≤ (lst ((bytesOf s).take c) : Int) by omega), if_pos (show (lst ((bytesOf s).take c) : Int) ≤ (c : Int) by omega), Int.toNat_natCast]
 have hx : bytesOf ((s.extract 0 c).extract (lst ((bytesOf s).take c)) c) = ((bytesOf s).take c).drop (lst ((bytesOf s).take c)) := by
  rw [bytesOf_extract, bytesOf_take, List.take_take, Nat.min_self]
 have hxs : ((s.extract 0 c).extract (lst ((bytesOf s).take c)) c).size ≤ 140737488355328 := by rw [← size_of, hx, List.length_drop, List.length_take, size_of]; omega
 refine Ev.bind (count_ev _ hxs) ?_
 rw [hx]
 have hcn := cnt_le (((bytesOf s).take c).drop (lst ((bytesOf s).take c)))
 rw [List.length_drop, List.length_take, size_of] at hcn
 rw [wrap_id (by omega) (by omega), wrap_id (by omega) (by omega)]
 exact Ev.now _
theorem fault_ev (s : ByteArray) (hs : s.size ≤ 8796093022208) (i e : Int) : Ev (fun k => place_Fault.f k s i e) (e, (clamp s.size i : Int), lineOf ((bytesOf s).take (clamp s.size i)), colOf ((bytesOf s).take (clamp s.size i))) := by
 refine Ev.congr (fun k => by rw [place_Fault.f]) (Ev.bind (of_ev s hs i) ?_)
 rw [clamp_eq, Option.bind_some]
 exact Ev.now _
end Go.Proofs.Ytjmmdphkgioooaa.La
end
section
namespace Go.Proofs.Ytjmmdphkgioooaa.P
open Go.RowKit Go.Proofs.Ytjmmdphkgioooaa.La Go.Proofs.YtjmmdphkgioooaaW.PrintWords Go.Proofs.YtjmmdphkgioooaaW.PrintLast Go.Proofs.YtjmmdphkgioooaaW.PrintMore
theorem wpQ {P : Program} {c : Code} {Q : Exit → Act → World → Prop} {a : Act} {w : World} (R : Act → World → Prop) (h : ∀ Q', (∀ a' w', R a' w' → Q' Exit.normal a' w') → c.wp P Q' a w) (hR : ∀ a' w', R a' w' → Q .normal a' w') : c.wp P Q a w := h Q hR
theorem tassert_yes (v : Value) (xT : TypeId) (w : World) : (Instr.typeAssert (.iface 62 v) xT 62 true).run Try.prog w = .ok (.tuple #[v, .bool true]) w := by
 simp [Instr.typeAssert, run_underlying Try.underlying62, go_sem, Result.andThen]
theorem tassert_nil (xT : TypeId) (w : World) : (Instr.typeAssert .nilIface xT 62 true).run Try.prog w = .ok (.tuple #[.agg #[.int .i64 0, .int .i64 0], .bool false]) w := by
 simp [Instr.typeAssert, run_underlying Try.underlying62, Try.zeroValue62, go_sem, Result.andThen]
set_option maxRecDepth 100000 in
set_option maxHeartbeats 8000000 in
/-- The deferred closure, where something was thrown. -/
theorem catch_thrown {W : World} {b : Nat} {text : ByteArray} {at_ er : Int} {k : Nat} {r1 r2 r3 r4 : Int} (older : List PanicEntry) (hF : place_Fault.f k text at_ er = some (r1, r2, r3, r4))
  (h0 : W.heap[b]? = some (.cells #[.string text] 9 (0, 0))) (h1 : W.heap[b + 1]? = some (.cells #[.slice none 0 0] 42 (0, 0))) (h2 : W.heap[b + 2]? = some (.cells #[.int .i64 0, .int .i64 0, .int .i64 0, .int .i64 0] 26 (0, 0))) :
  CallsD Try.prog 28 #[.pointer (some ⟨b, 0, none⟩), .pointer (some ⟨b + 1, 0, none⟩), .pointer (some ⟨b + 2, 0, none⟩)] (.panicking ({ v := .iface 62 (.agg #[.int .i64 er, .int .i64 at_]), recovered := false } :: older)) W fun e u' w' =>
   e = .returned (.tuple #[]) ∧ u' = .panicking ({ v := .iface 62 (.agg #[.int .i64 er, .int .i64 at_]), recovered := true } :: older) ∧ Below b W w' ∧
   w'.heap[b + 1]? = some (.cells #[.slice none 0 0] 42 (0, 0)) ∧ w'.heap[b + 2]? = some (.cells #[.int .i64 r1, .int .i64 r2, .int .i64 r3, .int .i64 r4] 26 (0, 0)) := by
 have hlt := cblk_lt h2
 have hA : Below W.heap.size W (W.alloc (.cells #[.int .i64 er, .int .i64 at_] 62)) := below_alloc (Below.refl _ _) _
 have hA0 := (hA.block b (by omega)).trans h0
 have e0 : (W.alloc (.cells #[.int .i64 er, .int .i64 at_] 62)).cell? ⟨b, 0, none⟩ = some (.string text) := by rw [cblk_cell hA0]; rfl
 refine callsD_of_wpS Try.func28 rfl fun c₀ cs hu => ?_
 simp only [Try.ntmps28, List.size_toArray, List.length_cons, List.length_nil, Nat.reduceAdd, Nat.reduceSub, Array.replicate_succ, Array.replicate_zero, List.push_toArray, List.append_toArray, List.nil_append, List.cons_append]
 apply wpS_seq
 apply wpS_region
 simp [wpOpsS, go_sem, recoverD, hu, Exit.thenS]
 refine wpS_of_wp ?_
 refine wpQ (fun a' w' => a'.defers = [] ∧ Below b W w' ∧ w'.heap[b + 1]? = some (.cells #[.slice none 0 0] 42 (0, 0)) ∧ w'.heap[b + 2]? = some (.cells #[.int .i64 r1, .int .i64 r2, .int .i64 r3, .int .i64 r4] 26 (0, 0))) ?_ ?_
 ·intro Q' hQ'
  have HQ := Lib.hid hQ'
  clear hQ' hu
  have hta := tassert_yes
  go_wp2_with fail
  refine (place_Fault.calls k _ _ _ _ _ _ _ _ hF).mono ?_
  rintro e w5 ⟨rfl, hb5⟩
  have hB := below_step hA hb5
  have g1 := (hB.block (b + 1) (by omega)).trans h1
  have g2 := (hB.block (b + 2) (by omega)).trans h2
  clear e0 hA0 hA hb5
  have k1 : w5.cell? ⟨b + 1, 0, none⟩ = some (.slice none 0 0) := by rw [cblk_cell g1]; rfl
  have k2 := cblk_free g1 0
  have m0 : w5.cell? ⟨b + 2, 0, none⟩ = some (.int .i64 0) := by rw [cblk_cell g2]; rfl
  have m1 : w5.cell? ⟨b + 2, 1, none⟩ = some (.int .i64 0) := by rw [cblk_cell g2]; rfl
  have m2 : w5.cell? ⟨b + 2, 2, none⟩ = some (.int .i64 0) := by rw [cblk_cell g2]; rfl
  have m3 : w5.cell? ⟨b + 2, 3, none⟩ = some (.int .i64 0) := by rw [cblk_cell g2]; rfl
  have n0 := cblk_free g2 0
  have n1 := cblk_free g2 1
  have n2 := cblk_free g2 2
  have n3 := cblk_free g2 3
  go_wp2_with fail
  refine HQ.out _ _ ⟨rfl, ?_, ?_, ?_⟩
  ·exact (((((hB.mono (show b ≤ W.heap.size by omega)).setCell (p := ⟨b + 1, 0, none⟩) (Nat.le_add_right b 1) _).setCell (p := ⟨b + 2, 0, none⟩) (Nat.le_add_right b 2) _).setCell (p := ⟨b + 2, 1, none⟩) (Nat.le_add_right b 2) _).setCell (p := ⟨b + 2, 2, none⟩) (Nat.le_add_right b 2) _).setCell (p := ⟨b + 2, 3, none⟩) (Nat.le_add_right b 2) _
  ·rw [Below.heap_setCell _ _ _ _ (show b + 1 ≠ b + 2 by omega), Below.heap_setCell _ _ _ _ (show b + 1 ≠ b + 2 by omega), Below.heap_setCell _ _ _ _ (show b + 1 ≠ b + 2 by omega), Below.heap_setCell _ _ _ _ (show b + 1 ≠ b + 2 by omega)]
   exact cblk_set g1 0 _
  ·exact cblk_set (cblk_set (cblk_set (cblk_set ((Below.heap_setCell _ _ _ _ (show b + 2 ≠ b + 1 by omega)).trans g2) 0 (.int .i64 r1)) 1 (.int .i64 r2)) 2 (.int .i64 r3)) 3 (.int .i64 r4)
 ·rintro a' w' ⟨h1, h2⟩
  exact ⟨h1, _, rfl, _, results_none rfl _ _ _, rfl, rfl, h2⟩
set_option maxRecDepth 100000 in
set_option maxHeartbeats 8000000 in
/-- .. where nothing was thrown. -/
theorem catch_idle (b : Nat) (W : World) :
  CallsD Try.prog 28 #[.pointer (some ⟨b, 0, none⟩), .pointer (some ⟨b + 1, 0, none⟩), .pointer (some ⟨b + 2, 0, none⟩)] .returning W fun e u' w' =>
   e = .returned (.tuple #[]) ∧ u' = .returning ∧ Below W.heap.size W w' := by
 refine callsD_of_wpS Try.func28 rfl fun c₀ cs hu => ?_
 simp only [Try.ntmps28, List.size_toArray, List.length_cons, List.length_nil, Nat.reduceAdd, Nat.reduceSub, Array.replicate_succ, Array.replicate_zero, List.push_toArray, List.append_toArray, List.nil_append, List.cons_append]
 apply wpS_seq
 apply wpS_region
 simp [wpOpsS, go_sem, recoverD, hu, Exit.thenS]
 refine wpS_of_wp ?_
 refine wpQ (fun a' w' => a'.defers = [] ∧ Below W.heap.size W w') ?_ ?_
 ·intro Q' hQ'
  have HQ := Lib.hid hQ'
  clear hQ' hu
  have hta := tassert_nil
  go_wp2_with fail
  exact HQ.out _ _ ⟨rfl, below_alloc (Below.refl _ _) _⟩
 ·rintro a' w' ⟨h1, h2⟩
  cases c₀
  exact ⟨h1, _, by simp_all, _, results_none rfl _ _ _, rfl, rfl, h2⟩
theorem rowS_drop {L : List Int} : ∀ (k : Nat) (acc : List S47) (i : Nat) (r : List S47) (l2 : List Int) (j : Nat), i ≤ L.length → rowS k acc (L.drop i) i = .inr (r, l2, j) → l2 = L.drop j ∧ j ≤ L.length
 | 0, _, _, _, _, _, _, h => by cases h
 | k + 1, acc, i, r, l2, j, hi, h => by
  rw [rowS] at h
  cases hf : fieldS (L.drop i) i with
  | inl e => rw [hf] at h; cases h
  | inr p =>
   rw [hf] at h
   obtain ⟨_, _, h3⟩ := fieldS_len hf
   rw [List.length_drop] at h3
   simp only [List.drop_drop] at h
   by_cases h44 : (L.drop (i + p.2)).take 1 = [44]
   ·rw [if_pos h44] at h
    have h5 := congrArg List.length h44
    rw [List.length_take, List.length_drop] at h5
    simp at h5
    exact rowS_drop k _ (i + p.2 + 1) r l2 j (by omega) h
   ·rw [if_neg h44] at h
    have h6 := Prod.mk.inj (Sum.inr.inj h)
    obtain ⟨h7, h8⟩ := Prod.mk.inj h6.2
    have h9 := lend_le (L.drop (i + p.2))
    rw [List.length_drop] at h9
    subst h7
    subst h8
    exact ⟨by congr 1; omega, by omega⟩
/-- One row more. -/
theorem wholeS_step {L : List Int} {n i : Nat} {rows : List (List S47)} (hi : i < L.length) (hn : rows.length + n = 513) :
  (∃ e, rowR rows (L.drop i) i = .inl e ∧ wholeS n rows (L.drop i) i = .inl e) ∨ (∃ r j m, rowR rows (L.drop i) i = .inr (r, j) ∧ n = m + 1 ∧ j ≤ L.length ∧ wholeS n rows (L.drop i) i = wholeS m (rows ++ [r]) (L.drop j) j) := by
 have hne : L.drop i ≠ [] := by
  intro h
  have := congrArg List.length h
  rw [List.length_drop] at this
  simp at this; omega
 unfold rowR
 cases n with
 | zero => exact .inl ⟨(2, i), by rw [if_pos (by omega)], by rw [wholeS, if_neg hne]⟩
 | succ m =>
  rw [if_neg (by omega), wholeS, if_neg hne]
  cases hr : rowS 64 [] (L.drop i) i with
  | inl e => exact .inl ⟨e, rfl, rfl⟩
  | inr x =>
   obtain ⟨r, l2, j⟩ := x
   obtain ⟨h1, h2⟩ := rowS_drop 64 [] i r l2 j (by omega) hr
   by_cases hc : rows ≠ [] ∧ r.length ≠ (rows.headD []).length
   ·exact .inl ⟨(7, i), by simp only; rw [if_pos hc], by simp only; rw [if_pos hc]⟩
   ·exact .inr ⟨r, j, m, by simp only; rw [if_neg hc], rfl, h2, by simp only; rw [if_neg hc, h1]⟩
/-- The state of the loop over the rows. -/
def WInv (w : World) (g : Nat) (text : ByteArray) (res : (Int × Nat) ⊕ List (List S47)) (k : Nat) (wx : World) : Prop :=
 ∃ (n i : Nat) (rows : List (List S47)) (rv : Value), k = n + 1 ∧ Cur wx g text i rv ∧ Kd.S (Kd.slice 47 k47) 45 wx g (fun k => k ≠ g) rv rows ∧ Below g w wx ∧ rows.length + n = 513 ∧ i ≤ text.size ∧ res = wholeS n rows ((bytesOf text).drop i) i
theorem wstores {W : World} {b1 b2 : Nat} (hne : b1 ≠ b2) {v v0 : Value} (h1 : W.heap[b1]? = some (.cells #[v0] 42 (0, 0))) (h2 : W.heap[b2]? = some (.cells #[.int .i64 0, .int .i64 0, .int .i64 0, .int .i64 0] 26 (0, 0))) (B : Nat) (hB1 : B ≤ b1) (hB2 : B ≤ b2) :
  (((((W.setCell ⟨b1, 0, none⟩ v).setCell ⟨b2, 0, none⟩ (.int .i64 0)).setCell ⟨b2, 1, none⟩ (.int .i64 0)).setCell ⟨b2, 2, none⟩ (.int .i64 0)).setCell ⟨b2, 3, none⟩ (.int .i64 0)).heap[b1]? = some (.cells #[v] 42 (0, 0)) ∧
  (((((W.setCell ⟨b1, 0, none⟩ v).setCell ⟨b2, 0, none⟩ (.int .i64 0)).setCell ⟨b2, 1, none⟩ (.int .i64 0)).setCell ⟨b2, 2, none⟩ (.int .i64 0)).setCell ⟨b2, 3, none⟩ (.int .i64 0)).heap[b2]? = some (.cells #[.int .i64 0, .int .i64 0, .int .i64 0, .int .i64 0] 26 (0, 0)) ∧
  Below B W (((((W.setCell ⟨b1, 0, none⟩ v).setCell ⟨b2, 0, none⟩ (.int .i64 0)).setCell ⟨b2, 1, none⟩ (.int .i64 0)).setCell ⟨b2, 2, none⟩ (.int .i64 0)).setCell ⟨b2, 3, none⟩ (.int .i64 0)) ∧
  (∀ k, k ≠ b1 → k ≠ b2 → (((((W.setCell ⟨b1, 0, none⟩ v).setCell ⟨b2, 0, none⟩ (.int .i64 0)).setCell ⟨b2, 1, none⟩ (.int .i64 0)).setCell ⟨b2, 2, none⟩ (.int .i64 0)).setCell ⟨b2, 3, none⟩ (.int .i64 0)).heap[k]? = W.heap[k]?) := by
 refine ⟨?_, ?_, ?_, ?_⟩
 ·rw [Below.heap_setCell _ _ _ _ hne, Below.heap_setCell _ _ _ _ hne, Below.heap_setCell _ _ _ _ hne, Below.heap_setCell _ _ _ _ hne]
  exact cblk_set h1 0 v
 ·exact cblk_set (cblk_set (cblk_set (cblk_set ((Below.heap_setCell _ _ _ _ (Ne.symm hne)).trans h2) 0 (.int .i64 0)) 1 (.int .i64 0)) 2 (.int .i64 0)) 3 (.int .i64 0)
 ·exact (((((Below.refl B W).setCell (p := ⟨b1, 0, none⟩) hB1 _).setCell (p := ⟨b2, 0, none⟩) hB2 _).setCell (p := ⟨b2, 1, none⟩) hB2 _).setCell (p := ⟨b2, 2, none⟩) hB2 _).setCell (p := ⟨b2, 3, none⟩) hB2 _
 ·intro k n1 n2
  rw [Below.heap_setCell _ _ _ _ n2, Below.heap_setCell _ _ _ _ n2, Below.heap_setCell _ _ _ _ n2, Below.heap_setCell _ _ _ _ n2, Below.heap_setCell _ _ _ _ n1]
theorem wresults (tmps : Array Value) (w : World) (b1 b2 : Nat) (v : Value) (r1 r2 r3 r4 : Int) (h2 : tmps.getD 2 undef = .pointer (some ⟨b1, 0, none⟩)) (h3 : tmps.getD 3 undef = .pointer (some ⟨b2, 0, none⟩))
  (g1 : w.heap[b1]? = some (.cells #[v] 42 (0, 0))) (g2 : w.heap[b2]? = some (.cells #[.int .i64 r1, .int .i64 r2, .int .i64 r3, .int .i64 r4] 26 (0, 0))) :
  (results Try.f23 tmps).run Try.prog w = .ok (.tuple #[v, .agg #[.int .i64 r1, .int .i64 r2, .int .i64 r3, .int .i64 r4]]) w := by
 have c1 : w.cell? ⟨b1, 0, none⟩ = some v := by rw [cblk_cell g1]; rfl
 have hr : Try.f23.results = [.cell 2 42, .cell 3 26].toArray := rfl
 have hl := run_loadVar_row (P := Try.prog) w b2 26 26 _ (0, 0) _ g2 Try.underlying26 rfl (by kernel_rfl)
 have hl1 : (loadVar 42 ⟨b1, 0, none⟩).run Try.prog w = .ok v w := by
  simp [loadVar, go_sem, c1]
 unfold results
 rw [hr, List.mapM_toArray]
 rw [Array.getD_eq_getD_getElem?] at h2 h3
 simp [List.mapM_cons, asAddr, h2, h3, hl, hl1, Result.andThen]
/-- A fault at a place. -/
def faultR (s : ByteArray) (at_ e : Int) : Int × Int × Int × Int := (e, (clamp s.size at_ : Int), lineOf ((bytesOf s).take (clamp s.size at_)), colOf ((bytesOf s).take (clamp s.size at_)))
/-- What is answered. -/
def wholeR (a0 : ByteArray) : (Int × Nat) ⊕ List (List S47) → List (List S47) × Int × Int × Int × Int
 | .inl e => ([], faultR a0 e.2 e.1)
 | .inr rows => (rows, 0, 0, 0, 0)
def cread_whole.f (a0 : ByteArray) : Option (List (List S47) × Int × Int × Int × Int) :=
 if a0.size ≤ 70000 then some (wholeR a0 (wholeS 513 [] (bytesOf a0) 0)) else none
set_option maxRecDepth 100000 in
set_option maxHeartbeats 8000000 in
theorem cread_whole.calls (a0 : ByteArray) (r1 : List (List S47)) (r2 r3 r4 r5 : Int) (w : World) (h : cread_whole.f a0 = some (r1, r2, r3, r4, r5)) :
  Calls Try.prog 23 #[.string a0] w fun e w' => ∃ v0_ : Value, e = .returned (.tuple #[v0_, .agg #[.int .i64 r2, .int .i64 r3, .int .i64 r4, .int .i64 r5]]) ∧ Kd.S (Kd.slice 47 k47) 45 w' w.heap.size (fun _ => True) v0_ r1 ∧ Below w.heap.size w w' := by
 have hmf : ∀ (fn : Fn) (first cap : Array Value) (w : World), (Instr.makeFunc fn first cap).run Try.prog w = .ok (.func fn first cap) w := fun _ _ _ _ => rfl
 unfold cread_whole.f at h
 by_cases hs : a0.size ≤ 70000
 ·rw [if_pos hs] at h
  obtain ⟨res, hres⟩ : ∃ res, wholeS 513 [] (bytesOf a0) 0 = res := ⟨_, rfl⟩
  rw [hres] at h
  have H := Lib.hid (Option.some.inj h)
  have HRES := Lib.hid hres
  clear h hres
  go_enter_defers Try.func23, Try.ntmps23
  go_wp2_with fail
  have hB4 : Below w.heap.size w ((((w.alloc (.cells #[.string a0] 9)).alloc (.cells #[.slice none 0 0] 42)).alloc (.cells #[.int .i64 0, .int .i64 0, .int .i64 0, .int .i64 0] 26)).alloc (.cells #[.string a0, .int .i64 0, .slice none 0 0] 66)) :=
   below_alloc (below_alloc (below_alloc (below_alloc (Below.refl _ _) _) _) _) _
  have hz0 : (w.alloc (.cells #[.string a0] 9)).heap.size = w.heap.size + 1 := Array.size_push _
  have hz1 : ((w.alloc (.cells #[.string a0] 9)).alloc (.cells #[.slice none 0 0] 42)).heap.size = w.heap.size + 1 + 1 := by rw [← hz0]; exact Array.size_push _
  have hz2 : (((w.alloc (.cells #[.string a0] 9)).alloc (.cells #[.slice none 0 0] 42)).alloc (.cells #[.int .i64 0, .int .i64 0, .int .i64 0, .int .i64 0] 26)).heap.size = w.heap.size + 1 + 1 + 1 := by rw [← hz1]; exact Array.size_push _
  have hnew : ∀ (W : World) (o : Obj), (W.alloc o).heap[W.heap.size]? = some o := fun W o => Array.getElem?_push_size
  have hold : ∀ (W : World) (o : Obj) (k : Nat), k < W.heap.size → (W.alloc o).heap[k]? = W.heap[k]? := fun W o k hk => Below.heap_alloc W o k hk
  have g3 := hnew (((w.alloc (.cells #[.string a0] 9)).alloc (.cells #[.slice none 0 0] 42)).alloc (.cells #[.int .i64 0, .int .i64 0, .int .i64 0, .int .i64 0] 26)) (.cells #[.string a0, .int .i64 0, .slice none 0 0] 66)
  rw [hz2] at g3
  have g2 := (hold (((w.alloc (.cells #[.string a0] 9)).alloc (.cells #[.slice none 0 0] 42)).alloc (.cells #[.int .i64 0, .int .i64 0, .int .i64 0, .int .i64 0] 26)) (.cells #[.string a0, .int .i64 0, .slice none 0 0] 66) (w.heap.size + 1 + 1) (by omega)).trans (show _ = some (.cells #[.int .i64 0, .int .i64 0, .int .i64 0, .int .i64 0] 26 (0, 0)) from by
   have h := hnew ((w.alloc (.cells #[.string a0] 9)).alloc (.cells #[.slice none 0 0] 42)) (.cells #[.int .i64 0, .int .i64 0, .int .i64 0, .int .i64 0] 26)
   rw [hz1] at h
   exact h)
  have g1 := (hold (((w.alloc (.cells #[.string a0] 9)).alloc (.cells #[.slice none 0 0] 42)).alloc (.cells #[.int .i64 0, .int .i64 0, .int .i64 0, .int .i64 0] 26)) (.cells #[.string a0, .int .i64 0, .slice none 0 0] 66) (w.heap.size + 1) (by omega)).trans ((hold ((w.alloc (.cells #[.string a0] 9)).alloc (.cells #[.slice none 0 0] 42)) (.cells #[.int .i64 0, .int .i64 0, .int .i64 0, .int .i64 0] 26) (w.heap.size + 1) (by omega)).trans (show _ = some (.cells #[.slice none 0 0] 42 (0, 0)) from by
   have h := hnew (w.alloc (.cells #[.string a0] 9)) (.cells #[.slice none 0 0] 42)
   rw [hz0] at h
   exact h))
  have g0 := (hold (((w.alloc (.cells #[.string a0] 9)).alloc (.cells #[.slice none 0 0] 42)).alloc (.cells #[.int .i64 0, .int .i64 0, .int .i64 0, .int .i64 0] 26)) (.cells #[.string a0, .int .i64 0, .slice none 0 0] 66) w.heap.size (by omega)).trans ((hold ((w.alloc (.cells #[.string a0] 9)).alloc (.cells #[.slice none 0 0] 42)) (.cells #[.int .i64 0, .int .i64 0, .int .i64 0, .int .i64 0] 26) w.heap.size (by omega)).trans ((hold (w.alloc (.cells #[.string a0] 9)) (.cells #[.slice none 0 0] 42) w.heap.size (by omega)).trans (hnew w (.cells #[.string a0] 9))))
  generalize (((w.alloc (.cells #[.string a0] 9)).alloc (.cells #[.slice none 0 0] 42)).alloc (.cells #[.int .i64 0, .int .i64 0, .int .i64 0, .int .i64 0] 26)).alloc (.cells #[.string a0, .int .i64 0, .slice none 0 0] 66) = w4 at hB4 g0 g1 g2 g3 ⊢
  clear hz0 hz1 hz2 hnew hold
  go_loopg [] 514 (fun k wx => WInv w4 (w.heap.size + 1 + 1 + 1) a0 res k wx)
  case atStart => exact ⟨513, 0, [], .slice none 0 0, rfl, g3, Kd.S_nil _ _ _ _ _, Below.refl _ _, rfl, by omega, by rw [List.drop_zero]; exact HRES.out.symm⟩
  case round =>
   obtain ⟨n, i, rows, rv, hk, hC, hS, hB, hn, hi, hr⟩ := hrel
   have HR := Lib.hid hr
   have HK := Lib.hid hk
   clear hr hk
   have b0 := (hB.block w.heap.size (by omega)).trans g0
   have b1 := (hB.block (w.heap.size + 1) (by omega)).trans g1
   have b2 := (hB.block (w.heap.size + 1 + 1) (by omega)).trans g2
   obtain ⟨c0, c1, c2, f1, f2, hlt⟩ := hC.open_
   have t0 : wr.cell? ⟨w.heap.size, 0, none⟩ = some (.string a0) := by rw [cblk_cell b0]; rfl
   by_cases hlt2 : i < a0.size
   ·have e1 : decide ((i : Int) < (a0.size : Int)) = true := decide_eq_true (by omega)
    go_wp2_with fail
    go_quiet (fail)
    go_wp2_with fail
    refine (crow (hC.drewN nq) (Kd.S_drewN hS nq) (Nat.le_refl _) hi hs (by omega)).mono ?_
    rintro e w5 ⟨hB5, hrr⟩
    have hB6 := (pw_below_drewN hB nq).trans hB5
    rcases wholeS_step (L := bytesOf a0) (n := n) (i := i) (rows := rows) (by rw [size_of]; exact hlt2) hn with ⟨e, h1, h2⟩ | ⟨r, j, m, h1, hnm, hj, h2⟩
    ·rw [h1] at hrr
     obtain rfl := hrr
     have hres := HR.out.trans h2
     have HH := H.out
     rw [hres] at HH
     have hf := fault_ev a0 (by omega) e.2 e.1
     obtain ⟨K, hK⟩ := hf
     have b0' := (hB6.block w.heap.size (by omega)).trans g0
     have b1' := (hB6.block (w.heap.size + 1) (by omega)).trans g1
     have b2' := (hB6.block (w.heap.size + 1 + 1) (by omega)).trans g2
     refine leaves_cons (f := 28) (args := #[.pointer (some ⟨w.heap.size, 0, none⟩), .pointer (some ⟨w.heap.size + 1, 0, none⟩), .pointer (some ⟨w.heap.size + 1 + 1, 0, none⟩)]) (by simp) (by simp [go_sem]) ?_
     refine (catch_thrown [] (hK K (Nat.le_refl _)) b0' b1' b2').mono ?_
     rintro e7 u7 w7 ⟨rfl, rfl, hB7, h7, h8⟩
     refine ⟨_, wresults _ w7 _ _ _ _ _ _ _ rfl rfl h7 h8, ?_⟩
     obtain ⟨q1, q2⟩ := Prod.mk.inj HH
     obtain ⟨q2, q3⟩ := Prod.mk.inj q2
     obtain ⟨q3, q4⟩ := Prod.mk.inj q3
     obtain ⟨q4, q5⟩ := Prod.mk.inj q4
     subst q1
     exact ⟨_, by rw [← q2, ← q3, ← q4, ← q5], Kd.S_nil _ _ _ _ _, hB4.trans ((hB6.mono (by omega)).trans hB7)⟩
    ·rw [h1] at hrr
     obtain ⟨rfl, rv', hC5, hS5⟩ := hrr
     have hk := HK.out
     subst hnm
     subst hk
     go_wp2_with fail
     go_roundg (m + 1)
     case rel => exact ⟨m, j, rows ++ [r], rv', rfl, hC5, hS5, hB6, by rw [List.length_append]; simp; omega, by rw [size_of] at hj; exact hj, HR.out.trans h2⟩
     case measure => omega
   ·have e1 : decide ((i : Int) < (a0.size : Int)) = false := decide_eq_false (by omega)
    obtain ⟨RA, RC, hrv, _, _⟩ := Kd.S_reads hS
    have HRV := Lib.hid hrv
    subst hrv
    have k1 : wr.cell? ⟨w.heap.size + 1, 0, none⟩ = some (.slice none 0 0) := by rw [cblk_cell b1]; rfl
    have k2 := cblk_free b1 0
    have m0 : wr.cell? ⟨w.heap.size + 1 + 1, 0, none⟩ = some (.int .i64 0) := by rw [cblk_cell b2]; rfl
    have m1 : wr.cell? ⟨w.heap.size + 1 + 1, 1, none⟩ = some (.int .i64 0) := by rw [cblk_cell b2]; rfl
    have m2 : wr.cell? ⟨w.heap.size + 1 + 1, 2, none⟩ = some (.int .i64 0) := by rw [cblk_cell b2]; rfl
    have m3 : wr.cell? ⟨w.heap.size + 1 + 1, 3, none⟩ = some (.int .i64 0) := by rw [cblk_cell b2]; rfl
    have n0 := cblk_free b2 0
    have n1 := cblk_free b2 1
    have n2 := cblk_free b2 2
    have n3 := cblk_free b2 3
    go_wp2_with fail
    go_quiet (fail)
    go_wp2_with fail
    have hil : i = a0.size := by omega
    have hres : res = .inr rows := by
     rw [HR.out, List.drop_eq_nil_of_le (by rw [size_of]; omega)]
     cases n <;> rfl
    have HH := H.out
    rw [hres] at HH
    obtain ⟨q1, q2⟩ := Prod.mk.inj HH
    obtain ⟨q2, q3⟩ := Prod.mk.inj q2
    obtain ⟨q3, q4⟩ := Prod.mk.inj q3
    obtain ⟨q4, q5⟩ := Prod.mk.inj q4
    subst q1
    refine leaves_cons (f := 28) (args := #[.pointer (some ⟨w.heap.size, 0, none⟩), .pointer (some ⟨w.heap.size + 1, 0, none⟩), .pointer (some ⟨w.heap.size + 1 + 1, 0, none⟩)]) (by simp) (by simp [go_sem]) ?_
    refine (catch_idle w.heap.size _).mono ?_
    rintro e7 u7 w7 ⟨rfl, rfl, hB7⟩
    obtain ⟨p1, p2, p3, p4⟩ := wstores (W := wr.drewN nq) (b1 := w.heap.size + 1) (b2 := w.heap.size + 1 + 1) (by omega) (v := .slice RA rows.length RC) b1 b2 w.heap.size (by omega) (by omega)
    have s1 := Kd.S_mono (Kd.S_step (Kd.S_bound (Kd.S_drewN hS nq)) (fun k hk _ => p4 k (by have := hk.2.1; omega) (by have := hk.2.1; omega))) (fun k hk => hk.1)
    have s2 := Kd.S_mono (Kd.S_lower (Kd.S_below s1 hB7) (show w.heap.size ≤ w.heap.size + 1 + 1 + 1 by omega)) (fun _ _ => trivial)
    have hlt1 := cblk_lt p1
    have hlt2 := cblk_lt p2
    refine ⟨_, wresults _ w7 _ _ _ _ _ _ _ rfl rfl ((hB7.block _ hlt1).trans p1) ((hB7.block _ hlt2).trans p2), ?_⟩
    exact ⟨_, by rw [← q2, ← q3, ← q4, ← q5], s2, hB4.trans (((pw_below_drewN (hB.mono (by omega)) nq).trans p3).trans (hB7.mono (Nat.le_trans hB4.size (Nat.le_trans hB.size p3.size))))⟩
 ·rw [if_neg hs] at h
  cases h
end Go.Proofs.Ytjmmdphkgioooaa.P
end
section
namespace Go.Proofs.Ytjmmdphkgioooaa.P
open Go.RowKit Go.Proofs.YtjmmdphkgioooaaW.PrintWords Go.Proofs.YtjmmdphkgioooaaW.PrintLast Go.Proofs.YtjmmdphkgioooaaW.PrintMore
attribute [local go_sem] max2_int min2_int max_two min_two max_three min_three max_four min_four   -- for this text's walks alone
set_option linter.unusedVariables false
set_option linter.unusedSimpArgs false
/-! ### jlex_Judge: function 22 -/
def jlex_Judge.f (k : Nat) (a0 : ByteArray) : Option (Int × Int × Int × Int) := if (a0.size : Int) > 65536 then ((place_Fault.f k a0 (a0.size : Int) 2).bind fun bt122 => (some (bt122.1, bt122.2.1, bt122.2.2.1, bt122.2.2.2))) else ((utf_Valid.f k a0).bind fun bt126 => (if bt126.2 = true then (some (0, 0, 0, 0)) else ((place_Fault.f k a0 bt126.1 3).bind fun bt128 => (some (bt128.1, bt128.2.1, bt128.2.2.1, bt128.2.2.2)))))
set_option maxHeartbeats 8000000 in
set_option maxRecDepth 100000 in
theorem jlex_Judge.calls (k : Nat) (a0 : ByteArray) (r1 : Int) (r2 : Int) (r3 : Int) (r4 : Int) (w : World) (h : jlex_Judge.f k a0 = some (r1, r2, r3, r4)) :
  Calls Try.prog 22 #[.string a0] w fun e w' => e = .returned (.agg #[.int .i64 r1, .int .i64 r2, .int .i64 r3, .int .i64 r4]) ∧ Below w.heap.size w w' := by
 have hu26 := Try.underlying26
 have HB := Aside0.mk (Below.refl w.heap.size w)
 have H : (if (a0.size : Int) > 65536 then ((place_Fault.f k a0 (a0.size : Int) 2).bind fun bt122 => (some (bt122.1, bt122.2.1, bt122.2.2.1, bt122.2.2.2))) else ((utf_Valid.f k a0).bind fun bt126 => (if bt126.2 = true then (some (0, 0, 0, 0)) else ((place_Fault.f k a0 bt126.1 3).bind fun bt128 => (some (bt128.1, bt128.2.1, bt128.2.2.1, bt128.2.2.2)))))) = some (r1, r2, r3, r4) := h
 clear h
 by_cases c2 : (a0.size : Int) > 65536
 ·rw [if_pos c2] at H
  have c2b0 : decide (65536 < (a0.size : Int)) = true := decide_eq_true c2
  have c2b1 : decide (65536 < a0.size) = true := decide_eq_true (by omega)
  clear c2
  replace H := Option.bind_eq_some_iff.mp H
  obtain ⟨⟨t122, t123, t124, t125⟩, A30, H⟩ := H
  replace H : (some (t122, t123, t124, t125)) = some (r1, r2, r3, r4) := H
  have A3 := Aside0.mk A30
  clear A30
  simp only [Option.some.injEq, Prod.mk.injEq] at H
  obtain ⟨rfl, rfl, rfl, rfl⟩ := H
  go_enter Try.func22, Try.ntmps22
  go_wp2_with (first | ((with_reducible refine gate_dst (N := 2) rfl ?_); refine box_event ?hg (N := 2) ?hd (cs := #[.int .i64 0, .int .i64 0, .int .i64 0, .int .i64 0]) (t := 26) ?hr ?_; (case hd => rfl); (case hg => rfl); (case hr => first | (go_simp; done) | (go_simp; rfl)); intro gb121 hg w4 hbox hb; have n0_ := Aside0.mk (below_step (by repeat (first | (with_reducible first | exact HB.out | apply below_alloc | apply pw_below_drewN | apply below_drew1) | exact HB.out)) hb); have n1_ := Aside0.mk (hbox); have n2_ := Aside0.mk ((by rw [hg]; exact (below_size (by repeat (first | (with_reducible first | exact HB.out | apply below_alloc | apply pw_below_drewN | apply below_drew1) | exact HB.out))) : w.heap.size ≤ gb121)); have n3_ := Aside0.mk ((by rw [hg]; exact (below_size (by repeat (first | (with_reducible first | exact HB.out | apply below_alloc | apply pw_below_drewN | apply below_drew1) | exact HB.out))) : w.heap.size ≤ gb121)); clear HB; have HB := n0_; have BK121 := n1_; have GW121 := n2_; have GE121 := n3_; clear n0_ n1_ n2_ n3_; clear hb hbox hg) | ((with_reducible refine gate_callee (f := 26) rfl ?_); refine goesL_ (some 11) rfl rfl Try.func26 (by kernel_rfl) rfl #[.string a0, .int .i64 (a0.size : Int), .int .i64 2] rfl (by (try simp only [List.map_toArray, List.map_cons, List.map_nil]); first | done | rfl | (simp only [List.length_drop, List.length_take]; rfl)) ?_; (with_reducible refine (place_Fault.calls k a0 (a0.size : Int) 2 t122 t123 t124 t125 _ A3.out).mono ?_); rintro e w5 ⟨rfl, hb⟩; refine ⟨_, rfl, ?_⟩; have n0_ := Aside0.mk (blk_below (g := gb121) (o := .cells #[.int .i64 0, .int .i64 0, .int .i64 0, .int .i64 0] 26 (0, 0)) (by (with_reducible repeat (first | refine blk_drewN ?_ _ | refine blk_drew ?_ | refine blk_alloc ?_ _)); exact BK121.out) hb); have n1_ := Aside0.mk (below_step (by repeat (first | (with_reducible first | exact HB.out | apply below_alloc | apply pw_below_drewN | apply below_drew1 | refine below_set ?_ GE121.out) | exact HB.out)) hb); clear BK121; clear HB; have BK121 := n0_; have HB := n1_; clear n0_ n1_; (try clear hb); (try clear hb2); (try clear hk); (try clear hi); have hcz6_0 : w5.cell? ⟨gb121, 0, none⟩ = some (.int .i64 0) := (blk_cell BK121.out 0).trans rfl; have hcz6_1 : w5.cell? ⟨gb121, 1, none⟩ = some (.int .i64 0) := (blk_cell BK121.out 1).trans rfl; have hcz6_2 : w5.cell? ⟨gb121, 2, none⟩ = some (.int .i64 0) := (blk_cell BK121.out 2).trans rfl; have hcz6_3 : w5.cell? ⟨gb121, 3, none⟩ = some (.int .i64 0) := (blk_cell BK121.out 3).trans rfl; have hfz6_0 := blk_frozen BK121.out 0; have hfz6_1 := blk_frozen BK121.out 1; have hfz6_2 := blk_frozen BK121.out 2; have hfz6_3 := blk_frozen BK121.out 3))
  refine bodyPost_ret (results_cell_row rfl _ _ gb121 26 #[.int .i64 t122, .int .i64 t123, .int .i64 t124, .int .i64 t125] (0, 0) _ rfl (by (with_reducible repeat (first | refine blk_drewN ?_ _ | refine blk_drew ?_ | refine blk_alloc ?_ _)); refine blk_put (cs := #[.int .i64 t122, .int .i64 t123, .int .i64 t124, .int .i64 0]) ?_ 3 _ rfl; (with_reducible repeat (first | refine blk_drewN ?_ _ | refine blk_drew ?_ | refine blk_alloc ?_ _)); refine blk_put (cs := #[.int .i64 t122, .int .i64 t123, .int .i64 0, .int .i64 0]) ?_ 2 _ rfl; (with_reducible repeat (first | refine blk_drewN ?_ _ | refine blk_drew ?_ | refine blk_alloc ?_ _)); refine blk_put (cs := #[.int .i64 t122, .int .i64 0, .int .i64 0, .int .i64 0]) ?_ 1 _ rfl; (with_reducible repeat (first | refine blk_drewN ?_ _ | refine blk_drew ?_ | refine blk_alloc ?_ _)); refine blk_put (cs := #[.int .i64 0, .int .i64 0, .int .i64 0, .int .i64 0]) ?_ 0 _ rfl; (with_reducible repeat (first | refine blk_drewN ?_ _ | refine blk_drew ?_ | refine blk_alloc ?_ _)); exact BK121.out) Try.underlying26 rfl (by kernel_rfl)) rfl ?_
  exact ⟨by first | rfl | (simp [errW_none, errW_some] <;> rfl) | (simp [*, errW_none, errW_some, bne]; done) | (simp [*, errW_none, errW_some] <;> rfl), by repeat (first | (with_reducible first | exact HB.out | apply below_alloc | apply pw_below_drewN | apply below_drew1 | refine below_set ?_ GE121.out) | exact HB.out)⟩
 ·rw [if_neg c2] at H
  have c2b0 : decide (65536 < (a0.size : Int)) = false := decide_eq_false c2
  have c2b1 : decide (65536 < a0.size) = false := decide_eq_false (by omega)
  clear c2
  replace H := Option.bind_eq_some_iff.mp H
  obtain ⟨⟨t126, t127⟩, A70, H⟩ := H
  replace H : (if t127 = true then (some (0, 0, 0, 0)) else ((place_Fault.f k a0 t126 3).bind fun bt128 => (some (bt128.1, bt128.2.1, bt128.2.2.1, bt128.2.2.2)))) = some (r1, r2, r3, r4) := H
  have A7 := Aside0.mk A70
  clear A70
  by_cases c8 : t127 = true
  ·subst c8
   have H1 : (some (0, 0, 0, 0)) = some (r1, r2, r3, r4) := by rw [if_pos rfl] at H; exact H
   clear H
   have H := H1
   clear H1
   simp only [Option.some.injEq, Prod.mk.injEq] at H
   obtain ⟨rfl, rfl, rfl, rfl⟩ := H
   go_enter Try.func22, Try.ntmps22
   go_wp2_with (first | ((with_reducible refine gate_dst (N := 2) rfl ?_); refine box_event ?hg (N := 2) ?hd (cs := #[.int .i64 0, .int .i64 0, .int .i64 0, .int .i64 0]) (t := 26) ?hr ?_; (case hd => rfl); (case hg => rfl); (case hr => first | (go_simp; done) | (go_simp; rfl)); intro gb121 hg w9 hbox hb; have n0_ := Aside0.mk (below_step (by repeat (first | (with_reducible first | exact HB.out | apply below_alloc | apply pw_below_drewN | apply below_drew1) | exact HB.out)) hb); have n1_ := Aside0.mk (hbox); have n2_ := Aside0.mk ((by rw [hg]; exact (below_size (by repeat (first | (with_reducible first | exact HB.out | apply below_alloc | apply pw_below_drewN | apply below_drew1) | exact HB.out))) : w.heap.size ≤ gb121)); have n3_ := Aside0.mk ((by rw [hg]; exact (below_size (by repeat (first | (with_reducible first | exact HB.out | apply below_alloc | apply pw_below_drewN | apply below_drew1) | exact HB.out))) : w.heap.size ≤ gb121)); clear HB; have HB := n0_; have BK121 := n1_; have GW121 := n2_; have GE121 := n3_; clear n0_ n1_ n2_ n3_; clear hb hbox hg) | ((with_reducible refine gate_callee (f := 27) rfl ?_); refine goesL_ (some 14) rfl rfl Try.func27 (by kernel_rfl) rfl #[.string a0] rfl (by (try simp only [List.map_toArray, List.map_cons, List.map_nil]); first | done | rfl | (simp only [List.length_drop, List.length_take]; rfl)) ?_; (with_reducible refine (utf_Valid.calls k a0 t126 true _ A7.out).mono ?_); rintro e w' ⟨rfl, ⟨nd, rfl⟩⟩; refine ⟨_, rfl, ?_⟩; (try (rw [drewN_self w9]; generalize hq_ : World.drewN w9 _ = w9; have n0_ : Aside0 (w9.heap[gb121]? = some (.cells #[.int .i64 0, .int .i64 0, .int .i64 0, .int .i64 0] 26 (0, 0))) := ⟨by rw [← hq_]; exact (by (with_reducible repeat (first | refine blk_drewN ?_ _ | refine blk_drew ?_ | refine blk_alloc ?_ _)); exact BK121.out)⟩; have n1_ : Aside0 (Below w.heap.size w w9) := ⟨by rw [← hq_]; exact (by repeat (first | (with_reducible first | exact HB.out | apply below_alloc | apply pw_below_drewN | apply below_drew1 | refine below_set ?_ GE121.out) | exact HB.out))⟩; clear BK121 HB hq_; have BK121 := n0_; have HB := n1_; clear n0_ n1_)); have hcz10_0 : w9.cell? ⟨gb121, 0, none⟩ = some (.int .i64 0) := (blk_cell BK121.out 0).trans rfl; have hcz10_1 : w9.cell? ⟨gb121, 1, none⟩ = some (.int .i64 0) := (blk_cell BK121.out 1).trans rfl; have hcz10_2 : w9.cell? ⟨gb121, 2, none⟩ = some (.int .i64 0) := (blk_cell BK121.out 2).trans rfl; have hcz10_3 : w9.cell? ⟨gb121, 3, none⟩ = some (.int .i64 0) := (blk_cell BK121.out 3).trans rfl; have hfz10_0 := blk_frozen BK121.out 0; have hfz10_1 := blk_frozen BK121.out 1; have hfz10_2 := blk_frozen BK121.out 2; have hfz10_3 := blk_frozen BK121.out 3))
   refine bodyPost_ret (results_cell_row rfl _ _ gb121 26 #[.int .i64 0, .int .i64 0, .int .i64 0, .int .i64 0] (0, 0) _ rfl (by (with_reducible repeat (first | refine blk_drewN ?_ _ | refine blk_drew ?_ | refine blk_alloc ?_ _)); refine blk_put (cs := #[.int .i64 0, .int .i64 0, .int .i64 0, .int .i64 0]) ?_ 3 _ rfl; (with_reducible repeat (first | refine blk_drewN ?_ _ | refine blk_drew ?_ | refine blk_alloc ?_ _)); refine blk_put (cs := #[.int .i64 0, .int .i64 0, .int .i64 0, .int .i64 0]) ?_ 2 _ rfl; (with_reducible repeat (first | refine blk_drewN ?_ _ | refine blk_drew ?_ | refine blk_alloc ?_ _)); refine blk_put (cs := #[.int .i64 0, .int .i64 0, .int .i64 0, .int .i64 0]) ?_ 1 _ rfl; (with_reducible repeat (first | refine blk_drewN ?_ _ | refine blk_drew ?_ | refine blk_alloc ?_ _)); refine blk_put (cs := #[.int .i64 0, .int .i64 0, .int .i64 0, .int .i64 0]) ?_ 0 _ rfl; (with_reducible repeat (first | refine blk_drewN ?_ _ | refine blk_drew ?_ | refine blk_alloc ?_ _)); exact BK121.out) Try.underlying26 rfl (by kernel_rfl)) rfl ?_
   exact ⟨by first | rfl | (simp [errW_none, errW_some] <;> rfl) | (simp [*, errW_none, errW_some, bne]; done) | (simp [*, errW_none, errW_some] <;> rfl), by repeat (first | (with_reducible first | exact HB.out | apply below_alloc | apply pw_below_drewN | apply below_drew1 | refine below_set ?_ GE121.out) | exact HB.out)⟩
  ·replace c8 := Bool.eq_false_iff.mpr c8
   subst c8
   have H1 : ((place_Fault.f k a0 t126 3).bind fun bt128 => (some (bt128.1, bt128.2.1, bt128.2.2.1, bt128.2.2.2))) = some (r1, r2, r3, r4) := by rw [if_neg (show ¬ (false = true) by decide)] at H; exact H
   clear H
   have H := H1
   clear H1
   replace H := Option.bind_eq_some_iff.mp H
   obtain ⟨⟨t128, t129, t130, t131⟩, A110, H⟩ := H
   replace H : (some (t128, t129, t130, t131)) = some (r1, r2, r3, r4) := H
   have A11 := Aside0.mk A110
   clear A110
   simp only [Option.some.injEq, Prod.mk.injEq] at H
   obtain ⟨rfl, rfl, rfl, rfl⟩ := H
   go_enter Try.func22, Try.ntmps22
   go_wp2_with (first | ((with_reducible refine gate_dst (N := 2) rfl ?_); refine box_event ?hg (N := 2) ?hd (cs := #[.int .i64 0, .int .i64 0, .int .i64 0, .int .i64 0]) (t := 26) ?hr ?_; (case hd => rfl); (case hg => rfl); (case hr => first | (go_simp; done) | (go_simp; rfl)); intro gb121 hg w12 hbox hb; have n0_ := Aside0.mk (below_step (by repeat (first | (with_reducible first | exact HB.out | apply below_alloc | apply pw_below_drewN | apply below_drew1) | exact HB.out)) hb); have n1_ := Aside0.mk (hbox); have n2_ := Aside0.mk ((by rw [hg]; exact (below_size (by repeat (first | (with_reducible first | exact HB.out | apply below_alloc | apply pw_below_drewN | apply below_drew1) | exact HB.out))) : w.heap.size ≤ gb121)); have n3_ := Aside0.mk ((by rw [hg]; exact (below_size (by repeat (first | (with_reducible first | exact HB.out | apply below_alloc | apply pw_below_drewN | apply below_drew1) | exact HB.out))) : w.heap.size ≤ gb121)); clear HB; have HB := n0_; have BK121 := n1_; have GW121 := n2_; have GE121 := n3_; clear n0_ n1_ n2_ n3_; clear hb hbox hg) | ((with_reducible refine gate_callee (f := 27) rfl ?_); refine goesL_ (some 14) rfl rfl Try.func27 (by kernel_rfl) rfl #[.string a0] rfl (by (try simp only [List.map_toArray, List.map_cons, List.map_nil]); first | done | rfl | (simp only [List.length_drop, List.length_take]; rfl)) ?_; (with_reducible refine (utf_Valid.calls k a0 t126 false _ A7.out).mono ?_); rintro e w' ⟨rfl, ⟨nd, rfl⟩⟩; refine ⟨_, rfl, ?_⟩; (try (rw [drewN_self w12]; generalize hq_ : World.drewN w12 _ = w12; have n0_ : Aside0 (w12.heap[gb121]? = some (.cells #[.int .i64 0, .int .i64 0, .int .i64 0, .int .i64 0] 26 (0, 0))) := ⟨by rw [← hq_]; exact (by (with_reducible repeat (first | refine blk_drewN ?_ _ | refine blk_drew ?_ | refine blk_alloc ?_ _)); exact BK121.out)⟩; have n1_ : Aside0 (Below w.heap.size w w12) := ⟨by rw [← hq_]; exact (by repeat (first | (with_reducible first | exact HB.out | apply below_alloc | apply pw_below_drewN | apply below_drew1 | refine below_set ?_ GE121.out) | exact HB.out))⟩; clear BK121 HB hq_; have BK121 := n0_; have HB := n1_; clear n0_ n1_))) | ((with_reducible refine gate_callee (f := 26) rfl ?_); refine goesL_ (some 21) rfl rfl Try.func26 (by kernel_rfl) rfl #[.string a0, .int .i64 t126, .int .i64 3] rfl (by (try simp only [List.map_toArray, List.map_cons, List.map_nil]); first | done | rfl | (simp only [List.length_drop, List.length_take]; rfl)) ?_; (with_reducible refine (place_Fault.calls k a0 t126 3 t128 t129 t130 t131 _ A11.out).mono ?_); rintro e w13 ⟨rfl, hb⟩; refine ⟨_, rfl, ?_⟩; have n0_ := Aside0.mk (blk_below (g := gb121) (o := .cells #[.int .i64 0, .int .i64 0, .int .i64 0, .int .i64 0] 26 (0, 0)) (by (with_reducible repeat (first | refine blk_drewN ?_ _ | refine blk_drew ?_ | refine blk_alloc ?_ _)); exact BK121.out) hb); have n1_ := Aside0.mk (below_step (by repeat (first | (with_reducible first | exact HB.out | apply below_alloc | apply pw_below_drewN | apply below_drew1 | refine below_set ?_ GE121.out) | exact HB.out)) hb); clear BK121; clear HB; have BK121 := n0_; have HB := n1_; clear n0_ n1_; (try clear hb); (try clear hb2); (try clear hk); (try clear hi); have hcz14_0 : w13.cell? ⟨gb121, 0, none⟩ = some (.int .i64 0) := (blk_cell BK121.out 0).trans rfl; have hcz14_1 : w13.cell? ⟨gb121, 1, none⟩ = some (.int .i64 0) := (blk_cell BK121.out 1).trans rfl; have hcz14_2 : w13.cell? ⟨gb121, 2, none⟩ = some (.int .i64 0) := (blk_cell BK121.out 2).trans rfl; have hcz14_3 : w13.cell? ⟨gb121, 3, none⟩ = some (.int .i64 0) := (blk_cell BK121.out 3).trans rfl; have hfz14_0 := blk_frozen BK121.out 0; have hfz14_1 := blk_frozen BK121.out 1; have hfz14_2 := blk_frozen BK121.out 2; have hfz14_3 := blk_frozen BK121.out 3))
   refine bodyPost_ret (results_cell_row rfl _ _ gb121 26 #[.int .i64 t128, .int .i64 t129, .int .i64 t130, .int .i64 t131] (0, 0) _ rfl (by (with_reducible repeat (first | refine blk_drewN ?_ _ | refine blk_drew ?_ | refine blk_alloc ?_ _)); refine blk_put (cs := #[.int .i64 t128, .int .i64 t129, .int .i64 t130, .int .i64 0]) ?_ 3 _ rfl; (with_reducible repeat (first | refine blk_drewN ?_ _ | refine blk_drew ?_ | refine blk_alloc ?_ _)); refine blk_put (cs := #[.int .i64 t128, .int .i64 t129, .int .i64 0, .int .i64 0]) ?_ 2 _ rfl; (with_reducible repeat (first | refine blk_drewN ?_ _ | refine blk_drew ?_ | refine blk_alloc ?_ _)); refine blk_put (cs := #[.int .i64 t128, .int .i64 0, .int .i64 0, .int .i64 0]) ?_ 1 _ rfl; (with_reducible repeat (first | refine blk_drewN ?_ _ | refine blk_drew ?_ | refine blk_alloc ?_ _)); refine blk_put (cs := #[.int .i64 0, .int .i64 0, .int .i64 0, .int .i64 0]) ?_ 0 _ rfl; (with_reducible repeat (first | refine blk_drewN ?_ _ | refine blk_drew ?_ | refine blk_alloc ?_ _)); exact BK121.out) Try.underlying26 rfl (by kernel_rfl)) rfl ?_
   exact ⟨by first | rfl | (simp [errW_none, errW_some] <;> rfl) | (simp [*, errW_none, errW_some, bne]; done) | (simp [*, errW_none, errW_some] <;> rfl), by repeat (first | (with_reducible first | exact HB.out | apply below_alloc | apply pw_below_drewN | apply below_drew1 | refine below_set ?_ GE121.out) | exact HB.out)⟩
end Go.Proofs.Ytjmmdphkgioooaa.P
end
