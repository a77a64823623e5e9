/- Plain facts about strings of bytes and the lists of their numbers: cuts, joins, equality; no condition beyond those that each theorem names. -/
import Derived.Test.YtagjfnjfhflahaaWWords
import Derived.Test.YtagjfnjfhflahaaWMore
import Derived.Lib.Bytes
namespace Go.Proofs.Ytagjfnjfhflahaa.La
open Go.RowKit Go.Proofs.YtagjfnjfhflahaaW.PrintWords Go.Proofs.YtagjfnjfhflahaaW.PrintLast Go.Proofs.YtagjfnjfhflahaaW.PrintMore

theorem bytesOf_data (s : ByteArray) : bytesOf s = s.data.toList.map fun b => (b.toNat : Int) := rfl

theorem toList_data' (s : ByteArray) : s.toList = s.data.toList := ByteArray.toList_eq s

theorem map_toNat_inj {l m : List UInt8} (h : l.map (fun b => (b.toNat : Int)) = m.map fun b => (b.toNat : Int)) : l = m := by
  induction l generalizing m with
  | nil => cases m with
    | nil => rfl
    | cons a t => simp at h
  | cons a t ih => cases m with
    | nil => simp at h
    | cons b u =>
      simp only [List.map_cons, List.cons.injEq] at h
      obtain ⟨h1, h2⟩ := h
      have : a = b := UInt8.toNat_inj.1 (by omega)
      rw [this, ih h2]

theorem bytesOf_inj {s t : ByteArray} (h : bytesOf s = bytesOf t) : s = t := by
  have h1 := map_toNat_inj h
  cases s with | mk a => cases t with | mk b =>
  congr 1
  exact Array.toList_inj.1 h1

theorem toList_eq_iff (s t : ByteArray) : s.toList = t.toList ↔ bytesOf s = bytesOf t := by
  rw [toList_data', toList_data']
  exact ⟨fun h => by rw [bytesOf_data, bytesOf_data, h], fun h => map_toNat_inj h⟩

theorem toList_nil_iff (s : ByteArray) : s.toList = ([] : List UInt8) ↔ bytesOf s = [] := by
  rw [toList_data', bytesOf_data]
  simp

theorem bytesOf_append (s t : ByteArray) : bytesOf (s ++ t) = bytesOf s ++ bytesOf t := by
  simp [bytesOf_data, ByteArray.data_append]

theorem bytesOf_extract (s : ByteArray) (i j : Nat) : bytesOf (s.extract i j) = ((bytesOf s).take j).drop i := by
  simp [bytesOf_data, ByteArray.data_extract, Array.toList_extract, List.map_drop, List.map_take, List.extract, List.take_drop]
  by_cases h : i ≤ j
  · rw [show i + (j - i) = j by omega]
  · rw [show j - i = 0 by omega]
    simp
    omega

theorem bytesOf_drop (s : ByteArray) (i : Nat) : bytesOf (s.extract i s.size) = (bytesOf s).drop i := by
  rw [bytesOf_extract, List.take_of_length_le (by rw [bytesOf_length]; omega)]

theorem bytesOf_take (s : ByteArray) (j : Nat) : bytesOf (s.extract 0 j) = (bytesOf s).take j := by
  rw [bytesOf_extract, List.drop_zero]

def Bytes (l : List Int) : Prop := ∀ x ∈ l, 0 ≤ x ∧ x < 256

theorem bytes_of (s : ByteArray) : Bytes (bytesOf s) := by
  intro x hx
  rw [bytesOf_data] at hx
  obtain ⟨b, _, rfl⟩ := List.mem_map.1 hx
  have := b.toNat_lt
  omega

theorem Bytes.drop {l : List Int} (h : Bytes l) (n : Nat) : Bytes (l.drop n) := fun x hx => h x (List.mem_of_mem_drop hx)
theorem Bytes.take {l : List Int} (h : Bytes l) (n : Nat) : Bytes (l.take n) := fun x hx => h x (List.mem_of_mem_take hx)
theorem Bytes.append {l m : List Int} (h : Bytes l) (k : Bytes m) : Bytes (l ++ m) := fun x hx => (List.mem_append.1 hx).elim (h x) (k x)
theorem Bytes.left {l m : List Int} (h : Bytes (l ++ m)) : Bytes l := fun x hx => h x (List.mem_append.2 (.inl hx))
theorem Bytes.right {l m : List Int} (h : Bytes (l ++ m)) : Bytes m := fun x hx => h x (List.mem_append.2 (.inr hx))

theorem strOfNums_bytes {l : List Int} (h : Bytes l) : bytesOf (strOfNums l) = l := by
  have : (strOfNums l).data.toList = l.map fun n => UInt8.ofNat n.toNat := by
    have := Go.Lib.strOfNums_toList l
    rw [toList_data'] at this
    exact this
  rw [bytesOf_data, this, List.map_map]
  induction l with
  | nil => rfl
  | cons a t ih =>
    have ha := h a List.mem_cons_self
    rw [List.map_cons, ih (fun x hx => h x (List.mem_cons_of_mem _ hx)) (by
      have := Go.Lib.strOfNums_toList t
      rw [toList_data'] at this
      exact this)]
    simp only [Function.comp_apply, UInt8.toNat_ofNat', List.cons.injEq, and_true]
    omega

theorem strOfNums_of (s : ByteArray) : strOfNums (bytesOf s) = s := bytesOf_inj (strOfNums_bytes (bytes_of s))

theorem size_of (s : ByteArray) : (bytesOf s).length = s.size := bytesOf_length s

theorem size_strOfNums {l : List Int} (h : Bytes l) : (strOfNums l).size = l.length := by rw [← size_of, strOfNums_bytes h]

theorem bt_get (s : ByteArray) (i : Int) : bt s i = (bytesOf s).getD i.toNat 0 := (rd_bytesOf s i).symm

theorem size_append' (s t : ByteArray) : (s ++ t).size = s.size + t.size := by
  rw [← size_of, bytesOf_append, List.length_append, size_of, size_of]

theorem size_drop (s : ByteArray) (i : Nat) : (s.extract i s.size).size = s.size - i := by
  rw [← size_of, bytesOf_drop, List.length_drop, size_of]

theorem size_take (s : ByteArray) {j : Nat} (h : j ≤ s.size) : (s.extract 0 j).size = j := by
  rw [← size_of, bytesOf_take, List.length_take, size_of]
  omega

theorem wrap_id {n : Int} (h0 : -9223372036854775808 ≤ n) (h1 : n < 9223372036854775808) : wrap64 n = n := by
  unfold wrap64
  omega

theorem wf64 {n : Int} (h : (Lit.int .i64 n).wf = true) : -9223372036854775808 ≤ n ∧ n ≤ 9223372036854775807 := by
  have hmin : IntKind.i64.min = -9223372036854775808 := rfl
  have hmax : IntKind.i64.max = 9223372036854775807 := rfl
  simp only [Lit.wf, Bool.and_eq_true, decide_eq_true_eq, hmin, hmax] at h
  exact h

theorem wf8 {n : Int} (h : (Lit.int .u8 n).wf = true) : 0 ≤ n ∧ n < 256 := by
  have hmin : IntKind.u8.min = 0 := rfl
  have hmax : IntKind.u8.max = 255 := rfl
  simp only [Lit.wf, Bool.and_eq_true, decide_eq_true_eq, hmin, hmax] at h
  omega

end Go.Proofs.Ytagjfnjfhflahaa.La
