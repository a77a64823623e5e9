/- What package place and the document's own answer for places answer, told by lists of numbers; on condition that a text has at most 2^43 bytes. -/
import Derived.Test.YtagjfnjfhflahaaLaLines
import Derived.Test.YtagjfnjfhflahaaLaRef
import Derived.Test.YtagjfnjfhflahaaPxplace
import Derived.Test.YtagjfnjfhflahaaPxdragomanref1
namespace Go.Proofs.Ytagjfnjfhflahaa.La
open Go.RowKit Go.Proofs.Ytagjfnjfhflahaa.P Go.Proofs.YtagjfnjfhflahaaW.PrintWords Go.Proofs.YtagjfnjfhflahaaW.PrintLast Go.Proofs.YtagjfnjfhflahaaW.PrintMore

def clamp (size : Nat) (i : Int) : Nat := if i < 0 then 0 else if i > (size : Int) then size else i.toNat
theorem clamp_le (size : Nat) (i : Int) : clamp size i ≤ size := by unfold clamp; (repeat' split) <;> omega

theorem clamp_eq (s : ByteArray) (i : Int) : place_clamp.f s i = some (clamp s.size i : Int) := by
  unfold place_clamp.f mn mx clamp
  congr 1
  (repeat' split) <;> omega
theorem ref_clamp_eq (s : ByteArray) (i : Int) : dragomanref1_clamp.f s i = some (clamp s.size i : Int) := by
  unfold dragomanref1_clamp.f clamp
  (repeat' split) <;> first | rfl | (congr 1; omega)

theorem count10 (s : ByteArray) : strings_Count.f s (⟨#[10]⟩ : ByteArray) = some (nl (bytesOf s) : Int) := by
  unfold strings_Count.f
  rw [if_pos (by rfl)]
  rfl
theorem index10 (s : ByteArray) : strings_IndexByte.f s 10 = some (idx (bytesOf s) 10) := by
  unfold strings_IndexByte.f
  rw [if_pos (by decide)]

theorem last_l0 (s : ByteArray) (hs : s.size ≤ 140737488355328) (m : Nat) : m ≤ s.size → Ev (fun k => bytealg_LastIndexByteString.l0 k s 10 ((m : Int) - 1)) ((lst ((bytesOf s).take m) : Int) - 1) := by
  induction m with
  | zero =>
    intro _
    refine Ev.step (fun k => by rw [bytealg_LastIndexByteString.l0]) ?_
    simp only [if_neg (show ¬ (((0 : Nat) : Int) - 1 ≥ 0) by omega)]
    exact Ev.now _
  | succ m ih =>
    intro hm
    refine Ev.step (fun k => by rw [bytealg_LastIndexByteString.l0]) ?_
    have e : ((m + 1 : Nat) : Int) - 1 = (m : Int) := by omega
    have hlt : m < (bytesOf s).length := by rw [size_of]; omega
    have hb : bt s (m : Int) = (bytesOf s)[m] := by rw [bt_get]; simp [List.getD_eq_getElem?_getD, hlt]
    simp only [e, if_pos (show (m : Int) ≥ 0 by omega), if_pos (show (m : Int) < (s.size : Int) by omega)]
    rw [List.take_succ_eq_append_getElem hlt, lst_snoc, hb]
    by_cases h : (bytesOf s)[m] = 10
    · simp only [if_pos h, List.length_take, Nat.min_eq_left (Nat.le_of_lt hlt)]
      have : ((m + 1 : Nat) : Int) - 1 = (m : Int) := by omega
      rw [this]
      exact Ev.now _
    · simp only [if_neg h]
      rw [wrap_id (by omega) (by omega)]
      exact ih (by omega)

theorem last_ev (s : ByteArray) (hs : s.size ≤ 140737488355328) : Ev (fun k => strings_LastIndexByte.f k s 10) ((lst (bytesOf s) : Int) - 1) := by
  have h := last_l0 s hs s.size (Nat.le_refl _)
  rw [List.take_of_length_le (by rw [size_of]; omega)] at h
  refine Ev.congr (fun k => by rw [strings_LastIndexByte.f, bytealg_LastIndexByteString.f, wrap_id (by omega) (by omega)]) (Ev.bind h ?_)
  exact Ev.now _

/-- A place's line and column. -/
def lineOf (l : List Int) : Int := (nl l : Int) + 1
def colOf (l : List Int) : Int := (cnt (l.drop (lst l)) : Int) + 1

theorem of_ev (s : ByteArray) (hs : s.size ≤ 8796093022208) (i : Int) : Ev (fun k => place_Of.f k s i) (lineOf ((bytesOf s).take (clamp s.size i)), colOf ((bytesOf s).take (clamp s.size i))) := by
  have hc := clamp_le s.size i
  refine Ev.congr (fun k => by rw [place_Of.f, clamp_eq, Option.bind_some]) ?_
  generalize clamp s.size i = c at *
  have hsz : (s.extract 0 c).size = c := size_take s hc
  have hl := lst_le ((bytesOf s).take c)
  rw [List.length_take, size_of, Nat.min_eq_left hc] at hl
  simp only [if_pos (show (0 : Int) ≤ (c : Int) by omega), if_pos (show (c : Int) ≤ (s.size : Int) by omega), Int.toNat_natCast]
  refine Ev.bind (last_ev (s.extract 0 c) (by rw [hsz]; omega)) ?_
  rw [bytesOf_take]
  have hn : nl ((bytesOf s).take c) ≤ c := by
    have := cntB_le ((bytesOf s).take c) 10
    rw [List.length_take, size_of, Nat.min_eq_left hc] at this
    exact this
  have hw : wrap64 ((lst ((bytesOf s).take c) : Int) - 1 + 1) = (lst ((bytesOf s).take c) : Int) := by rw [wrap_id (by omega) (by omega)]; omega
  simp only [count10, Option.bind_some, hw, hsz, bytesOf_take, if_pos (show (0 : Int) ≤ (lst ((bytesOf s).take c) : Int) by omega), if_pos (show (lst ((bytesOf s).take c) : Int) ≤ (c : Int) by omega), Int.toNat_natCast]
  have hx : bytesOf ((s.extract 0 c).extract (lst ((bytesOf s).take c)) c) = ((bytesOf s).take c).drop (lst ((bytesOf s).take c)) := by
    rw [bytesOf_extract, bytesOf_take, List.take_take, Nat.min_self]
  have hxs : ((s.extract 0 c).extract (lst ((bytesOf s).take c)) c).size ≤ 140737488355328 := by rw [← size_of, hx, List.length_drop, List.length_take, size_of]; omega
  refine Ev.bind (count_ev _ hxs) ?_
  rw [hx]
  have hcn := cnt_le (((bytesOf s).take c).drop (lst ((bytesOf s).take c)))
  rw [List.length_drop, List.length_take, size_of] at hcn
  rw [wrap_id (by omega) (by omega), wrap_id (by omega) (by omega)]
  exact Ev.now _

theorem fault_ev (s : ByteArray) (hs : s.size ≤ 8796093022208) (i e : Int) : Ev (fun k => place_Fault.f k s i e) (e, (clamp s.size i : Int), lineOf ((bytesOf s).take (clamp s.size i)), colOf ((bytesOf s).take (clamp s.size i))) := by
  refine Ev.congr (fun k => by rw [place_Fault.f]) (Ev.bind (of_ev s hs i) ?_)
  rw [clamp_eq, Option.bind_some]
  exact Ev.now _

theorem ref_of_l0 (s : ByteArray) (hs : s.size ≤ 8796093022208) (c : Nat) (hc : c ≤ s.size) (n : Nat) : ∀ i : Nat, i ≤ c → c - i = n →
    Ev (fun k => dragomanref1_Of.l0 k s (c : Int) (lineOf ((bytesOf s).take i)) (lst ((bytesOf s).take i) : Int) (i : Int)) (lineOf ((bytesOf s).take c), colOf ((bytesOf s).take c)) := by
  induction n with
  | zero =>
    intro i hi hn
    obtain rfl : i = c := by omega
    have hl := lst_le ((bytesOf s).take i)
    rw [List.length_take, size_of, Nat.min_eq_left hc] at hl
    refine Ev.step (fun k => by rw [dragomanref1_Of.l0]) ?_
    simp only [if_neg (show ¬ (i : Int) < (i : Int) by omega), if_pos (show (0 : Int) ≤ (lst ((bytesOf s).take i) : Int) by omega), if_pos (show (lst ((bytesOf s).take i) : Int) ≤ (i : Int) by omega), if_pos (show (i : Int) ≤ (s.size : Int) by omega), Int.toNat_natCast]
    have hx : bytesOf (s.extract (lst ((bytesOf s).take i)) i) = ((bytesOf s).take i).drop (lst ((bytesOf s).take i)) := bytesOf_extract _ _ _
    have hxs : (s.extract (lst ((bytesOf s).take i)) i).size ≤ 8796093022208 := by rw [← size_of, hx, List.length_drop, List.length_take, size_of]; omega
    refine Ev.bind (starts_ev _ hxs) ?_
    rw [hx, ints_length, sts_len]
    exact Ev.now _
  | succ n ih =>
    intro i hi hn
    refine Ev.step (fun k => by rw [dragomanref1_Of.l0]) ?_
    have hlt : i < (bytesOf s).length := by rw [size_of]; omega
    have hb : bt s (i : Int) = (bytesOf s)[i] := by rw [bt_get]; simp [List.getD_eq_getElem?_getD, hlt]
    have := ih (i + 1) (by omega) (by omega)
    rw [List.take_succ_eq_append_getElem hlt] at this
    have hn2 : nl ((bytesOf s).take i) ≤ i := by
      have := cntB_le ((bytesOf s).take i) 10
      rw [List.length_take, size_of, Nat.min_eq_left (by omega)] at this
      exact this
    have hw : wrap64 ((i : Int) + 1) = ((i + 1 : Nat) : Int) := by rw [wrap_id (by omega) (by omega)]; omega
    simp only [if_pos (show (i : Int) < (c : Int) by omega), if_pos (show (0 : Int) ≤ (i : Int) by omega), if_pos (show (i : Int) < (s.size : Int) by omega), hb, hw]
    rw [lst_snoc] at this
    unfold lineOf at this ⊢
    rw [nl_append] at this
    by_cases h : (bytesOf s)[i] = 10
    · simp only [if_pos h]
      rw [wrap_id (by omega) (by omega)]
      have h1 : nl [(bytesOf s)[i]] = 1 := by simp [nl, cntB, h]
      simp only [if_pos h, h1, List.length_take, Nat.min_eq_left (Nat.le_of_lt hlt)] at this
      rw [show (nl ((bytesOf s).take i) : Int) + 1 + 1 = ((nl ((bytesOf s).take i) + 1 : Nat) : Int) + 1 by omega]
      exact this
    · simp only [if_neg h]
      have h1 : nl [(bytesOf s)[i]] = 0 := by simp [nl, cntB, h]
      simp only [if_neg h, h1, Nat.add_zero] at this
      exact this

theorem ref_of_ev (s : ByteArray) (hs : s.size ≤ 8796093022208) (i : Int) : Ev (fun k => dragomanref1_Of.f k s i) (lineOf ((bytesOf s).take (clamp s.size i)), colOf ((bytesOf s).take (clamp s.size i))) := by
  refine Ev.congr (fun k => by rw [dragomanref1_Of.f, ref_clamp_eq, Option.bind_some]) ?_
  exact ref_of_l0 s hs _ (clamp_le _ _) _ 0 (by omega) rfl

theorem ref_fault_ev (s : ByteArray) (hs : s.size ≤ 8796093022208) (i e : Int) : Ev (fun k => dragomanref1_Fault.f k s i e) (e, (clamp s.size i : Int), lineOf ((bytesOf s).take (clamp s.size i)), colOf ((bytesOf s).take (clamp s.size i))) := by
  refine Ev.congr (fun k => by rw [dragomanref1_Fault.f]) (Ev.bind (ref_of_ev s hs i) ?_)
  rw [ref_clamp_eq, Option.bind_some]
  exact Ev.now _

theorem lines_eq (s : ByteArray) (hs : s.size ≤ 140737488355328) : place_Lines.f s = some ((nl (bytesOf s) : Int) + 1) := by
  have := cntB_le (bytesOf s) 10
  rw [size_of] at this
  unfold place_Lines.f
  rw [count10, Option.bind_some, wrap_id (by unfold nl; omega) (by unfold nl; omega)]

def bgnR (i : Nat) : Option Nat → Int × Bool
  | none => (0, false)
  | some p => (((i + p : Nat) : Int), true)

theorem begin_l0 (s : ByteArray) (hs : s.size ≤ 140737488355328) (m : Nat) : ∀ i : Nat, i ≤ s.size → (m : Int) < 9223372036854775807 → Ev (fun k => place_Begin.l0 k s ((m : Int) + 1) (i : Int)) (bgnR i (bgn ((bytesOf s).drop i) m)) := by
  induction m with
  | zero =>
    intro i hi _
    refine Ev.step (fun k => by rw [place_Begin.l0]) ?_
    simp only [if_neg (show ¬ (((0 : Nat) : Int) + 1 > 1) by omega), bgn, bgnR]
    exact Ev.now _
  | succ m ih =>
    intro i hi hm
    refine Ev.step (fun k => by rw [place_Begin.l0]) ?_
    have hg := idx_ge ((bytesOf s).drop i) 10
    rw [List.length_drop, size_of] at hg
    simp only [if_pos (show ((m + 1 : Nat) : Int) + 1 > 1 by omega), if_pos (show (0 : Int) ≤ (i : Int) by omega), if_pos (show (i : Int) ≤ (s.size : Int) by omega), index10, Option.bind_some, Int.toNat_natCast, bytesOf_drop, bgn_idx]
    by_cases h : idx ((bytesOf s).drop i) 10 < 0
    · simp only [if_pos h]
      exact Ev.now _
    · simp only [if_neg h]
      obtain ⟨q, hq⟩ := Int.eq_ofNat_of_zero_le (show 0 ≤ idx ((bytesOf s).drop i) 10 + 1 by omega)
      rw [hq, wrap_id (n := (q : Int)) (by omega) (by omega), wrap_id (by omega) (by omega), wrap_id (by omega) (by omega), Int.toNat_natCast, List.drop_drop]
      have := ih (i + q) (by omega) (by omega)
      rw [show ((m + 1 : Nat) : Int) + 1 - 1 = (m : Int) + 1 by omega, show (i : Int) + (q : Int) = ((i + q : Nat) : Int) by omega]
      cases hc : bgn ((bytesOf s).drop (i + q)) m with
      | none => rw [hc] at this; exact this
      | some p =>
        rw [hc] at this
        simp only [Option.map_some, bgnR] at this ⊢
        rw [show i + (p + q) = i + q + p by omega]
        exact this

theorem begin_ev (s : ByteArray) (hs : s.size ≤ 140737488355328) (m : Nat) (hm : (m : Int) < 9223372036854775807) : Ev (fun k => place_Begin.f k s ((m : Int) + 1)) (bgnR 0 (bgn (bytesOf s) m)) := by
  refine Ev.congr (fun k => by rw [place_Begin.f, if_neg (by omega)]) ?_
  exact begin_l0 s hs m 0 (by omega) hm
theorem begin_low (s : ByteArray) {m : Int} (hm : m < 1) : Ev (fun k => place_Begin.f k s m) (0, false) :=
  Ev.congr (fun k => by rw [place_Begin.f, if_pos hm]) (Ev.now _)

end Go.Proofs.Ytagjfnjfhflahaa.La
