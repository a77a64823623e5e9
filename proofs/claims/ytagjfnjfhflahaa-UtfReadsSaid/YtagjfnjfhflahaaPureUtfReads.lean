/- UtfReads returns true for every text and every number: the law's pure statement; no condition beyond the statement's own. -/
import Derived.Test.YtagjfnjfhflahaaPx11
import Derived.Test.YtagjfnjfhflahaaPx10
import Derived.Test.YtagjfnjfhflahaaLaRef
namespace Go.Proofs.Ytagjfnjfhflahaa.Pure
open Go.RowKit Go.Proofs.Ytagjfnjfhflahaa.P Go.Proofs.Ytagjfnjfhflahaa.La Go.Proofs.YtagjfnjfhflahaaW.PrintWords Go.Proofs.YtagjfnjfhflahaaW.PrintLast

theorem reads_j0 (s : ByteArray) (hs : s.size ≤ 400) (n : Int) (hn : -9223372036854775808 ≤ n ∧ n ≤ 9223372036854775807) (r m q p : Int) (ok : Bool) (hok : ok = decide (p < 0)) :
    Ev (fun k => dragomanlaw1_UtfReads.j0 k s n r m r m q ok p q) true := by
  have hcl := cnt_le (bytesOf s)
  rw [size_of] at hcl
  have hlen := sts_len (bytesOf s)
  have hb := sts_bound (bytesOf s) (bytes_of s)
  refine Ev.step (fun k => by rw [dragomanlaw1_UtfReads.j0]) ?_
  refine Ev.bind (starts_ev s (by omega)) ?_
  have hli : ((ints (sts (bytesOf s))).length : Int) = (cnt (bytesOf s) : Int) + 1 := by rw [ints_length, hlen]; omega
  have hw : wrap64 ((ints (sts (bytesOf s))).length - 1) = (cnt (bytesOf s) : Int) := by rw [hli, wrap_id (by omega) (by omega)]; omega
  have hbe : (ok == decide (p < 0)) = true := by rw [hok]; simp
  by_cases h0 : n ≥ 0
  · obtain ⟨m', rfl⟩ := Int.eq_ofNat_of_zero_le h0
    refine Ev.bind (at_ev s (by omega) (by omega)) ?_
    rw [atp_sts]
    by_cases h1 : (m' : Int) < ((ints (sts (bytesOf s))).length : Int)
    · simp only [if_pos h0, if_pos h1, eq_self, if_true, hbe]
      refine Ev.bind (count_ev s (by omega)) ?_
      have hlt : m' < (sts (bytesOf s)).length := by rw [hlen]; omega
      have hget : (sts (bytesOf s))[m']? = some ((sts (bytesOf s))[m']) := List.getElem?_eq_getElem hlt
      rw [hget, ints_get _ hget, hw]
      simp only [atR, Nat.zero_add, eq_self, if_true, decide_eq_true h1]
      exact Ev.now _
    · simp only [if_pos h0, if_neg h1, eq_self, if_true, hbe]
      refine Ev.bind (count_ev s (by omega)) ?_
      have hge : (sts (bytesOf s)).length ≤ m' := by rw [hlen]; omega
      rw [List.getElem?_eq_none hge, hw]
      simp only [atR, eq_self, if_true, decide_eq_false h1]
      exact Ev.now _
  · refine Ev.bind (at_neg s (by omega)) ?_
    simp only [if_neg h0, eq_self, if_true, hbe]
    refine Ev.bind (count_ev s (by omega)) ?_
    simp only [hw, eq_self, if_true]
    exact Ev.now _

theorem UtfReads : dragomanlaw1_UtfReads.Pure := by
  intro s n _ hn
  have hn' := wf64 hn
  refine Ev.rounds (Ev.congr (fun k => by rw [dragomanlaw1_UtfReads.f, dragomanlaw1_awake.f, Option.bind_some, if_pos rfl]) ?_)
  by_cases h : (s.size : Int) > 400
  · simp only [if_pos h]
    exact Ev.now _
  · simp only [if_neg h]
    refine Ev.bind (take_ev s) (Ev.bind (ref_take_ev s) (Ev.bind (valid_ev s (by omega)) (Ev.bind (ref_valid_ev s (by omega)) ?_)))
    cases hb : bad (bytesOf s) with
    | none =>
      simp only [if_pos (show rbadR 0 none < 0 by decide)]
      exact reads_j0 s (by omega) n hn' _ _ _ _ _ rfl
    | some p =>
      have hp : ¬ rbadR 0 (some p) < 0 := by
        show ¬ ((0 + p : Nat) : Int) < 0
        omega
      simp only [if_neg hp]
      exact reads_j0 s (by omega) n hn' _ _ _ _ _ (decide_eq_false hp).symm

end Go.Proofs.Ytagjfnjfhflahaa.Pure
