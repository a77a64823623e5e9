/- UtfWrites returns true for all bytes, every number and every text: the law's pure statement; no condition beyond the statement's own. -/
import Derived.Test.YtagjfnjfhflahaaPxdragomanlaw1UtfWrites
import Derived.Test.YtagjfnjfhflahaaPxdragomanref1Put
import Derived.Test.YtagjfnjfhflahaaLaRef
import Derived.Test.YtagjfnjfhflahaaLaTj
namespace Go.Proofs.Ytagjfnjfhflahaa.Pure
open Go.RowKit Go.Proofs.Ytagjfnjfhflahaa.P Go.Proofs.Ytagjfnjfhflahaa.La Go.Proofs.YtagjfnjfhflahaaW.PrintWords Go.Proofs.YtagjfnjfhflahaaW.PrintLast

theorem UtfWrites : dragomanlaw1_UtfWrites.Pure := by
  intro l r s hl1 _ hw _ hs
  have hB : Bytes l := fun x hx => wf8 (hw x hx)
  have j1t : Ev (fun k => dragomanlaw1_UtfWrites.j0 k l r s true) true := by
    refine Ev.step (fun k => by rw [dragomanlaw1_UtfWrites.j0]) ?_
    simp only [if_true]
    exact Ev.now _
  refine Ev.rounds (Ev.congr (fun k => by rw [dragomanlaw1_UtfWrites.f, dragomanlaw1_awake.f, Option.bind_some, if_pos rfl]) ?_)
  by_cases h : (l.length : Int) > 100
  · simp only [if_pos h]
    exact j1t
  · simp only [if_neg h]
    by_cases h2 : (s.size : Int) > 100
    · simp only [decide_eq_true h2]
      exact j1t
    · simp only [decide_eq_false h2]
      refine Ev.step (fun k => by rw [dragomanlaw1_UtfWrites.j0]) ?_
      have hlen : (([] : List Int)).length + l.length < 140737488355328 := by simp; omega
      have hput : utf_Put.f l r = some (l ++ enc0 r) := by
        rw [put_eq l r (by omega)]
        unfold enc0
        split <;> simp
      have he := enc0_bytes r
      have hel : (enc0 r).length ≤ 4 := by
        unfold enc0
        split
        · exact (enc_len r).2
        · simp
      have hsz : (strOfNums l).size + (strOfNums (enc0 r)).size ≤ 9223372036854775807 := by
        rw [size_strOfNums hB, size_strOfNums he]
        omega
      have heq : (strOfNums (l ++ enc0 r)).toList = (strOfNums l ++ strOfNums (enc0 r)).toList := by
        rw [toList_eq_iff, bytesOf_append, strOfNums_bytes hB, strOfNums_bytes he, strOfNums_bytes (hB.append he)]
      simp only [Bool.false_eq_true, if_false, Option.bind_some, if_pos hlen, List.nil_append, hput, ref_put_eq, if_pos hsz, if_pos heq, good_eq, ref_good_eq, bne_self_eq_false]
      refine Ev.step (fun k => by rw [dragomanlaw1_UtfWrites.j1]) ?_
      simp only [Bool.false_eq_true, if_false]
      by_cases hg : good r
      · have hne : ¬ (strOfNums (enc0 r)).toList = ([] : List UInt8) := by
          rw [toList_nil_iff, strOfNums_bytes he, enc0_good hg]
          exact enc_ne r
        have hsz2 : (strOfNums (enc0 r)).size + s.size ≤ 9223372036854775807 := by
          rw [size_strOfNums he]
          omega
        simp only [if_neg hne, if_pos hsz2]
        refine Ev.bind (take_ev _) ?_
        have hl := enc_len r
        have hsize : (strOfNums (enc0 r)).size = (enc r).length := by rw [size_strOfNums he, enc0_good hg]
        have hw1 : wrap64 (((enc r).length : Int) - 1) = ((enc r).length : Int) - 1 := wrap_id (by omega) (by omega)
        simp only [hsize, hw1, if_pos (show (0 : Int) ≤ ((enc r).length : Int) - 1 by omega), if_pos (show ((enc r).length : Int) - 1 ≤ ((enc r).length : Int) by omega)]
        refine Ev.bind (take_ev _) ?_
        rw [bytesOf_append, bytesOf_take, strOfNums_bytes he, enc0_good hg, tk_enc hg, tk_cut hg (by omega)]
        simp only [if_true, eq_self]
        exact Ev.now _
      · have hn : (strOfNums (enc0 r)).toList = ([] : List UInt8) := by
          rw [toList_nil_iff, strOfNums_bytes he]
          exact if_neg hg
        simp only [if_pos hn]
        exact Ev.now _

end Go.Proofs.Ytagjfnjfhflahaa.Pure
