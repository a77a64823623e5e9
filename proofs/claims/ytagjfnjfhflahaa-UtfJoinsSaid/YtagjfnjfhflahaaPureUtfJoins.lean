/- UtfJoins returns true for any two texts and every number: the law's pure statement; no condition beyond the statement's own. -/
import Derived.Test.YtagjfnjfhflahaaPx13
import Derived.Test.YtagjfnjfhflahaaLaUtg
import Derived.Test.YtagjfnjfhflahaaLaTj
namespace Go.Proofs.Ytagjfnjfhflahaa.Pure
open Go.RowKit Go.Proofs.Ytagjfnjfhflahaa.P Go.Proofs.Ytagjfnjfhflahaa.La Go.Proofs.YtagjfnjfhflahaaW.PrintWords Go.Proofs.YtagjfnjfhflahaaW.PrintLast

theorem joins_j1 (a b : ByteArray) (n : Int) : Ev (fun k => dragomanlaw1_UtfJoins.j1 k a b n true) true := by
  refine Ev.step (fun k => by rw [dragomanlaw1_UtfJoins.j1]) ?_
  simp only [if_true]
  exact Ev.now _

theorem at_any (s : ByteArray) (hs : s.size ≤ 140737488355328) (n : Int) (hn : n ≤ 9223372036854775807) : Ev (fun k => utf_At.f k s n) (if n < 0 then (0, false) else atR 0 (atp (bytesOf s) n.toNat)) := by
  by_cases h : n < 0
  · rw [if_pos h]; exact at_neg s h
  · rw [if_neg h]
    obtain ⟨m, rfl⟩ := Int.eq_ofNat_of_zero_le (show 0 ≤ n by omega)
    exact at_ev s hs (by omega)

theorem atp_none (l : List Int) {n : Nat} (h : cnt l < n) : atp l n = none := by
  rw [atp_sts, List.getElem?_eq_none]
  rw [sts_len]
  omega

theorem UtfJoins : dragomanlaw1_UtfJoins.Pure := by
  intro a b n _ _ hn
  have hn' := wf64 hn
  have j0t : Ev (fun k => dragomanlaw1_UtfJoins.j0 k a b n true) true := by
    refine Ev.step (fun k => by rw [dragomanlaw1_UtfJoins.j0]) ?_
    simp only [if_true]
    exact Ev.now _
  refine Ev.rounds (Ev.congr (fun k => by rw [dragomanlaw1_UtfJoins.f, dragomanlaw1_awake.f, Option.bind_some, if_pos rfl]) ?_)
  by_cases h : (a.size : Int) > 200
  · simp only [if_pos h]
    exact j0t
  · simp only [if_neg h]
    by_cases h2 : (b.size : Int) > 200
    · simp only [decide_eq_true h2]
      exact j0t
    · simp only [decide_eq_false h2]
      refine Ev.step (fun k => by rw [dragomanlaw1_UtfJoins.j0]) ?_
      simp only [Bool.false_eq_true, if_false]
      refine Ev.bind (valid_ev a (by omega)) (Ev.bind (valid_ev b (by omega)) ?_)
      cases ha : bad (bytesOf a) with
      | some p => simp only [badR, Bool.false_eq_true, if_false]; exact joins_j1 a b n
      | none =>
        cases hb : bad (bytesOf b) with
        | some p => simp only [badR, if_true, Bool.not_false]; exact joins_j1 a b n
        | none =>
          simp only [badR, if_true, Bool.not_true]
          refine Ev.step (fun k => by rw [dragomanlaw1_UtfJoins.j1]) ?_
          have hsz : a.size + b.size ≤ 9223372036854775807 := by omega
          have hab : (a ++ b).size ≤ 140737488355328 := by rw [size_append']; omega
          have hca : cnt (bytesOf a) ≤ a.size := by have := cnt_le (bytesOf a); rwa [size_of] at this
          have hcb : cnt (bytesOf b) ≤ b.size := by have := cnt_le (bytesOf b); rwa [size_of] at this
          have hcab : cnt (bytesOf (a ++ b)) = cnt (bytesOf a) + cnt (bytesOf b) := by rw [bytesOf_append, cnt_join (bytes_of a) ha]
          have hbab : bad (bytesOf (a ++ b)) = none := by rw [bytesOf_append, bad_join (bytes_of a) ha, hb]; rfl
          simp only [Bool.false_eq_true, if_false, if_pos hsz]
          have hw0 : wrap64 ((cnt (bytesOf a) : Int) + n) ≤ 9223372036854775807 := by unfold wrap64; omega
          refine Ev.bind (valid_ev (a ++ b) hab) (Ev.bind (count_ev a (by omega)) (Ev.bind (at_any b (by omega) n hn'.2) (Ev.bind (at_any (a ++ b) hab _ hw0) ?_)))
          rw [hbab]
          have hw : wrap64 ((cnt (bytesOf a) : Int) + (cnt (bytesOf b) : Int)) = ((cnt (bytesOf (a ++ b)) : Nat) : Int) := by rw [hcab, wrap_id (by omega) (by omega)]; omega
          by_cases h0 : n < 0
          · simp only [if_pos h0, badR, if_true]
            refine Ev.bind (count_ev (a ++ b) hab) (Ev.bind (count_ev b (by omega)) ?_)
            simp only [hw, if_true, Bool.not_false]
            exact Ev.now _
          · simp only [if_neg h0, badR, if_true]
            refine Ev.bind (count_ev (a ++ b) hab) (Ev.bind (count_ev b (by omega)) ?_)
            simp only [hw, if_true]
            obtain ⟨m, rfl⟩ := Int.eq_ofNat_of_zero_le (show 0 ≤ n by omega)
            by_cases hm : cnt (bytesOf b) < m
            · have e1 : atp (bytesOf b) m = none := atp_none _ hm
              have e2 : (if wrap64 ((cnt (bytesOf a) : Int) + (m : Int)) < 0 then ((0 : Int), false) else atR 0 (atp (bytesOf (a ++ b)) (wrap64 ((cnt (bytesOf a) : Int) + (m : Int))).toNat)) = (0, false) := by
                split
                · rfl
                · rename_i h3
                  rw [atp_none]
                  · rfl
                  · have hw3 : wrap64 ((cnt (bytesOf a) : Int) + (m : Int)) = (cnt (bytesOf a) : Int) + (m : Int) ∨ wrap64 ((cnt (bytesOf a) : Int) + (m : Int)) < 0 := by
                      unfold wrap64
                      omega
                    rw [hcab]
                    omega
              rw [e2]
              simp only [Int.toNat_natCast, e1, atR, beq_self_eq_true, Bool.false_eq_true, if_true, if_false]
              exact Ev.now _
            · have hw2 : wrap64 ((cnt (bytesOf a) : Int) + (m : Int)) = ((cnt (bytesOf a) + m : Nat) : Int) := by rw [wrap_id (by omega) (by omega)]; omega
              rw [hw2, if_neg (show ¬ ((cnt (bytesOf a) + m : Nat) : Int) < 0 by omega)]
              simp only [Int.toNat_natCast]
              rw [bytesOf_append, atp_join (bytes_of a) ha]
              have hlt : m < (sts (bytesOf b)).length := by rw [sts_len]; omega
              have hget : atp (bytesOf b) m = some ((sts (bytesOf b))[m]) := by rw [atp_sts]; exact List.getElem?_eq_getElem hlt
              have hle := sts_bound (bytesOf b) (bytes_of b) _ (List.getElem_mem hlt)
              rw [size_of] at hle
              rw [hget]
              generalize (sts (bytesOf b))[m] = q at *
              simp only [Option.map_some, atR, beq_self_eq_true, if_true, size_of]
              rw [wrap_id (by omega) (by omega), show (((0 + (q + a.size) : Nat) : Int) == ((0 + q : Nat) : Int) + (a.size : Int)) = true by simp]
              exact Ev.now _

end Go.Proofs.Ytagjfnjfhflahaa.Pure
