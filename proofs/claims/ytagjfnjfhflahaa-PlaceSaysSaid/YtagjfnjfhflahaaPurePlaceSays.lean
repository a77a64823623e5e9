/- PlaceSays returns true for every text, place, line and error: the law's pure statement; no condition beyond the statement's own. -/
import Derived.Test.YtagjfnjfhflahaaPxdragomanlaw2PlaceSays
import Derived.Test.YtagjfnjfhflahaaLaPlace
namespace Go.Proofs.Ytagjfnjfhflahaa.Pure
open Go.RowKit Go.Proofs.Ytagjfnjfhflahaa.P Go.Proofs.Ytagjfnjfhflahaa.La Go.Proofs.YtagjfnjfhflahaaW.PrintWords Go.Proofs.YtagjfnjfhflahaaW.PrintLast

/-- What the loop has learned of the line asked for, behind so many bytes. -/
def seen (p : List Int) (line : Int) : Int × Bool := if line < 1 then (0, false) else bgnR 0 (bgn p (line - 1).toNat)

theorem seen_begin (s : ByteArray) (hs : s.size ≤ 140737488355328) (line : Int) (hl : line ≤ 9223372036854775807) : Ev (fun k => place_Begin.f k s line) (seen (bytesOf s) line) := by
  unfold seen
  by_cases h : line < 1
  · rw [if_pos h]; exact begin_low s h
  · rw [if_neg h]
    have := begin_ev s hs (line - 1).toNat (by omega)
    rw [show ((line - 1).toNat : Int) + 1 = line by omega] at this
    exact this

theorem says_l0 (s : ByteArray) (hs : s.size ≤ 500) (line : Int) (hl : line ≤ 9223372036854775807) (n : Nat) : ∀ i : Nat, i ≤ s.size → s.size - i = n →
    Ev (fun k => dragomanlaw2_PlaceSays.l0 k s line ((nl ((bytesOf s).take i) : Int) + 1) (seen ((bytesOf s).take i) line).1 (seen ((bytesOf s).take i) line).2 (i : Int)) true := by
  induction n with
  | zero =>
    intro i hi hn
    obtain rfl : i = s.size := by omega
    refine Ev.step (fun k => by rw [dragomanlaw2_PlaceSays.l0]) ?_
    rw [List.take_of_length_le (by rw [size_of]; omega)]
    simp only [if_neg (show ¬ (s.size : Int) < (s.size : Int) by omega), lines_eq s (by omega), Option.bind_some]
    refine Ev.bind (seen_begin s (by omega) line hl) ?_
    simp only [beq_self_eq_true, if_true]
    exact Ev.now _
  | succ n ih =>
    intro i hi hn
    refine Ev.step (fun k => by rw [dragomanlaw2_PlaceSays.l0]) ?_
    have hlt : i < (bytesOf s).length := by rw [size_of]; omega
    have hb : bt s (i : Int) = (bytesOf s)[i] := by rw [bt_get]; simp [List.getD_eq_getElem?_getD, hlt]
    have := ih (i + 1) (by omega) (by omega)
    rw [List.take_succ_eq_append_getElem hlt] at this
    have hn2 : nl ((bytesOf s).take i) ≤ i := by
      have := cntB_le ((bytesOf s).take i) 10
      rw [List.length_take, size_of, Nat.min_eq_left (by omega)] at this
      exact this
    have hw : wrap64 ((i : Int) + 1) = ((i + 1 : Nat) : Int) := by rw [wrap_id (by omega) (by omega)]; omega
    simp only [if_pos (show (i : Int) < (s.size : Int) by omega), if_pos (show (0 : Int) ≤ (i : Int) by omega), hb, hw]
    clear hw
    unfold seen at this ⊢
    rw [nl_append, bgn_snoc] at this
    by_cases h : (bytesOf s)[i] = 10
    · simp only [if_pos h]
      have hw2 : wrap64 ((nl ((bytesOf s).take i) : Int) + 1 + 1) = ((nl ((bytesOf s).take i) + 1 : Nat) : Int) + 1 := by rw [wrap_id (by omega) (by omega)]; omega
      have h1 : nl [(bytesOf s)[i]] = 1 := by simp [nl, cntB, h]
      rw [h1, List.length_take, size_of, Nat.min_eq_left (by omega : i ≤ s.size)] at this
      rw [hw2]
      clear hw2
      by_cases hline : ((nl ((bytesOf s).take i) + 1 : Nat) : Int) + 1 = line
      · simp only [if_pos hline]
        have h5 : ¬ line < 1 := by omega
        have h6 : (line - 1).toNat = nl ((bytesOf s).take i) + 1 := by omega
        simp only [if_neg h5, if_pos (And.intro h h6)] at this
        simp only [bgnR, Nat.zero_add] at this
        exact this
      · simp only [if_neg hline]
        by_cases h0 : line < 1
        · simp only [if_pos h0] at this ⊢
          exact this
        · simp only [if_neg h0] at this ⊢
          have h6 : ¬ ((bytesOf s)[i] = 10 ∧ (line - 1).toNat = nl ((bytesOf s).take i) + 1) := fun hh => hline (by have := hh.2; omega)
          simp only [if_neg h6] at this
          exact this
    · simp only [if_neg h]
      have h1 : nl [(bytesOf s)[i]] = 0 := by simp [nl, cntB, h]
      rw [h1, Nat.add_zero] at this
      simp only [h, false_and, if_false] at this
      exact this

theorem PlaceSays : dragomanlaw2_PlaceSays.Pure := by
  intro s i line e _ _ hl _
  have hl' := wf64 hl
  refine Ev.rounds (Ev.congr (fun k => by rw [dragomanlaw2_PlaceSays.f, dragomanlaw2_awake.f, Option.bind_some, if_pos rfl]) ?_)
  by_cases h : (s.size : Int) > 500
  · simp only [if_pos h]
    exact Ev.now _
  · simp only [if_neg h]
    refine Ev.bind (of_ev s (by omega) i) (Ev.bind (ref_of_ev s (by omega) i) ?_)
    simp only [if_true]
    refine Ev.bind (fault_ev s (by omega) i e) (Ev.bind (ref_fault_ev s (by omega) i e) ?_)
    simp only [beq_self_eq_true, Bool.not_true, Bool.or_false]
    refine Ev.step (fun k => by rw [dragomanlaw2_PlaceSays.j0]) ?_
    simp only [Bool.false_eq_true, if_false]
    have := says_l0 s (by omega) line hl'.2 _ 0 (by omega) rfl
    have e1 : (seen ((bytesOf s).take 0) line).1 = 0 := by
      unfold seen
      split
      · rfl
      · cases hm : (line - 1).toNat <;> simp [bgn, bgnR]
    have e2 : (seen ((bytesOf s).take 0) line).2 = (line == 1) := by
      unfold seen
      split
      · rename_i h0
        simp
        omega
      · cases hm : (line - 1).toNat with
        | zero => simp [bgn, bgnR]; omega
        | succ m => simp [bgn, bgnR]; omega
    rw [e1, e2] at this
    exact this

end Go.Proofs.Ytagjfnjfhflahaa.Pure
