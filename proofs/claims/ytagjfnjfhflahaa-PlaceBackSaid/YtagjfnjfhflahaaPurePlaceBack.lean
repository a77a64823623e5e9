/- PlaceBack returns true for every text and place: the law's pure statement; no condition beyond the statement's own. -/
import Derived.Test.YtagjfnjfhflahaaPxdragomanlaw2PlaceBack
import Derived.Test.YtagjfnjfhflahaaLaPlace
namespace Go.Proofs.Ytagjfnjfhflahaa.Pure
open Go.RowKit Go.Proofs.Ytagjfnjfhflahaa.P Go.Proofs.Ytagjfnjfhflahaa.La Go.Proofs.YtagjfnjfhflahaaW.PrintWords Go.Proofs.YtagjfnjfhflahaaW.PrintLast

theorem PlaceBack : dragomanlaw2_PlaceBack.Pure := by
  intro s n _ _
  have j0t : Ev (fun k => dragomanlaw2_PlaceBack.j0 k s n true) true := by
    refine Ev.step (fun k => by rw [dragomanlaw2_PlaceBack.j0]) ?_
    simp only [if_true]
    exact Ev.now _
  refine Ev.rounds (Ev.congr (fun k => by rw [dragomanlaw2_PlaceBack.f, dragomanlaw2_awake.f, Option.bind_some, if_pos rfl]) ?_)
  by_cases h : (s.size : Int) > 300
  · simp only [if_pos h]; exact j0t
  · simp only [if_neg h]
    by_cases h1 : n < 0
    · simp only [if_pos h1]; exact j0t
    · simp only [if_neg h1]
      by_cases h2 : n > (s.size : Int)
      · simp only [if_pos h2]; exact j0t
      · simp only [if_neg h2]
        refine Ev.bind (ref_valid_ev s (by omega)) ?_
        cases hb : bad (bytesOf s) with
        | some p =>
          simp only [if_pos (show rbadR 0 (some p) ≥ 0 by show ((0 + p : Nat) : Int) ≥ 0; omega)]
          exact j0t
        | none =>
          simp only [if_neg (show ¬ rbadR 0 none ≥ 0 by decide), if_pos (show 0 ≤ n by omega), if_pos (show n ≤ (s.size : Int) by omega)]
          obtain ⟨i, rfl⟩ := Int.eq_ofNat_of_zero_le (show 0 ≤ n by omega)
          have hi : i ≤ s.size := by omega
          simp only [Int.toNat_natCast]
          refine Ev.bind (ref_valid_ev _ (by rw [size_take s hi]; omega)) ?_
          rw [bytesOf_take]
          cases ha : bad ((bytesOf s).take i) with
          | some p =>
            simp only [decide_eq_true (show rbadR 0 (some p) ≥ 0 by show ((0 + p : Nat) : Int) ≥ 0; omega)]
            exact j0t
          | none =>
            simp only [decide_eq_false (show ¬ rbadR 0 none ≥ 0 by decide)]
            refine Ev.step (fun k => by rw [dragomanlaw2_PlaceBack.j0]) ?_
            simp only [Bool.false_eq_true, if_false]
            have hcl : clamp s.size (i : Int) = i := by unfold clamp; rw [if_neg (by omega), if_neg (by omega)]; simp
            have hof := of_ev s (by omega) (i : Int)
            rw [hcl] at hof
            refine Ev.bind hof ?_
            have hsplit : bytesOf s = (bytesOf s).take i ++ (bytesOf s).drop i := (List.take_append_drop i _).symm
            have hB : Bytes ((bytesOf s).take i) := (bytes_of s).take i
            generalize hp : (bytesOf s).take i = p at *
            generalize hq : (bytesOf s).drop i = q at *
            have hpl : p.length = i := by rw [← hp, List.length_take, size_of]; omega
            have hnl : nl p ≤ i := by have := cntB_le p 10; unfold nl; omega
            have hll := lst_le p
            unfold lineOf colOf
            refine Ev.bind (begin_ev s (by omega) (nl p) (by omega)) ?_
            rw [hsplit, bgn_last]
            simp only [bgnR, Nat.zero_add, if_true, if_neg (show ¬ ((lst p : Nat) : Int) > (i : Int) by omega), if_pos (show (0 : Int) ≤ (lst p : Int) by omega), if_pos (show (lst p : Int) ≤ (s.size : Int) by omega), Int.toNat_natCast]
            refine Ev.bind (starts_ev _ (by rw [size_drop]; omega)) ?_
            have hd : bytesOf (s.extract (lst p) s.size) = p.drop (lst p) ++ q := by
              rw [bytesOf_drop, hsplit, List.drop_append, show lst p - p.length = 0 by omega, List.drop_zero]
            have hbl := bad_line hB ha
            have hc := cnt_le (p.drop (lst p))
            rw [List.length_drop] at hc
            have hw : wrap64 ((cnt (p.drop (lst p)) : Int) + 1 - 1) = (cnt (p.drop (lst p)) : Int) := by rw [wrap_id (by omega) (by omega)]; omega
            have hget : (sts (p.drop (lst p) ++ q))[cnt (p.drop (lst p))]? = some (p.drop (lst p)).length := by
              rw [← atp_sts, show cnt (p.drop (lst p)) = cnt (p.drop (lst p)) + 0 by omega, atp_join (fun x hx => hB x (List.mem_of_mem_drop hx)) hbl]
              simp [atp]
            have hlt : cnt (p.drop (lst p)) < (sts (p.drop (lst p) ++ q)).length := (List.getElem?_eq_some_iff.1 hget).1
            rw [hd]
            simp only [hw, ints_length]
            simp only [if_pos (show (cnt (p.drop (lst p)) : Int) < ((sts (p.drop (lst p) ++ q)).length : Int) by omega), if_pos (show (0 : Int) ≤ (cnt (p.drop (lst p)) : Int) by omega)]
            rw [ints_get _ hget, List.length_drop, wrap_id (by omega) (by omega), show (((p.length - lst p : Nat) : Int) + (lst p : Int) == (i : Int)) = true by rw [beq_iff_eq]; omega]
            exact Ev.now _

end Go.Proofs.Ytagjfnjfhflahaa.Pure
