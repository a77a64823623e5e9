/- PlaceSteps returns true for every text: the law's pure statement; no condition beyond the statement's own. -/
import Derived.Test.YtagjfnjfhflahaaPxdragomanlaw2PlaceSteps
import Derived.Test.YtagjfnjfhflahaaLaPlace
namespace Go.Proofs.Ytagjfnjfhflahaa.Pure
open Go.RowKit Go.Proofs.Ytagjfnjfhflahaa.P Go.Proofs.Ytagjfnjfhflahaa.La Go.Proofs.YtagjfnjfhflahaaW.PrintWords Go.Proofs.YtagjfnjfhflahaaW.PrintLast

theorem col_step {p : List Int} (hp : Bytes p) (h : bad p = none) {r : Int} (hr : good r) : colOf (p ++ enc r) = if r = 10 then 1 else colOf p + 1 := by
  have hn := enc_nl hr
  unfold colOf
  rw [lst_append, hn.2]
  by_cases h1 : r = 10
  · have h2 : (enc r).length = 1 := by subst h1; rfl
    rw [if_pos h1, if_pos h1, if_pos (by omega), List.drop_eq_nil_of_le (by rw [List.length_append]; omega), cnt_nil]
    rfl
  · rw [if_neg h1, if_neg h1, if_neg (by omega), List.drop_append, show lst p - p.length = 0 by have := lst_le p; omega, List.drop_zero, cnt_join (hp.drop _) (bad_line hp h)]
    have : cnt (enc r) = 1 := by
      have := cnt_enc hr []
      rw [List.append_nil, cnt_nil] at this
      exact this
    rw [this]
    omega

theorem first_byte {r : Int} (hr : good r) : (enc r).getD 0 0 = 10 ↔ r = 10 := by
  have h := good_iff.1 hr
  unfold enc
  (repeat' split) <;> simp <;> omega

theorem steps_l0 (s : ByteArray) (hs : s.size ≤ 200) (rest : List Int) (hr0 : Bytes rest) (hr1 : bad rest = none) : ∀ p : List Int, Bytes p → bad p = none → bytesOf s = p ++ rest →
    Ev (fun k => dragomanlaw2_PlaceSteps.l0 k s (ints (sts (bytesOf s))) (lineOf p) (colOf p) (cnt p : Int)) true := by
  refine text_induction (P := fun rest => ∀ p : List Int, Bytes p → bad p = none → bytesOf s = p ++ rest →
    Ev (fun k => dragomanlaw2_PlaceSteps.l0 k s (ints (sts (bytesOf s))) (lineOf p) (colOf p) (cnt p : Int)) true) ?_ ?_ rest hr0 hr1
  · intro p hpB hpb hsp
    rw [List.append_nil] at hsp
    have hlen : ((ints (sts (bytesOf s))).length : Int) = (cnt p : Int) + 1 := by rw [ints_length, sts_len, hsp]; omega
    have hget : (sts (bytesOf s))[cnt p]? = some p.length := by
      rw [← atp_sts, hsp]
      have := atp_join (b := []) hpB hpb 0
      simpa [atp] using this
    have hpl : p.length = s.size := by rw [← size_of, hsp]
    have hcp := cnt_le p
    have hnp : nl p ≤ p.length := cntB_le p 10
    refine Ev.step (fun k => by rw [dragomanlaw2_PlaceSteps.l0]) ?_
    simp only [hlen, if_pos (show (cnt p : Int) < (cnt p : Int) + 1 by omega), if_pos (show (0 : Int) ≤ (cnt p : Int) by omega), ints_get _ hget]
    have hof := of_ev s (by omega) (p.length : Int)
    have hcl : clamp s.size (p.length : Int) = p.length := by unfold clamp; rw [if_neg (by omega), if_neg (by omega)]; simp
    rw [hcl, hsp, List.take_length] at hof
    refine Ev.bind hof ?_
    simp only [if_true, bne_self_eq_false]
    refine Ev.step (fun k => by rw [dragomanlaw2_PlaceSteps.j2]) ?_
    have hw : wrap64 ((cnt p : Int) + 1) = (cnt p : Int) + 1 := wrap_id (by omega) (by omega)
    simp only [Bool.false_eq_true, if_false, hw, hlen, if_neg (show ¬ (cnt p : Int) + 1 < (cnt p : Int) + 1 by omega)]
    clear hw
    refine Ev.step (fun k => by rw [dragomanlaw2_PlaceSteps.l0]) ?_
    simp only [hlen, if_neg (show ¬ (cnt p : Int) + 1 < (cnt p : Int) + 1 by omega), lines_eq s (by omega), Option.bind_some]
    unfold lineOf
    simp only [hsp, beq_self_eq_true]
    exact Ev.now _
  · intro r m hr hm hmB ih p hpB hpb hsp
    have hsp2 : bytesOf s = p ++ enc r ++ m := by rw [hsp, List.append_assoc]
    have hcm : cnt (enc r ++ m) = cnt m + 1 := cnt_enc hr m
    have hbr : bad (enc r ++ m) = none := by rw [bad_enc hr, hm]; rfl
    have hlen : ((ints (sts (bytesOf s))).length : Int) = (cnt p : Int) + (cnt m : Int) + 2 := by rw [ints_length, sts_len, hsp, cnt_join hpB hpb, hcm]; omega
    have hget : (sts (bytesOf s))[cnt p]? = some p.length := by
      rw [← atp_sts, hsp]
      have := atp_join (b := enc r ++ m) hpB hpb 0
      simpa [atp] using this
    have hl := enc_len r
    have hpl : p.length + (enc r).length + m.length = s.size := by rw [← size_of, hsp2]; simp only [List.length_append]
    have hcp := cnt_le p
    have hcm2 := cnt_le m
    have hnp : nl p ≤ p.length := cntB_le p 10
    refine Ev.step (fun k => by rw [dragomanlaw2_PlaceSteps.l0]) ?_
    simp only [hlen, if_pos (show (cnt p : Int) < (cnt p : Int) + (cnt m : Int) + 2 by omega), if_pos (show (0 : Int) ≤ (cnt p : Int) by omega), ints_get _ hget]
    have hof := of_ev s (by omega) (p.length : Int)
    have hcl : clamp s.size (p.length : Int) = p.length := by unfold clamp; rw [if_neg (by omega), if_neg (by omega)]; simp
    rw [hcl, hsp, List.take_left] at hof
    refine Ev.bind hof ?_
    simp only [if_true, bne_self_eq_false]
    refine Ev.step (fun k => by rw [dragomanlaw2_PlaceSteps.j2]) ?_
    have f1 : (cnt p : Int) + 1 < (cnt p : Int) + (cnt m : Int) + 2 := by omega
    have f2 : (0 : Int) ≤ (cnt p : Int) := by omega
    have f3 : (cnt p : Int) < (cnt p : Int) + (cnt m : Int) + 2 := by omega
    have f4 : (0 : Int) ≤ (p.length : Int) := by omega
    have f5 : (p.length : Int) < (s.size : Int) := by omega
    have hbyte : bt s (p.length : Int) = (enc r).getD 0 0 := by
      rw [bt_get, hsp, Int.toNat_natCast]
      simp only [List.getD_eq_getElem?_getD]
      rw [List.getElem?_append_right (Nat.le_refl _), Nat.sub_self, List.getElem?_append_left (by omega)]
    have hw : wrap64 ((cnt p : Int) + 1) = (cnt p : Int) + 1 := wrap_id (by omega) (by omega)
    simp only [Bool.false_eq_true, if_false, hw, hlen, if_pos f1, if_pos f2, if_pos f3, ints_get _ hget, if_pos f4, if_pos f5, hbyte, first_byte hr]
    clear hw
    have hpB2 : Bytes (p ++ enc r) := hpB.append (enc_bytes hr)
    have hpb2 : bad (p ++ enc r) = none := by
      have := bad_enc hr []
      rw [List.append_nil, bad_nil] at this
      rw [bad_join hpB hpb, this]
      rfl
    have key := ih (p ++ enc r) hpB2 hpb2 hsp2
    have hc1 : cnt (p ++ enc r) = cnt p + 1 := by
      have := cnt_enc hr []
      rw [List.append_nil, cnt_nil] at this
      rw [cnt_join hpB hpb, this]
    rw [col_step hpB hpb hr, hc1] at key
    have hn := (enc_nl hr).1
    unfold lineOf at key ⊢
    rw [nl_append, hn] at key
    by_cases h10 : r = 10
    · simp only [if_pos h10] at key ⊢
      rw [wrap_id (by omega) (by omega)]
      rw [show (nl p : Int) + 1 + 1 = ((nl p + 1 : Nat) : Int) + 1 by omega, show (cnt p : Int) + 1 = ((cnt p + 1 : Nat) : Int) by omega]
      exact key
    · simp only [if_neg h10, Nat.add_zero] at key ⊢
      have hcd := cnt_le (p.drop (lst p))
      rw [List.length_drop] at hcd
      rw [wrap_id (n := colOf p + 1) (by unfold colOf; omega) (by unfold colOf; omega), show (cnt p : Int) + 1 = ((cnt p + 1 : Nat) : Int) by omega]
      exact key

theorem PlaceSteps : dragomanlaw2_PlaceSteps.Pure := by
  intro s _
  have j0t : Ev (fun k => dragomanlaw2_PlaceSteps.j0 k s true) true := by
    refine Ev.step (fun k => by rw [dragomanlaw2_PlaceSteps.j0]) ?_
    simp only [if_true]
    exact Ev.now _
  refine Ev.rounds (Ev.congr (fun k => by rw [dragomanlaw2_PlaceSteps.f, dragomanlaw2_awake.f, Option.bind_some, if_pos rfl]) ?_)
  by_cases h : (s.size : Int) > 200
  · simp only [if_pos h]; exact j0t
  · simp only [if_neg h]
    refine Ev.bind (ref_valid_ev s (by omega)) ?_
    cases hb : bad (bytesOf s) with
    | some p =>
      simp only [decide_eq_true (show rbadR 0 (some p) ≥ 0 by show ((0 + p : Nat) : Int) ≥ 0; omega)]
      exact j0t
    | none =>
      simp only [decide_eq_false (show ¬ rbadR 0 none ≥ 0 by decide)]
      refine Ev.step (fun k => by rw [dragomanlaw2_PlaceSteps.j0]) ?_
      simp only [Bool.false_eq_true, if_false]
      refine Ev.bind (starts_ev s (by omega)) ?_
      have := steps_l0 s (by omega) (bytesOf s) (bytes_of s) hb [] (fun x hx => by cases hx) bad_nil rfl
      rw [cnt_nil] at this
      have e1 : lineOf [] = 1 := rfl
      have e2 : colOf [] = 1 := by unfold colOf; rw [List.drop_nil, cnt_nil]; rfl
      rw [e1, e2] at this
      exact this

end Go.Proofs.Ytagjfnjfhflahaa.Pure
