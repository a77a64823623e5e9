/- UtfOrder returns true for any two numbers: the law's pure statement; no condition beyond the statement's own. -/
import Derived.Test.YtagjfnjfhflahaaPx14
import Derived.Test.YtagjfnjfhflahaaLaUtg
import Derived.Test.YtagjfnjfhflahaaLaTj
namespace Go.Proofs.Ytagjfnjfhflahaa.Pure
open Go.RowKit Go.Proofs.Ytagjfnjfhflahaa.P Go.Proofs.Ytagjfnjfhflahaa.La Go.Proofs.YtagjfnjfhflahaaW.PrintWords Go.Proofs.YtagjfnjfhflahaaW.PrintLast

theorem less_map (x y : List UInt8) : Op.bytesLess x y = lessI (x.map fun b => (b.toNat : Int)) (y.map fun b => (b.toNat : Int)) := by
  induction y generalizing x with
  | nil => cases x <;> rfl
  | cons b y ih =>
    cases x with
    | nil => rfl
    | cons a x =>
      simp only [Op.bytesLess, List.map_cons, lessI, ih]
      congr 1
      · rw [Bool.eq_iff_iff]; simp [UInt8.lt_iff_toNat_lt]
      · congr 1
        rw [Bool.eq_iff_iff]
        simp [← UInt8.toNat_inj]
        omega

theorem less_str (s t : ByteArray) : Op.bytesLess s.toList t.toList = lessI (bytesOf s) (bytesOf t) := by
  rw [toList_data', toList_data', less_map]
  rfl

theorem UtfOrder : dragomanlaw1_UtfOrder.Pure := by
  intro a b _ _
  have j0t : Ev (fun k => dragomanlaw1_UtfOrder.j0 k a b true) true := by
    refine Ev.step (fun k => by rw [dragomanlaw1_UtfOrder.j0]) ?_
    simp only [if_true]
    exact Ev.now _
  refine Ev.rounds (Ev.congr (fun k => by rw [dragomanlaw1_UtfOrder.f, dragomanlaw1_awake.f, Option.bind_some, if_pos rfl, good_eq, Option.bind_some]) ?_)
  by_cases ha : good a
  · simp only [decide_eq_true ha, if_true, good_eq, Option.bind_some]
    by_cases hb : good b
    · simp only [decide_eq_true hb, Bool.not_true]
      refine Ev.step (fun k => by rw [dragomanlaw1_UtfOrder.j0]) ?_
      have pa : utf_Put.f [] a = some (enc a) := by rw [put_eq _ _ (by simp), if_pos ha]; rfl
      have pb : utf_Put.f [] b = some (enc b) := by rw [put_eq _ _ (by simp), if_pos hb]; rfl
      have sa : bytesOf (strOfNums (enc a)) = enc a := strOfNums_bytes (enc_bytes ha)
      have sb : bytesOf (strOfNums (enc b)) = enc b := strOfNums_bytes (enc_bytes hb)
      have za : (strOfNums (enc a)).size = (enc a).length := size_strOfNums (enc_bytes ha)
      have zb : (strOfNums (enc b)).size = (enc b).length := size_strOfNums (enc_bytes hb)
      simp only [Bool.false_eq_true, if_false, pa, pb, Option.bind_some]
      by_cases hab : a = b
      · simp only [hab, beq_self_eq_true, if_true]
        exact Ev.now _
      · have hless : (decide (a < b) == Op.bytesLess (strOfNums (enc a)).toList (strOfNums (enc b)).toList) = true := by
          rw [less_str, sa, sb, less_enc ha hb]
          simp
        have hne : ∀ n : Nat, (n = (enc a).length ∨ n = (enc b).length) → (((strOfNums (enc a)).extract 0 n).toList != ((strOfNums (enc b)).extract 0 n).toList) = true := by
          intro n hn
          rw [bne_iff_ne, Ne, toList_eq_iff, bytesOf_take, bytesOf_take, sa, sb]
          exact take_ne ha hb hab n hn
        have h1 := hne (enc a).length (.inl rfl)
        have h2 := hne (enc b).length (.inr rfl)
        simp only [if_neg hab, hless, if_true, za, zb, Int.toNat_natCast, h1, h2]
        by_cases hlt : ((enc b).length : Int) < ((enc a).length : Int)
        · simp only [if_pos hlt]
          rw [if_pos (by omega), if_pos (by omega), if_pos (by omega)]
          exact Ev.now _
        · simp only [if_neg hlt]
          rw [if_pos (by omega), if_pos (by omega), if_pos (by omega)]
          exact Ev.now _
    · simp only [decide_eq_false hb, Bool.not_false]
      exact j0t
  · simp only [decide_eq_false ha, Bool.false_eq_true, if_false]
    exact j0t

end Go.Proofs.Ytagjfnjfhflahaa.Pure
