/- Plain facts about lines of a text, as lists of numbers: where the last line begins, where the n-th does; no condition beyond those that each theorem names. -/
import Derived.Test.YtagjfnjfhflahaaLaTj
import Derived.Test.YtagjfnjfhflahaaLaStr
namespace Go.Proofs.Ytagjfnjfhflahaa.La

/-- Where the last line begins. -/
def lst : List Int → Nat
  | [] => 0
  | b :: t => if 0 < lst t then lst t + 1 else if b = 10 then 1 else 0

/-- Where the line begins ahead of which so many lines end. -/
def bgn : List Int → Nat → Option Nat
  | _, 0 => some 0
  | [], _ + 1 => none
  | b :: t, m + 1 => if b = 10 then (bgn t m).map (· + 1) else (bgn t (m + 1)).map (· + 1)

def nl (l : List Int) : Nat := cntB l 10

theorem lst_le (l : List Int) : lst l ≤ l.length := by
  induction l with
  | nil => simp [lst]
  | cons b t ih => simp only [lst, List.length_cons]; (repeat' split) <;> omega

theorem lst_append (a b : List Int) : lst (a ++ b) = if 0 < lst b then a.length + lst b else lst a := by
  induction a with
  | nil => simp [lst]
  | cons x a ih =>
    simp only [List.cons_append, lst, ih, List.length_cons]
    by_cases h : 0 < lst b
    · simp only [if_pos h]
      rw [if_pos (by omega)]
      omega
    · simp only [if_neg h]

theorem lst_snoc (a : List Int) (x : Int) : lst (a ++ [x]) = if x = 10 then a.length + 1 else lst a := by
  rw [lst_append]
  by_cases h : x = 10
  · simp [lst, h]
  · simp [lst, h]

theorem nl_append (a b : List Int) : nl (a ++ b) = nl a + nl b := cntB_append a b 10

theorem lst_zero {l : List Int} (h : nl l = 0) : lst l = 0 := by
  induction l with
  | nil => rfl
  | cons b t ih =>
    unfold nl at h ih
    simp only [cntB] at h
    split at h
    · omega
    · rename_i hb
      simp only [lst, ih h, if_neg hb]
      simp

theorem bgn_last (a r : List Int) : bgn (a ++ r) (nl a) = some (lst a) := by
  induction a with
  | nil => simp [nl, cntB, bgn, lst]
  | cons b t ih =>
    unfold nl at ih ⊢
    simp only [cntB, List.cons_append]
    by_cases hb : b = 10
    · simp only [if_pos hb, bgn, ih, Option.map_some, lst]
      by_cases h0 : 0 < lst t
      · simp only [if_pos h0]
      · simp only [if_neg h0]
        rw [show lst t = 0 by omega]
    · simp only [if_neg hb]
      cases hn : cntB t 10 with
      | zero =>
        rw [bgn]
        simp only [lst, if_neg hb]
        rw [lst_zero (by unfold nl; exact hn)]
        simp
      | succ m =>
        rw [hn] at ih
        simp only [bgn, if_neg hb, ih, Option.map_some, lst]
        by_cases h0 : 0 < lst t
        · simp only [if_pos h0]
        · exfalso
          have h1 : lst t = 0 := by omega
          clear ih
          induction t with
          | nil => simp [cntB] at hn
          | cons c u ih2 =>
            simp only [lst] at h1
            split at h1
            · omega
            · split at h1
              · omega
              · rename_i h3 h4
                simp only [cntB, if_neg h4] at hn
                exact ih2 hn h3 (by omega)

theorem bgn_none (l : List Int) {m : Nat} (h : nl l < m) : bgn l m = none := by
  induction l generalizing m with
  | nil => cases m with
    | zero => omega
    | succ m => rfl
  | cons b t ih =>
    unfold nl at *
    cases m with
    | zero => omega
    | succ m =>
      simp only [cntB] at h
      by_cases hb : b = 10
      · simp only [if_pos hb] at h
        simp only [bgn, if_pos hb, ih (m := m) (by omega), Option.map_none]
      · simp only [if_neg hb] at h
        simp only [bgn, if_neg hb, ih (m := m + 1) h, Option.map_none]

theorem bgn_snoc (l : List Int) (x : Int) (m : Nat) : bgn (l ++ [x]) m = if x = 10 ∧ m = nl l + 1 then some (l.length + 1) else bgn l m := by
  induction l generalizing m with
  | nil =>
    cases m with
    | zero => simp [bgn]
    | succ m =>
      by_cases hx : x = 10
      · cases m with
        | zero => simp [bgn, hx, nl, cntB]
        | succ m => simp [bgn, hx, nl, cntB]
      · simp [bgn, hx]
  | cons b t ih =>
    cases m with
    | zero => simp [bgn]
    | succ m =>
      simp only [List.cons_append, bgn, ih, List.length_cons]
      unfold nl
      simp only [cntB]
      by_cases hb : b = 10
      · simp only [if_pos hb]
        by_cases hx : x = 10 ∧ m = cntB t 10 + 1
        · rw [if_pos hx, if_pos ⟨hx.1, by omega⟩]; rfl
        · rw [if_neg hx, if_neg (by omega)]
      · simp only [if_neg hb]
        by_cases hx : x = 10 ∧ m + 1 = cntB t 10 + 1
        · rw [if_pos hx, if_pos ⟨hx.1, by omega⟩]; rfl
        · rw [if_neg hx, if_neg (by omega)]

theorem bgn_idx (l : List Int) (m : Nat) : bgn l (m + 1) = if idx l 10 < 0 then none else (bgn (l.drop (idx l 10 + 1).toNat) m).map (· + (idx l 10 + 1).toNat) := by
  induction l with
  | nil => simp [bgn, idx]
  | cons b t ih =>
    have hg := idx_ge t 10
    by_cases hb : b = 10
    · simp only [bgn, if_pos hb, idx]
      simp
    · simp only [bgn, if_neg hb, idx, ih]
      by_cases h1 : idx t 10 = -1
      · simp [h1]
      · rw [if_neg (by omega), if_neg h1, if_neg (by omega), Option.map_map]
        have e : (idx t 10 + 1 + 1).toNat = (idx t 10 + 1).toNat + 1 := by omega
        rw [e, List.drop_succ_cons]
        congr 1

theorem bgn_le (l : List Int) {m p : Nat} (h : bgn l m = some p) : p ≤ l.length := by
  induction l generalizing m p with
  | nil => cases m with
    | zero => simp [bgn] at h; omega
    | succ m => simp [bgn] at h
  | cons b t ih =>
    cases m with
    | zero => simp [bgn] at h; omega
    | succ m =>
      simp only [bgn] at h
      split at h <;>
      · obtain ⟨q, hq, rfl⟩ := Option.map_eq_some_iff.1 h
        have := ih hq
        simp only [List.length_cons]
        omega

theorem no_nl {l : List Int} (h : ∀ x ∈ l, x ≠ 10) : nl l = 0 ∧ lst l = 0 := by
  induction l with
  | nil => exact ⟨rfl, rfl⟩
  | cons b t ih =>
    obtain ⟨h1, h2⟩ := ih (fun x hx => h x (List.mem_cons_of_mem _ hx))
    have hb := h b List.mem_cons_self
    unfold nl at *
    simp only [cntB, if_neg hb, h1, lst, h2]
    exact ⟨trivial, rfl⟩

theorem enc_nl {r : Int} (hr : good r) : nl (enc r) = (if r = 10 then 1 else 0) ∧ lst (enc r) = (if r = 10 then 1 else 0) := by
  have h := good_iff.1 hr
  unfold enc
  by_cases h1 : r < 128
  · rw [if_pos h1]
    by_cases h2 : r = 10
    · subst h2; simp [nl, cntB, lst]
    · simp [nl, cntB, lst, h2]
  · rw [if_neg h1, if_neg (show ¬ r = 10 by omega)]
    refine no_nl fun x hx => ?_
    (repeat' split at hx) <;> (simp at hx; omega)

/-- A line of a text of letters is of letters. -/
theorem bad_line {a : List Int} (ha : ∀ x ∈ a, 0 ≤ x ∧ x < 256) (h : bad a = none) : bad (a.drop (lst a)) = none := by
  refine text_induction (P := fun a => bad (a.drop (lst a)) = none) ?_ ?_ a ha h
  · simp [lst, bad_nil]
  · intro r m hr hm _ ih
    rw [lst_append]
    by_cases h0 : 0 < lst m
    · rw [if_pos h0, List.drop_append, List.drop_eq_nil_of_le (by omega), List.nil_append, show (enc r).length + lst m - (enc r).length = lst m by omega]
      exact ih
    · rw [if_neg h0, (enc_nl hr).2]
      by_cases h1 : r = 10
      · rw [if_pos h1]
        subst h1
        exact hm
      · rw [if_neg h1, List.drop_zero, bad_enc hr, hm]
        rfl

end Go.Proofs.Ytagjfnjfhflahaa.La
