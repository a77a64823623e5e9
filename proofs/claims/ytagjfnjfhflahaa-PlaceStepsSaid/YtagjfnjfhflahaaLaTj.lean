/- Plain facts about texts of letters as lists of numbers: two texts joined, a text cut, letters' order; no condition beyond those that each theorem names. -/
import Derived.Test.YtagjfnjfhflahaaLaTk
namespace Go.Proofs.Ytagjfnjfhflahaa.La

theorem enc_inj {r q : Int} (hr : good r) (hq : good q) {m n : List Int} (h : enc r ++ m = enc q ++ n) : r = q ∧ m = n := by
  have h1 := tk_enc hr m
  rw [h, tk_enc hq n] at h1
  have hrq : q = r := (Prod.mk.inj h1).1
  subst hrq
  exact ⟨rfl, List.append_cancel_left h⟩

theorem enc_ne (r : Int) : enc r ≠ [] := fun h => by have := enc_len r; rw [h] at this; simp at this

/-- A letter's beginning is no letter. -/
theorem tk_cut {r : Int} (hr : good r) {n : Nat} (hn : n < (enc r).length) : tk ((enc r).take n) = (0, 0) := by
  rcases tk_inv ((enc r).take n) (fun x hx => enc_bytes hr x (List.mem_of_mem_take hx)) with h | ⟨hg, _, m, hm⟩
  · exact h
  · have h1 : enc r = enc (tk ((enc r).take n)).1 ++ (m ++ (enc r).drop n) := by
      rw [← List.append_assoc, ← hm, List.take_append_drop]
    have h2 := enc_inj hr hg (m := []) (by rw [List.append_nil]; exact h1)
    have h3 : (enc r).take n = enc r ++ m := by rw [hm, ← h2.1]
    have h4 := congrArg List.length h3
    rw [List.length_take, List.length_append] at h4
    omega

theorem stp_enc {r : Int} (hr : good r) (m : List Int) : stp (enc r ++ m) = (enc r).length := by
  have := enc_len r
  unfold stp
  rw [tk_enc hr]
  rw [if_neg (by simp only; omega)]
  simp

/-- A text of letters begins with one. -/
theorem good_text {l : List Int} (hl : ∀ x ∈ l, 0 ≤ x ∧ x < 256) (h : bad l = none) (hne : l ≠ []) : ∃ r m, good r ∧ l = enc r ++ m ∧ bad m = none := by
  have h0 : (tk l).2 ≠ 0 := fun h0 => by rw [bad_none hne h0] at h; cases h
  rcases tk_inv l hl with e | ⟨hg, _, m, hm⟩
  · rw [e] at h0; exact absurd rfl h0
  · refine ⟨_, m, hg, hm, ?_⟩
    rw [bad_step hne h0] at h
    have hs : stp l = (enc (tk l).1).length := by
      have := stp_enc hg m
      rwa [← hm] at this
    have hd : l.drop (stp l) = m := by
      rw [hs]
      have : l.drop (enc (tk l).1).length = (enc (tk l).1 ++ m).drop (enc (tk l).1).length := by rw [← hm]
      rw [this, List.drop_left]
    rw [hd] at h
    exact Option.map_eq_none_iff.1 h

theorem tk_letter_ne {r : Int} (hr : good r) (m : List Int) : (tk (enc r ++ m)).2 ≠ 0 := by
  have := enc_len r
  rw [tk_enc hr]
  simp only
  omega

theorem bad_enc {r : Int} (hr : good r) (m : List Int) : bad (enc r ++ m) = (bad m).map (· + (enc r).length) := by
  rw [bad_step (by simp [enc_ne]) (tk_letter_ne hr m), stp_enc hr, List.drop_left]
theorem cnt_enc {r : Int} (hr : good r) (m : List Int) : cnt (enc r ++ m) = cnt m + 1 := by
  rw [cnt_step (by simp [enc_ne]), stp_enc hr, List.drop_left]
theorem sts_enc {r : Int} (hr : good r) (m : List Int) : sts (enc r ++ m) = 0 :: (sts m).map (· + (enc r).length) := by
  rw [sts_step (by simp [enc_ne]), stp_enc hr, List.drop_left]
theorem atp_enc {r : Int} (hr : good r) (m : List Int) (n : Nat) : atp (enc r ++ m) (n + 1) = (atp m n).map (· + (enc r).length) := by
  rw [atp, if_neg (by simp [enc_ne]), stp_enc hr, List.drop_left]

/-- Induction over a text's letters. -/
theorem text_induction {P : List Int → Prop} (nil : P []) (cons : ∀ r m, good r → bad m = none → (∀ x ∈ m, 0 ≤ x ∧ x < 256) → P m → P (enc r ++ m)) (l : List Int) (hl : ∀ x ∈ l, 0 ≤ x ∧ x < 256) (h : bad l = none) : P l := by
  by_cases hne : l = []
  · subst hne; exact nil
  · obtain ⟨r, m, hr, rfl, hm⟩ := good_text hl h hne
    have hmb : ∀ x ∈ m, 0 ≤ x ∧ x < 256 := fun x hx => hl x (List.mem_append.2 (.inr hx))
    have : m.length < (enc r ++ m).length := by have := enc_len r; rw [List.length_append]; omega
    exact cons r m hr hm hmb (text_induction nil cons m hmb hm)
termination_by l.length

theorem bad_join {a b : List Int} (ha : ∀ x ∈ a, 0 ≤ x ∧ x < 256) (h : bad a = none) : bad (a ++ b) = (bad b).map (· + a.length) := by
  refine text_induction (P := fun a => bad (a ++ b) = (bad b).map (· + a.length)) ?_ ?_ a ha h
  · simp
  · intro r m hr _ _ ih
    rw [List.append_assoc, bad_enc hr, ih, Option.map_map]
    congr 1
    funext x
    simp [List.length_append]
    omega
theorem cnt_join {a b : List Int} (ha : ∀ x ∈ a, 0 ≤ x ∧ x < 256) (h : bad a = none) : cnt (a ++ b) = cnt a + cnt b := by
  refine text_induction (P := fun a => cnt (a ++ b) = cnt a + cnt b) ?_ ?_ a ha h
  · simp [cnt_nil]
  · intro r m hr _ _ ih
    rw [List.append_assoc, cnt_enc hr, ih, cnt_enc hr]
    omega
theorem atp_join {a b : List Int} (ha : ∀ x ∈ a, 0 ≤ x ∧ x < 256) (h : bad a = none) (n : Nat) : atp (a ++ b) (cnt a + n) = (atp b n).map (· + a.length) := by
  refine text_induction (P := fun a => atp (a ++ b) (cnt a + n) = (atp b n).map (· + a.length)) ?_ ?_ a ha h
  · simp [cnt_nil]
  · intro r m hr _ _ ih
    rw [List.append_assoc, cnt_enc hr, show cnt m + 1 + n = cnt m + n + 1 by omega, atp_enc hr, ih, Option.map_map]
    congr 1
    funext x
    simp [List.length_append]
    omega

/-- The order of lists of numbers. -/
def lessI : List Int → List Int → Bool
  | _, [] => false
  | [], _ :: _ => true
  | a :: x, b :: y => decide (a < b) || (decide (a = b) && lessI x y)

theorem less_enc {a b : Int} (ha : good a) (hb : good b) : lessI (enc a) (enc b) = decide (a < b) := by
  have ha' := good_iff.1 ha
  have hb' := good_iff.1 hb
  unfold enc
  by_cases a1 : a < 128 <;> by_cases b1 : b < 128
  · rw [if_pos a1, if_pos b1]; simp [lessI]
  · rw [if_pos a1, if_neg b1]
    have : a < b := by omega
    by_cases b2 : b < 2048
    · rw [if_pos b2, Bool.eq_iff_iff]; simp [lessI]; omega
    · rw [if_neg b2]
      by_cases b3 : b < 65536
      · rw [if_pos b3, Bool.eq_iff_iff]; simp [lessI]; omega
      · rw [if_neg b3, Bool.eq_iff_iff]; simp [lessI]; omega
  · rw [if_neg a1, if_pos b1]
    have : ¬ a < b := by omega
    by_cases a2 : a < 2048
    · rw [if_pos a2]; simp [lessI]; omega
    · rw [if_neg a2]
      by_cases a3 : a < 65536
      · rw [if_pos a3]; simp [lessI]; omega
      · rw [if_neg a3]; simp [lessI]; omega
  · rw [if_neg a1, if_neg b1]
    by_cases a2 : a < 2048 <;> by_cases b2 : b < 2048
    · rw [if_pos a2, if_pos b2, Bool.eq_iff_iff]; simp [lessI]; omega
    · rw [if_pos a2, if_neg b2]
      by_cases b3 : b < 65536
      · rw [if_pos b3, Bool.eq_iff_iff]; simp [lessI]; omega
      · rw [if_neg b3, Bool.eq_iff_iff]; simp [lessI]; omega
    · rw [if_neg a2, if_pos b2]
      by_cases a3 : a < 65536
      · rw [if_pos a3, Bool.eq_iff_iff]; simp [lessI]; omega
      · rw [if_neg a3, Bool.eq_iff_iff]; simp [lessI]; omega
    · rw [if_neg a2, if_neg b2]
      by_cases a3 : a < 65536 <;> by_cases b3 : b < 65536
      · rw [if_pos a3, if_pos b3, Bool.eq_iff_iff]; simp [lessI]; omega
      · rw [if_pos a3, if_neg b3, Bool.eq_iff_iff]; simp [lessI]; omega
      · rw [if_neg a3, if_pos b3, Bool.eq_iff_iff]; simp [lessI]; omega
      · rw [if_neg a3, if_neg b3, Bool.eq_iff_iff]; simp [lessI]; omega

/-- Neither of two unlike letters begins with the other. -/
theorem take_ne {a b : Int} (ha : good a) (hb : good b) (hab : a ≠ b) (n : Nat) (hn : n = (enc a).length ∨ n = (enc b).length) : (enc a).take n ≠ (enc b).take n := by
  intro h
  rcases hn with hn | hn
  · rw [hn, List.take_length] at h
    have : enc b = enc a ++ (enc b).drop (enc a).length := by
      have := (List.take_append_drop (enc a).length (enc b)).symm
      rwa [← h] at this
    exact hab (enc_inj hb ha (m := []) (by rw [List.append_nil]; exact this)).1.symm
  · rw [hn, List.take_length] at h
    have : enc a = enc b ++ (enc a).drop (enc b).length := by
      have := (List.take_append_drop (enc b).length (enc a)).symm
      rwa [h] at this
    exact hab (enc_inj ha hb (m := []) (by rw [List.append_nil]; exact this)).1

end Go.Proofs.Ytagjfnjfhflahaa.La
