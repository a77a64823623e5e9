/- Plain facts about letters and their bytes, as lists of numbers: what is written is read back, what is read was written; no condition beyond those that each theorem names. -/
namespace Go.Proofs.Ytagjfnjfhflahaa.La

def good (r : Int) : Prop := 0 ≤ r ∧ r ≤ 1114111 ∧ (r < 55296 ∨ 57343 < r)
theorem good_iff {r : Int} : good r ↔ 0 ≤ r ∧ r ≤ 1114111 ∧ (r < 55296 ∨ 57343 < r) := Iff.rfl
instance (r : Int) : Decidable (good r) := by unfold good; infer_instance

def enc (r : Int) : List Int :=
  if r < 128 then [r] else if r < 2048 then [192 + r / 64, 128 + r % 64]
  else if r < 65536 then [224 + r / 4096, 128 + r / 64 % 64, 128 + r % 64]
  else [240 + r / 262144, 128 + r / 4096 % 64, 128 + r / 64 % 64, 128 + r % 64]

def tk2 (a b : Int) : Int := (a - 192) * 64 + (b - 128)
def tk3 (a b c : Int) : Int := (a - 224) * 4096 + (b - 128) * 64 + (c - 128)
def tk4 (a b c d : Int) : Int := (a - 240) * 262144 + (b - 128) * 4096 + (c - 128) * 64 + (d - 128)

/-- The letter that a list begins with, and how many bytes it has; 0, 0: none. -/
def tk : List Int → Int × Int
  | [] => (0, 0)
  | a :: t =>
    if a < 128 then (a, 1)
    else if a < 192 then (0, 0)
    else if a < 224 then
      match t with
      | b :: _ => if 128 ≤ b ∧ b < 192 ∧ 128 ≤ tk2 a b then (tk2 a b, 2) else (0, 0)
      | [] => (0, 0)
    else if a < 240 then
      match t with
      | b :: c :: _ => if 128 ≤ b ∧ b < 192 ∧ 128 ≤ c ∧ c < 192 ∧ 2048 ≤ tk3 a b c ∧ (tk3 a b c < 55296 ∨ 57343 < tk3 a b c) then (tk3 a b c, 3) else (0, 0)
      | _ => (0, 0)
    else if a < 248 then
      match t with
      | b :: c :: d :: _ => if 128 ≤ b ∧ b < 192 ∧ 128 ≤ c ∧ c < 192 ∧ 128 ≤ d ∧ d < 192 ∧ 65536 ≤ tk4 a b c d ∧ tk4 a b c d ≤ 1114111 then (tk4 a b c d, 4) else (0, 0)
      | _ => (0, 0)
    else (0, 0)

theorem enc_len (r : Int) : 1 ≤ (enc r).length ∧ (enc r).length ≤ 4 := by
  unfold enc
  split
  · simp
  · split
    · simp
    · split <;> simp

theorem enc_bytes {r : Int} (h : good r) : ∀ x ∈ enc r, 0 ≤ x ∧ x < 256 := by
  unfold good at h
  intro x hx
  unfold enc at hx
  split at hx
  · simp at hx; omega
  · split at hx
    · simp at hx; omega
    · split at hx <;> (simp at hx; omega)

theorem tk_enc {r : Int} (h : good r) (m : List Int) : tk (enc r ++ m) = (r, ((enc r).length : Int)) := by
  unfold good at h
  unfold enc
  split
  · rename_i h1
    simp [tk, h1]
  · rename_i h1
    split
    · rename_i h2
      have e1 : ¬ (192 + r / 64 < 128) := by omega
      have e2 : ¬ (192 + r / 64 < 192) := by omega
      have e3 : 192 + r / 64 < 224 := by omega
      have e4 : tk2 (192 + r / 64) (128 + r % 64) = r := by unfold tk2; omega
      simp only [List.cons_append, List.nil_append, tk, if_neg e1, if_neg e2, if_pos e3, e4]
      rw [if_pos (by omega)]
      simp
    · rename_i h2
      split
      · rename_i h3
        have e1 : ¬ (224 + r / 4096 < 128) := by omega
        have e2 : ¬ (224 + r / 4096 < 192) := by omega
        have e3 : ¬ (224 + r / 4096 < 224) := by omega
        have e3' : 224 + r / 4096 < 240 := by omega
        have e4 : tk3 (224 + r / 4096) (128 + r / 64 % 64) (128 + r % 64) = r := by unfold tk3; omega
        simp only [List.cons_append, List.nil_append, tk, if_neg e1, if_neg e2, if_neg e3, if_pos e3', e4]
        rw [if_pos (by omega)]
        simp
      · rename_i h3
        have e1 : ¬ (240 + r / 262144 < 128) := by omega
        have e2 : ¬ (240 + r / 262144 < 192) := by omega
        have e3 : ¬ (240 + r / 262144 < 224) := by omega
        have e3' : ¬ (240 + r / 262144 < 240) := by omega
        have e3'' : 240 + r / 262144 < 248 := by omega
        have e4 : tk4 (240 + r / 262144) (128 + r / 4096 % 64) (128 + r / 64 % 64) (128 + r % 64) = r := by unfold tk4; omega
        simp only [List.cons_append, List.nil_append, tk, if_neg e1, if_neg e2, if_neg e3, if_neg e3', if_pos e3'', e4]
        rw [if_pos (by omega)]
        simp

/-- What is read was written. -/
theorem tk_inv (l : List Int) (hl : ∀ x ∈ l, 0 ≤ x ∧ x < 256) : tk l = (0, 0) ∨ (good (tk l).1 ∧ (tk l).2 = ((enc (tk l).1).length : Int) ∧ ∃ m, l = enc (tk l).1 ++ m) := by
  match l with
  | [] => exact .inl rfl
  | a :: t =>
    have ha := hl a List.mem_cons_self
    simp only [tk]
    split
    · rename_i h1
      refine .inr ⟨by unfold good; omega, ?_, t, ?_⟩ <;> simp [enc, h1]
    · rename_i h1
      split
      · exact .inl rfl
      · rename_i h2
        split
        · rename_i h3
          match t with
          | [] => exact .inl rfl
          | b :: t =>
            simp only
            split
            · rename_i h4
              have hr : ¬ (tk2 a b < 128) := by omega
              have hr' : tk2 a b < 2048 := by unfold tk2; omega
              refine .inr ⟨by unfold good; omega, ?_, t, ?_⟩
              · simp [enc, hr, hr']
              · simp only [enc, if_neg hr, if_pos hr']
                have e1 : 192 + tk2 a b / 64 = a := by unfold tk2; omega
                have e2 : 128 + tk2 a b % 64 = b := by unfold tk2; omega
                rw [e1, e2]
                rfl
            · exact .inl rfl
        · rename_i h3
          split
          · rename_i h4
            match t with
            | [] => exact .inl rfl
            | [_] => exact .inl rfl
            | b :: c :: t =>
              simp only
              split
              · rename_i h5
                have hr : ¬ (tk3 a b c < 128) := by omega
                have hr' : ¬ (tk3 a b c < 2048) := by omega
                have hr'' : tk3 a b c < 65536 := by unfold tk3; omega
                refine .inr ⟨by unfold good; omega, ?_, t, ?_⟩
                · simp [enc, hr, hr', hr'']
                · simp only [enc, if_neg hr, if_neg hr', if_pos hr'']
                  have e1 : 224 + tk3 a b c / 4096 = a := by unfold tk3; omega
                  have e2 : 128 + tk3 a b c / 64 % 64 = b := by unfold tk3; omega
                  have e3 : 128 + tk3 a b c % 64 = c := by unfold tk3; omega
                  rw [e1, e2, e3]
                  rfl
              · exact .inl rfl
          · rename_i h4
            split
            · rename_i h4'
              match t with
              | [] => exact .inl rfl
              | [_] => exact .inl rfl
              | [_, _] => exact .inl rfl
              | b :: c :: d :: t =>
                simp only
                split
                · rename_i h5
                  have hr : ¬ (tk4 a b c d < 128) := by omega
                  have hr' : ¬ (tk4 a b c d < 2048) := by omega
                  have hr'' : ¬ (tk4 a b c d < 65536) := by omega
                  refine .inr ⟨by unfold good; omega, ?_, t, ?_⟩
                  · simp [enc, hr, hr', hr'']
                  · simp only [enc, if_neg hr, if_neg hr', if_neg hr'']
                    have e1 : 240 + tk4 a b c d / 262144 = a := by unfold tk4; omega
                    have e2 : 128 + tk4 a b c d / 4096 % 64 = b := by unfold tk4; omega
                    have e3 : 128 + tk4 a b c d / 64 % 64 = c := by unfold tk4; omega
                    have e4 : 128 + tk4 a b c d % 64 = d := by unfold tk4; omega
                    rw [e1, e2, e3, e4]
                    rfl
                · exact .inl rfl
            · exact .inl rfl

/-- How far the reading goes on. -/
def stp (l : List Int) : Nat := if (tk l).2 = 0 then 1 else (tk l).2.toNat

theorem tk_bound (l : List Int) (hl : ∀ x ∈ l, 0 ≤ x ∧ x < 256) : 0 ≤ (tk l).2 ∧ (tk l).2 ≤ 4 ∧ (tk l).2 ≤ l.length ∧ 0 ≤ (tk l).1 ∧ (tk l).1 ≤ 1114111 := by
  rcases tk_inv l hl with h | ⟨hg, hn, m, hm⟩
  · rw [h]; simp
  · have := enc_len (tk l).1
    have h2 : l.length = (enc (tk l).1).length + m.length := by
      have := congrArg List.length hm
      rwa [List.length_append] at this
    unfold good at hg
    omega

theorem stp_pos (l : List Int) (hl : ∀ x ∈ l, 0 ≤ x ∧ x < 256) : 1 ≤ stp l ∧ stp l ≤ 4 := by
  have := tk_bound l hl
  unfold stp
  split <;> omega

theorem stp_pos' (l : List Int) : 1 ≤ stp l := by
  unfold stp
  split
  · omega
  · have : 0 ≤ (tk l).2 := by
      match l with
      | [] => simp [tk]
      | a :: t =>
        unfold tk
        (repeat' split) <;> simp
    omega

theorem stp_le {l : List Int} (hl : ∀ x ∈ l, 0 ≤ x ∧ x < 256) (h : l ≠ []) : stp l ≤ l.length := by
  have := tk_bound l hl
  have : 0 < l.length := List.length_pos_iff.2 h
  unfold stp
  split <;> omega

theorem drop_lt {l : List Int} (h : l ≠ []) : (l.drop (stp l)).length < l.length := by
  have := stp_pos' l
  have : 0 < l.length := List.length_pos_iff.2 h
  rw [List.length_drop]
  omega

/-- How many letters. -/
def cnt (l : List Int) : Nat := if _h : l = [] then 0 else cnt (l.drop (stp l)) + 1
termination_by l.length
decreasing_by exact drop_lt (by assumption)

/-- Where the first byte stands that begins none. -/
def bad (l : List Int) : Option Nat := if _h : l = [] then none else if (tk l).2 = 0 then some 0 else (bad (l.drop (stp l))).map (· + stp l)
termination_by l.length
decreasing_by exact drop_lt (by assumption)

/-- Where letters begin, and the end. -/
def sts (l : List Int) : List Nat := if _h : l = [] then [0] else 0 :: (sts (l.drop (stp l))).map (· + stp l)
termination_by l.length
decreasing_by exact drop_lt (by assumption)

/-- Where the n-th begins. -/
def atp : List Int → Nat → Option Nat
  | _, 0 => some 0
  | l, n + 1 => if l = [] then none else (atp (l.drop (stp l)) n).map (· + stp l)

theorem cnt_nil : cnt [] = 0 := by rw [cnt]; simp
theorem cnt_step {l : List Int} (h : l ≠ []) : cnt l = cnt (l.drop (stp l)) + 1 := by rw [cnt, dif_neg h]
theorem sts_nil : sts [] = [0] := by rw [sts]; simp
theorem sts_step {l : List Int} (h : l ≠ []) : sts l = 0 :: (sts (l.drop (stp l))).map (· + stp l) := by rw [sts, dif_neg h]
theorem bad_nil : bad [] = none := by rw [bad]; simp
theorem bad_none {l : List Int} (h : l ≠ []) (h0 : (tk l).2 = 0) : bad l = some 0 := by rw [bad, dif_neg h, if_pos h0]
theorem bad_step {l : List Int} (h : l ≠ []) (h0 : (tk l).2 ≠ 0) : bad l = (bad (l.drop (stp l))).map (· + stp l) := by rw [bad, dif_neg h, if_neg h0]

theorem sts_len (l : List Int) : (sts l).length = cnt l + 1 := by
  by_cases h : l = []
  · subst h; rw [sts_nil, cnt_nil]; rfl
  · rw [sts_step h, cnt_step h, List.length_cons, List.length_map, sts_len (l.drop (stp l))]
termination_by l.length
decreasing_by exact drop_lt h

theorem atp_sts (l : List Int) (n : Nat) : atp l n = (sts l)[n]? := by
  induction n generalizing l with
  | zero =>
    by_cases h : l = []
    · subst h; rw [sts_nil]; rfl
    · rw [sts_step h]; rfl
  | succ n ih =>
    by_cases h : l = []
    · subst h; rw [sts_nil]; rfl
    · rw [atp, if_neg h, ih, sts_step h]; simp

theorem cnt_le (l : List Int) : cnt l ≤ l.length := by
  by_cases h : l = []
  · subst h; rw [cnt_nil]; simp
  · have := cnt_le (l.drop (stp l))
    have := drop_lt h
    rw [cnt_step h]
    omega
termination_by l.length
decreasing_by exact drop_lt h

theorem sts_bound (l : List Int) (hl : ∀ x ∈ l, 0 ≤ x ∧ x < 256) : ∀ x ∈ sts l, x ≤ l.length := by
  by_cases h : l = []
  · subst h; rw [sts_nil]; simp
  · intro x hx
    rw [sts_step h] at hx
    rcases List.mem_cons.1 hx with rfl | hx
    · omega
    · obtain ⟨y, hy, rfl⟩ := List.mem_map.1 hx
      have := sts_bound (l.drop (stp l)) (fun z hz => hl z (List.mem_of_mem_drop hz)) y hy
      have := stp_le hl h
      rw [List.length_drop] at *
      omega
termination_by l.length
decreasing_by exact drop_lt h

theorem bad_bound (l : List Int) (hl : ∀ x ∈ l, 0 ≤ x ∧ x < 256) {p : Nat} (hp : bad l = some p) : p < l.length := by
  by_cases h : l = []
  · subst h; rw [bad_nil] at hp; cases hp
  · by_cases h0 : (tk l).2 = 0
    · rw [bad_none h h0] at hp
      obtain rfl := Option.some.inj hp
      exact List.length_pos_iff.2 h
    · rw [bad_step h h0] at hp
      obtain ⟨q, hq, rfl⟩ := Option.map_eq_some_iff.1 hp
      have := bad_bound (l.drop (stp l)) (fun z hz => hl z (List.mem_of_mem_drop hz)) hq
      have := stp_le hl h
      rw [List.length_drop] at *
      omega
termination_by l.length
decreasing_by exact drop_lt h

end Go.Proofs.Ytagjfnjfhflahaa.La
