/- What the document's own answer for letters (dragomanref1: Good, Put, Take, Valid, Starts) answers, told by lists of numbers; on condition that a text has at most 2^43 bytes where places are collected. -/
import Derived.Test.YtagjfnjfhflahaaLaUtg
import Derived.Test.YtagjfnjfhflahaaPxdragomanref1
namespace Go.Proofs.Ytagjfnjfhflahaa.La
open Go.RowKit Go.Proofs.Ytagjfnjfhflahaa.P Go.Proofs.YtagjfnjfhflahaaW.PrintWords Go.Proofs.YtagjfnjfhflahaaW.PrintLast Go.Proofs.YtagjfnjfhflahaaW.PrintMore

theorem ref_good_eq (r : Int) : dragomanref1_Good.f r = some (decide (good r)) := good_eq r

def enc0 (r : Int) : List Int := if good r then enc r else []
theorem enc0_bytes (r : Int) : Bytes (enc0 r) := by
  unfold enc0
  split
  · rename_i h; exact enc_bytes h
  · intro x hx; cases hx

theorem ref_put_eq (r : Int) : dragomanref1_Put.f r = some (strOfNums (enc0 r)) := by
  unfold dragomanref1_Put.f enc0
  rw [ref_good_eq, Option.bind_some]
  by_cases hg : good r
  · have hg' := good_iff.1 hg
    have d1 : Int.tdiv r 64 = r / 64 := Int.tdiv_eq_ediv_of_nonneg (by omega)
    have d2 : Int.tdiv r 4096 = r / 4096 := Int.tdiv_eq_ediv_of_nonneg (by omega)
    have d3 : Int.tdiv r 262144 = r / 262144 := Int.tdiv_eq_ediv_of_nonneg (by omega)
    have m1 : Int.tmod r 64 = r % 64 := Int.tmod_eq_emod_of_nonneg (by omega)
    have m2 : Int.tmod (r / 64) 64 = r / 64 % 64 := Int.tmod_eq_emod_of_nonneg (by omega)
    have m3 : Int.tmod (r / 4096) 64 = r / 4096 % 64 := Int.tmod_eq_emod_of_nonneg (by omega)
    have w1 : wrap64 (r / 64) = r / 64 := wrap_id (by omega) (by omega)
    have w2 : wrap64 (r / 4096) = r / 4096 := wrap_id (by omega) (by omega)
    have w3 : wrap64 (r / 262144) = r / 262144 := wrap_id (by omega) (by omega)
    rw [if_pos (decide_eq_true hg), if_pos hg, d1, d2, d3, w1, w2, w3, m1, m2, m3]
    unfold enc
    split
    · rw [show r % 256 = r by omega]
    · split
      · rw [wrap_id (n := 192 + r / 64) (by omega) (by omega), wrap_id (n := 128 + r % 64) (by omega) (by omega), show (192 + r / 64) % 256 = 192 + r / 64 by omega, show (128 + r % 64) % 256 = 128 + r % 64 by omega]
      · split
        · rw [wrap_id (n := 224 + r / 4096) (by omega) (by omega), wrap_id (n := 128 + r / 64 % 64) (by omega) (by omega), wrap_id (n := 128 + r % 64) (by omega) (by omega), show (224 + r / 4096) % 256 = 224 + r / 4096 by omega, show (128 + r / 64 % 64) % 256 = 128 + r / 64 % 64 by omega, show (128 + r % 64) % 256 = 128 + r % 64 by omega]
        · rw [wrap_id (n := 240 + r / 262144) (by omega) (by omega), wrap_id (n := 128 + r / 4096 % 64) (by omega) (by omega), wrap_id (n := 128 + r / 64 % 64) (by omega) (by omega), wrap_id (n := 128 + r % 64) (by omega) (by omega), show (240 + r / 262144) % 256 = 240 + r / 262144 by omega, show (128 + r / 4096 % 64) % 256 = 128 + r / 4096 % 64 by omega, show (128 + r / 64 % 64) % 256 = 128 + r / 64 % 64 by omega, show (128 + r % 64) % 256 = 128 + r % 64 by omega]
  · rw [if_neg (by simpa using hg), if_neg hg]
    rfl

def rend (r : Int) (n : Nat) (l : List Int) : Int × Int := if enc0 r = l.take n then (r, (n : Int)) else (0, 0)
theorem rl0_end (k : Nat) (s : ByteArray) {r i : Int} {n : Nat} (h : ¬ i < (n : Int)) (hn : n ≤ s.size) : dragomanref1_Take.l0 (k + 1) s (n : Int) r i = some (rend r n (bytesOf s)) := by
  simp only [dragomanref1_Take.l0]
  rw [if_neg h, ref_put_eq, Option.bind_some, if_pos (by omega), if_pos (by omega)]
  unfold rend
  have : ((strOfNums (enc0 r)).toList = (s.extract 0 ((n : Int)).toNat).toList) ↔ enc0 r = (bytesOf s).take n := by
    rw [toList_eq_iff, strOfNums_bytes (enc0_bytes r), bytesOf_take, Int.toNat_natCast]
  simp only [this]
  split <;> rfl
theorem rl0_bad (k : Nat) (s : ByteArray) {n r i : Int} (h : i < n) (h0 : 0 ≤ i) (hs : i < s.size) (hb : ¬ (128 ≤ bt s i ∧ bt s i < 192)) : dragomanref1_Take.l0 (k + 1) s n r i = some (0, 0) := by
  simp only [dragomanref1_Take.l0]
  rw [if_pos h, if_pos h0, if_pos hs]
  by_cases c : bt s i < 128
  · rw [if_pos c]
  · rw [if_neg c, if_pos (by omega)]
theorem rl0_more (k : Nat) (s : ByteArray) {n r i : Int} (h : i < n) (h0 : 0 ≤ i) (hs : i < s.size) (hb : 128 ≤ bt s i ∧ bt s i < 192) (r0 : 0 ≤ r) (r1 : r < 2097152) (i1 : i < 10) : dragomanref1_Take.l0 (k + 1) s n r i = dragomanref1_Take.l0 k s n (r * 64 + (bt s i - 128)) (i + 1) := by
  simp only [dragomanref1_Take.l0]
  rw [if_pos h, if_pos h0, if_pos hs, if_neg (by omega), if_neg (by omega), wrap_id (n := 64 * r) (by omega) (by omega), wrap_id (n := bt s i) (by omega) (by omega), wrap_id (n := 64 * r + bt s i) (by omega) (by omega), wrap_id (n := 64 * r + bt s i - 128) (by omega) (by omega), wrap_id (n := i + 1) (by omega) (by omega), show 64 * r + bt s i - 128 = r * 64 + (bt s i - 128) by omega]

theorem enc0_good {r : Int} (h : good r) : enc0 r = enc r := if_pos h
theorem enc0_eq {r : Int} {l : List Int} (hl : l ≠ []) : enc0 r = l ↔ good r ∧ enc r = l := by
  unfold enc0
  split
  · rename_i h; exact ⟨fun e => ⟨h, e⟩, fun e => e.2⟩
  · rename_i h; exact ⟨fun e => absurd e.symm hl, fun e => absurd e.1 h⟩

theorem enc2 {r a b : Int} (h : r = tk2 a b) (ha : 192 ≤ a ∧ a < 224) (hb : 128 ≤ b ∧ b < 192) : enc r = [a, b] ↔ 128 ≤ r := by
  unfold tk2 at h
  unfold enc
  by_cases c : r < 128
  · rw [if_pos c]; simp; omega
  · rw [if_neg c, if_pos (by omega)]; simp; omega
theorem enc3 {r a b c : Int} (h : r = tk3 a b c) (ha : 224 ≤ a ∧ a < 240) (hb : 128 ≤ b ∧ b < 192) (hc : 128 ≤ c ∧ c < 192) : enc r = [a, b, c] ↔ 2048 ≤ r := by
  unfold tk3 at h
  unfold enc
  by_cases c1 : r < 128
  · rw [if_pos c1]; simp; omega
  · rw [if_neg c1]
    by_cases c2 : r < 2048
    · rw [if_pos c2]; simp; omega
    · rw [if_neg c2, if_pos (by omega)]; simp; omega
theorem enc4 {r a b c d : Int} (h : r = tk4 a b c d) (_ha : 240 ≤ a ∧ a < 248) (hb : 128 ≤ b ∧ b < 192) (hc : 128 ≤ c ∧ c < 192) (hd : 128 ≤ d ∧ d < 192) : enc r = [a, b, c, d] ↔ 65536 ≤ r := by
  unfold tk4 at h
  unfold enc
  by_cases c1 : r < 128
  · rw [if_pos c1]; simp; omega
  · rw [if_neg c1]
    by_cases c2 : r < 2048
    · rw [if_pos c2]; simp; omega
    · rw [if_neg c2]
      by_cases c3 : r < 65536
      · rw [if_pos c3]; simp; omega
      · rw [if_neg c3]; simp; omega

theorem ref_take_eq (k : Nat) (s : ByteArray) : dragomanref1_Take.f (k + 9) s = some (tk (bytesOf s)) := by
  have hB := bytes_of s
  have hS := size_of s
  generalize hl : bytesOf s = l at hB hS
  have hbt : ∀ i, bt s i = l.getD i.toNat 0 := fun i => by rw [bt_get, hl]
  unfold dragomanref1_Take.f
  match l with
  | [] => rw [if_pos ((toList_nil_iff s).2 hl)]; rfl
  | a :: t =>
    have ha := hB a List.mem_cons_self
    have h0 : bt s 0 = a := by rw [hbt]; rfl
    have hsz : (s.size : Int) = (t.length : Int) + 1 := by rw [← hS]; simp
    rw [if_neg (fun h => by rw [toList_nil_iff, hl] at h; cases h), if_pos (by omega), h0, wrap_id (by omega) (by omega)]
    simp only [tk]
    by_cases c5 : 240 ≤ a
    · rw [if_pos c5, if_neg (show ¬ a < 128 by omega), if_neg (show ¬ a < 192 by omega), if_neg (show ¬ a < 224 by omega), if_neg (show ¬ a < 240 by omega)]
      by_cases c6 : a < 248
      · rw [decide_eq_true c6, if_pos c6]
        simp only [dragomanref1_Take.j0]
        rw [if_pos trivial]
        simp only [dragomanref1_Take.j3]
        rw [wrap_id (by omega) (by omega)]
        match t with
        | [] =>
          simp at hsz
          rw [if_pos (by omega)]
        | [b] =>
          simp at hsz
          rw [if_pos (by omega)]
        | [b, c] =>
          simp at hsz
          rw [if_pos (by omega)]
        | b :: c :: d :: t =>
          simp at hsz
          dsimp only
          have hb : bt s 1 = b := by rw [hbt]; rfl
          have hc : bt s 2 = c := by rw [hbt]; rfl
          have hd : bt s 3 = d := by rw [hbt]; rfl
          rw [if_neg (by omega)]
          have hr := hB b (by simp)
          have hr2 := hB c (by simp)
          have hr3 := hB d (by simp)
          by_cases k1 : 128 ≤ b ∧ b < 192
          · rw [rl0_more _ _ (by decide) (by decide) (by omega) (by rw [hb]; exact k1) (by omega) (by omega) (by decide), hb]
            by_cases k2 : 128 ≤ c ∧ c < 192
            · rw [rl0_more _ _ (by decide) (by decide) (by omega) (by rw [show (1 : Int) + 1 = 2 by decide, hc]; exact k2) (by omega) (by omega) (by decide), show (1 : Int) + 1 = 2 by decide, hc]
              by_cases k3 : 128 ≤ d ∧ d < 192
              · rw [rl0_more _ _ (by decide) (by decide) (by omega) (by rw [show (2 : Int) + 1 = 3 by decide, hd]; exact k3) (by omega) (by omega) (by decide), show (2 : Int) + 1 = 3 by decide, hd]
                have e : (((a - 240) * 64 + (b - 128)) * 64 + (c - 128)) * 64 + (d - 128) = tk4 a b c d := by unfold tk4; omega
                have e1 : 0 ≤ tk4 a b c d := by unfold tk4; omega
                rw [e, show (4 : Int) = ((4 : Nat) : Int) by rfl, rl0_end _ _ (by decide) (by omega), hl]
                unfold rend
                simp only [List.take_succ_cons, List.take_zero, enc0_eq (List.cons_ne_nil _ _), enc4 rfl ⟨c5, c6⟩ k1 k2 k3, good_iff]
                by_cases k4 : 65536 ≤ tk4 a b c d ∧ tk4 a b c d ≤ 1114111
                · rw [if_pos (by omega), if_pos (by omega)]
                · rw [if_neg (by omega), if_neg (by omega)]
              · rw [rl0_bad _ _ (by decide) (by decide) (by omega) (by rw [show (2 : Int) + 1 = 3 by decide, hd]; exact k3), if_neg (by omega)]
            · rw [rl0_bad _ _ (by decide) (by decide) (by omega) (by rw [show (1 : Int) + 1 = 2 by decide, hc]; exact k2), if_neg (by omega)]
          · rw [rl0_bad _ _ (by decide) (by decide) (by omega) (by rw [hb]; exact k1), if_neg (by omega)]
      · rw [decide_eq_false c6, if_neg c6]
        simp only [dragomanref1_Take.j0]
        rw [if_neg (by decide), if_pos (by omega)]
        simp only [dragomanref1_Take.j1]
        rw [if_neg (by simp; omega), if_pos (by omega)]
        simp only [dragomanref1_Take.j2]
        rw [if_neg (by simp; omega), if_pos (by omega)]
    · rw [if_neg c5]
      simp only [dragomanref1_Take.j0]
      rw [if_neg (by decide)]
      by_cases c4 : 224 ≤ a
      · rw [if_pos c4, if_neg (show ¬ a < 128 by omega), if_neg (show ¬ a < 192 by omega), if_neg (show ¬ a < 224 by omega), if_pos (show a < 240 by omega)]
        simp only [dragomanref1_Take.j1]
        rw [if_pos (decide_eq_true (by omega)), wrap_id (by omega) (by omega)]
        simp only [dragomanref1_Take.j3]
        match t with
        | [] =>
          simp at hsz
          rw [if_pos (by omega)]
        | [b] =>
          simp at hsz
          rw [if_pos (by omega)]
        | b :: c :: t =>
          simp at hsz
          dsimp only
          have hb : bt s 1 = b := by rw [hbt]; rfl
          have hc : bt s 2 = c := by rw [hbt]; rfl
          rw [if_neg (by omega)]
          have hr := hB b (by simp)
          have hr2 := hB c (by simp)
          by_cases k1 : 128 ≤ b ∧ b < 192
          · rw [rl0_more _ _ (by decide) (by decide) (by omega) (by rw [hb]; exact k1) (by omega) (by omega) (by decide), hb]
            by_cases k2 : 128 ≤ c ∧ c < 192
            · rw [rl0_more _ _ (by decide) (by decide) (by omega) (by rw [show (1 : Int) + 1 = 2 by decide, hc]; exact k2) (by omega) (by omega) (by decide), show (1 : Int) + 1 = 2 by decide, hc]
              have e : ((a - 224) * 64 + (b - 128)) * 64 + (c - 128) = tk3 a b c := by unfold tk3; omega
              have e1 : 0 ≤ tk3 a b c ∧ tk3 a b c < 65536 := by unfold tk3; omega
              rw [e, show (3 : Int) = ((3 : Nat) : Int) by rfl, rl0_end _ _ (by decide) (by omega), hl]
              unfold rend
              simp only [List.take_succ_cons, List.take_zero, enc0_eq (List.cons_ne_nil _ _), enc3 rfl ⟨c4, by omega⟩ k1 k2, good_iff]
              by_cases k4 : 2048 ≤ tk3 a b c ∧ (tk3 a b c < 55296 ∨ 57343 < tk3 a b c)
              · rw [if_pos (by omega), if_pos (by omega)]
              · rw [if_neg (by omega), if_neg (by omega)]
            · rw [rl0_bad _ _ (by decide) (by decide) (by omega) (by rw [show (1 : Int) + 1 = 2 by decide, hc]; exact k2), if_neg (by omega)]
          · rw [rl0_bad _ _ (by decide) (by decide) (by omega) (by rw [hb]; exact k1), if_neg (by omega)]
      · rw [if_neg c4]
        simp only [dragomanref1_Take.j1]
        rw [if_neg (by decide)]
        by_cases c3 : 192 ≤ a
        · rw [if_pos c3, if_neg (show ¬ a < 128 by omega), if_neg (show ¬ a < 192 by omega), if_pos (show a < 224 by omega)]
          simp only [dragomanref1_Take.j2]
          rw [if_pos (decide_eq_true (by omega)), wrap_id (by omega) (by omega)]
          simp only [dragomanref1_Take.j3]
          match t with
          | [] =>
            simp at hsz
            rw [if_pos (by omega)]
          | b :: t =>
            simp at hsz
            dsimp only
            have hb : bt s 1 = b := by rw [hbt]; rfl
            rw [if_neg (by omega)]
            have hr := hB b (by simp)
            by_cases k1 : 128 ≤ b ∧ b < 192
            · rw [rl0_more _ _ (by decide) (by decide) (by omega) (by rw [hb]; exact k1) (by omega) (by omega) (by decide), hb]
              have e : (a - 192) * 64 + (b - 128) = tk2 a b := by unfold tk2; omega
              have e1 : 0 ≤ tk2 a b ∧ tk2 a b < 2048 := by unfold tk2; omega
              rw [e, show (2 : Int) = ((2 : Nat) : Int) by rfl, rl0_end _ _ (by decide) (by omega), hl]
              unfold rend
              simp only [List.take_succ_cons, List.take_zero, enc0_eq (List.cons_ne_nil _ _), enc2 rfl ⟨c3, by omega⟩ k1, good_iff]
              by_cases k4 : 128 ≤ tk2 a b
              · rw [if_pos (by omega), if_pos (by omega)]
              · rw [if_neg (by omega), if_neg (by omega)]
            · rw [rl0_bad _ _ (by decide) (by decide) (by omega) (by rw [hb]; exact k1), if_neg (by omega)]
        · rw [if_neg c3]
          simp only [dragomanref1_Take.j2]
          rw [if_neg (by decide)]
          by_cases c2 : 128 ≤ a
          · rw [if_pos c2, if_neg (show ¬ a < 128 by omega), if_pos (show a < 192 by omega)]
          · rw [if_neg c2, if_pos (show a < 128 by omega)]
            simp only [dragomanref1_Take.j3]
            rw [if_neg (by omega), show (1 : Int) = ((1 : Nat) : Int) by rfl, rl0_end _ _ (by decide) (by omega), hl]
            unfold rend
            rw [List.take_succ_cons, List.take_zero, if_pos ((enc0_eq (List.cons_ne_nil _ _)).2 ⟨good_iff.2 (by omega), by unfold enc; rw [if_pos (by omega)]⟩)]

theorem ref_take_ev (s : ByteArray) : Ev (fun k => dragomanref1_Take.f k s) (tk (bytesOf s)) := ⟨9, fun k hk => by
  obtain ⟨m, rfl⟩ : ∃ m, k = m + 9 := ⟨k - 9, by omega⟩
  exact ref_take_eq m s⟩

def rbadR (at_ : Nat) : Option Nat → Int
  | none => -1
  | some p => ((at_ + p : Nat) : Int)

theorem ref_valid_l0 (s : ByteArray) (hs : s.size ≤ 140737488355328) (n : Nat) : ∀ (i : Nat), i ≤ s.size → s.size - i = n → Ev (fun k => dragomanref1_Valid.l0 k s (i : Int)) (rbadR i (bad ((bytesOf s).drop i))) := by
  induction n using Nat.strongRecOn with
  | _ n ih =>
  intro i hi hn
  have hL : ((bytesOf s).drop i).length = s.size - i := by rw [List.length_drop, size_of]
  have hBd : Bytes ((bytesOf s).drop i) := (bytes_of s).drop i
  refine Ev.step (fun k => by rw [dragomanref1_Valid.l0]) ?_
  by_cases h : i < s.size
  · have h1 : (i : Int) < (s.size : Int) := by omega
    have h2 : (0 : Int) ≤ (i : Int) := by omega
    have h3 : (i : Int) ≤ (s.size : Int) := by omega
    have hne : (bytesOf s).drop i ≠ [] := fun e => by rw [e] at hL; simp at hL; omega
    simp only [if_pos h1, if_pos h2, if_pos h3, Int.toNat_natCast]
    refine Ev.bind (ref_take_ev _) ?_
    rw [bytesOf_drop]
    by_cases h0 : (tk ((bytesOf s).drop i)).2 = 0
    · simp only [if_pos h0, bad_none hne h0, rbadR]
      exact Ev.now _
    · simp only [if_neg h0]
      have hb := tk_bound _ hBd
      have hp := stp_pos _ hBd
      have hst := stp_le hBd hne
      rw [stp_int hBd h0, wrap_id (by omega) (by omega), bad_step hne h0, List.drop_drop]
      have e : (i : Int) + (stp ((bytesOf s).drop i) : Int) = ((i + stp ((bytesOf s).drop i) : Nat) : Int) := by omega
      rw [e]
      have := ih (s.size - (i + stp ((bytesOf s).drop i))) (by omega) (i + stp ((bytesOf s).drop i)) (by omega) rfl
      generalize stp ((bytesOf s).drop i) = q at *
      cases hc : bad ((bytesOf s).drop (i + q)) with
      | none => rw [hc] at this; exact this
      | some p =>
        rw [hc] at this
        simp only [Option.map_some, rbadR] at this ⊢
        rw [show i + (p + q) = i + q + p by omega]
        exact this
  · obtain rfl : i = s.size := by omega
    simp only [if_neg (show ¬ ((s.size : Int) < (s.size : Int)) by omega)]
    rw [List.drop_eq_nil_of_le (by rw [size_of]; omega), bad_nil]
    exact Ev.now _

theorem ref_valid_ev (s : ByteArray) (hs : s.size ≤ 140737488355328) : Ev (fun k => dragomanref1_Valid.f k s) (rbadR 0 (bad (bytesOf s))) :=
  ref_valid_l0 s hs _ 0 (by omega) rfl

def ints (l : List Nat) : List Int := l.map fun n : Nat => (n : Int)

theorem starts_l0 (s : ByteArray) (hs : s.size ≤ 8796093022208) (n : Nat) : ∀ (acc : List Int) (i : Nat), i ≤ s.size → s.size - i = n → acc.length ≤ i → Ev (fun k => dragomanref1_Starts.l0 k s acc (i : Int)) (acc ++ ints ((sts ((bytesOf s).drop i)).map (· + i))) := by
  induction n using Nat.strongRecOn with
  | _ n ih =>
  intro acc i hi hn hc
  have hL : ((bytesOf s).drop i).length = s.size - i := by rw [List.length_drop, size_of]
  have hBd : Bytes ((bytesOf s).drop i) := (bytes_of s).drop i
  refine Ev.step (fun k => by rw [dragomanref1_Starts.l0]) ?_
  by_cases h : i < s.size
  · have h1 : (i : Int) < (s.size : Int) := by omega
    have h2 : (0 : Int) ≤ (i : Int) := by omega
    have h3 : (i : Int) ≤ (s.size : Int) := by omega
    have hne : (bytesOf s).drop i ≠ [] := fun e => by rw [e] at hL; simp at hL; omega
    have h4 : acc.length < 17592186044416 := by omega
    simp only [if_pos h1, if_pos h2, if_pos h3, if_pos h4, Int.toNat_natCast, Option.bind_some]
    refine Ev.bind (ref_take_ev _) ?_
    rw [bytesOf_drop]
    have hb := tk_bound _ hBd
    have hp := stp_pos _ hBd
    have hst := stp_le hBd hne
    have key : Ev (fun k => dragomanref1_Starts.l0 k s (acc ++ [(i : Int)]) ((i + stp ((bytesOf s).drop i) : Nat) : Int)) (acc ++ ints ((sts ((bytesOf s).drop i)).map (· + i))) := by
      have := ih (s.size - (i + stp ((bytesOf s).drop i))) (by omega) (acc ++ [(i : Int)]) (i + stp ((bytesOf s).drop i)) (by omega) rfl (by simp; omega)
      rw [sts_step hne, List.drop_drop]
      rw [show acc ++ ints ((0 :: (sts ((bytesOf s).drop (i + stp ((bytesOf s).drop i)))).map (· + stp ((bytesOf s).drop i))).map (· + i)) = acc ++ [(i : Int)] ++ ints ((sts ((bytesOf s).drop (i + stp ((bytesOf s).drop i)))).map (· + (i + stp ((bytesOf s).drop i)))) by
        simp [ints, List.map_map]
        intro x _
        omega]
      exact this
    by_cases h0 : (tk ((bytesOf s).drop i)).2 = 0
    · simp only [if_pos h0]
      have : stp ((bytesOf s).drop i) = 1 := by unfold stp; rw [if_pos h0]
      rw [this] at key
      rw [wrap_id (by omega) (by omega)]
      exact key
    · simp only [if_neg h0]
      rw [stp_int hBd h0, wrap_id (by omega) (by omega)]
      rw [show (i : Int) + (stp ((bytesOf s).drop i) : Int) = ((i + stp ((bytesOf s).drop i) : Nat) : Int) by omega]
      exact key
  · obtain rfl : i = s.size := by omega
    have h4 : acc.length < 17592186044416 := by omega
    simp only [if_neg (show ¬ ((s.size : Int) < (s.size : Int)) by omega), if_pos h4]
    rw [List.drop_eq_nil_of_le (by rw [size_of]; omega), sts_nil]
    simp only [List.map_cons, List.map_nil, Nat.zero_add, ints]
    exact Ev.now _

theorem starts_ev (s : ByteArray) (hs : s.size ≤ 8796093022208) : Ev (fun k => dragomanref1_Starts.f k s) (ints (sts (bytesOf s))) := by
  have := starts_l0 s hs _ [] 0 (by omega) rfl (by simp)
  refine Ev.congr (fun k => by rw [dragomanref1_Starts.f]) (g := fun k => dragomanref1_Starts.f k s) (f := fun k => dragomanref1_Starts.l0 k s [] 0) ?_
  simpa using this

theorem ints_length (l : List Nat) : (ints l).length = l.length := by simp [ints]
theorem ints_get (l : List Nat) {i : Nat} {p : Nat} (h : l[i]? = some p) : rd (ints l) (i : Int) = (p : Int) := by
  simp [rd, ints, List.getD_eq_getElem?_getD, h]

end Go.Proofs.Ytagjfnjfhflahaa.La
