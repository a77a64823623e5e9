/- What the functions of package utf answer, told by lists of numbers: Good, Take, Valid, Count, At, Put; on condition that a text has at most 2^47 bytes. -/
import Derived.Test.YtagjfnjfhflahaaLaBytes
import Derived.Test.YtagjfnjfhflahaaLaTk
import Derived.Laws.BitsLemmas
import Derived.Test.YtagjfnjfhflahaaPxutf
namespace Go.Proofs.Ytagjfnjfhflahaa.La
open Go.RowKit Go.Proofs.Ytagjfnjfhflahaa.P Go.Proofs.YtagjfnjfhflahaaW.PrintWords Go.Proofs.YtagjfnjfhflahaaW.PrintLast Go.Proofs.YtagjfnjfhflahaaW.PrintMore

theorem wraps_i64 (n : Int) (h₀ : 0 ≤ n) (h₁ : n < 2 ^ 62) : IntKind.i64.wrap n = n := by rw [IntKind.wrap_i64]; omega
theorem i64_or6 {x y : Int} (hx₀ : 0 ≤ x) (hx : x % 64 = 0) (hx₁ : x < 2 ^ 62) (h₀ : 0 ≤ y) (h₁ : y < 64) : Go.bits .or .i64 x y = x + y :=
  bits_join .i64 62 (by decide) wraps_i64 6 x y hx₀ hx hx₁ h₀ h₁ (by omega)
theorem i64_and63 {x : Int} (h₀ : 0 ≤ x) (h₁ : x < 2 ^ 62) : Go.bits .and .i64 x 63 = x % 64 := bits_mask .i64 62 (by decide) wraps_i64 6 (by decide) x h₀ h₁
theorem i64_or128 {y : Int} (h₀ : 0 ≤ y) (h₁ : y < 64) : Go.bits .or .i64 128 y = 128 + y := bits_join .i64 62 (by decide) wraps_i64 6 128 y (by decide) (by decide) (by decide) h₀ h₁ (by omega)
theorem i64_or192 {y : Int} (h₀ : 0 ≤ y) (h₁ : y < 32) : Go.bits .or .i64 192 y = 192 + y := bits_join .i64 62 (by decide) wraps_i64 5 192 y (by decide) (by decide) (by decide) h₀ h₁ (by omega)
theorem i64_or224 {y : Int} (h₀ : 0 ≤ y) (h₁ : y < 16) : Go.bits .or .i64 224 y = 224 + y := bits_join .i64 62 (by decide) wraps_i64 4 224 y (by decide) (by decide) (by decide) h₀ h₁ (by omega)
theorem i64_or240 {y : Int} (h₀ : 0 ≤ y) (h₁ : y < 8) : Go.bits .or .i64 240 y = 240 + y := bits_join .i64 62 (by decide) wraps_i64 3 240 y (by decide) (by decide) (by decide) h₀ h₁ (by omega)

theorem byte_cont : ∀ b : Fin 256, decide (Go.bits .and .u8 (b.val : Int) 192 = 128) = decide (128 ≤ b.val ∧ b.val < 192) := by decide +kernel

theorem cont_iff {b : Int} (h0 : 0 ≤ b) (h1 : b < 256) : Go.bits .and .u8 b 192 = 128 ↔ 128 ≤ b ∧ b < 192 := by
  obtain ⟨n, rfl⟩ := Int.eq_ofNat_of_zero_le h0
  have := decide_eq_decide.1 (byte_cont ⟨n, by omega⟩)
  simp only at this
  rw [this]
  omega

theorem byte_not : ∀ b : Fin 256, (192 ≤ b.val → b.val < 224 → Go.bits .andNot .u8 (b.val : Int) 192 = (b.val : Int) - 192) ∧ (224 ≤ b.val → b.val < 240 → Go.bits .andNot .u8 (b.val : Int) 224 = (b.val : Int) - 224) ∧ (240 ≤ b.val → b.val < 248 → Go.bits .andNot .u8 (b.val : Int) 240 = (b.val : Int) - 240) := by
  decide +kernel

theorem not192 {b : Int} (h0 : 192 ≤ b) (h1 : b < 224) : Go.bits .andNot .u8 b 192 = b - 192 := by
  obtain ⟨n, rfl⟩ := Int.eq_ofNat_of_zero_le (show 0 ≤ b by omega)
  exact (byte_not ⟨n, by omega⟩).1 (by simp only; omega) (by simp only; omega)
theorem not224 {b : Int} (h0 : 224 ≤ b) (h1 : b < 240) : Go.bits .andNot .u8 b 224 = b - 224 := by
  obtain ⟨n, rfl⟩ := Int.eq_ofNat_of_zero_le (show 0 ≤ b by omega)
  exact (byte_not ⟨n, by omega⟩).2.1 (by simp only; omega) (by simp only; omega)
theorem not240 {b : Int} (h0 : 240 ≤ b) (h1 : b < 248) : Go.bits .andNot .u8 b 240 = b - 240 := by
  obtain ⟨n, rfl⟩ := Int.eq_ofNat_of_zero_le (show 0 ≤ b by omega)
  exact (byte_not ⟨n, by omega⟩).2.2 (by simp only; omega) (by simp only; omega)

theorem good_eq (r : Int) : utf_Good.f r = some (decide (good r)) := by
  unfold utf_Good.f
  split
  · split
    · split
      · rw [decide_eq_true (good_iff.2 (by omega))]
      · exact congrArg some (decide_eq_decide.2 (by rw [good_iff]; omega))
    · rw [decide_eq_false (fun h => by rw [good_iff] at h; omega)]
  · rw [decide_eq_false (fun h => by rw [good_iff] at h; omega)]

def siz (r : Int) : Int := if r < 128 then 1 else if r < 2048 then 2 else if r < 65536 then 3 else 4
theorem size_eq (r : Int) : utf_size.f r = some (siz r) := by
  unfold utf_size.f siz
  (repeat' split) <;> rfl

theorem begins_eq {b : Int} (h0 : 0 ≤ b) (h1 : b < 256) : utf_begins.f b = some (if b < 128 then (1, b) else if b < 192 then (0, 0) else if b < 224 then (2, b - 192) else if b < 240 then (3, b - 224) else if b < 248 then (4, b - 240) else (0, 0)) := by
  unfold utf_begins.f
  split
  · rw [wrap_id (by omega) (by omega)]
  · split
    · rfl
    · split
      · rw [not192 (by omega) (by omega), wrap_id (by omega) (by omega)]
      · split
        · rw [not224 (by omega) (by omega), wrap_id (by omega) (by omega)]
        · split
          · rw [not240 (by omega) (by omega), wrap_id (by omega) (by omega)]
          · rfl

theorem siz1 {r : Int} : siz r = 1 ↔ r < 128 := by unfold siz; (repeat' split) <;> omega
theorem siz2 {r : Int} : siz r = 2 ↔ 128 ≤ r ∧ r < 2048 := by unfold siz; (repeat' split) <;> omega
theorem siz3 {r : Int} : siz r = 3 ↔ 2048 ≤ r ∧ r < 65536 := by unfold siz; (repeat' split) <;> omega
theorem siz4 {r : Int} : siz r = 4 ↔ 65536 ≤ r := by unfold siz; (repeat' split) <;> omega

def ends (r n : Int) : Int × Int := if good r ∧ siz r = n then (r, n) else (0, 0)
theorem l0_end (k : Nat) (s : ByteArray) {n r i : Int} (h : ¬ i < n) : utf_Take.l0 (k + 1) s n r i = some (ends r n) := by
  simp only [utf_Take.l0]
  rw [if_neg h, good_eq, Option.bind_some, size_eq, Option.bind_some]
  unfold ends
  by_cases hg : good r
  · rw [if_pos (decide_eq_true hg)]
    by_cases hs : siz r = n
    · rw [if_pos hs, if_pos ⟨hg, hs⟩]
    · rw [if_neg hs, if_neg (fun h => hs h.2)]
  · rw [if_neg (by simpa using hg), if_neg (fun h => hg h.1)]
theorem l0_bad (k : Nat) (s : ByteArray) {n r i : Int} (h : i < n) (h0 : 0 ≤ i) (hs : i < s.size) (hb : ¬ (128 ≤ bt s i ∧ bt s i < 192)) : utf_Take.l0 (k + 1) s n r i = some (0, 0) := by
  have hr := bt_range s i
  simp only [utf_Take.l0]
  rw [if_pos h, if_pos h0, if_pos hs, if_neg (fun he => hb ((cont_iff (by omega) (by omega)).1 he))]
theorem l0_more (k : Nat) (s : ByteArray) {n r i : Int} (h : i < n) (h0 : 0 ≤ i) (hs : i < s.size) (hb : 128 ≤ bt s i ∧ bt s i < 192) (r0 : 0 ≤ r) (r1 : r < 2097152) (i1 : i < 10) : utf_Take.l0 (k + 1) s n r i = utf_Take.l0 k s n (r * 64 + (bt s i - 128)) (i + 1) := by
  simp only [utf_Take.l0]
  rw [if_pos h, if_pos h0, if_pos hs, if_pos ((cont_iff (by omega) (by omega)).2 hb), u8_and63 _ (by omega) (by omega), wrap_id (n := r * 64) (by omega) (by omega), wrap_id (n := bt s i % 64) (by omega) (by omega), wrap_id (n := i + 1) (by omega) (by omega),
    i64_or6 (by omega) (by omega) (by omega) (by omega) (by omega), show bt s i % 64 = bt s i - 128 by omega]

theorem take_eq (k : Nat) (s : ByteArray) : utf_Take.f (k + 6) s = some (tk (bytesOf s)) := by
  have hB := bytes_of s
  have hS := size_of s
  generalize hl : bytesOf s = l at hB hS
  have hbt : ∀ i, bt s i = l.getD i.toNat 0 := fun i => by rw [bt_get, hl]
  unfold utf_Take.f
  match l with
  | [] => rw [if_pos ((toList_nil_iff s).2 hl)]; rfl
  | a :: t =>
    have ha := hB a List.mem_cons_self
    have h0 : bt s 0 = a := by rw [hbt]; rfl
    rw [if_neg (fun h => by rw [toList_nil_iff, hl] at h; cases h), if_pos (by rw [← hS]; simp), h0, begins_eq ha.1 ha.2, Option.bind_some]
    have hsz : (s.size : Int) = (t.length : Int) + 1 := by rw [← hS]; simp
    simp only [tk]
    by_cases c1 : a < 128
    · simp only [if_pos c1]
      rw [if_neg (by decide), decide_eq_false (by omega)]
      simp only [utf_Take.j0]
      rw [if_neg (by decide), l0_end _ _ (by decide)]
      unfold ends
      rw [if_pos ⟨good_iff.2 (by omega), siz1.2 c1⟩]
    · simp only [if_neg c1]
      by_cases c2 : a < 192
      · simp only [if_pos c2]
        rw [if_pos trivial]
        simp only [utf_Take.j0]
        rw [if_pos trivial]
      · simp only [if_neg c2]
        by_cases c3 : a < 224
        · simp only [if_pos c3]
          rw [if_neg (by decide)]
          simp only [utf_Take.j0]
          match t with
          | [] =>
            simp at hsz
            dsimp only
            rw [if_pos (decide_eq_true (by omega))]
          | b :: t =>
            simp at hsz
            dsimp only
            have hb : bt s 1 = b := by rw [hbt]; rfl
            rw [if_neg (by simp; omega)]
            have hr := hB b (by simp)
            by_cases k1 : 128 ≤ b ∧ b < 192
            · rw [l0_more _ _ (by decide) (by decide) (by omega) (by rw [hb]; exact k1) (by omega) (by omega) (by decide), l0_end _ _ (by decide), hb]
              have e : (a - 192) * 64 + (b - 128) = tk2 a b := rfl
              rw [e]
              unfold ends
              simp only [siz2, good_iff]
              have e1 : 0 ≤ tk2 a b ∧ tk2 a b < 2048 := by unfold tk2; omega
              by_cases k2 : 128 ≤ tk2 a b
              · rw [if_pos (by omega), if_pos (by omega)]
              · rw [if_neg (by omega), if_neg (by omega)]
            · rw [l0_bad _ _ (by decide) (by decide) (by omega) (by rw [hb]; exact k1), if_neg (by omega)]
        · simp only [if_neg c3]
          by_cases c4 : a < 240
          · simp only [if_pos c4]
            rw [if_neg (by decide)]
            simp only [utf_Take.j0]
            match t with
            | [] =>
              simp at hsz
              dsimp only
              rw [if_pos (decide_eq_true (by omega))]
            | [b] =>
              simp at hsz
              dsimp only
              rw [if_pos (decide_eq_true (by omega))]
            | b :: c :: t =>
              simp at hsz
              dsimp only
              have hb : bt s 1 = b := by rw [hbt]; rfl
              have hc : bt s 2 = c := by rw [hbt]; rfl
              rw [if_neg (by simp; omega)]
              have hr := hB b (by simp)
              have hr2 := hB c (by simp)
              by_cases k1 : 128 ≤ b ∧ b < 192
              · rw [l0_more _ _ (by decide) (by decide) (by omega) (by rw [hb]; exact k1) (by omega) (by omega) (by decide), hb]
                by_cases k2 : 128 ≤ c ∧ c < 192
                · rw [l0_more _ _ (by decide) (by decide) (by omega) (by rw [show (1 : Int) + 1 = 2 by decide, hc]; exact k2) (by omega) (by omega) (by decide), l0_end _ _ (by decide), show (1 : Int) + 1 = 2 by decide, hc]
                  have e : ((a - 224) * 64 + (b - 128)) * 64 + (c - 128) = tk3 a b c := by unfold tk3; omega
                  rw [e]
                  unfold ends
                  simp only [siz3, good_iff]
                  have e1 : 0 ≤ tk3 a b c ∧ tk3 a b c < 65536 := by unfold tk3; omega
                  by_cases k3 : 2048 ≤ tk3 a b c ∧ (tk3 a b c < 55296 ∨ 57343 < tk3 a b c)
                  · rw [if_pos (by omega), if_pos (by omega)]
                  · rw [if_neg (by omega), if_neg (by omega)]
                · rw [l0_bad _ _ (by decide) (by decide) (by omega) (by rw [show (1 : Int) + 1 = 2 by decide, hc]; exact k2), if_neg (by omega)]
              · rw [l0_bad _ _ (by decide) (by decide) (by omega) (by rw [hb]; exact k1), if_neg (by omega)]
          · simp only [if_neg c4]
            by_cases c5 : a < 248
            · simp only [if_pos c5]
              rw [if_neg (by decide)]
              simp only [utf_Take.j0]
              match t with
              | [] =>
                simp at hsz
                dsimp only
                rw [if_pos (decide_eq_true (by omega))]
              | [b] =>
                simp at hsz
                dsimp only
                rw [if_pos (decide_eq_true (by omega))]
              | [b, c] =>
                simp at hsz
                dsimp only
                rw [if_pos (decide_eq_true (by omega))]
              | b :: c :: d :: t =>
                simp at hsz
                dsimp only
                have hb : bt s 1 = b := by rw [hbt]; rfl
                have hc : bt s 2 = c := by rw [hbt]; rfl
                have hd : bt s 3 = d := by rw [hbt]; rfl
                rw [if_neg (by simp; omega)]
                have hr := hB b (by simp)
                have hr2 := hB c (by simp)
                have hr3 := hB d (by simp)
                by_cases k1 : 128 ≤ b ∧ b < 192
                · rw [l0_more _ _ (by decide) (by decide) (by omega) (by rw [hb]; exact k1) (by omega) (by omega) (by decide), hb]
                  by_cases k2 : 128 ≤ c ∧ c < 192
                  · rw [l0_more _ _ (by decide) (by decide) (by omega) (by rw [show (1 : Int) + 1 = 2 by decide, hc]; exact k2) (by omega) (by omega) (by decide), show (1 : Int) + 1 = 2 by decide, hc]
                    by_cases k3 : 128 ≤ d ∧ d < 192
                    · rw [l0_more _ _ (by decide) (by decide) (by omega) (by rw [show (2 : Int) + 1 = 3 by decide, hd]; exact k3) (by omega) (by omega) (by decide), l0_end _ _ (by decide), show (2 : Int) + 1 = 3 by decide, hd]
                      have e : (((a - 240) * 64 + (b - 128)) * 64 + (c - 128)) * 64 + (d - 128) = tk4 a b c d := by unfold tk4; omega
                      rw [e]
                      unfold ends
                      simp only [siz4, good_iff]
                      have e1 : 0 ≤ tk4 a b c d := by unfold tk4; omega
                      by_cases k3 : 65536 ≤ tk4 a b c d ∧ tk4 a b c d ≤ 1114111
                      · rw [if_pos (by omega), if_pos (by omega)]
                      · rw [if_neg (by omega), if_neg (by omega)]
                    · rw [l0_bad _ _ (by decide) (by decide) (by omega) (by rw [show (2 : Int) + 1 = 3 by decide, hd]; exact k3), if_neg (by omega)]
                  · rw [l0_bad _ _ (by decide) (by decide) (by omega) (by rw [show (1 : Int) + 1 = 2 by decide, hc]; exact k2), if_neg (by omega)]
                · rw [l0_bad _ _ (by decide) (by decide) (by omega) (by rw [hb]; exact k1), if_neg (by omega)]
            · simp only [if_neg c5]
              rw [if_pos trivial]
              simp only [utf_Take.j0]
              rw [if_pos trivial]

theorem take_ev (s : ByteArray) : Ev (fun k => utf_Take.f k s) (tk (bytesOf s)) := ⟨6, fun k hk => by
  obtain ⟨m, rfl⟩ : ∃ m, k = m + 6 := ⟨k - 6, by omega⟩
  exact take_eq m s⟩

end Go.Proofs.Ytagjfnjfhflahaa.La
