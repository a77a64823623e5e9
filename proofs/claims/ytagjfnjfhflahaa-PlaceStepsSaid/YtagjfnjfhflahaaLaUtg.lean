/- What utf's Valid, Count, At, Put answer, told by lists of numbers; on condition that a text has at most 2^47 bytes. -/
import Derived.Test.YtagjfnjfhflahaaLaUtf
namespace Go.Proofs.Ytagjfnjfhflahaa.La
open Go.RowKit Go.Proofs.Ytagjfnjfhflahaa.P Go.Proofs.YtagjfnjfhflahaaW.PrintWords Go.Proofs.YtagjfnjfhflahaaW.PrintLast Go.Proofs.YtagjfnjfhflahaaW.PrintMore

def badR (size at_ : Nat) : Option Nat → Int × Bool
  | none => ((size : Int), true)
  | some p => (((at_ + p : Nat) : Int), false)

theorem stp_int {l : List Int} (hl : Bytes l) (h : (tk l).2 ≠ 0) : (tk l).2 = (stp l : Int) := by
  have := tk_bound l hl
  unfold stp
  rw [if_neg h]
  omega

theorem valid_l0 (s : ByteArray) (hs : s.size ≤ 140737488355328) (n : Nat) : ∀ (i : Nat), i ≤ s.size → s.size - i = n → Ev (fun k => utf_Valid.l0 k s (i : Int)) (badR s.size i (bad ((bytesOf s).drop i))) := by
  induction n using Nat.strongRecOn with
  | _ n ih =>
  intro i hi hn
  have hL : ((bytesOf s).drop i).length = s.size - i := by rw [List.length_drop, size_of]
  have hBd : Bytes ((bytesOf s).drop i) := (bytes_of s).drop i
  refine Ev.step (fun k => by rw [utf_Valid.l0]) ?_
  by_cases h : i < s.size
  · have h1 : (i : Int) < (s.size : Int) := by omega
    have h2 : (0 : Int) ≤ (i : Int) := by omega
    have h3 : (i : Int) ≤ (s.size : Int) := by omega
    have hne : (bytesOf s).drop i ≠ [] := fun e => by rw [e] at hL; simp at hL; omega
    simp only [if_pos h1, if_pos h2, if_pos h3, Int.toNat_natCast]
    refine Ev.bind (take_ev _) ?_
    rw [bytesOf_drop]
    by_cases h0 : (tk ((bytesOf s).drop i)).2 = 0
    · simp only [if_pos h0, bad_none hne h0, badR]
      exact Ev.now _
    · simp only [if_neg h0]
      have hb := tk_bound _ hBd
      have hp := stp_pos _ hBd
      have hst := stp_le hBd hne
      rw [stp_int hBd h0, wrap_id (by omega) (by omega), bad_step hne h0, List.drop_drop]
      have e : (i : Int) + (stp ((bytesOf s).drop i) : Int) = ((i + stp ((bytesOf s).drop i) : Nat) : Int) := by omega
      rw [e]
      have := ih (s.size - (i + stp ((bytesOf s).drop i))) (by omega) (i + stp ((bytesOf s).drop i)) (by omega) rfl
      generalize stp ((bytesOf s).drop i) = q at *
      cases hc : bad ((bytesOf s).drop (i + q)) with
      | none => rw [hc] at this; exact this
      | some p =>
        rw [hc] at this
        simp only [Option.map_some, badR] at this ⊢
        rw [show i + (p + q) = i + q + p by omega]
        exact this
  · obtain rfl : i = s.size := by omega
    simp only [if_neg (show ¬ ((s.size : Int) < (s.size : Int)) by omega)]
    rw [List.drop_eq_nil_of_le (by rw [size_of]; omega), bad_nil]
    exact Ev.now _

theorem valid_ev (s : ByteArray) (hs : s.size ≤ 140737488355328) : Ev (fun k => utf_Valid.f k s) (badR s.size 0 (bad (bytesOf s))) :=
  valid_l0 s hs _ 0 (by omega) rfl

theorem mx_stp {l : List Int} (hl : Bytes l) : mx (tk l).2 1 = (stp l : Int) := by
  have := tk_bound l hl
  unfold mx stp
  split <;> split <;> omega

theorem step_ev (s : ByteArray) : Ev (fun k => utf_step.f k s) ((stp (bytesOf s) : Int)) := by
  refine Ev.congr (fun k => by rw [utf_step.f]) (Ev.bind (take_ev s) ?_)
  rw [mx_stp (bytes_of s)]
  exact Ev.now _

theorem count_l0 (s : ByteArray) (hs : s.size ≤ 140737488355328) (n : Nat) : ∀ (c i : Nat), i ≤ s.size → s.size - i = n → c ≤ i → Ev (fun k => utf_Count.l0 k s (c : Int) (i : Int)) (((c + cnt ((bytesOf s).drop i) : Nat) : Int)) := by
  induction n using Nat.strongRecOn with
  | _ n ih =>
  intro c i hi hn hc
  have hL : ((bytesOf s).drop i).length = s.size - i := by rw [List.length_drop, size_of]
  have hBd : Bytes ((bytesOf s).drop i) := (bytes_of s).drop i
  refine Ev.step (fun k => by rw [utf_Count.l0]) ?_
  by_cases h : i < s.size
  · have h1 : (i : Int) < (s.size : Int) := by omega
    have h2 : (0 : Int) ≤ (i : Int) := by omega
    have h3 : (i : Int) ≤ (s.size : Int) := by omega
    have hne : (bytesOf s).drop i ≠ [] := fun e => by rw [e] at hL; simp at hL; omega
    simp only [if_pos h1, if_pos h2, if_pos h3, Int.toNat_natCast]
    refine Ev.bind (step_ev _) ?_
    rw [bytesOf_drop]
    have hp := stp_pos _ hBd
    have hst := stp_le hBd hne
    rw [wrap_id (by omega) (by omega), wrap_id (by omega) (by omega), cnt_step hne, List.drop_drop]
    have e : (i : Int) + (stp ((bytesOf s).drop i) : Int) = ((i + stp ((bytesOf s).drop i) : Nat) : Int) := by omega
    rw [e, show (c : Int) + 1 = ((c + 1 : Nat) : Int) by omega]
    have := ih (s.size - (i + stp ((bytesOf s).drop i))) (by omega) (c + 1) (i + stp ((bytesOf s).drop i)) (by omega) rfl (by omega)
    rw [show c + (cnt ((bytesOf s).drop (i + stp ((bytesOf s).drop i))) + 1) = c + 1 + cnt ((bytesOf s).drop (i + stp ((bytesOf s).drop i))) by omega]
    exact this
  · obtain rfl : i = s.size := by omega
    simp only [if_neg (show ¬ ((s.size : Int) < (s.size : Int)) by omega)]
    rw [List.drop_eq_nil_of_le (by rw [size_of]; omega), cnt_nil]
    exact Ev.now _

theorem count_ev (s : ByteArray) (hs : s.size ≤ 140737488355328) : Ev (fun k => utf_Count.f k s) ((cnt (bytesOf s) : Int)) := by
  have := count_l0 s hs _ 0 0 (by omega) rfl (by omega)
  rw [Nat.zero_add] at this
  exact this

def atR (i : Nat) : Option Nat → Int × Bool
  | none => (0, false)
  | some p => (((i + p : Nat) : Int), true)

theorem at_l0 (s : ByteArray) (hs : s.size ≤ 140737488355328) (m : Nat) : ∀ (i : Nat), i ≤ s.size → m < 9223372036854775808 → Ev (fun k => utf_At.l0 k s (m : Int) (i : Int)) (atR i (atp ((bytesOf s).drop i) m)) := by
  induction m with
  | zero =>
    intro i hi _
    refine Ev.step (fun k => by rw [utf_At.l0]) ?_
    simp only [if_neg (show ¬ (((0 : Nat) : Int) > 0) by omega), atp, atR]
    exact Ev.now _
  | succ m ih =>
    intro i hi hm
    refine Ev.step (fun k => by rw [utf_At.l0]) ?_
    simp only [if_pos (show ((m + 1 : Nat) : Int) > 0 by omega)]
    have hL : ((bytesOf s).drop i).length = s.size - i := by rw [List.length_drop, size_of]
    have hBd : Bytes ((bytesOf s).drop i) := (bytes_of s).drop i
    by_cases h : i = s.size
    · simp only [if_pos (show (i : Int) = (s.size : Int) by omega), atp]
      rw [if_pos (by rw [List.drop_eq_nil_of_le (by rw [size_of]; omega)])]
      exact Ev.now _
    · have h1 : ¬ (i : Int) = (s.size : Int) := by omega
      have h2 : (0 : Int) ≤ (i : Int) := by omega
      have h3 : (i : Int) ≤ (s.size : Int) := by omega
      have hne : (bytesOf s).drop i ≠ [] := fun e => by rw [e] at hL; simp at hL; omega
      simp only [if_neg h1, if_pos h2, if_pos h3, Int.toNat_natCast, atp, if_neg hne]
      refine Ev.bind (step_ev _) ?_
      rw [bytesOf_drop]
      have hp := stp_pos _ hBd
      have hst := stp_le hBd hne
      rw [wrap_id (by omega) (by omega), wrap_id (by omega) (by omega), List.drop_drop]
      have e : (i : Int) + (stp ((bytesOf s).drop i) : Int) = ((i + stp ((bytesOf s).drop i) : Nat) : Int) := by omega
      rw [e, show ((m + 1 : Nat) : Int) - 1 = (m : Int) by omega]
      have := ih (i + stp ((bytesOf s).drop i)) (by omega) (by omega)
      generalize stp ((bytesOf s).drop i) = q at *
      cases hc : atp ((bytesOf s).drop (i + q)) m with
      | none => rw [hc] at this; exact this
      | some p =>
        rw [hc] at this
        simp only [Option.map_some, atR] at this ⊢
        rw [show i + (p + q) = i + q + p by omega]
        exact this

theorem at_ev (s : ByteArray) (hs : s.size ≤ 140737488355328) {m : Nat} (hm : m < 9223372036854775808) : Ev (fun k => utf_At.f k s (m : Int)) (atR 0 (atp (bytesOf s) m)) := by
  refine Ev.congr (fun k => by rw [utf_At.f, if_neg (by omega)]; rfl) (at_l0 s hs m 0 (by omega) hm)

theorem at_neg (s : ByteArray) {m : Int} (hm : m < 0) : Ev (fun k => utf_At.f k s m) (0, false) :=
  Ev.congr (fun k => by rw [utf_At.f, if_pos hm]) (Ev.now _)

theorem put_eq (l : List Int) (r : Int) (hl : l.length ≤ 140737488355000) : utf_Put.f l r = some (if good r then l ++ enc r else l) := by
  unfold utf_Put.f
  have hw : wrap64 ((l.length : Int) + 4) = (l.length : Int) + 4 := wrap_id (by omega) (by omega)
  rw [hw, if_pos (by omega), if_pos (by omega)]
  simp only [Option.bind_some, List.length_nil, List.nil_append]
  rw [if_pos (by omega)]
  by_cases hg : good r
  · have hg' := good_iff.1 hg
    rw [good_eq, Option.bind_some, if_pos (decide_eq_true hg), size_eq, Option.bind_some, if_pos hg]
    unfold enc
    by_cases c1 : r < 128
    · rw [if_pos (siz1.2 c1), if_pos (by omega), if_pos c1, show r % 256 = r by omega]
    · rw [if_neg (fun h => c1 (siz1.1 h)), if_neg c1]
      by_cases c2 : r < 2048
      · rw [if_pos (siz2.2 (by omega)), if_pos c2]
        rw [if_pos (by simp; omega), i64_and63 (by omega) (by omega), i64_or128 (by omega) (by omega), i64_or192 (by omega) (by omega), show (192 + r / 64) % 256 = 192 + r / 64 by omega, show (128 + r % 64) % 256 = 128 + r % 64 by omega]
      · rw [if_neg (fun h => by have := siz2.1 h; omega), if_neg c2]
        by_cases c3 : r < 65536
        · rw [if_pos (siz3.2 (by omega)), if_pos c3]
          rw [if_pos (by simp; omega), i64_and63 (by omega) (by omega), i64_and63 (by omega) (by omega), i64_or128 (by omega) (by omega), i64_or128 (by omega) (by omega), i64_or224 (by omega) (by omega), show (224 + r / 4096) % 256 = 224 + r / 4096 by omega, show (128 + r / 64 % 64) % 256 = 128 + r / 64 % 64 by omega, show (128 + r % 64) % 256 = 128 + r % 64 by omega]
        · rw [if_neg (fun h => by have := siz3.1 h; omega), if_neg c3]
          rw [if_pos (by simp; omega), i64_and63 (by omega) (by omega), i64_and63 (by omega) (by omega), i64_and63 (by omega) (by omega), i64_or128 (by omega) (by omega), i64_or128 (by omega) (by omega), i64_or128 (by omega) (by omega), i64_or240 (by omega) (by omega), show (240 + r / 262144) % 256 = 240 + r / 262144 by omega, show (128 + r / 4096 % 64) % 256 = 128 + r / 4096 % 64 by omega, show (128 + r / 64 % 64) % 256 = 128 + r / 64 % 64 by omega, show (128 + r % 64) % 256 = 128 + r % 64 by omega]
  · rw [good_eq, Option.bind_some, if_neg (by simpa using hg), if_neg hg]

end Go.Proofs.Ytagjfnjfhflahaa.La
