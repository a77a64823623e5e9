/- The parts of this claim's proof, in one text: what each Go function answers and that its call comes to it; plain facts of lists of numbers. Conditions as each theorem names them. -/
import Derived.ArgAppend
import Derived.Below
import Derived.BigQuiet
import Derived.Deep.AppendLies
import Derived.Deep.CutBlock
import Derived.Deep.DeepCutAuto
import Derived.Deep.Draws
import Derived.Deep.LoopGhost
import Derived.Deep.OwnRows
import Derived.Deep.QuietTactic
import Derived.Deep.RegionHeld3
import Derived.KernelRfl
import Derived.Laws.BitsLemmas
import Derived.Laws.BytesArg
import Derived.Laws.IdiomCopy
import Derived.Laws.MakeOwn
import Derived.Laws.OwnMore
import Derived.Laws.Rows
import Derived.Laws.Slices
import Derived.Lib.AppendStr
import Derived.Lib.Bytealg
import Derived.Lib.Bytes
import Derived.Lib.ConvBytes
import Derived.Lib.Hide
import Derived.Maps.AppendAt
import Derived.OrdersHeld
import Derived.Outline
import Derived.OwnWalk
import Derived.RowKit
import Derived.RowKit3
import Derived.Shelf.Bits.Mul64
import Derived.Shelf.LaysM
import Derived.Shelf.Small.Strs
import Derived.Shelf.Small.Utf8
import Derived.Shelf.Strings.AsciiSet
import Derived.Shelf.Strings.Builder1
import Derived.Shelf.Strings.Builder2
import Derived.Shelf.Strings.BuilderF
import Derived.Shelf.Strings.Count
import Derived.Shelf.Strings.IndexAny
import Derived.Shelf.Strings.IndexAnyAll
import Derived.Shelf.Strings.Prefix
import Derived.Shelf.Strings.Repeat
import Derived.Shelf.Strings.RuneCount
import Derived.Shelf.Strings.Runes
import Derived.Shelf.Strings.Search1
import Derived.Shelf.Strings.Search2
import Derived.Shelf.Strings.Search3
import Derived.Shelf.Strings.Shaped
import Derived.Shelf.Strings.SlTrimAscii
import Derived.Shelf.Strings.Split
import Derived.Shelf.Strings.Trim
import Derived.Shelf.Unicode.Decode
import Derived.Shelf.Unicode.DecodeAny
import Derived.Shelf.Unicode.DecodeLast
import Derived.Shelf.Unicode.DecodeSlow
import Derived.Shelf.Utf8.RuneCount
import Derived.Tactics
import Derived.WalkKit
import Derived.WideLaws
import Derived.Test.YtoanbmggffkmgaaDoorProg
import Derived.Test.YtoanbmggffkmgaaDoorWApart
import Derived.Test.YtoanbmggffkmgaaDoorWArr
import Derived.Test.YtoanbmggffkmgaaDoorWAt
import Derived.Test.YtoanbmggffkmgaaDoorWEqStruct
import Derived.Test.YtoanbmggffkmgaaDoorWFoot
import Derived.Test.YtoanbmggffkmgaaDoorWFootNe
import Derived.Test.YtoanbmggffkmgaaDoorWFour
import Derived.Test.YtoanbmggffkmgaaDoorWGuard
import Derived.Test.YtoanbmggffkmgaaDoorWInv
import Derived.Test.YtoanbmggffkmgaaDoorWInvWords
import Derived.Test.YtoanbmggffkmgaaDoorWKept
import Derived.Test.YtoanbmggffkmgaaDoorWLast
import Derived.Test.YtoanbmggffkmgaaDoorWMake0
import Derived.Test.YtoanbmggffkmgaaDoorWMore
import Derived.Test.YtoanbmggffkmgaaDoorWN
import Derived.Test.YtoanbmggffkmgaaDoorWNEv
import Derived.Test.YtoanbmggffkmgaaDoorWQPut
import Derived.Test.YtoanbmggffkmgaaDoorWRepsOne
import Derived.Test.YtoanbmggffkmgaaDoorWShare
import Derived.Test.YtoanbmggffkmgaaDoorWTab
import Derived.Test.YtoanbmggffkmgaaDoorWWords
import Derived.Test.YtoanbmggffkmgaaDoorWZeros
import Derived.Test.YtoanbmggffkmgaaDoorMEscCuts1
section
namespace Go.Proofs.YtoanbmggffkmgaaDoor.La
open Go.RowKit Go.Proofs.YtoanbmggffkmgaaDoor.P Go.Proofs.YtoanbmggffkmgaaDoorW.PrintWords Go.Proofs.YtoanbmggffkmgaaDoorW.PrintLast Go.Proofs.YtoanbmggffkmgaaDoorW.PrintMore
theorem ref_good_eq (r : Int) : dragomanref1_Good.f r = some (decide (good r)) := good_eq r
def enc0 (r : Int) : List Int := if good r then enc r else []
theorem enc0_bytes (r : Int) : Bytes (enc0 r) := by
  unfold enc0
  split
  · rename_i h; exact enc_bytes h
  · intro x hx; cases hx
theorem ref_put_eq (r : Int) : dragomanref1_Put.f r = some (strOfNums (enc0 r)) := by
  unfold dragomanref1_Put.f enc0
  rw [ref_good_eq, Option.bind_some]
  by_cases hg : good r
  · have hg' := good_iff.1 hg
    have d1 : Int.tdiv r 64 = r / 64 := Int.tdiv_eq_ediv_of_nonneg (by omega)
    have d2 : Int.tdiv r 4096 = r / 4096 := Int.tdiv_eq_ediv_of_nonneg (by omega)
    have d3 : Int.tdiv r 262144 = r / 262144 := Int.tdiv_eq_ediv_of_nonneg (by omega)
    have m1 : Int.tmod r 64 = r % 64 := Int.tmod_eq_emod_of_nonneg (by omega)
    have m2 : Int.tmod (r / 64) 64 = r / 64 % 64 := Int.tmod_eq_emod_of_nonneg (by omega)
    have m3 : Int.tmod (r / 4096) 64 = r / 4096 % 64 := Int.tmod_eq_emod_of_nonneg (by omega)
    have w1 : wrap64 (r / 64) = r / 64 := wrap_id (by omega) (by omega)
    have w2 : wrap64 (r / 4096) = r / 4096 := wrap_id (by omega) (by omega)
    have w3 : wrap64 (r / 262144) = r / 262144 := wrap_id (by omega) (by omega)
    rw [if_pos (decide_eq_true hg), if_pos hg, d1, d2, d3, w1, w2, w3, m1, m2, m3]
    unfold enc
    split
    · rw [show r % 256 = r by omega]
    · split
      · rw [wrap_id (n := 192 + r / 64) (by omega) (by omega), wrap_id (n := 128 + r % 64) (by omega) (by omega), show (192 + r / 64) % 256 = 192 + r / 64 by omega, show (128 + r % 64) % 256 = 128 + r % 64 by omega]
      · split
        · rw [wrap_id (n := 224 + r / 4096) (by omega) (by omega), wrap_id (n := 128 + r / 64 % 64) (by omega) (by omega), wrap_id (n := 128 + r % 64) (by omega) (by omega), show (224 + r / 4096) % 256 = 224 + r / 4096 by omega, show (128 + r / 64 % 64) % 256 = 128 + r / 64 % 64 by omega, show (128 + r % 64) % 256 = 128 + r % 64 by omega]
        · rw [wrap_id (n := 240 + r / 262144) (by omega) (by omega), wrap_id (n := 128 + r / 4096 % 64) (by omega) (by omega), wrap_id (n := 128 + r / 64 % 64) (by omega) (by omega), wrap_id (n := 128 + r % 64) (by omega) (by omega), show (240 + r / 262144) % 256 = 240 + r / 262144 by omega, show (128 + r / 4096 % 64) % 256 = 128 + r / 4096 % 64 by omega, show (128 + r / 64 % 64) % 256 = 128 + r / 64 % 64 by omega, show (128 + r % 64) % 256 = 128 + r % 64 by omega]
  · rw [if_neg (by simpa using hg), if_neg hg]
    rfl
def rend (r : Int) (n : Nat) (l : List Int) : Int × Int := if enc0 r = l.take n then (r, (n : Int)) else (0, 0)
theorem rl0_end (k : Nat) (s : ByteArray) {r i : Int} {n : Nat} (h : ¬ i < (n : Int)) (hn : n ≤ s.size) : dragomanref1_Take.l0 (k + 1) s (n : Int) r i = some (rend r n (bytesOf s)) := by
  simp only [dragomanref1_Take.l0]
  rw [if_neg h, ref_put_eq, Option.bind_some, if_pos (by omega), if_pos (by omega)]
  unfold rend
  have : ((strOfNums (enc0 r)).toList = (s.extract 0 ((n : Int)).toNat).toList) ↔ enc0 r = (bytesOf s).take n := by
    rw [toList_eq_iff, strOfNums_bytes (enc0_bytes r), bytesOf_take, Int.toNat_natCast]
  simp only [this]
  split <;> rfl
theorem rl0_bad (k : Nat) (s : ByteArray) {n r i : Int} (h : i < n) (h0 : 0 ≤ i) (hs : i < s.size) (hb : ¬ (128 ≤ bt s i ∧ bt s i < 192)) : dragomanref1_Take.l0 (k + 1) s n r i = some (0, 0) := by
  simp only [dragomanref1_Take.l0]
  rw [if_pos h, if_pos h0, if_pos hs]
  by_cases c : bt s i < 128
  · rw [if_pos c]
  · rw [if_neg c, if_pos (by omega)]
theorem rl0_more (k : Nat) (s : ByteArray) {n r i : Int} (h : i < n) (h0 : 0 ≤ i) (hs : i < s.size) (hb : 128 ≤ bt s i ∧ bt s i < 192) (r0 : 0 ≤ r) (r1 : r < 2097152) (i1 : i < 10) : dragomanref1_Take.l0 (k + 1) s n r i = dragomanref1_Take.l0 k s n (r * 64 + (bt s i - 128)) (i + 1) := by
  simp only [dragomanref1_Take.l0]
  rw [if_pos h, if_pos h0, if_pos hs, if_neg (by omega), if_neg (by omega), wrap_id (n := 64 * r) (by omega) (by omega), wrap_id (n := bt s i) (by omega) (by omega), wrap_id (n := 64 * r + bt s i) (by omega) (by omega), wrap_id (n := 64 * r + bt s i - 128) (by omega) (by omega), wrap_id (n := i + 1) (by omega) (by omega), show 64 * r + bt s i - 128 = r * 64 + (bt s i - 128) by omega]
theorem enc0_good {r : Int} (h : good r) : enc0 r = enc r := if_pos h
theorem enc0_eq {r : Int} {l : List Int} (hl : l ≠ []) : enc0 r = l ↔ good r ∧ enc r = l := by
  unfold enc0
  split
  · rename_i h; exact ⟨fun e => ⟨h, e⟩, fun e => e.2⟩
  · rename_i h; exact ⟨fun e => absurd e.symm hl, fun e => absurd e.1 h⟩
theorem enc2 {r a b : Int} (h : r = tk2 a b) (ha : 192 ≤ a ∧ a < 224) (hb : 128 ≤ b ∧ b < 192) : enc r = [a, b] ↔ 128 ≤ r := by
  unfold tk2 at h
  unfold enc
  by_cases c : r < 128
  · rw [if_pos c]; simp; omega
  · rw [if_neg c, if_pos (by omega)]; simp; omega
theorem enc3 {r a b c : Int} (h : r = tk3 a b c) (ha : 224 ≤ a ∧ a < 240) (hb : 128 ≤ b ∧ b < 192) (hc : 128 ≤ c ∧ c < 192) : enc r = [a, b, c] ↔ 2048 ≤ r := by
  unfold tk3 at h
  unfold enc
  by_cases c1 : r < 128
  · rw [if_pos c1]; simp; omega
  · rw [if_neg c1]
    by_cases c2 : r < 2048
    · rw [if_pos c2]; simp; omega
    · rw [if_neg c2, if_pos (by omega)]; simp; omega
theorem enc4 {r a b c d : Int} (h : r = tk4 a b c d) (_ha : 240 ≤ a ∧ a < 248) (hb : 128 ≤ b ∧ b < 192) (hc : 128 ≤ c ∧ c < 192) (hd : 128 ≤ d ∧ d < 192) : enc r = [a, b, c, d] ↔ 65536 ≤ r := by
  unfold tk4 at h
  unfold enc
  by_cases c1 : r < 128
  · rw [if_pos c1]; simp; omega
  · rw [if_neg c1]
    by_cases c2 : r < 2048
    · rw [if_pos c2]; simp; omega
    · rw [if_neg c2]
      by_cases c3 : r < 65536
      · rw [if_pos c3]; simp; omega
      · rw [if_neg c3]; simp; omega
theorem ref_take_eq (k : Nat) (s : ByteArray) : dragomanref1_Take.f (k + 9) s = some (tk (bytesOf s)) := by
  have hB := bytes_of s
  have hS := size_of s
  generalize hl : bytesOf s = l at hB hS
  have hbt : ∀ i, bt s i = l.getD i.toNat 0 := fun i => by rw [bt_get, hl]
  unfold dragomanref1_Take.f
  match l with
  | [] => rw [if_pos ((toList_nil_iff s).2 hl)]; rfl
  | a :: t =>
    have ha := hB a List.mem_cons_self
    have h0 : bt s 0 = a := by rw [hbt]; rfl
    have hsz : (s.size : Int) = (t.length : Int) + 1 := by rw [← hS]; simp
    rw [if_neg (fun h => by rw [toList_nil_iff, hl] at h; cases h), if_pos (by omega), h0, wrap_id (by omega) (by omega)]
    simp only [tk]
    by_cases c5 : 240 ≤ a
    · rw [if_pos c5, if_neg (show ¬ a < 128 by omega), if_neg (show ¬ a < 192 by omega), if_neg (show ¬ a < 224 by omega), if_neg (show ¬ a < 240 by omega)]
      by_cases c6 : a < 248
      · rw [decide_eq_true c6, if_pos c6]
        simp only [dragomanref1_Take.j0]
        rw [if_pos trivial]
        simp only [dragomanref1_Take.j3]
        rw [wrap_id (by omega) (by omega)]
        match t with
        | [] =>
          simp at hsz
          rw [if_pos (by omega)]
        | [b] =>
          simp at hsz
          rw [if_pos (by omega)]
        | [b, c] =>
          simp at hsz
          rw [if_pos (by omega)]
        | b :: c :: d :: t =>
          simp at hsz
          dsimp only
          have hb : bt s 1 = b := by rw [hbt]; rfl
          have hc : bt s 2 = c := by rw [hbt]; rfl
          have hd : bt s 3 = d := by rw [hbt]; rfl
          rw [if_neg (by omega)]
          have hr := hB b (by simp)
          have hr2 := hB c (by simp)
          have hr3 := hB d (by simp)
          by_cases k1 : 128 ≤ b ∧ b < 192
          · rw [rl0_more _ _ (by decide) (by decide) (by omega) (by rw [hb]; exact k1) (by omega) (by omega) (by decide), hb]
            by_cases k2 : 128 ≤ c ∧ c < 192
            · rw [rl0_more _ _ (by decide) (by decide) (by omega) (by rw [show (1 : Int) + 1 = 2 by decide, hc]; exact k2) (by omega) (by omega) (by decide), show (1 : Int) + 1 = 2 by decide, hc]
              by_cases k3 : 128 ≤ d ∧ d < 192
              · rw [rl0_more _ _ (by decide) (by decide) (by omega) (by rw [show (2 : Int) + 1 = 3 by decide, hd]; exact k3) (by omega) (by omega) (by decide), show (2 : Int) + 1 = 3 by decide, hd]
                have e : (((a - 240) * 64 + (b - 128)) * 64 + (c - 128)) * 64 + (d - 128) = tk4 a b c d := by unfold tk4; omega
                have e1 : 0 ≤ tk4 a b c d := by unfold tk4; omega
                rw [e, show (4 : Int) = ((4 : Nat) : Int) by rfl, rl0_end _ _ (by decide) (by omega), hl]
                unfold rend
                simp only [List.take_succ_cons, List.take_zero, enc0_eq (List.cons_ne_nil _ _), enc4 rfl ⟨c5, c6⟩ k1 k2 k3, good_iff]
                by_cases k4 : 65536 ≤ tk4 a b c d ∧ tk4 a b c d ≤ 1114111
                · rw [if_pos (by omega), if_pos (by omega)]
                · rw [if_neg (by omega), if_neg (by omega)]
              · rw [rl0_bad _ _ (by decide) (by decide) (by omega) (by rw [show (2 : Int) + 1 = 3 by decide, hd]; exact k3), if_neg (by omega)]
            · rw [rl0_bad _ _ (by decide) (by decide) (by omega) (by rw [show (1 : Int) + 1 = 2 by decide, hc]; exact k2), if_neg (by omega)]
          · rw [rl0_bad _ _ (by decide) (by decide) (by omega) (by rw [hb]; exact k1), if_neg (by omega)]
      · rw [decide_eq_false c6, if_neg c6]
        simp only [dragomanref1_Take.j0]
        rw [if_neg (by decide), if_pos (by omega)]
        simp only [dragomanref1_Take.j1]
        rw [if_neg (by simp; omega), if_pos (by omega)]
        simp only [dragomanref1_Take.j2]
        rw [if_neg (by simp; omega), if_pos (by omega)]
    · rw [if_neg c5]
      simp only [dragomanref1_Take.j0]
      rw [if_neg (by decide)]
      by_cases c4 : 224 ≤ a
      · rw [if_pos c4, if_neg (show ¬ a < 128 by omega), if_neg (show ¬ a < 192 by omega), if_neg (show ¬ a < 224 by omega), if_pos (show a < 240 by omega)]
        simp only [dragomanref1_Take.j1]
        rw [if_pos (decide_eq_true (by omega)), wrap_id (by omega) (by omega)]
        simp only [dragomanref1_Take.j3]
        match t with
        | [] =>
          simp at hsz
          rw [if_pos (by omega)]
        | [b] =>
          simp at hsz
          rw [if_pos (by omega)]
        | b :: c :: t =>
          simp at hsz
          dsimp only
          have hb : bt s 1 = b := by rw [hbt]; rfl
          have hc : bt s 2 = c := by rw [hbt]; rfl
          rw [if_neg (by omega)]
          have hr := hB b (by simp)
          have hr2 := hB c (by simp)
          by_cases k1 : 128 ≤ b ∧ b < 192
          · rw [rl0_more _ _ (by decide) (by decide) (by omega) (by rw [hb]; exact k1) (by omega) (by omega) (by decide), hb]
            by_cases k2 : 128 ≤ c ∧ c < 192
            · rw [rl0_more _ _ (by decide) (by decide) (by omega) (by rw [show (1 : Int) + 1 = 2 by decide, hc]; exact k2) (by omega) (by omega) (by decide), show (1 : Int) + 1 = 2 by decide, hc]
              have e : ((a - 224) * 64 + (b - 128)) * 64 + (c - 128) = tk3 a b c := by unfold tk3; omega
              have e1 : 0 ≤ tk3 a b c ∧ tk3 a b c < 65536 := by unfold tk3; omega
              rw [e, show (3 : Int) = ((3 : Nat) : Int) by rfl, rl0_end _ _ (by decide) (by omega), hl]
              unfold rend
              simp only [List.take_succ_cons, List.take_zero, enc0_eq (List.cons_ne_nil _ _), enc3 rfl ⟨c4, by omega⟩ k1 k2, good_iff]
              by_cases k4 : 2048 ≤ tk3 a b c ∧ (tk3 a b c < 55296 ∨ 57343 < tk3 a b c)
              · rw [if_pos (by omega), if_pos (by omega)]
              · rw [if_neg (by omega), if_neg (by omega)]
            · rw [rl0_bad _ _ (by decide) (by decide) (by omega) (by rw [show (1 : Int) + 1 = 2 by decide, hc]; exact k2), if_neg (by omega)]
          · rw [rl0_bad _ _ (by decide) (by decide) (by omega) (by rw [hb]; exact k1), if_neg (by omega)]
      · rw [if_neg c4]
        simp only [dragomanref1_Take.j1]
        rw [if_neg (by decide)]
        by_cases c3 : 192 ≤ a
        · rw [if_pos c3, if_neg (show ¬ a < 128 by omega), if_neg (show ¬ a < 192 by omega), if_pos (show a < 224 by omega)]
          simp only [dragomanref1_Take.j2]
          rw [if_pos (decide_eq_true (by omega)), wrap_id (by omega) (by omega)]
          simp only [dragomanref1_Take.j3]
          match t with
          | [] =>
            simp at hsz
            rw [if_pos (by omega)]
          | b :: t =>
            simp at hsz
            dsimp only
            have hb : bt s 1 = b := by rw [hbt]; rfl
            rw [if_neg (by omega)]
            have hr := hB b (by simp)
            by_cases k1 : 128 ≤ b ∧ b < 192
            · rw [rl0_more _ _ (by decide) (by decide) (by omega) (by rw [hb]; exact k1) (by omega) (by omega) (by decide), hb]
              have e : (a - 192) * 64 + (b - 128) = tk2 a b := by unfold tk2; omega
              have e1 : 0 ≤ tk2 a b ∧ tk2 a b < 2048 := by unfold tk2; omega
              rw [e, show (2 : Int) = ((2 : Nat) : Int) by rfl, rl0_end _ _ (by decide) (by omega), hl]
              unfold rend
              simp only [List.take_succ_cons, List.take_zero, enc0_eq (List.cons_ne_nil _ _), enc2 rfl ⟨c3, by omega⟩ k1, good_iff]
              by_cases k4 : 128 ≤ tk2 a b
              · rw [if_pos (by omega), if_pos (by omega)]
              · rw [if_neg (by omega), if_neg (by omega)]
            · rw [rl0_bad _ _ (by decide) (by decide) (by omega) (by rw [hb]; exact k1), if_neg (by omega)]
        · rw [if_neg c3]
          simp only [dragomanref1_Take.j2]
          rw [if_neg (by decide)]
          by_cases c2 : 128 ≤ a
          · rw [if_pos c2, if_neg (show ¬ a < 128 by omega), if_pos (show a < 192 by omega)]
          · rw [if_neg c2, if_pos (show a < 128 by omega)]
            simp only [dragomanref1_Take.j3]
            rw [if_neg (by omega), show (1 : Int) = ((1 : Nat) : Int) by rfl, rl0_end _ _ (by decide) (by omega), hl]
            unfold rend
            rw [List.take_succ_cons, List.take_zero, if_pos ((enc0_eq (List.cons_ne_nil _ _)).2 ⟨good_iff.2 (by omega), by unfold enc; rw [if_pos (by omega)]⟩)]
theorem ref_take_ev (s : ByteArray) : Ev (fun k => dragomanref1_Take.f k s) (tk (bytesOf s)) := ⟨9, fun k hk => by
  obtain ⟨m, rfl⟩ : ∃ m, k = m + 9 := ⟨k - 9, by omega⟩
  exact ref_take_eq m s⟩
def rbadR (at_ : Nat) : Option Nat → Int
  | none => -1
  | some p => ((at_ + p : Nat) : Int)
theorem ref_valid_l0 (s : ByteArray) (hs : s.size ≤ 140737488355328) (n : Nat) : ∀ (i : Nat), i ≤ s.size → s.size - i = n → Ev (fun k => dragomanref1_Valid.l0 k s (i : Int)) (rbadR i (bad ((bytesOf s).drop i))) := by
  induction n using Nat.strongRecOn with
  | _ n ih =>
  intro i hi hn
  have hL : ((bytesOf s).drop i).length = s.size - i := by rw [List.length_drop, size_of]
  have hBd : Bytes ((bytesOf s).drop i) := (bytes_of s).drop i
  refine Ev.step (fun k => by rw [dragomanref1_Valid.l0]) ?_
  by_cases h : i < s.size
  · have h1 : (i : Int) < (s.size : Int) := by omega
    have h2 : (0 : Int) ≤ (i : Int) := by omega
    have h3 : (i : Int) ≤ (s.size : Int) := by omega
    have hne : (bytesOf s).drop i ≠ [] := fun e => by rw [e] at hL; simp at hL; omega
    simp only [if_pos h1, if_pos h2, if_pos h3, Int.toNat_natCast]
    refine Ev.bind (ref_take_ev _) ?_
    rw [bytesOf_drop]
    by_cases h0 : (tk ((bytesOf s).drop i)).2 = 0
    · simp only [if_pos h0, bad_none hne h0, rbadR]
      exact Ev.now _
    · simp only [if_neg h0]
      have hb := tk_bound _ hBd
      have hp := stp_pos _ hBd
      have hst := stp_le hBd hne
      rw [stp_int hBd h0, wrap_id (by omega) (by omega), bad_step hne h0, List.drop_drop]
      have e : (i : Int) + (stp ((bytesOf s).drop i) : Int) = ((i + stp ((bytesOf s).drop i) : Nat) : Int) := by omega
      rw [e]
      have := ih (s.size - (i + stp ((bytesOf s).drop i))) (by omega) (i + stp ((bytesOf s).drop i)) (by omega) rfl
      generalize stp ((bytesOf s).drop i) = q at *
      cases hc : bad ((bytesOf s).drop (i + q)) with
      | none => rw [hc] at this; exact this
      | some p =>
        rw [hc] at this
        simp only [Option.map_some, rbadR] at this ⊢
        rw [show i + (p + q) = i + q + p by omega]
        exact this
  · obtain rfl : i = s.size := by omega
    simp only [if_neg (show ¬ ((s.size : Int) < (s.size : Int)) by omega)]
    rw [List.drop_eq_nil_of_le (by rw [size_of]; omega), bad_nil]
    exact Ev.now _
theorem ref_valid_ev (s : ByteArray) (hs : s.size ≤ 140737488355328) : Ev (fun k => dragomanref1_Valid.f k s) (rbadR 0 (bad (bytesOf s))) :=
  ref_valid_l0 s hs _ 0 (by omega) rfl
end Go.Proofs.YtoanbmggffkmgaaDoor.La
end
section
namespace Go.Proofs.YtoanbmggffkmgaaDoor.P
open Go.RowKit Go.Proofs.YtoanbmggffkmgaaDoor.La Go.Proofs.YtoanbmggffkmgaaDoorW.PrintWords Go.Proofs.YtoanbmggffkmgaaDoorW.PrintLast Go.Proofs.YtoanbmggffkmgaaDoorW.PrintMore
theorem Rdr.drewN {B : Nat} {w : World} {g : Nat} {text : ByteArray} {at_ : Int} {bs : List Int} (h : Rdr B w g text at_ bs) (n : Nat) : Rdr B (w.drewN n) g text at_ bs := by
  obtain ⟨hB, bv, hh, hr⟩ := h
  exact ⟨hB, bv, hh, Kd.R_drewN hr n⟩
theorem Rdr.below {B : Nat} {w w1 : World} {g : Nat} {text : ByteArray} {at_ : Int} {bs : List Int} (h : Rdr B w g text at_ bs) (hb : Below w.heap.size w w1) : Rdr B w1 g text at_ bs := by
  obtain ⟨hB, bv, hh, hr⟩ := h
  exact ⟨hB, bv, (hb.block g (rblk_lt hh)).trans hh, Kd.R_below hr hb⟩
theorem Rdr.low {B : Nat} {w : World} {g : Nat} {text : ByteArray} {at_ : Int} {bs : List Int} (h : Rdr B w g text at_ bs) : B ≤ w.heap.size := by
  obtain ⟨hB, bv, hh, hr⟩ := h
  have := rblk_lt hh
  omega
set_option maxRecDepth 100000 in
set_option maxHeartbeats 4000000 in
theorem rput {B g : Nat} {text : ByteArray} {at_ : Int} {bs : List Int} {w : World} (x n : Int) (hR : Rdr B w g text at_ bs) (hl : bs.length ≤ 140737488000000) (h0 : 0 ≤ at_) (h1 : at_ ≤ 140737488355328) (n0 : 0 ≤ n) (n1 : n ≤ 100) :
    Calls Tryd.prog 64 #[.pointer (some ⟨g, 0, none⟩), .int .i64 x, .int .i64 n] w fun e w' => e = .returned (.bool (decide (good x))) ∧ Rdr B w' g text (if good x then at_ + n else at_) (if good x then bs ++ enc x else bs) ∧ Below B w w' := by
  obtain ⟨A, c, c0, c1, c2, f1, f2, hlt, hc, hC⟩ := hR.open_
  by_cases hg : good x
  · rw [decide_eq_true hg, if_pos hg, if_pos hg]
    have H1 := Lib.hid (show utf_Good.f x = some true by rw [good_eq, decide_eq_true hg])
    have H2 := Lib.hid (show utf_Put.f bs x = some (bs ++ enc x) by rw [put_eq _ _ (by omega), if_pos hg])
    go_enter Tryd.func64, Tryd.ntmps64
    go_wp2_with (go_at_call 87; (with_reducible refine (utf_Good.calls _ _ _ H1.out).mono ?_); rintro e w' ⟨rfl, ⟨nd, rfl⟩⟩)
    refine (utf_Put.calls _ _ bs x _ _ (Kd.C_drewN hC nd) hc H2.out).mono ?_
    rintro e w1 ⟨v1, rfl, ho, hb⟩
    obtain ⟨A2, cc2, rfl, _, _⟩ := Kd.R_reads ho
    have hS := (hR.drewN nd).stored hb ho (at_ + n)
    obtain ⟨A1, cc1, d0, d1, d2, e1, e2, hlt1, _, _⟩ := ((hR.drewN nd).below hb).open_
    clear c0 c1 c2 f1 f2 ho
    simp only [List.length_append] at hS
    go_wp2
    go_ret
    exact ⟨rfl, hS.1, (pw_below_drewN (Below.refl _ _) nd).trans hS.2⟩
  · rw [decide_eq_false hg, if_neg hg, if_neg hg]
    have H1 := Lib.hid (show utf_Good.f x = some false by rw [good_eq, decide_eq_false hg])
    go_enter Tryd.func64, Tryd.ntmps64
    go_wp2_with (go_at_call 87; (with_reducible refine (utf_Good.calls _ _ _ H1.out).mono ?_); rintro e w' ⟨rfl, ⟨nd, rfl⟩⟩)
    go_ret
    exact ⟨rfl, hR.drewN nd, pw_below_drewN (Below.refl _ _) nd⟩
theorem rput_good {B g : Nat} {text : ByteArray} {at_ : Int} {bs : List Int} {w : World} {x : Int} (n : Int) (hg : good x) (hR : Rdr B w g text at_ bs) (hl : bs.length ≤ 140737488000000) (h0 : 0 ≤ at_) (h1 : at_ ≤ 140737488355328) (n0 : 0 ≤ n) (n1 : n ≤ 100) :
    Calls Tryd.prog 64 #[.pointer (some ⟨g, 0, none⟩), .int .i64 x, .int .i64 n] w fun e w' => e = .returned (.bool true) ∧ Rdr B w' g text (at_ + n) (bs ++ enc x) ∧ Below B w w' := by
  refine (rput x n hR hl h0 h1 n0 n1).mono fun e w' h => ?_
  rw [decide_eq_true hg, if_pos hg, if_pos hg] at h
  exact h
theorem rput_bad {B g : Nat} {text : ByteArray} {at_ : Int} {bs : List Int} {w : World} {x : Int} (n : Int) (hg : ¬ good x) (hR : Rdr B w g text at_ bs) (hl : bs.length ≤ 140737488000000) (h0 : 0 ≤ at_) (h1 : at_ ≤ 140737488355328) (n0 : 0 ≤ n) (n1 : n ≤ 100) :
    Calls Tryd.prog 64 #[.pointer (some ⟨g, 0, none⟩), .int .i64 x, .int .i64 n] w fun e w' => e = .returned (.bool false) ∧ Rdr B w' g text at_ bs ∧ Below B w w' := by
  refine (rput x n hR hl h0 h1 n0 n1).mono fun e w' h => ?_
  rw [decide_eq_false hg, if_neg hg, if_neg hg] at h
  exact h
theorem take_now (s : ByteArray) : utf_Take.f 6 s = some (tk (bytesOf s)) := take_eq 0 s
set_option maxRecDepth 100000 in
set_option maxHeartbeats 4000000 in
theorem rletter {B g : Nat} {text : ByteArray} {at_ : Int} {bs : List Int} {w : World} (hR : Rdr B w g text at_ bs) (hl : bs.length ≤ 140737488000000) (h0 : 0 ≤ at_) (h1 : at_ ≤ text.size) (h2 : text.size ≤ 140737488000000) :
    Calls Tryd.prog 40 #[.pointer (some ⟨g, 0, none⟩)] w fun e w' => e = .returned (.bool (decide ((tk ((bytesOf text).drop at_.toNat)).2 > 0))) ∧ Rdr B w' g text (at_ + (tk ((bytesOf text).drop at_.toNat)).2) (bs ++ enc0 (tk ((bytesOf text).drop at_.toNat)).1) ∧ Below B w w' := by
  obtain ⟨A, c, c0, c1, c2, f1, f2, hlt, hc, hC⟩ := hR.open_
  have HT := Lib.hid (show utf_Take.f 6 (text.extract at_.toNat text.size) = some ((tk ((bytesOf text).drop at_.toNat)).1, (tk ((bytesOf text).drop at_.toNat)).2) by rw [take_now, bytesOf_drop])
  have hbd := tk_bound ((bytesOf text).drop at_.toNat) ((bytes_of text).drop at_.toNat)
  have H2 := Lib.hid (show utf_Put.f bs (tk ((bytesOf text).drop at_.toNat)).1 = some (bs ++ enc0 (tk ((bytesOf text).drop at_.toNat)).1) by
    rw [put_eq _ _ (by omega)]; unfold enc0; split <;> simp)
  generalize (tk ((bytesOf text).drop at_.toNat)).1 = x at HT H2 hbd ⊢
  generalize (tk ((bytesOf text).drop at_.toNat)).2 = n at HT hbd ⊢
  obtain ⟨n0, n1, _, _, _⟩ := hbd
  have hwr : IntKind.i64.wrap (at_ + n) = at_ + n := wraps_i64 _ (by omega) (by omega)
  have HW := Lib.hid hwr
  clear hwr
  have c3b0 := eq_true h0
  have c3b1 : decide (0 ≤ at_) = true := decide_eq_true h0
  have c4b0 := eq_true h1
  have c4b1 : decide (at_ ≤ (text.size : Int)) = true := decide_eq_true h1
  go_enter Tryd.func40, Tryd.ntmps40
  go_wp2_with fail
  go_quiet (first | (go_at_call 66; (with_reducible refine (utf_Take.calls 6 (text.extract at_.toNat text.size) x n _ HT.out).mono ?_); rintro e w' ⟨rfl, ⟨nd, rfl⟩⟩; (try first | exact ⟨rfl, _, World.drewN_drewN _ _ _⟩ | exact ⟨rfl, _, Eq.trans (World.drewN_drewN _ _ _) (congrArg (World.drewN _) (Nat.add_assoc _ _ _))⟩)))
  go_wp2_with fail
  refine (utf_Put.calls _ _ bs x _ _ (Kd.C_drewN hC nq) hc H2.out).mono ?_
  rintro e w1 ⟨v1, rfl, ho, hb⟩
  obtain ⟨A2, cc2, rfl, _, _⟩ := Kd.R_reads ho
  have hS := (hR.drewN nq).stored hb ho (at_ + n)
  obtain ⟨A1, cc1, d0, d1, d2, e1, e2, hlt1, _, _⟩ := ((hR.drewN nq).below hb).open_
  clear c0 c1 c2 f1 f2 ho
  have hz : at_ ≤ 140737488000000 := by omega
  simp only [List.length_append] at hS
  go_wp2
  go_ret
  exact ⟨rfl, hS.1, (pw_below_drewN (Below.refl _ _) nq).trans hS.2⟩
set_option maxRecDepth 100000 in
set_option maxHeartbeats 4000000 in
theorem rbegins {B g : Nat} {text : ByteArray} {at_ : Int} {bs : List Int} {w : World} (p : ByteArray) (hR : Rdr B w g text at_ bs) (h0 : 0 ≤ at_) (h1 : at_ ≤ text.size) :
    Calls Tryd.prog 38 #[.pointer (some ⟨g, 0, none⟩), .string p] w fun e w' => e = .returned (.bool (decide (((bytesOf text).drop at_.toNat).take p.size = bytesOf p))) ∧ Drawn0 w w' := by
  obtain ⟨A, c, c0, c1, c2, f1, f2, hlt, hc, hC⟩ := hR.open_
  have HT := Lib.hid (show strings_HasPrefix.f (text.extract at_.toNat text.size) p = some (decide (((bytesOf text).drop at_.toNat).take p.size = bytesOf p)) by rw [hasPrefix_eq, bytesOf_drop])
  generalize decide (((bytesOf text).drop at_.toNat).take p.size = bytesOf p) = r at HT ⊢
  have c3b0 := eq_true h0
  have c3b1 : decide (0 ≤ at_) = true := decide_eq_true h0
  have c4b0 := eq_true h1
  have c4b1 : decide (at_ ≤ (text.size : Int)) = true := decide_eq_true h1
  go_enter Tryd.func38, Tryd.ntmps38
  go_wp2_with fail
  go_quiet (first | (go_at_call 62; (with_reducible refine (strings_HasPrefix.calls (text.extract at_.toNat text.size) p r _ HT.out).mono ?_); rintro e w' ⟨rfl, ⟨nd, rfl⟩⟩; (try first | exact ⟨rfl, _, World.drewN_drewN _ _ _⟩ | exact ⟨rfl, _, Eq.trans (World.drewN_drewN _ _ _) (congrArg (World.drewN _) (Nat.add_assoc _ _ _))⟩)))
  go_wp2
  go_ret
  exact ⟨rfl, _, rfl⟩
/-- What digits answers: of n bytes behind place i. -/
def digsAt (l : List Int) (i n : Nat) : Option Int := if i + n ≤ l.length then hexI 0 ((l.drop i).take n) else none
set_option maxRecDepth 100000 in
set_option maxHeartbeats 4000000 in
theorem rdigits {B g : Nat} {text : ByteArray} {at_ : Int} {bs : List Int} {w : World} (i n : Nat) (hn0 : 1 ≤ n) (hn8 : n ≤ 8) (hR : Rdr B w g text at_ bs) (h2 : text.size ≤ 140737488000000) (hi : i ≤ text.size + 100) :
    Calls Tryd.prog 65 #[.pointer (some ⟨g, 0, none⟩), .int .i64 i, .int .i64 n] w fun e w' => e = .returned (.tuple #[.int .i64 ((digsAt (bytesOf text) i n).getD 0), .bool (digsAt (bytesOf text) i n).isSome]) ∧ Rdr B w' g text at_ bs ∧ Below B w w' := by
  obtain ⟨A, c, c0, c1, c2, f1, f2, hlt, hc, hC⟩ := hR.open_
  have hlow := hR.low
  by_cases hlen : i + n ≤ text.size
  · have hsz : (text.extract i (i + n)).size = n := by rw [← size_of, bytesOf_extract, List.length_drop, List.length_take, size_of]; omega
    have hbx : bytesOf (text.extract i (i + n)) = ((bytesOf text).drop i).take n := by rw [bytesOf_extract, List.drop_take, show i + n - i = n by omega]
    have HT := Lib.hid (show esc_Hex.f (text.extract i (i + n)) = some ((digsAt (bytesOf text) i n).getD 0, (digsAt (bytesOf text) i n).isSome) by
      unfold esc_Hex.f digsAt
      rw [hsz, if_neg (by omega), hbx, if_pos (by rw [size_of]; exact hlen)])
    clear hsz hbx
    generalize (digsAt (bytesOf text) i n).getD 0 = x at HT ⊢
    generalize (digsAt (bytesOf text) i n).isSome = ok at HT ⊢
    have g1 : ¬ ((text.size : Int) < (i : Int)) := by omega
    have g2 : ¬ ((text.size : Int) - (i : Int) < (n : Int)) := by omega
    have g3 : (i : Int) ≤ (i : Int) + (n : Int) := by omega
    have g4 : (i : Int) + (n : Int) ≤ (text.size : Int) := by omega
    go_enter Tryd.func65, Tryd.ntmps65
    go_wp2_with fail
    refine (esc_Hex.calls (text.extract i (i + n)) _ _ _ HT.out).mono ?_
    rintro e w1 ⟨rfl, hb⟩
    have hR1 := hR.below hb
    have hB1 := hb.mono hlow
    clear c0 c1 c2 f1 f2 hb
    go_wp2
    go_ret2
    exact ⟨rfl, hR1, hB1⟩
  · have HT := Lib.hid (show digsAt (bytesOf text) i n = none from if_neg (by rw [size_of]; exact hlen))
    by_cases hi2 : text.size < i
    · have g1 : (text.size : Int) < (i : Int) := by omega
      clear hlen
      go_enter Tryd.func65, Tryd.ntmps65
      go_wp2
      go_ret2
      exact ⟨by rw [HT.out]; rfl, hR, Below.refl _ _⟩
    · have g1 : ¬ ((text.size : Int) < (i : Int)) := by omega
      have g2 : ((text.size : Int) - (i : Int) < (n : Int)) := by omega
      clear hlen hi2
      go_enter Tryd.func65, Tryd.ntmps65
      go_wp2
      go_ret2
      exact ⟨by rw [HT.out]; rfl, hR, Below.refl _ _⟩
theorem rdigits_at {B g : Nat} {text : ByteArray} {at_ : Int} {bs : List Int} {w : World} (j m : Int) (i n : Nat) (hj : j = (i : Int)) (hm : m = (n : Int)) (hn0 : 1 ≤ n) (hn8 : n ≤ 8) (hR : Rdr B w g text at_ bs) (h2 : text.size ≤ 140737488000000) (hi : i ≤ text.size + 100) :
    Calls Tryd.prog 65 #[.pointer (some ⟨g, 0, none⟩), .int .i64 j, .int .i64 m] w fun e w' => e = .returned (.tuple #[.int .i64 ((digsAt (bytesOf text) i n).getD 0), .bool (digsAt (bytesOf text) i n).isSome]) ∧ Rdr B w' g text at_ bs ∧ Below B w w' := by
  subst hj
  subst hm
  exact rdigits i n hn0 hn8 hR h2 hi
end Go.Proofs.YtoanbmggffkmgaaDoor.P
end
section
namespace Go.Proofs.YtoanbmggffkmgaaDoor.P
open Go.RowKit Go.Proofs.YtoanbmggffkmgaaDoorW.PrintWords Go.Proofs.YtoanbmggffkmgaaDoorW.PrintLast Go.Proofs.YtoanbmggffkmgaaDoorW.PrintMore
attribute [local go_sem] max2_int min2_int max_two min_two max_three min_three max_four min_four   -- for this text's walks alone
set_option linter.unusedVariables false
set_option linter.unusedSimpArgs false
/-! ### esc_short: function 63 -/
def esc_short.j0 : Nat → Int → Bool → Bool → Option (Int × Bool)
  | 0, _, _, _ => none
  | k + 1, x0, x1, x15 => if x15 = true then (some (47, true)) else (if x0 = 101 then (if x1 = true then (some (27, true)) else (some (0, false))) else (some (0, false)))
def esc_short.f (k : Nat) (a0 : Int) (a1 : Bool) : Option (Int × Bool) := (strings_IndexByte.f (⟨#[34, 92, 98, 102, 110, 114, 116]⟩ : ByteArray) a0).bind fun t137 => (if t137 ≥ 0 then (if 0 ≤ t137 then (if t137 < 7 then (some (wrap64 (bt (⟨#[34, 92, 8, 12, 10, 13, 9]⟩ : ByteArray) t137), true)) else (none)) else (none)) else (if a0 = 47 then (esc_short.j0 k a0 a1 (!a1)) else (esc_short.j0 k a0 a1 false)))
set_option maxHeartbeats 8000000 in
set_option maxRecDepth 100000 in
theorem esc_short.calls (k : Nat) (a0 : Int) (a1 : Bool) (r1 : Int) (r2 : Bool) (w : World) (h : esc_short.f k a0 a1 = some (r1, r2)) :
    Calls Tryd.prog 63 #[.int .u8 a0, .bool a1] w fun e w' => e = .returned (.tuple #[.int .i64 r1, .bool r2]) ∧ Drawn0 w w' := by
  have H : ((strings_IndexByte.f (⟨#[34, 92, 98, 102, 110, 114, 116]⟩ : ByteArray) a0).bind fun t137 => (if t137 ≥ 0 then (if 0 ≤ t137 then (if t137 < 7 then (some (wrap64 (bt (⟨#[34, 92, 8, 12, 10, 13, 9]⟩ : ByteArray) t137), true)) else (none)) else (none)) else (if a0 = 47 then (esc_short.j0 k a0 a1 (!a1)) else (esc_short.j0 k a0 a1 false)))) = some (r1, r2) := h
  clear h
  replace H := Option.bind_eq_some_iff.mp H
  obtain ⟨t137, A30, H⟩ := H
  replace H : (if t137 ≥ 0 then (if 0 ≤ t137 then (if t137 < 7 then (some (wrap64 (bt (⟨#[34, 92, 8, 12, 10, 13, 9]⟩ : ByteArray) t137), true)) else (none)) else (none)) else (if a0 = 47 then (esc_short.j0 k a0 a1 (!a1)) else (esc_short.j0 k a0 a1 false))) = some (r1, r2) := H
  have A3 := Aside0.mk A30
  clear A30
  by_cases c4 : t137 ≥ 0
  · rw [if_pos c4] at H
    have c4b0 : decide (0 ≤ t137) = true := decide_eq_true c4
    clear c4
    by_cases c5 : 0 ≤ t137
    · rw [if_pos c5] at H
      have c5b0 : decide (0 ≤ t137) = true := decide_eq_true c5
      clear c5
      by_cases c6 : t137 < 7
      · rw [if_pos c6] at H
        have c6b0 : decide (t137 < 7) = true := decide_eq_true c6
        clear c6
        simp only [Option.some.injEq, Prod.mk.injEq] at H
        obtain ⟨rfl, rfl⟩ := H
        go_enter Tryd.func63, Tryd.ntmps63
        go_wp2_with (first | ((with_reducible refine gate_callee (f := 56) rfl ?_); refine goesL_ (some 8) rfl rfl Tryd.func56 (by kernel_rfl) rfl #[.string (⟨#[34, 92, 98, 102, 110, 114, 116]⟩ : ByteArray), .int .u8 a0] rfl (by (try simp only [List.map_toArray, List.map_cons, List.map_nil]); first | done | rfl | (simp only [List.length_drop, List.length_take]; rfl)) ?_; (with_reducible refine (strings_IndexByte.calls (⟨#[34, 92, 98, 102, 110, 114, 116]⟩ : ByteArray) a0 t137 _ A3.out).mono ?_); rintro e w' ⟨rfl, ⟨nd, rfl⟩⟩; refine ⟨_, rfl, ?_⟩; have p7 : 0 ≤ (t137 : Int) := of_decide_eq_true (by first | (with_reducible assumption) | assumption); have q7 : t137 < (7 : Int) := of_decide_eq_true (by first | (with_reducible assumption) | assumption); have hx7 := bt_at (⟨#[34, 92, 8, 12, 10, 13, 9]⟩ : ByteArray) t137; replace p7 := eq_true p7; replace q7 := eq_true q7))
        go_ret2
        exact ⟨by first | rfl | (simp; done) | (simp [*]; done), by repeat (first | exact Drawn0.refl _ | apply Drawn0.step)⟩
      · rw [if_neg c6] at H
        exact absurd H (by simp)
    · rw [if_neg c5] at H
      exact absurd H (by simp)
  · rw [if_neg c4] at H
    have c4b0 : decide (0 ≤ t137) = false := decide_eq_false c4
    clear c4
    have HC8 := Aside0.mk H
    clear H
    go_enter Tryd.func63, Tryd.ntmps63
    go_upto_region 4 with (first | ((with_reducible refine gate_callee (f := 56) rfl ?_); refine goesL_ (some 8) rfl rfl Tryd.func56 (by kernel_rfl) rfl #[.string (⟨#[34, 92, 98, 102, 110, 114, 116]⟩ : ByteArray), .int .u8 a0] rfl (by (try simp only [List.map_toArray, List.map_cons, List.map_nil]); first | done | rfl | (simp only [List.length_drop, List.length_take]; rfl)) ?_; (with_reducible refine (strings_IndexByte.calls (⟨#[34, 92, 98, 102, 110, 114, 116]⟩ : ByteArray) a0 t137 _ A3.out).mono ?_); rintro e w' ⟨rfl, ⟨nd, rfl⟩⟩; refine ⟨_, rfl, ?_⟩))
    (try simp only [Act.put, List.setIfInBounds_toArray, List.set_cons_zero, List.set_cons_succ])
    go_cut [15] (fun v15 wc => ∃ (kq : Nat) (x15_7 : Bool), v15 = .bool x15_7 ∧ Aside0 (esc_short.j0 kq a0 a1 x15_7 = some (r1, r2)) ∧ Aside0 (kq ≤ k) ∧ Drawn0 w wc)
    case first =>
      have H := HC8.out
      clear HC8
      by_cases c9 : a0 = 47
      · rw [if_pos c9] at H
        have c9b0 : (a0 == 47) = true := beq_iff_eq.mpr c9
        have c9b1 : (a0 != 47) = false := bne_eq_false_iff_eq.mpr c9
        clear c9
        (first | rw [c9b0] | (simp only [i64_w, i32_w]; rw [c9b0]) | skip)
        have H' := Aside0.mk H
        clear H
        go_wp2
        go_meet
        case rel => exact ⟨_, (!a1), (by first | rfl | (simp; done) | (simp [*]; done)), H', ⟨by first | omega | exact Nat.le_refl _⟩, by repeat (first | exact Drawn0.refl _ | apply Drawn0.step)⟩
      · rw [if_neg c9] at H
        have c9b0 : (a0 == 47) = false := beq_eq_false_iff_ne.mpr c9
        have c9b1 : (a0 != 47) = true := bne_iff_ne.mpr c9
        (first | rw [c9b0] | (simp only [i64_w, i32_w]; rw [c9b0]) | skip)
        have H' := Aside0.mk H
        clear H
        go_wp2
        go_meet
        case rel => exact ⟨_, (false), (by first | rfl | (simp; done) | (simp [*]; done)), H', ⟨by first | omega | exact Nat.le_refl _⟩, by repeat (first | exact Drawn0.refl _ | apply Drawn0.step)⟩
    case rest =>
      clear HC8
      try clear p2
      try clear c4
      try clear c4b0
      try clear c5
      try clear c5b0
      try clear c6
      try clear c6b0
      try clear p6
      try clear p7
      try clear q7
      try clear hx7
      try clear c9
      try clear c9b0
      try clear c9b1
      try clear p7
      try clear q7
      obtain ⟨kq, x15_7, rfl, HA, HJ7, ⟨mc7, rfl⟩⟩ := hcut
      cases kq with
      | zero => exact absurd HA.out (by simp [esc_short.j0])
      | succ kj7 =>
        have H := HA.out
        clear HA
        simp only [esc_short.j0] at H
        by_cases c10 : x15_7 = true
        · subst c10
          have H1 : (some (47, true)) = some (r1, r2) := by rw [if_pos rfl] at H; exact H
          clear H
          have H := H1
          clear H1
          simp only [Option.some.injEq, Prod.mk.injEq] at H
          obtain ⟨rfl, rfl⟩ := H
          go_wp2
          go_ret2
          exact ⟨by first | rfl | (simp; done) | (simp [*]; done), by repeat (first | exact Drawn0.refl _ | apply Drawn0.step)⟩
        · replace c10 := Bool.eq_false_iff.mpr c10
          subst c10
          have H1 : (if a0 = 101 then (if a1 = true then (some (27, true)) else (some (0, false))) else (some (0, false))) = some (r1, r2) := by rw [if_neg (show ¬ (false = true) by decide)] at H; exact H
          clear H
          have H := H1
          clear H1
          by_cases c11 : a0 = 101
          · rw [if_pos c11] at H
            have c11b0 : (a0 == 101) = true := beq_iff_eq.mpr c11
            have c11b1 : (a0 != 101) = false := bne_eq_false_iff_eq.mpr c11
            clear c11
            by_cases c12 : a1 = true
            · subst c12
              have H1 : (some (27, true)) = some (r1, r2) := by rw [if_pos rfl] at H; exact H
              clear H
              have H := H1
              clear H1
              simp only [Option.some.injEq, Prod.mk.injEq] at H
              obtain ⟨rfl, rfl⟩ := H
              go_wp2
              go_ret2
              exact ⟨by first | rfl | (simp; done) | (simp [*]; done), by repeat (first | exact Drawn0.refl _ | apply Drawn0.step)⟩
            · replace c12 := Bool.eq_false_iff.mpr c12
              subst c12
              have H1 : (some (0, false)) = some (r1, r2) := by rw [if_neg (show ¬ (false = true) by decide)] at H; exact H
              clear H
              have H := H1
              clear H1
              simp only [Option.some.injEq, Prod.mk.injEq] at H
              obtain ⟨rfl, rfl⟩ := H
              go_wp2
              go_ret2
              exact ⟨by first | rfl | (simp; done) | (simp [*]; done), by repeat (first | exact Drawn0.refl _ | apply Drawn0.step)⟩
          · rw [if_neg c11] at H
            have c11b0 : (a0 == 101) = false := beq_eq_false_iff_ne.mpr c11
            have c11b1 : (a0 != 101) = true := bne_iff_ne.mpr c11
            simp only [Option.some.injEq, Prod.mk.injEq] at H
            obtain ⟨rfl, rfl⟩ := H
            go_wp2
            go_ret2
            exact ⟨by first | rfl | (simp; done) | (simp [*]; done), by repeat (first | exact Drawn0.refl _ | apply Drawn0.step)⟩
end Go.Proofs.YtoanbmggffkmgaaDoor.P
end
section
namespace Go.Proofs.YtoanbmggffkmgaaDoor.La
open Go.RowKit Go.Proofs.YtoanbmggffkmgaaDoor.P Go.Proofs.YtoanbmggffkmgaaDoorW.PrintWords Go.Proofs.YtoanbmggffkmgaaDoorW.PrintLast Go.Proofs.YtoanbmggffkmgaaDoorW.PrintMore
/-- The letter of a short escape of JSON. -/
def shortJ (c : Int) : Option Int := if c = 34 then some 34 else if c = 92 then some 92 else if c = 98 then some 8 else if c = 102 then some 12 else if c = 110 then some 10 else if c = 114 then some 13 else if c = 116 then some 9 else if c = 47 then some 47 else none
theorem shortJ_fin : ∀ b : Fin 256, esc_short.f 3 (b.val : Int) false = some ((shortJ b.val).getD 0, (shortJ b.val).isSome) := by decide +kernel
theorem short_eq {c : Int} (h0 : 0 ≤ c) (h1 : c < 256) : esc_short.f 3 c false = some ((shortJ c).getD 0, (shortJ c).isSome) := by
  obtain ⟨n, rfl⟩ := Int.eq_ofNat_of_zero_le h0
  exact shortJ_fin ⟨n, by omega⟩
theorem shortJ_good {c x : Int} (h : shortJ c = some x) : good x := by
  unfold shortJ at h
  (repeat' split at h) <;> first | (cases h; done) | (obtain rfl := Option.some.inj h; exact good_iff.2 (by omega))
/-- What an escape of JSON says, and how many bytes it has. -/
def jesc (l : List Int) : Option (Int × Nat) :=
  if l.length ≤ 1 then none
  else if (shortJ (l.getD 1 0)).isSome = true then some ((shortJ (l.getD 1 0)).getD 0, 2)
  else if l.getD 1 0 ≠ 117 ∨ (digsAt l 2 4).isSome = false then none
  else if (digsAt l 2 4).getD 0 < 55296 ∨ (digsAt l 2 4).getD 0 ≥ 56320 then (if good ((digsAt l 2 4).getD 0) then some ((digsAt l 2 4).getD 0, 6) else none)
  else if (digsAt l 8 4).isSome = false ∨ (l.drop 6).take 2 ≠ [92, 117] ∨ (digsAt l 8 4).getD 0 < 56320 ∨ (digsAt l 8 4).getD 0 > 57343 then none
  else some (65536 + ((digsAt l 2 4).getD 0 - 55296) * 1024 + ((digsAt l 8 4).getD 0 - 56320), 12)
theorem digsAt_drop (l : List Int) {i : Nat} (hi : i ≤ l.length) (j n : Nat) : digsAt (l.drop i) j n = digsAt l (i + j) n := by
  unfold digsAt
  rw [List.length_drop, List.drop_drop]
  by_cases h : j + n ≤ l.length - i
  · rw [if_pos h, if_pos (by omega)]
  · by_cases h2 : i + j + n ≤ l.length
    · omega
    · rw [if_neg h, if_neg h2]
theorem hexI_bound {l : List Int} {x : Int} (x0 : 0 ≤ x) {v : Int} (h : hexI x l = some v) : 0 ≤ v ∧ v < (x + 1) * 16 ^ l.length := by
  induction l generalizing x with
  | nil =>
    simp only [hexI] at h
    obtain rfl := Option.some.inj h
    simp
    omega
  | cons b l ih =>
    simp only [hexI] at h
    obtain ⟨d, hd, h⟩ := Option.bind_eq_some_iff.1 h
    have hl := hexVal_lt hd
    have h2 := ih (x := x * 16 + d) (by omega) h
    refine ⟨h2.1, Int.lt_of_lt_of_le h2.2 ?_⟩
    rw [List.length_cons, Int.pow_succ, Int.mul_comm (16 ^ l.length) 16, ← Int.mul_assoc]
    exact Int.mul_le_mul_of_nonneg_right (by omega) (Int.pow_nonneg (by decide))
theorem digs4_bound (l : List Int) (i : Nat) : 0 ≤ (digsAt l i 4).getD 0 ∧ (digsAt l i 4).getD 0 < 65536 := by
  cases h : digsAt l i 4 with
  | none => simp
  | some v =>
    unfold digsAt at h
    split at h
    · rename_i hl
      have := hexI_bound (Int.le_refl 0) h
      rw [List.length_take, List.length_drop, Nat.min_eq_left (by omega)] at this
      simpa using this
    · cases h
end Go.Proofs.YtoanbmggffkmgaaDoor.La
namespace Go.Proofs.YtoanbmggffkmgaaDoor.P
open Go.RowKit Go.Proofs.YtoanbmggffkmgaaDoor.La Go.Proofs.YtoanbmggffkmgaaDoorW.PrintWords Go.Proofs.YtoanbmggffkmgaaDoorW.PrintLast Go.Proofs.YtoanbmggffkmgaaDoorW.PrintMore
theorem getD_drop (l : List Int) (i j : Nat) : (l.drop i).getD j 0 = l.getD (i + j) 0 := by
  simp [List.getD_eq_getElem?_getD, List.getElem?_drop]
/-- What escape leaves. -/
def EscPost (B g : Nat) (text : ByteArray) (i : Nat) (bs : List Int) (w : World) (e : Ending) (w' : World) : Prop :=
  e = .returned (.bool (jesc ((bytesOf text).drop i)).isSome) ∧
  Rdr B w' g text (match jesc ((bytesOf text).drop i) with | none => (i : Int) | some p => (i : Int) + p.2) (match jesc ((bytesOf text).drop i) with | none => bs | some p => bs ++ enc p.1) ∧ Below B w w'
set_option maxRecDepth 100000 in
set_option maxHeartbeats 8000000 in
theorem resc_short {B g : Nat} {text : ByteArray} {i : Nat} {bs : List Int} {w : World} (hR : Rdr B w g text (i : Int) bs) (hl : bs.length ≤ 140737488000000) (h1 : i < text.size) (h2 : text.size ≤ 140737488000000) (hj : i + 1 = text.size ∨ (i + 1 < text.size ∧ (shortJ (bt text (i + 1))).isSome = true)) :
    Calls Tryd.prog 39 #[.pointer (some ⟨g, 0, none⟩)] w (EscPost B g text i bs w) := by
  obtain ⟨A, c, c0, c1, c2, f1, f2, hlt, hc, hC⟩ := hR.open_
  have hlow := hR.low
  have hlen : ((bytesOf text).drop i).length = text.size - i := by rw [List.length_drop, size_of]
  rcases hj with hj | ⟨hj, hs⟩
  · have HJ := Lib.hid (show jesc ((bytesOf text).drop i) = none from if_pos (by omega))
    have e1 : ((i : Int) + 1 == (text.size : Int)) = true := beq_iff_eq.2 (by omega)
    clear hlen hj
    go_enter Tryd.func39, Tryd.ntmps39
    go_wp2_with fail
    go_quiet (fail)
    go_wp2
    go_ret
    exact ⟨by rw [HJ.out]; rfl, by rw [HJ.out]; exact hR.drewN _, pw_below_drewN (Below.refl _ _) _⟩
  · have e1 : ((i : Int) + 1 == (text.size : Int)) = false := beq_eq_false_iff_ne.2 (by omega)
    have hbt : bt text ((i : Int) + 1) = ((bytesOf text).drop i).getD 1 0 := by rw [bt_get, getD_drop]; congr 1
    have hbr := bt_range text ((i : Int) + 1)
    have HS := Lib.hid (show esc_short.f 3 (bt text ((i : Int) + 1)) false = some ((shortJ (bt text ((i : Int) + 1))).getD 0, true) by rw [short_eq (by omega) (by omega), hs])
    obtain ⟨x, hx⟩ := Option.isSome_iff_exists.1 hs
    have hg := shortJ_good hx
    have HJ := Lib.hid (show jesc ((bytesOf text).drop i) = some (x, 2) by unfold jesc; rw [if_neg (by omega), ← hbt, hx]; rfl)
    rw [hx] at HS
    clear hlen hs hx hbt
    have p1 := eq_true (show (0 : Int) ≤ (i : Int) + 1 by omega)
    have qi1 := eq_true (show (i : Int) + 1 < (text.size : Int) by omega)
    have q1 := eq_true (show ((i : Int) + 1).toNat < text.size by omega)
    have q2 := eq_true hj
    have hx1 : ∀ h : i + 1 < text.size, ((text[i + 1]'h).toNat : Int) = bt text ((i : Int) + 1) := fun h => bt_at text ((i : Int) + 1) (by omega)
    go_enter Tryd.func39, Tryd.ntmps39
    go_wp2_with fail
    go_quiet (fail)
    go_wp2_with fail
    go_quiet (fail)
    go_wp2_with fail
    refine (esc_short.calls 3 _ _ _ _ _ HS.out).mono ?_
    rintro e w1 ⟨rfl, n1, rfl⟩
    go_wp2_with fail
    refine (rput_good 2 hg (hR.drewN _) hl (by omega) (by omega) (by decide) (by decide)).mono ?_
    rintro e w2 ⟨rfl, hR2, hB2⟩
    clear c0 c1 c2 f1 f2
    go_wp2
    go_ret
    exact ⟨by rw [HJ.out]; rfl, by rw [HJ.out]; exact hR2, (pw_below_drewN (Below.refl _ _) _).trans hB2⟩
set_option maxRecDepth 100000 in
set_option maxHeartbeats 16000000 in
theorem resc_hex {B g : Nat} {text : ByteArray} {i : Nat} {bs : List Int} {w : World} (hR : Rdr B w g text (i : Int) bs) (hl : bs.length ≤ 140737488000000) (h2 : text.size ≤ 140737488000000) (hj : i + 1 < text.size) (hs : shortJ (bt text (i + 1)) = none) :
    Calls Tryd.prog 39 #[.pointer (some ⟨g, 0, none⟩)] w (EscPost B g text i bs w) := by
  obtain ⟨A, c, c0, c1, c2, f1, f2, hlt, hc, hC⟩ := hR.open_
  have hlow := hR.low
  have hlen : ((bytesOf text).drop i).length = text.size - i := by rw [List.length_drop, size_of]
  have e1 : ((i : Int) + 1 == (text.size : Int)) = false := beq_eq_false_iff_ne.2 (by omega)
  have hbt : bt text ((i : Int) + 1) = ((bytesOf text).drop i).getD 1 0 := by rw [bt_get, getD_drop]; congr 1
  have hbr := bt_range text ((i : Int) + 1)
  have HS := Lib.hid (show esc_short.f 3 (bt text ((i : Int) + 1)) false = some (0, false) by rw [short_eq (by omega) (by omega), hs]; rfl)
  have hd2 : digsAt ((bytesOf text).drop i) 2 4 = digsAt (bytesOf text) (i + 2) 4 := digsAt_drop _ (by rw [size_of]; omega) _ _
  have hd8 : digsAt ((bytesOf text).drop i) 8 4 = digsAt (bytesOf text) (i + 8) 4 := digsAt_drop _ (by rw [size_of]; omega) _ _
  have hJ : jesc ((bytesOf text).drop i) =
      if bt text ((i : Int) + 1) ≠ 117 ∨ (digsAt (bytesOf text) (i + 2) 4).isSome = false then none
      else if (digsAt (bytesOf text) (i + 2) 4).getD 0 < 55296 ∨ (digsAt (bytesOf text) (i + 2) 4).getD 0 ≥ 56320 then (if good ((digsAt (bytesOf text) (i + 2) 4).getD 0) then some ((digsAt (bytesOf text) (i + 2) 4).getD 0, 6) else none)
      else if (digsAt (bytesOf text) (i + 8) 4).isSome = false ∨ (((bytesOf text).drop i).drop 6).take 2 ≠ [92, 117] ∨ (digsAt (bytesOf text) (i + 8) 4).getD 0 < 56320 ∨ (digsAt (bytesOf text) (i + 8) 4).getD 0 > 57343 then none
      else some (65536 + ((digsAt (bytesOf text) (i + 2) 4).getD 0 - 55296) * 1024 + ((digsAt (bytesOf text) (i + 8) 4).getD 0 - 56320), 12) := by
    unfold jesc
    rw [if_neg (by omega), ← hbt, hs, hd2, hd8, if_neg (by decide)]
  have hx4 := digs4_bound (bytesOf text) (i + 2)
  have hy4 := digs4_bound (bytesOf text) (i + 8)
  have p1 := eq_true (show (0 : Int) ≤ (i : Int) + 1 by omega)
  have qi1 := eq_true (show (i : Int) + 1 < (text.size : Int) by omega)
  have q1 := eq_true (show ((i : Int) + 1).toNat < text.size by omega)
  have q2 := eq_true hj
  have hx1 : ∀ h : i + 1 < text.size, ((text[i + 1]'h).toNat : Int) = bt text ((i : Int) + 1) := fun h => bt_at text ((i : Int) + 1) (by omega)
  clear hlen hs hbt hd2 hd8
  have HJ := Lib.hid hJ
  clear hJ
  have HD := fun (w : World) (h : Rdr B w g text (i : Int) bs) => rdigits_at ((i : Int) + 2) 4 (i + 2) 4 (by omega) (by omega) (by decide) (by decide) h h2 (by omega)
  have HD8 := fun (w : World) (h : Rdr B w g text (i : Int) bs) => rdigits_at ((i : Int) + 2 + 4 + 2) 4 (i + 8) 4 (by omega) (by omega) (by decide) (by decide) h h2 (by omega)
  have hok2 : (digsAt (bytesOf text) (i + 8) 4).isSome = true → i + 12 ≤ text.size := by
    intro h
    unfold digsAt at h
    split at h
    · rename_i h3; rw [size_of] at h3; omega
    · cases h
  generalize (digsAt (bytesOf text) (i + 8) 4).isSome = ok2 at HD8 HJ hok2
  generalize (digsAt (bytesOf text) (i + 8) 4).getD 0 = y at HD8 HJ hy4
  generalize (digsAt (bytesOf text) (i + 2) 4).isSome = ok at HD HJ
  generalize (digsAt (bytesOf text) (i + 2) 4).getD 0 = x at HD HJ hx4
  by_cases hok : bt text ((i : Int) + 1) = 117 ∧ ok = true
  · obtain ⟨k1, rfl⟩ := hok
    have HDh := Lib.hid HD
    have HD8h := Lib.hid HD8
    have e2 : (bt text ((i : Int) + 1) != 117) = false := by rw [k1]; rfl
    have HJ1 := Lib.hid (HJ.out.trans (if_neg (by rw [k1]; simp)))
    clear HJ HD k1
    by_cases hx : x < 55296 ∨ x ≥ 56320
    · have HJ2 := Lib.hid (HJ1.out.trans (if_pos hx))
      clear HJ1 HD8 HD8h hy4
      have hx' : x < 55296 ∨ (¬ x < 55296 ∧ 56320 ≤ x) := by omega
      clear hx
      generalize bt text ((i : Int) + 1) = b at HS hbr hx1 e2
      by_cases hg : good x
      · have HN := Lib.hid (HJ2.out.trans (if_pos hg))
        clear HJ2
        rcases hx' with g1 | ⟨g1, g2⟩
        all_goals
          go_enter Tryd.func39, Tryd.ntmps39
          go_wp2_with fail
          go_quiet (fail)
          go_wp2_with fail
          go_quiet (fail)
          go_wp2_with fail
          refine (esc_short.calls 3 _ _ _ _ _ HS.out).mono ?_
          rintro e w1 ⟨rfl, n1, rfl⟩
          go_wp2_with fail
          refine (HDh.out _ (hR.drewN _)).mono ?_
          rintro e w2 ⟨rfl, hR2, hB2⟩
          clear c0 c1 c2 f1 f2
          go_wp2_with fail
          refine (rput_good 6 hg hR2 hl (by omega) (by omega) (by decide) (by decide)).mono ?_
          rintro e w3 ⟨rfl, hR3, hB3⟩
          go_wp2
          go_ret
          exact ⟨by rw [HN.out]; rfl, by rw [HN.out]; exact hR3, ((pw_below_drewN (Below.refl _ _) _).trans hB2).trans hB3⟩
      · have HN := Lib.hid (HJ2.out.trans (if_neg hg))
        clear HJ2
        rcases hx' with g1 | ⟨g1, g2⟩
        all_goals
          go_enter Tryd.func39, Tryd.ntmps39
          go_wp2_with fail
          go_quiet (fail)
          go_wp2_with fail
          go_quiet (fail)
          go_wp2_with fail
          refine (esc_short.calls 3 _ _ _ _ _ HS.out).mono ?_
          rintro e w1 ⟨rfl, n1, rfl⟩
          go_wp2_with fail
          refine (HDh.out _ (hR.drewN _)).mono ?_
          rintro e w2 ⟨rfl, hR2, hB2⟩
          clear c0 c1 c2 f1 f2
          go_wp2_with fail
          refine (rput_bad 6 hg hR2 hl (by omega) (by omega) (by decide) (by decide)).mono ?_
          rintro e w3 ⟨rfl, hR3, hB3⟩
          go_wp2
          go_ret
          exact ⟨by rw [HN.out]; rfl, by rw [HN.out]; exact hR3, ((pw_below_drewN (Below.refl _ _) _).trans hB2).trans hB3⟩
    · have HJ2 := Lib.hid (HJ1.out.trans (if_neg hx))
      have g1 : ¬ x < 55296 := by omega
      have g2 : ¬ 56320 ≤ x := by omega
      clear HJ1 hx HD8
      generalize bt text ((i : Int) + 1) = b at HS hbr hx1 e2
      go_enter Tryd.func39, Tryd.ntmps39
      go_wp2_with fail
      go_quiet (fail)
      go_wp2_with fail
      go_quiet (fail)
      go_wp2_with fail
      refine (esc_short.calls 3 _ _ _ _ _ HS.out).mono ?_
      rintro e w1 ⟨rfl, n1, rfl⟩
      go_wp2_with fail
      refine (HDh.out _ (hR.drewN _)).mono ?_
      rintro e w2 ⟨rfl, hR2, hB2⟩
      obtain ⟨A9, c9, d0, d1, d2, _, _, _, _, _⟩ := hR2.open_
      clear c0 c1 c2 f1 f2
      go_wp2_with fail
      refine (HD8h.out _ hR2).mono ?_
      rintro e w3 ⟨rfl, hR3, hB3⟩
      obtain ⟨A8, c8, b0, b1, b2, _, _, _, _, _⟩ := hR3.open_
      clear d0 d1 d2
      cases ok2
      · have HN := Lib.hid (HJ2.out.trans (if_pos (.inl rfl)))
        clear hok2
        go_wp2
        go_ret
        exact ⟨by rw [HN.out]; rfl, by rw [HN.out]; exact hR3, ((pw_below_drewN (Below.refl _ _) _).trans hB2).trans hB3⟩
      · have h12 := hok2 rfl
        clear hok2
        have hsl : ∀ W : World, (Instr.slice 9 (.string text) (some (.int .i64 ((i : Int) + 2 + 4))) (some (.int .i64 ((i : Int) + 2 + 4 + 2))) none).run Tryd.prog W = .ok (.string (text.extract (i + 6) (i + 8))) W := by
          intro W
          have := run_slice_string (P := Tryd.prog) W 9 text .i64 .i64 ((i : Int) + 2 + 4) ((i : Int) + 2 + 4 + 2) Tryd.underlying9 (by omega) (by omega) (by omega)
          rw [this]
          rfl
        have hs2 : ((text.extract (i + 6) (i + 8)).toList = ([92, 117] : List UInt8)) ↔ (((bytesOf text).drop i).drop 6).take 2 = [92, 117] := by
          have e : bytesOf (text.extract (i + 6) (i + 8)) = (((bytesOf text).drop i).drop 6).take 2 := by
            rw [bytesOf_extract, List.drop_take, List.drop_drop, show i + 8 - (i + 6) = 2 by omega]
          rw [← e]
          have h9 := toList_eq_iff (text.extract (i + 6) (i + 8)) ⟨#[92, 117]⟩
          rw [toList_data' ⟨#[92, 117]⟩] at h9
          exact h9
        by_cases hq : (text.extract (i + 6) (i + 8)).toList = ([92, 117] : List UInt8)
        · have hq2 := hs2.1 hq
          by_cases y1 : y < 56320
          · have HN := Lib.hid (HJ2.out.trans (if_pos (.inr (.inr (.inl y1)))))
            clear hs2 hq2
            go_wp2
            go_ret
            exact ⟨by rw [HN.out]; rfl, by rw [HN.out]; exact hR3, ((pw_below_drewN (Below.refl _ _) _).trans hB2).trans hB3⟩
          · by_cases y2 : 57343 < y
            · have HN := Lib.hid (HJ2.out.trans (if_pos (.inr (.inr (.inr y2)))))
              clear hs2 hq2
              go_wp2
              go_ret
              exact ⟨by rw [HN.out]; rfl, by rw [HN.out]; exact hR3, ((pw_below_drewN (Below.refl _ _) _).trans hB2).trans hB3⟩
            · have HN := Lib.hid (HJ2.out.trans (if_neg (by
                intro h
                rcases h with h | h | h | h
                · cases h
                · exact h hq2
                · exact y1 h
                · exact y2 h)))
              have hg : good (65536 + (x - 55296) * 1024 + (y - 56320)) := good_iff.2 (by omega)
              clear hs2 hq2
              go_wp2_with fail
              refine (rput_good 12 hg hR3 hl (by omega) (by omega) (by decide) (by decide)).mono ?_
              rintro e w4 ⟨rfl, hR4, hB4⟩
              go_wp2
              go_ret
              exact ⟨by rw [HN.out]; rfl, by rw [HN.out]; exact hR4, (((pw_below_drewN (Below.refl _ _) _).trans hB2).trans hB3).trans hB4⟩
        · have HN := Lib.hid (HJ2.out.trans (if_pos (.inr (.inl (fun h => hq (hs2.2 h))))))
          clear hs2
          go_wp2
          go_ret
          exact ⟨by rw [HN.out]; rfl, by rw [HN.out]; exact hR3, ((pw_below_drewN (Below.refl _ _) _).trans hB2).trans hB3⟩
  · have HN := Lib.hid (show jesc ((bytesOf text).drop i) = none by
      rw [HJ.out, if_pos]
      by_cases h : bt text ((i : Int) + 1) = 117
      · right; cases ok
        · rfl
        · exact absurd ⟨h, rfl⟩ hok
      · exact .inl h)
    have k1 : (bt text ((i : Int) + 1) != 117) = true ∨ ((bt text ((i : Int) + 1) != 117) = false ∧ ok = false) := by
      by_cases h : bt text ((i : Int) + 1) = 117
      · right
        refine ⟨by rw [h]; rfl, ?_⟩
        cases ok
        · rfl
        · exact absurd ⟨h, rfl⟩ hok
      · left; exact bne_iff_ne.2 h
    have HDh := Lib.hid HD
    clear HJ hok HD HD8 hx4 hy4
    generalize bt text ((i : Int) + 1) = b at HS hbr hx1 k1
    rcases k1 with k1 | ⟨k1, rfl⟩
    all_goals
      go_enter Tryd.func39, Tryd.ntmps39
      go_wp2_with fail
      go_quiet (fail)
      go_wp2_with fail
      go_quiet (fail)
      go_wp2_with fail
      refine (esc_short.calls 3 _ _ _ _ _ HS.out).mono ?_
      rintro e w1 ⟨rfl, n1, rfl⟩
      go_wp2_with fail
      refine (HDh.out _ (hR.drewN _)).mono ?_
      rintro e w2 ⟨rfl, hR2, hB2⟩
      clear c0 c1 c2 f1 f2
      go_wp2
      go_ret
      exact ⟨by rw [HN.out]; rfl, by rw [HN.out]; exact hR2, (pw_below_drewN (Below.refl _ _) _).trans hB2⟩
theorem resc {B g : Nat} {text : ByteArray} {i : Nat} {bs : List Int} {w : World} (hR : Rdr B w g text (i : Int) bs) (hl : bs.length ≤ 140737488000000) (h1 : i < text.size) (h2 : text.size ≤ 140737488000000) :
    Calls Tryd.prog 39 #[.pointer (some ⟨g, 0, none⟩)] w (EscPost B g text i bs w) := by
  by_cases hj : i + 1 = text.size
  · exact resc_short hR hl h1 h2 (.inl hj)
  · cases hs : shortJ (bt text (i + 1)) with
    | none => exact resc_hex hR hl h2 (by omega) hs
    | some x => exact resc_short hR hl h1 h2 (.inr ⟨by omega, by rw [hs]; rfl⟩)
end Go.Proofs.YtoanbmggffkmgaaDoor.P
end
section
namespace Go.Proofs.YtoanbmggffkmgaaDoor.P
open Go.RowKit Go.Proofs.YtoanbmggffkmgaaDoorW.PrintWords Go.Proofs.YtoanbmggffkmgaaDoorW.PrintLast Go.Proofs.YtoanbmggffkmgaaDoorW.PrintMore
attribute [local go_sem] max2_int min2_int max_two min_two max_three min_three max_four min_four   -- for this text's walks alone
set_option linter.unusedVariables false
set_option linter.unusedSimpArgs false
/-- A state of type 63 at block g of W; what its slices lead to came in by w0. -/
def IsS63 (w0 W : World) (g : Nat) (f0 : ByteArray) (f1 : Int) (f2 : List Int) : Prop := ∃ A2 c2, W.heap[g]? = some (.cells #[.string f0, .int .i64 f1, .slice A2 f2.length c2] 63 (0, 0)) ∧ w0.heap.size ≤ g ∧ Kd.C (Kd.int .u8) w0 A2 f2.length f2
theorem IsS63.grown {w0 W : World} {g : Nat} {f0 : ByteArray} {f1 : Int} {f2 : List Int} {W1 : World} {row : Option Nat} (h : IsS63 w0 W g f0 f1 f2) (hw : W.grownBy W1 row) (hne : some g ≠ row) : IsS63 w0 W1 g f0 f1 f2 := by
  obtain ⟨A2, c2, hb, hg, hr2⟩ := h
  exact ⟨A2, c2, blk_grown hb hw hne, hg, hr2⟩
theorem IsS63.below {w0 W : World} {g : Nat} {f0 : ByteArray} {f1 : Int} {f2 : List Int} {W1 : World} (h : IsS63 w0 W g f0 f1 f2) (hw : Below W.heap.size W W1) : IsS63 w0 W1 g f0 f1 f2 := h.grown (grown_of_below hw none) (by simp)
theorem IsS63.drewN {w0 W : World} {g : Nat} {f0 : ByteArray} {f1 : Int} {f2 : List Int} (h : IsS63 w0 W g f0 f1 f2) (m : Nat) : IsS63 w0 (W.drewN m) g f0 f1 f2 := h
theorem IsS63.drew {w0 W : World} {g : Nat} {f0 : ByteArray} {f1 : Int} {f2 : List Int} (h : IsS63 w0 W g f0 f1 f2) : IsS63 w0 W.drew g f0 f1 f2 := h
theorem IsS63.at_ {w0 W : World} {g : Nat} {f0 : ByteArray} {f1 : Int} {f2 : List Int} {w' : World} {m : Nat} (hq : W.drewN m = w') (h : IsS63 w0 W g f0 f1 f2) : IsS63 w0 w' g f0 f1 f2 := by subst hq; exact IsS63.drewN h m
end Go.Proofs.YtoanbmggffkmgaaDoor.P
end
section
namespace Go.Proofs.YtoanbmggffkmgaaDoor.La
open Go.RowKit Go.Proofs.YtoanbmggffkmgaaDoor.P Go.Proofs.YtoanbmggffkmgaaDoorW.PrintWords Go.Proofs.YtoanbmggffkmgaaDoorW.PrintLast Go.Proofs.YtoanbmggffkmgaaDoorW.PrintMore
/-- What a JSON string says from byte i on, acc being read: is it whole, its bytes, and where it ends or is wrong. -/
def jbody (L : List Int) : Nat → Nat → List Int → Bool × List Int × Nat
  | 0, i, _ => (false, [], i)
  | k + 1, i, acc =>
    if L.length ≤ i then (false, [], L.length)
    else if L.getD i 0 = 34 then (true, acc, i + 1)
    else if L.getD i 0 < 32 then (false, [], i)
    else if L.getD i 0 = 92 then (match jesc (L.drop i) with | none => (false, [], i) | some p => jbody L k (i + p.2) (acc ++ enc p.1))
    else if (tk (L.drop i)).2 > 0 then jbody L k (i + (tk (L.drop i)).2.toNat) (acc ++ enc0 (tk (L.drop i)).1)
    else (false, [], i)
theorem digsAt_len {l : List Int} {i n : Nat} (h : (digsAt l i n).isSome = true) : i + n ≤ l.length := by
  unfold digsAt at h
  split at h
  · assumption
  · cases h
theorem jesc_len {l : List Int} {p : Int × Nat} (h : jesc l = some p) : 2 ≤ p.2 ∧ p.2 ≤ l.length ∧ p.2 ≤ 12 := by
  unfold jesc at h
  split at h
  · cases h
  · rename_i h1
    split at h
    · obtain rfl := Option.some.inj h
      exact ⟨Nat.le_refl _, by show 2 ≤ _; omega, by show 2 ≤ 12; decide⟩
    · split at h
      · cases h
      · rename_i h2
        have h3 : (digsAt l 2 4).isSome = true := by
          cases hd : (digsAt l 2 4).isSome
          · exact absurd (.inr hd) h2
          · rfl
        have h4 := digsAt_len h3
        split at h
        · split at h
          · obtain rfl := Option.some.inj h
            exact ⟨by show 2 ≤ 6; decide, by show 6 ≤ _; omega, by show 6 ≤ 12; decide⟩
          · cases h
        · split at h
          · cases h
          · rename_i h5
            have h6 : (digsAt l 8 4).isSome = true := by
              cases hd : (digsAt l 8 4).isSome
              · exact absurd (.inl hd) h5
              · rfl
            have h7 := digsAt_len h6
            obtain rfl := Option.some.inj h
            exact ⟨by show 2 ≤ 12; decide, by show 12 ≤ _; omega, by show 12 ≤ 12; decide⟩
end Go.Proofs.YtoanbmggffkmgaaDoor.La
namespace Go.Proofs.YtoanbmggffkmgaaDoor.P
open Go.RowKit Go.Proofs.YtoanbmggffkmgaaDoor.La Go.Proofs.YtoanbmggffkmgaaDoorW.PrintWords Go.Proofs.YtoanbmggffkmgaaDoorW.PrintLast Go.Proofs.YtoanbmggffkmgaaDoorW.PrintMore
attribute [local go_sem] max2_int min2_int max_two min_two max_three min_three max_four min_four   -- for this text's walks alone
/-- esc.start. -/
theorem rstart (a0 : ByteArray) (a1 : Int) (w : World) :
    Calls Tryd.prog 37 #[.string a0, .int .i64 a1] w fun e w' => ∃ g : Nat, e = .returned (.pointer (some ⟨g, 0, none⟩)) ∧ Rdr w.heap.size w' g a0 (mn (mx a1 0) (a0.size : Int)) [] ∧ Below w.heap.size w w' := by
  have hu63 := Tryd.underlying63
  have HB := Aside0.mk (Below.refl w.heap.size w)
  obtain ⟨ji3, hji3⟩ : ∃ j_ : Int, (mx a1 0) = j_ := ⟨_, rfl⟩
  rw [hji3]
  have hji3_ : (if a1 < 0 then 0 else a1) = ji3 := hji3
  obtain ⟨ji4, hji4⟩ : ∃ j_ : Int, (mn (ji3) (a0.size : Int)) = j_ := ⟨_, rfl⟩
  rw [hji4]
  have hji4_ : (if (a0.size : Int) < (ji3) then (a0.size : Int) else (ji3)) = ji4 := hji4
  go_enter Tryd.func37, Tryd.ntmps37
  go_wp2_with (first | ((with_reducible refine gate_dst (N := 12) rfl ?_); refine box_event ?hg (N := 12) ?hd (cs := #[.string a0, .int .i64 ji4, .slice none 0 0]) (t := 63) ?hr ?_; (case hd => rfl); (case hg => rfl); (case hr => first | (go_simp; done) | (go_simp; rfl)); intro gb134 hg w5 hbox hb; have n1_ := Aside0.mk (below_step (by repeat (first | (with_reducible first | exact HB.out | apply below_alloc | apply pw_below_drewN | apply below_drew1) | exact HB.out)) hb); have n2_ := Aside0.mk (hbox); have n3_ := Aside0.mk ((by rw [hg]; exact (below_size (by repeat (first | (with_reducible first | exact HB.out | apply below_alloc | apply pw_below_drewN | apply below_drew1) | exact HB.out))) : w.heap.size ≤ gb134)); clear HB; have HB := n1_; have BK134 := n2_; have GW134 := n3_; clear n1_ n2_ n3_; clear hb hbox hg))
  go_ret
  exact ⟨_, rfl, ⟨GW134.out, _, (by (with_reducible repeat (first | refine blk_drewN ?_ _ | refine blk_drew ?_ | refine blk_alloc ?_ _)); exact BK134.out), Kd.R_nil _ _ _ _ _⟩, by repeat (first | (with_reducible first | exact HB.out | apply below_alloc | apply pw_below_drewN | apply below_drew1) | exact HB.out)⟩
theorem Rdr.moved {B : Nat} {w : World} {g : Nat} {text : ByteArray} {at_ : Int} {bs : List Int} (h : Rdr B w g text at_ bs) (at1 : Int) :
    Rdr B (w.setCell ⟨g, 1, none⟩ (.int .i64 at1)) g text at1 bs ∧ Below B w (w.setCell ⟨g, 1, none⟩ (.int .i64 at1)) := by
  obtain ⟨hB, bv, hh, hr⟩ := h
  exact ⟨⟨hB, bv, rblk_set hh 1 (.int .i64 at1), Kd.R_move hr (fun k hk => by rw [rblk_far hk])⟩, (Below.refl _ _).setCell hB _⟩
theorem take_one_drop {L : List Int} {i : Nat} (h : i < L.length) : (L.drop i).take 1 = [L.getD i 0] := by
  rw [List.drop_eq_getElem_cons h, List.getD_eq_getElem?_getD, List.getElem?_eq_getElem h]
  rfl
/-- The loop's state. -/
def UnqInv (w : World) (text : ByteArray) (g : Nat) (res : Bool × List Int × Nat) (k : Nat) (wr : World) : Prop :=
  ∃ (i : Nat) (bs : List Int), Rdr w.heap.size wr g text (i : Int) bs ∧ Below w.heap.size w wr ∧ jbody (bytesOf text) k i bs = res ∧ i ≤ text.size ∧ text.size - i < k ∧ bs.length ≤ 4 * i
def unqRes (res : Bool × List Int × Nat) : Value := .tuple #[.string (if res.1 then strOfNums res.2.1 else ⟨#[]⟩), .int .i64 (if res.1 then res.2.2 else 0), .int .i64 (if res.1 then -1 else res.2.2)]
set_option maxRecDepth 100000 in
set_option maxHeartbeats 8000000 in
theorem unq_walk (text : ByteArray) (at_ : Nat) (hs : text.size ≤ 17592186044416) (hq : (bytesOf text).getD at_ 0 = 34) (hlt : at_ < text.size) (w : World) :
    Calls Tryd.prog 16 #[.string text, .int .i64 at_] w fun e w' => e = .returned (unqRes (jbody (bytesOf text) (text.size + 1) (at_ + 1) [])) ∧ Below w.heap.size w w' := by
  generalize hres : jbody (bytesOf text) (text.size + 1) (at_ + 1) [] = res
  have HRES := Lib.hid hres
  clear hres
  have g1 : decide ((at_ : Int) < 0) = false := decide_eq_false (by omega)
  go_enter Tryd.func16, Tryd.ntmps16
  go_wp2_with fail
  refine (rstart text at_ w).mono ?_
  rintro e w1 ⟨g, rfl, hR, hB⟩
  rw [show mn (mx (at_ : Int) 0) (text.size : Int) = (at_ : Int) by unfold mn mx; (repeat' split) <;> omega] at hR
  go_wp2_with fail
  refine (rbegins ⟨#[34]⟩ hR (by omega) (by omega)).mono ?_
  rintro e w2 ⟨rfl, n2, rfl⟩
  have d1 : decide (((bytesOf text).drop (at_ : Int).toNat).take (⟨#[34]⟩ : ByteArray).size = bytesOf ⟨#[34]⟩) = true := by
    refine decide_eq_true ?_
    rw [show (at_ : Int).toNat = at_ by omega]
    exact (take_one_drop (by rw [size_of]; exact hlt)).trans (by rw [hq]; rfl)
  rw [d1]
  have hR2 := hR.drewN n2
  have hB2 := pw_below_drewN hB n2
  clear hR hB
  generalize w1.drewN n2 = w3 at hR2 hB2
  obtain ⟨A, c, c0, c1, c2, f1, f2, hlt2, hc, hC⟩ := hR2.open_
  have hlow := hR2.low
  have hM := hR2.moved ((at_ : Int) + 1)
  go_wp2_with fail
  generalize w3.setCell ⟨g, 1, none⟩ (.int .i64 ((at_ : Int) + 1)) = w4 at hM
  obtain ⟨hR4, hB4⟩ := hM
  have hB5 := hB2.trans hB4
  clear c0 c1 c2 f1 f2 hC hR2 hB2 hB4
  go_loopg [] (text.size + 1) (fun k wr => UnqInv w text g res k wr)
  case atStart => exact ⟨at_ + 1, [], hR4, hB5, HRES.out, by omega, by omega, by simp⟩
  case round =>
    clear hR4 hB5 hlow hlt2 hc d1 hq hlt HRES g1
    obtain ⟨i, bs, hR, hB, hj, hi, hk, hl⟩ := hrel
    cases gk with
    | zero => omega
    | succ k =>
      obtain ⟨A, c, c0, c1, c2, f1, f2, hlt2, hc, hC⟩ := hR.open_
      have hlow := hR.low
      unfold jbody at hj
      by_cases hlt : i < text.size
      · rw [if_neg (by rw [size_of]; omega)] at hj
        have p1 := eq_true (show (0 : Int) ≤ (i : Int) by omega)
        have q1 := eq_true (show (i : Int) < (text.size : Int) by omega)
        have q2 := eq_true (show (i : Int).toNat < text.size by omega)
        have hx1 : ∀ h : i < text.size, ((text[i]'h).toNat : Int) = bt text (i : Int) := fun h => bt_at text (i : Int) (by omega)
        have hbt : (bytesOf text).getD i 0 = bt text (i : Int) := by rw [bt_get]; rfl
        rw [hbt] at hj
        have hbr := bt_range text (i : Int)
        generalize bt text (i : Int) = b at hj hbr hx1
        clear hbt
        have HJ := Lib.hid hj
        clear hj
        by_cases b34 : b = 34
        · have hr := Lib.hid (HJ.out.symm.trans (if_pos b34))
          subst b34
          have kc := fun n => Kd.C_string (P := Tryd.prog) (w := wr.drewN n) (c := c) Tryd.underlying46 Tryd.underlying5 Tryd.underlying9 hC
          go_wp2
          repeat (go_quiet (fail); try go_wp2)
          go_ret3
          exact ⟨by rw [hr.out]; rfl, by first | exact hB | exact pw_below_drewN hB _⟩
        have hj := HJ.out.symm.trans (if_neg b34)
        have t1 : (b == 34) = false := beq_eq_false_iff_ne.2 b34
        by_cases b32 : b < 32
        · have hr := Lib.hid (hj.trans (if_pos b32))
          have t2 : decide (b < 32) = true := decide_eq_true b32
          clear HJ hj
          go_wp2
          repeat (go_quiet (fail); try go_wp2)
          go_ret3
          exact ⟨by rw [hr.out]; rfl, by first | exact hB | exact pw_below_drewN hB _⟩
        replace hj := hj.trans (if_neg b32)
        have t2 : decide (b < 32) = false := decide_eq_false b32
        by_cases b92 : b = 92
        · have hr := Lib.hid (hj.trans (if_pos b92))
          have t3 : (b == 92) = true := beq_iff_eq.2 b92
          clear HJ hj b92 c0 c1 c2 f1 f2 hC
          obtain ⟨A0, c0_, c0, c1, c2, f1, f2, -, -, -⟩ := hR.open_
          go_wp2_with fail
          refine (resc hR (by omega) hlt (by omega)).mono ?_
          rintro e w5 ⟨rfl, hR5, hB5⟩
          have hB6 := hB.trans hB5
          clear c0 c1 c2 f1 f2
          cases hje : jesc ((bytesOf text).drop i) with
          | none =>
            rw [hje] at hr hR5
            have hr2 := Lib.hid hr.out
            clear hr
            replace hR5 : Rdr w.heap.size w5 g text (i : Int) bs := hR5
            obtain ⟨A5, c5, d0, d1, d2, e1, e2, -, -, -⟩ := hR5.open_
            go_wp2
            repeat (go_quiet (fail); try go_wp2)
            go_ret3
            exact ⟨by rw [hr2.out]; rfl, by first | exact hB6 | exact pw_below_drewN hB6 _⟩
          | some p =>
            rw [hje] at hr hR5
            have hr2 := Lib.hid hr.out
            clear hr
            replace hR5 : Rdr w.heap.size w5 g text ((i : Int) + p.2) (bs ++ enc p.1) := hR5
            have hp := jesc_len hje
            rw [List.length_drop, size_of] at hp
            have he := (enc_len p.1).2
            go_wp2
            go_roundg k
            case rel => exact ⟨i + p.2, bs ++ enc p.1, by rw [Int.natCast_add]; exact hR5, hB6, hr2.out.symm, by omega, by omega, by rw [List.length_append]; omega⟩
            case measure => omega
        · have hr := Lib.hid (hj.trans (if_neg b92))
          have t3 : (b == 92) = false := beq_eq_false_iff_ne.2 b92
          clear HJ hj c0 c1 c2 f1 f2 hC
          obtain ⟨A0, c0_, c0, c1, c2, f1, f2, -, -, -⟩ := hR.open_
          go_wp2_with fail
          refine (rletter hR (by omega) (by omega) (by omega) (by omega)).mono ?_
          rintro e w5 ⟨rfl, hR5, hB5⟩
          have hB6 := hB.trans hB5
          clear c0 c1 c2 f1 f2
          rw [show (i : Int).toNat = i by omega] at hR5
          rw [show (i : Int).toNat = i by omega]
          have hb := tk_bound ((bytesOf text).drop i) (fun x hx => bytes_of text x (List.mem_of_mem_drop hx))
          have he : (enc0 (tk ((bytesOf text).drop i)).1).length ≤ 4 := by
            unfold enc0
            split
            · exact (enc_len _).2
            · simp
          rw [List.length_drop, size_of] at hb
          generalize tk ((bytesOf text).drop i) = q at hR5 hr hb he
          by_cases hq : q.2 > 0
          · have hr2 := Lib.hid (hr.out.trans (if_pos hq))
            have t4 : decide (q.2 > 0) = true := decide_eq_true hq
            clear hr
            rw [t4]
            go_wp2
            go_roundg k
            case rel => exact ⟨i + q.2.toNat, bs ++ enc0 q.1, by rw [show ((i + q.2.toNat : Nat) : Int) = (i : Int) + q.2 by omega]; exact hR5, hB6, hr2.out.symm, by omega, by omega, by rw [List.length_append]; omega⟩
            case measure => omega
          · have hr2 := Lib.hid (hr.out.trans (if_neg hq))
            have t4 : decide (q.2 > 0) = false := decide_eq_false hq
            clear hr
            rw [t4]
            rw [show q.2 = 0 by omega] at hR5
            rw [show (i : Int) + 0 = i by omega] at hR5
            obtain ⟨A5, c5, d0, d1, d2, e1, e2, -, -, -⟩ := hR5.open_
            go_wp2
            repeat (go_quiet (fail); try go_wp2)
            go_ret3
            exact ⟨by rw [hr2.out]; rfl, by first | exact hB6 | exact pw_below_drewN hB6 _⟩
      · obtain rfl : i = text.size := by omega
        rw [if_pos (by rw [size_of]; omega), size_of] at hj
        obtain rfl := hj
        have e1 : decide ((text.size : Int) < (text.size : Int)) = false := decide_eq_false (by omega)
        go_wp2
        repeat (go_quiet (fail); try go_wp2)
        go_ret3
        exact ⟨rfl, hB⟩
/-- It is no string at all. -/
theorem unq_not (text : ByteArray) (at_ : Int) (hs : text.size ≤ 17592186044416) (hq : at_ < 0 ∨ (text.size : Int) ≤ at_ ∨ (bytesOf text).getD at_.toNat 0 ≠ 34) (w : World) :
    Calls Tryd.prog 16 #[.string text, .int .i64 at_] w fun e w' => e = .returned (.tuple #[.string ⟨#[]⟩, .int .i64 0, .int .i64 (mn (mx at_ 0) text.size)]) ∧ Below w.heap.size w w' := by
  have m0 : 0 ≤ mn (mx at_ 0) (text.size : Int) := by unfold mn mx; (repeat' split) <;> omega
  have m1 : mn (mx at_ 0) (text.size : Int) ≤ text.size := by unfold mn mx; (repeat' split) <;> omega
  by_cases h0 : at_ < 0
  · have g1 : decide (at_ < 0) = true := decide_eq_true h0
    go_enter Tryd.func16, Tryd.ntmps16
    go_wp2_with fail
    refine (rstart text at_ w).mono ?_
    rintro e w1 ⟨g, rfl, hR, hB⟩
    obtain ⟨A, c, c0, c1, c2, f1, f2, hlt2, hc, hC⟩ := hR.open_
    go_wp2
    repeat (go_quiet (fail); try go_wp2)
    go_ret3
    exact ⟨rfl, by first | exact hB | exact pw_below_drewN hB _⟩
  · have hm : mn (mx at_ 0) (text.size : Int) = at_ ∨ mn (mx at_ 0) (text.size : Int) = text.size := by unfold mn mx; (repeat' split) <;> omega
    have d1 : decide (((bytesOf text).drop (mn (mx at_ 0) (text.size : Int)).toNat).take (⟨#[34]⟩ : ByteArray).size = bytesOf ⟨#[34]⟩) = false := by
      refine decide_eq_false ?_
      intro hh
      have hl := congrArg List.length hh
      rw [List.length_take, List.length_drop, size_of, size_of] at hl
      have hl' : (mn (mx at_ 0) (text.size : Int)).toNat < text.size := by
        have : (⟨#[34]⟩ : ByteArray).size = 1 := rfl
        omega
      have hh2 : [(bytesOf text).getD (mn (mx at_ 0) (text.size : Int)).toNat 0] = [34] := (take_one_drop (by rw [size_of]; exact hl')).symm.trans hh
      have h34 := (List.cons.inj hh2).1
      rcases hm with hm | hm
      · rw [hm] at h34 m1 hl'
        rcases hq with hq | hq | hq
        · omega
        · omega
        · exact hq h34
      · omega
    have g1 : decide (at_ < 0) = false := decide_eq_false h0
    clear hm hq
    generalize hmm : mn (mx at_ 0) (text.size : Int) = m at d1 m0 m1
    go_enter Tryd.func16, Tryd.ntmps16
    go_wp2_with fail
    refine (rstart text at_ w).mono ?_
    rintro e w1 ⟨g, rfl, hR, hB⟩
    rw [hmm] at hR
    go_wp2_with fail
    refine (rbegins ⟨#[34]⟩ hR m0 m1).mono ?_
    rintro e w2 ⟨rfl, n2, rfl⟩
    rw [d1]
    have hR2 := hR.drewN n2
    have hB2 := pw_below_drewN hB n2
    clear hR hB
    generalize w1.drewN n2 = w3 at hR2 hB2
    obtain ⟨A, c, c0, c1, c2, f1, f2, hlt2, hc, hC⟩ := hR2.open_
    go_wp2
    repeat (go_quiet (fail); try go_wp2)
    go_ret3
    exact ⟨rfl, by first | exact hB2 | exact pw_below_drewN hB2 _⟩
/-- What Unquote answers. -/
def unqT (L : List Int) (i : Int) : ByteArray × Int × Int :=
  if i < 0 ∨ (L.length : Int) ≤ i ∨ L.getD i.toNat 0 ≠ 34 then (⟨#[]⟩, 0, mn (mx i 0) L.length)
  else match jbody L (L.length + 1) (i.toNat + 1) [] with
    | (true, bs, j) => (strOfNums bs, (j : Int), -1)
    | (false, _, j) => (⟨#[]⟩, 0, (j : Int))
def esc_Unquote.f (a0 : ByteArray) (a1 : Int) : Option (ByteArray × Int × Int) := if a0.size ≤ 17592186044416 then some (unqT (bytesOf a0) a1) else none
theorem esc_Unquote.calls (a0 : ByteArray) (a1 : Int) (r1 : ByteArray) (r2 : Int) (r3 : Int) (w : World) (h : esc_Unquote.f a0 a1 = some (r1, r2, r3)) :
    Calls Tryd.prog 16 #[.string a0, .int .i64 a1] w fun e w' => e = .returned (.tuple #[.string r1, .int .i64 r2, .int .i64 r3]) ∧ Below w.heap.size w w' := by
  unfold esc_Unquote.f at h
  split at h
  · rename_i hs
    have h := Option.some.inj h
    unfold unqT at h
    rw [size_of] at h
    split at h
    · rename_i hq
      obtain ⟨rfl, rfl, rfl⟩ := (by simpa using h : _ ∧ _ ∧ _)
      exact unq_not a0 a1 hs hq w
    · rename_i hq
      have h0 : 0 ≤ a1 := by
        rcases Int.lt_or_le a1 0 with h | h
        · exact absurd (.inl h) hq
        · exact h
      have h1 : a1 < a0.size := by
        rcases Int.lt_or_le a1 a0.size with h | h
        · exact h
        · exact absurd (.inr (.inl h)) hq
      obtain ⟨i, rfl⟩ := Int.eq_ofNat_of_zero_le h0
      have h2 : (bytesOf a0).getD i 0 = 34 := by
        rcases Classical.em ((bytesOf a0).getD i 0 = 34) with h | h
        · exact h
        · exact absurd (.inr (.inr h)) hq
      refine (unq_walk a0 i hs h2 (by omega) w).mono ?_
      rintro e w' ⟨rfl, hB⟩
      refine ⟨?_, hB⟩
      rw [show (i : Int).toNat = i by omega] at h
      generalize jbody (bytesOf a0) (a0.size + 1) (i + 1) [] = q at h
      obtain ⟨b, bs, j⟩ := q
      cases b
      · obtain ⟨rfl, rfl, rfl⟩ := (by simpa using h : _ ∧ _ ∧ _)
        rfl
      · obtain ⟨rfl, rfl, rfl⟩ := (by simpa using h : _ ∧ _ ∧ _)
        rfl
  · cases h
end Go.Proofs.YtoanbmggffkmgaaDoor.P
end
section
namespace Go.Proofs.YtoanbmggffkmgaaDoor.La
open Go.RowKit Go.Proofs.YtoanbmggffkmgaaDoor.P Go.Proofs.YtoanbmggffkmgaaDoorW.PrintWords Go.Proofs.YtoanbmggffkmgaaDoorW.PrintLast Go.Proofs.YtoanbmggffkmgaaDoorW.PrintMore
/-- What plain takes: its bytes, and how many stand in the text. -/
def tplain (lines : Bool) (l : List Int) : Option (List Int × Nat) :=
  if (lines = true ∧ (l.getD 0 0 = 10 ∨ l.take 2 = [13, 10])) ∨ l.getD 0 0 = 9 then (if l.getD 0 0 = 13 then some ([13, 10], 2) else some ([l.getD 0 0], 1))
  else if l.getD 0 0 < 32 ∨ l.getD 0 0 = 127 then none
  else if (tk l).2 > 0 then some (enc0 (tk l).1, (tk l).2.toNat) else none
end Go.Proofs.YtoanbmggffkmgaaDoor.La
namespace Go.Proofs.YtoanbmggffkmgaaDoor.P
open Go.RowKit Go.Proofs.YtoanbmggffkmgaaDoor.La Go.Proofs.YtoanbmggffkmgaaDoorW.PrintWords Go.Proofs.YtoanbmggffkmgaaDoorW.PrintLast Go.Proofs.YtoanbmggffkmgaaDoorW.PrintMore
theorem Rdr.row {B : Nat} {w : World} {g : Nat} {text : ByteArray} {at_ : Int} {bs : List Int} (h : Rdr B w g text at_ bs) :
    ∃ A c, w.heap[g]? = some (.cells #[.string text, .int .i64 at_, .slice A bs.length c] 63 (0, 0)) ∧ Kd.R (Kd.int .u8) 5 w B (fun k => k ≠ g) (.slice A bs.length c) bs := by
  obtain ⟨_, bv, hh, hr⟩ := h
  obtain ⟨A, c, rfl, hl, hC⟩ := Kd.R_reads hr
  exact ⟨A, c, hh, hr⟩
/-- A row that has grown is stored, and the place, too. -/
theorem Rdr.grown {B : Nat} {w w1 : World} {g : Nat} {text : ByteArray} {at_ : Int} {bs : List Int} {A : Option Addr} {c : Nat} (hB : B ≤ g) (hh : w.heap[g]? = some (.cells #[.string text, .int .i64 at_, .slice A bs.length c] 63 (0, 0))) (hr : Kd.R (Kd.int .u8) 5 w B (fun k => k ≠ g) (.slice A bs.length c) bs)
    {v1 : Value} {bs1 : List Int} (ho : Kd.R (Kd.int .u8) 5 w1 B (fun k => k ≠ g) v1 bs1) (hg : w.grownBy w1 (.slice A bs.length c : Value).ownBlock) :
    w1.cell? ⟨g, 0, none⟩ = some (.string text) ∧ w1.cell? ⟨g, 1, none⟩ = some (.int .i64 at_) ∧ w1.cell? ⟨g, 2, none⟩ = some (.slice A bs.length c) ∧ w1.frozen? ⟨g, 1, none⟩ = false ∧ w1.frozen? ⟨g, 2, none⟩ = false ∧ g < w1.heap.size ∧
      ∀ at1 : Int, Rdr B ((w1.setCell ⟨g, 2, none⟩ v1).setCell ⟨g, 1, none⟩ (.int .i64 at1)) g text at1 bs1 ∧ ((w1.setCell ⟨g, 2, none⟩ v1).setCell ⟨g, 1, none⟩ (.int .i64 at1)).heap[g]? = some (.cells #[.string text, .int .i64 at1, v1] 63 (0, 0)) ∧ Kd.R (Kd.int .u8) 5 ((w1.setCell ⟨g, 2, none⟩ v1).setCell ⟨g, 1, none⟩ (.int .i64 at1)) B (fun k => k ≠ g) v1 bs1 := by
  have hne : some g ≠ (Value.slice A bs.length c).ownBlock := fun e => hr.1 g e.symm rfl
  have h1 := blk_grown hh hg hne
  exact ⟨by rw [rblk_cell h1]; rfl, by rw [rblk_cell h1]; rfl, by rw [rblk_cell h1]; rfl, rblk_free h1 1, rblk_free h1 2, rblk_lt h1, fun at1 => by
    have a1 := rblk_set (rblk_set h1 2 v1) 1 (.int .i64 at1)
    have a2 : Kd.R (Kd.int .u8) 5 ((w1.setCell ⟨g, 2, none⟩ v1).setCell ⟨g, 1, none⟩ (.int .i64 at1)) B (fun k => k ≠ g) v1 bs1 := Kd.R_move ho (fun k hk => by rw [rblk_far hk, rblk_far hk])
    exact ⟨⟨hB, v1, a1, a2⟩, a1, a2⟩⟩
theorem Rdr.base {B : Nat} {w : World} {g : Nat} {text : ByteArray} {at_ : Int} {bs : List Int} (h : Rdr B w g text at_ bs) : B ≤ g := h.1
theorem Rdr.cells {B : Nat} {w : World} {g : Nat} {text : ByteArray} {at_ : Int} {bs : List Int} (h : Rdr B w g text at_ bs) :
    ∃ A c, w.cell? ⟨g, 0, none⟩ = some (.string text) ∧ w.cell? ⟨g, 1, none⟩ = some (.int .i64 at_) ∧ w.cell? ⟨g, 2, none⟩ = some (.slice A bs.length c) ∧ w.frozen? ⟨g, 1, none⟩ = false ∧ w.frozen? ⟨g, 2, none⟩ = false ∧ g < w.heap.size ∧
      w.heap[g]? = some (.cells #[.string text, .int .i64 at_, .slice A bs.length c] 63 (0, 0)) ∧ Kd.R (Kd.int .u8) 5 w B (fun k => k ≠ g) (.slice A bs.length c) bs := by
  obtain ⟨A, c, hh, hr⟩ := h.row
  exact ⟨A, c, by rw [rblk_cell hh]; rfl, by rw [rblk_cell hh]; rfl, by rw [rblk_cell hh]; rfl, rblk_free hh 1, rblk_free hh 2, rblk_lt hh, hh, hr⟩
set_option maxRecDepth 100000 in
set_option maxHeartbeats 4000000 in
theorem rplain_one {B g : Nat} {text : ByteArray} {i : Nat} {bs : List Int} {w : World} (lines : Bool) (hR : Rdr B w g text (i : Int) bs) (hl : bs.length ≤ 140737488000000) (h1 : i < text.size) (h2 : text.size ≤ 140737488000000) (hc : (lines = true ∧ bt text i = 10) ∨ (lines = false ∧ bt text i = 9)) :
    Calls Tryd.prog 44 #[.pointer (some ⟨g, 0, none⟩), .bool lines] w fun e w' => e = .returned (.bool true) ∧ Rdr B w' g text ((i : Int) + 1) (bs ++ [bt text i]) ∧ Below B w w' := by
  obtain ⟨A, cp, c0, c1, c2, f1, f2, hlt, hh, hr⟩ := hR.cells
  have hlow := hR.low
  have hB := hR.base
  have p1 := eq_true (show (0 : Int) ≤ (i : Int) by omega)
  have qi1 := eq_true (show (i : Int) < (text.size : Int) by omega)
  have q1 := eq_true (show (i : Int).toNat < text.size by omega)
  have q2 := eq_true h1
  have hx1 : ∀ h : i < text.size, ((text[i]'h).toNat : Int) = bt text (i : Int) := fun h => bt_at text (i : Int) (by omega)
  rcases hc with ⟨rfl, hb⟩ | ⟨rfl, hb⟩
  · rw [hb] at hx1 ⊢
    go_enter Tryd.func44, Tryd.ntmps44
    go_wp2_with fail
    go_quiet (fail)
    go_wp2_with ((with_reducible refine gate_builtin (b := .append) (xs := #[.tmp 32, .tmp 34]) rfl ?_); at_builtin; refine Kd.R_append (Kd.int .u8) (w0 := w) B rfl (.tmp 32) (.tmp 34) 46 5 (.int .u8 0) 1 rfl Tryd.underlying46 info5 rfl (by decide) (by omega) (.slice A bs.length cp) bs 10 [.int .u8 10] (fun k => k ≠ g) (fun _ => False) rfl rfl ?aP (fun _ hk => hk.elim) ?aF ?aO ?aB ?aS ?aL ?_; (case aP => exact rfl); (case aB => exact pw_below_drewN (Below.refl _ _) _); (case aF => intro k hk; have hk' : w.heap.size ≤ k := hk; omega); (case aO => exact Kd.R_drewN hr _); (case aS => exact hlow); (case aL => omega); intro v1 w1 ho hbw hg hat; obtain ⟨A1, cp1, rfl, -, -⟩ := Kd.R_reads ho; obtain ⟨k0, k1, k5, k2, k3, k4, hS⟩ := Rdr.grown (w := w.drewN nq) hB hh (Kd.R_drewN hr nq) ho hg; rw [List.length_append, List.length_singleton] at hS)
    go_ret
    exact ⟨rfl, (hS _).1, (hbw.setCell hB _).setCell hB _⟩
  · rw [hb] at hx1 ⊢
    go_enter Tryd.func44, Tryd.ntmps44
    go_wp2_with fail
    go_quiet (fail)
    go_wp2_with ((with_reducible refine gate_builtin (b := .append) (xs := #[.tmp 32, .tmp 34]) rfl ?_); at_builtin; refine Kd.R_append (Kd.int .u8) (w0 := w) B rfl (.tmp 32) (.tmp 34) 46 5 (.int .u8 0) 1 rfl Tryd.underlying46 info5 rfl (by decide) (by omega) (.slice A bs.length cp) bs 9 [.int .u8 9] (fun k => k ≠ g) (fun _ => False) rfl rfl ?aP (fun _ hk => hk.elim) ?aF ?aO ?aB ?aS ?aL ?_; (case aP => exact rfl); (case aB => exact pw_below_drewN (Below.refl _ _) _); (case aF => intro k hk; have hk' : w.heap.size ≤ k := hk; omega); (case aO => exact Kd.R_drewN hr _); (case aS => exact hlow); (case aL => omega); intro v1 w1 ho hbw hg hat; obtain ⟨A1, cp1, rfl, -, -⟩ := Kd.R_reads ho; obtain ⟨k0, k1, k5, k2, k3, k4, hS⟩ := Rdr.grown (w := w.drewN nq) hB hh (Kd.R_drewN hr nq) ho hg; rw [List.length_append, List.length_singleton] at hS)
    go_ret
    exact ⟨rfl, (hS _).1, (hbw.setCell hB _).setCell hB _⟩
set_option maxRecDepth 100000 in
set_option maxHeartbeats 8000000 in
theorem rplain_tab {B g : Nat} {text : ByteArray} {i : Nat} {bs : List Int} {w : World} (hR : Rdr B w g text (i : Int) bs) (hl : bs.length ≤ 140737488000000) (h1 : i < text.size) (h2 : text.size ≤ 140737488000000) (hb : bt text i = 9) (d1 : decide (((bytesOf text).drop i).take (⟨#[13, 10]⟩ : ByteArray).size = bytesOf ⟨#[13, 10]⟩) = false) :
    Calls Tryd.prog 44 #[.pointer (some ⟨g, 0, none⟩), .bool true] w fun e w' => e = .returned (.bool true) ∧ Rdr B w' g text ((i : Int) + 1) (bs ++ [9]) ∧ Below B w w' := by
  obtain ⟨A, cp, c0, c1, c2, f1, f2, hlt, hh, hr⟩ := hR.cells
  have hlow := hR.low
  have hB := hR.base
  have p1 := eq_true (show (0 : Int) ≤ (i : Int) by omega)
  have qi1 := eq_true (show (i : Int) < (text.size : Int) by omega)
  have q1 := eq_true (show (i : Int).toNat < text.size by omega)
  have q2 := eq_true h1
  have hx1 : ∀ h : i < text.size, ((text[i]'h).toNat : Int) = bt text (i : Int) := fun h => bt_at text (i : Int) (by omega)
  rw [hb] at hx1
  go_enter Tryd.func44, Tryd.ntmps44
  go_wp2_with fail
  go_quiet (fail)
  go_wp2_with fail
  refine (rbegins ⟨#[13, 10]⟩ (hR.drewN nq) (by omega) (by omega)).mono ?_
  rintro e w2 ⟨rfl, n2, rfl⟩
  rw [show (i : Int).toNat = i by omega, d1]
  go_wp2_with ((with_reducible refine gate_builtin (b := .append) (xs := #[.tmp 32, .tmp 34]) rfl ?_); at_builtin; refine Kd.R_append (Kd.int .u8) (w0 := w) B rfl (.tmp 32) (.tmp 34) 46 5 (.int .u8 0) 1 rfl Tryd.underlying46 info5 rfl (by decide) (by omega) (.slice A bs.length cp) bs 9 [.int .u8 9] (fun k => k ≠ g) (fun _ => False) rfl rfl ?aP (fun _ hk => hk.elim) ?aF ?aO ?aB ?aS ?aL ?_; (case aP => exact rfl); (case aB => exact pw_below_drewN (Below.refl _ _) _); (case aF => intro k hk; have hk' : w.heap.size ≤ k := hk; omega); (case aO => exact (Kd.R_drewN hr (nq + n2))); (case aS => exact hlow); (case aL => omega); intro v1 w1 ho hbw hg hat; obtain ⟨Av1, cpv1, rfl, -, -⟩ := Kd.R_reads ho; obtain ⟨k0, k1, k5, k2, k3, k4, hS⟩ := Rdr.grown (w := w.drewN (nq + n2)) hB hh (Kd.R_drewN hr (nq + n2)) ho hg; rw [List.length_append, List.length_singleton] at hS)
  go_ret
  exact ⟨rfl, (hS _).1, (hbw.setCell hB _).setCell hB _⟩
set_option maxRecDepth 100000 in
set_option maxHeartbeats 8000000 in
theorem rplain_two {B g : Nat} {text : ByteArray} {i : Nat} {bs : List Int} {w : World} (hR : Rdr B w g text (i : Int) bs) (hl : bs.length ≤ 140737488000000) (h1 : i < text.size) (h2 : text.size ≤ 140737488000000) (hb : bt text i = 13) (d1 : decide (((bytesOf text).drop i).take (⟨#[13, 10]⟩ : ByteArray).size = bytesOf ⟨#[13, 10]⟩) = true) :
    Calls Tryd.prog 44 #[.pointer (some ⟨g, 0, none⟩), .bool true] w fun e w' => e = .returned (.bool true) ∧ Rdr B w' g text ((i : Int) + 2) (bs ++ [13, 10]) ∧ Below B w w' := by
  obtain ⟨A, cp, c0, c1, c2, f1, f2, hlt, hh, hr⟩ := hR.cells
  have hlow := hR.low
  have hB := hR.base
  have p1 := eq_true (show (0 : Int) ≤ (i : Int) by omega)
  have qi1 := eq_true (show (i : Int) < (text.size : Int) by omega)
  have q1 := eq_true (show (i : Int).toNat < text.size by omega)
  have q2 := eq_true h1
  have hx1 : ∀ h : i < text.size, ((text[i]'h).toNat : Int) = bt text (i : Int) := fun h => bt_at text (i : Int) (by omega)
  rw [hb] at hx1
  go_enter Tryd.func44, Tryd.ntmps44
  go_wp2_with fail
  go_quiet (fail)
  go_wp2_with fail
  refine (rbegins ⟨#[13, 10]⟩ (hR.drewN nq) (by omega) (by omega)).mono ?_
  rintro e w2 ⟨rfl, n2, rfl⟩
  rw [show (i : Int).toNat = i by omega, d1]
  go_wp2_with (first | ((with_reducible refine gate_builtin (b := .append) (xs := #[.tmp 32, .tmp 34]) rfl ?_); at_builtin; refine Kd.R_append (Kd.int .u8) (w0 := w) B rfl (.tmp 32) (.tmp 34) 46 5 (.int .u8 0) 1 rfl Tryd.underlying46 info5 rfl (by decide) (by omega) (.slice A bs.length cp) bs 13 [.int .u8 13] (fun k => k ≠ g) (fun _ => False) rfl rfl ?aP (fun _ hk => hk.elim) ?aF ?aO ?aB ?aS ?aL ?_; (case aP => exact rfl); (case aB => exact pw_below_drewN (Below.refl _ _) _); (case aF => intro k hk; have hk' : w.heap.size ≤ k := hk; omega); (case aO => exact (Kd.R_drewN hr (nq + n2))); (case aS => exact hlow); (case aL => omega); intro v1 w1 ho hbw hg hat; obtain ⟨Av1, cpv1, rfl, -, -⟩ := Kd.R_reads ho; obtain ⟨k0, k1, k5, k2, k3, k4, hS⟩ := Rdr.grown (w := w.drewN (nq + n2)) hB hh (Kd.R_drewN hr (nq + n2)) ho hg; obtain ⟨hS1, hh1, hr1⟩ := hS ((i : Int) + 1); have hb1 : Below B w ((w1.setCell ⟨g, 2, none⟩ (.slice Av1 (bs ++ [13]).length cpv1)).setCell ⟨g, 1, none⟩ (.int .i64 ((i : Int) + 1))) := (hbw.setCell hB _).setCell hB _; have hlt1 := rblk_lt hh1; have hlow1 := hS1.low; rw [List.length_append, List.length_singleton] at hh1 hr1 hb1 hlt1 hlow1) | ((with_reducible refine gate_builtin (b := .append) (xs := #[.tmp 51, .tmp 52]) rfl ?_); at_builtin; refine Kd.R_append (Kd.int .u8) (w0 := w) B rfl (.tmp 51) (.tmp 52) 46 5 (.int .u8 0) 1 rfl Tryd.underlying46 info5 rfl (by decide) (by omega) (.slice Av1 (bs.length + 1) cpv1) (bs ++ [13]) 10 [.int .u8 10] (fun k => k ≠ g) (fun _ => False) rfl (by have e_ : ((w1.setCell ⟨g, 2, none⟩ (.slice Av1 (bs.length + 1) cpv1)).setCell ⟨g, 1, none⟩ (.int .i64 ((i : Int) + 1))).heap.size = w1.heap.size := (by simp); rw [e_]; rfl) ?aP (fun _ hk => hk.elim) ?aF ?aO ?aB ?aS ?aL ?_; (case aP => exact rfl); (case aB => exact hb1); (case aF => intro k hk; have hk' : ((w1.setCell ⟨g, 2, none⟩ (.slice Av1 (bs.length + 1) cpv1)).setCell ⟨g, 1, none⟩ (.int .i64 ((i : Int) + 1))).heap.size ≤ k := hk; omega); (case aO => exact hr1); (case aS => exact hlow1); (case aL => simp only [List.length_append, List.length_singleton]; omega); intro v2 w2_ ho2 hbw2 hg2 hat2; obtain ⟨Av2, cpv2, rfl, -, -⟩ := Kd.R_reads ho2; have hh2 : ((w1.setCell ⟨g, 2, none⟩ (.slice Av1 (bs.length + 1) cpv1)).setCell ⟨g, 1, none⟩ (.int .i64 ((i : Int) + 1))).heap[g]? = some (.cells #[.string text, .int .i64 ((i : Int) + 1), .slice Av1 (bs ++ [13]).length cpv1] 63 (0, 0)) := (by rw [List.length_append, List.length_singleton]; exact hh1); have hr2 : Kd.R (Kd.int .u8) 5 ((w1.setCell ⟨g, 2, none⟩ (.slice Av1 (bs.length + 1) cpv1)).setCell ⟨g, 1, none⟩ (.int .i64 ((i : Int) + 1))) B (fun k => k ≠ g) (.slice Av1 (bs ++ [13]).length cpv1) (bs ++ [13]) := (by rw [List.length_append, List.length_singleton]; exact hr1); have hg3 : ((w1.setCell ⟨g, 2, none⟩ (.slice Av1 (bs.length + 1) cpv1)).setCell ⟨g, 1, none⟩ (.int .i64 ((i : Int) + 1))).grownBy w2_ (.slice Av1 (bs ++ [13]).length cpv1 : Value).ownBlock := (by rw [List.length_append, List.length_singleton]; exact hg2); obtain ⟨m0, m1, m5, m2, m3, m4, hS2⟩ := Rdr.grown (w := ((w1.setCell ⟨g, 2, none⟩ (.slice Av1 (bs.length + 1) cpv1)).setCell ⟨g, 1, none⟩ (.int .i64 ((i : Int) + 1)))) hB hh2 hr2 ho2 hg3; simp only [List.length_append, List.length_singleton] at hS2))
  go_ret
  have h9 := (hS2 ((i : Int) + 1 + 1)).1
  exact ⟨rfl, by rw [show (i : Int) + 2 = (i : Int) + 1 + 1 by omega, show bs ++ [13, 10] = bs ++ [13] ++ [10] by simp]; exact h9, (hbw2.setCell hB _).setCell hB _⟩
set_option maxRecDepth 100000 in
set_option maxHeartbeats 8000000 in
theorem rplain_no {B g : Nat} {text : ByteArray} {i : Nat} {bs : List Int} {w : World} (lines : Bool) (hR : Rdr B w g text (i : Int) bs) (h1 : i < text.size) (hc : lines = false ∨ (lines = true ∧ bt text i ≠ 10 ∧ decide (((bytesOf text).drop i).take (⟨#[13, 10]⟩ : ByteArray).size = bytesOf ⟨#[13, 10]⟩) = false)) (h9 : bt text i ≠ 9) (hn : bt text i < 32 ∨ bt text i = 127) :
    Calls Tryd.prog 44 #[.pointer (some ⟨g, 0, none⟩), .bool lines] w fun e w' => e = .returned (.bool false) ∧ Rdr B w' g text (i : Int) bs ∧ Below B w w' := by
  obtain ⟨A, cp, c0, c1, c2, f1, f2, hlt, hh, hr⟩ := hR.cells
  have hlow := hR.low
  have hB := hR.base
  have p1 := eq_true (show (0 : Int) ≤ (i : Int) by omega)
  have qi1 := eq_true (show (i : Int) < (text.size : Int) by omega)
  have q1 := eq_true (show (i : Int).toNat < text.size by omega)
  have q2 := eq_true h1
  have hx1 : ∀ h : i < text.size, ((text[i]'h).toNat : Int) = bt text (i : Int) := fun h => bt_at text (i : Int) (by omega)
  have t9 : (bt text (i : Int) == 9) = false := beq_eq_false_iff_ne.2 h9
  have hbr := bt_range text (i : Int)
  rcases hc with rfl | ⟨rfl, h10, d1⟩
  · clear hr hh
    generalize bt text (i : Int) = b at hx1 t9 hn hbr
    clear h9
    rcases hn with hn | rfl
    all_goals
      go_enter Tryd.func44, Tryd.ntmps44
      go_wp2_with fail
      go_quiet (fail)
      go_wp2
      go_ret
      exact ⟨rfl, hR.drewN _, pw_below_drewN (Below.refl _ _) _⟩
  · clear hr hh
    have t10 : (bt text (i : Int) == 10) = false := beq_eq_false_iff_ne.2 h10
    generalize bt text (i : Int) = b at hx1 t9 t10 hn hbr
    clear h9 h10
    rcases hn with hn | rfl
    all_goals
      go_enter Tryd.func44, Tryd.ntmps44
      go_wp2_with fail
      go_quiet (fail)
      go_wp2_with fail
      refine (rbegins ⟨#[13, 10]⟩ (hR.drewN nq) (by omega) (by omega)).mono ?_
      rintro e w2 ⟨rfl, n2, rfl⟩
      rw [show (i : Int).toNat = i by omega, d1]
      go_wp2
      go_ret
      exact ⟨rfl, hR.drewN _, pw_below_drewN (Below.refl _ _) _⟩
set_option maxRecDepth 100000 in
set_option maxHeartbeats 8000000 in
theorem rplain_letter {B g : Nat} {text : ByteArray} {i : Nat} {bs : List Int} {w : World} (lines : Bool) (hR : Rdr B w g text (i : Int) bs) (hl : bs.length ≤ 140737488000000) (h1 : i < text.size) (h2 : text.size ≤ 140737488000000) (hc : lines = false ∨ (lines = true ∧ bt text i ≠ 10 ∧ decide (((bytesOf text).drop i).take (⟨#[13, 10]⟩ : ByteArray).size = bytesOf ⟨#[13, 10]⟩) = false)) (h9 : bt text i ≠ 9) (hn : 32 ≤ bt text i ∧ bt text i ≠ 127) :
    Calls Tryd.prog 44 #[.pointer (some ⟨g, 0, none⟩), .bool lines] w fun e w' => e = .returned (.bool (decide ((tk ((bytesOf text).drop i)).2 > 0))) ∧ Rdr B w' g text ((i : Int) + (tk ((bytesOf text).drop i)).2) (bs ++ enc0 (tk ((bytesOf text).drop i)).1) ∧ Below B w w' := by
  obtain ⟨A, cp, c0, c1, c2, f1, f2, hlt, hh, hr⟩ := hR.cells
  have hlow := hR.low
  have hB := hR.base
  have p1 := eq_true (show (0 : Int) ≤ (i : Int) by omega)
  have qi1 := eq_true (show (i : Int) < (text.size : Int) by omega)
  have q1 := eq_true (show (i : Int).toNat < text.size by omega)
  have q2 := eq_true h1
  have hx1 : ∀ h : i < text.size, ((text[i]'h).toNat : Int) = bt text (i : Int) := fun h => bt_at text (i : Int) (by omega)
  have t9 : (bt text (i : Int) == 9) = false := beq_eq_false_iff_ne.2 h9
  have hbr := bt_range text (i : Int)
  have t127 : (bt text (i : Int) == 127) = false := beq_eq_false_iff_ne.2 hn.2
  have t32 : decide (bt text (i : Int) < 32) = false := decide_eq_false (by omega)
  rcases hc with rfl | ⟨rfl, h10, d1⟩
  · clear hr hh
    generalize bt text (i : Int) = b at hx1 t9 hbr t127 t32
    clear h9 hn
    go_enter Tryd.func44, Tryd.ntmps44
    go_wp2_with fail
    go_quiet (fail)
    go_wp2_with fail
    refine (rletter (hR.drewN nq) hl (by omega) (by omega) h2).mono ?_
    rintro e w5 ⟨rfl, hR5, hB5⟩
    rw [show (i : Int).toNat = i by omega] at hR5
    rw [show (i : Int).toNat = i by omega]
    go_wp2
    go_ret
    exact ⟨rfl, hR5, (pw_below_drewN (Below.refl _ _) nq).trans hB5⟩
  · clear hr hh
    have t10 : (bt text (i : Int) == 10) = false := beq_eq_false_iff_ne.2 h10
    generalize bt text (i : Int) = b at hx1 t9 t10 hbr t127 t32
    clear h9 h10 hn
    go_enter Tryd.func44, Tryd.ntmps44
    go_wp2_with fail
    go_quiet (fail)
    go_wp2_with fail
    refine (rbegins ⟨#[13, 10]⟩ (hR.drewN nq) (by omega) (by omega)).mono ?_
    rintro e w2 ⟨rfl, n2, rfl⟩
    rw [show (i : Int).toNat = i by omega, d1]
    go_wp2_with fail
    refine (rletter (hR.drewN (nq + n2)) hl (by omega) (by omega) h2).mono ?_
    rintro e w5 ⟨rfl, hR5, hB5⟩
    rw [show (i : Int).toNat = i by omega] at hR5
    rw [show (i : Int).toNat = i by omega]
    go_wp2
    go_ret
    exact ⟨rfl, hR5, (pw_below_drewN (Below.refl _ _) (nq + n2)).trans hB5⟩
theorem two_take {text : ByteArray} {i : Nat} (h1 : i < text.size) : (decide (((bytesOf text).drop i).take (⟨#[13, 10]⟩ : ByteArray).size = bytesOf ⟨#[13, 10]⟩) = true ↔ ((bytesOf text).drop i).take 2 = [13, 10]) ∧ (((bytesOf text).drop i).take 2 = [13, 10] → bt text i = 13) ∧ ((bytesOf text).drop i).getD 0 0 = bt text i := by
  have hg : ((bytesOf text).drop i).getD 0 0 = bt text i := by
    rw [bt_get]
    simp [List.getD_eq_getElem?_getD, List.getElem?_drop]
  refine ⟨decide_eq_true_iff, fun h => ?_, hg⟩
  rw [← hg]
  have hlt : i < (bytesOf text).length := by rw [size_of]; exact h1
  rw [List.drop_eq_getElem_cons hlt, List.take_succ_cons] at h
  injection h with h _
  rw [List.drop_eq_getElem_cons hlt, h]
  rfl
/-- What plain does. -/
theorem rplain {B g : Nat} {text : ByteArray} {i : Nat} {bs : List Int} {w : World} (lines : Bool) (hR : Rdr B w g text (i : Int) bs) (hl : bs.length ≤ 140737488000000) (h1 : i < text.size) (h2 : text.size ≤ 140737488000000) :
    Calls Tryd.prog 44 #[.pointer (some ⟨g, 0, none⟩), .bool lines] w fun e w' => e = .returned (.bool (tplain lines ((bytesOf text).drop i)).isSome) ∧
      (match tplain lines ((bytesOf text).drop i) with | none => ∃ bs', Rdr B w' g text (i : Int) bs' | some p => Rdr B w' g text ((i : Int) + p.2) (bs ++ p.1)) ∧ Below B w w' := by
  obtain ⟨k1, k2, k3⟩ := two_take (text := text) (i := i) h1
  unfold tplain
  rw [k3]
  have letter : (lines = false ∨ (lines = true ∧ bt text i ≠ 10 ∧ decide (((bytesOf text).drop i).take (⟨#[13, 10]⟩ : ByteArray).size = bytesOf ⟨#[13, 10]⟩) = false)) → bt text i ≠ 9 →
      Calls Tryd.prog 44 #[.pointer (some ⟨g, 0, none⟩), .bool lines] w fun e w' => e = .returned (.bool (if bt text i < 32 ∨ bt text i = 127 then none else if (tk ((bytesOf text).drop i)).2 > 0 then some (enc0 (tk ((bytesOf text).drop i)).1, (tk ((bytesOf text).drop i)).2.toNat) else none).isSome) ∧
      (match (if bt text i < 32 ∨ bt text i = 127 then none else if (tk ((bytesOf text).drop i)).2 > 0 then some (enc0 (tk ((bytesOf text).drop i)).1, (tk ((bytesOf text).drop i)).2.toNat) else none) with | none => ∃ bs', Rdr B w' g text (i : Int) bs' | some p => Rdr B w' g text ((i : Int) + p.2) (bs ++ p.1)) ∧ Below B w w' := by
    intro hc h9
    by_cases hn : bt text i < 32 ∨ bt text i = 127
    · rw [if_pos hn]
      refine (rplain_no lines hR h1 hc h9 hn).mono ?_
      rintro e w' ⟨rfl, hR', hB'⟩
      exact ⟨rfl, ⟨_, hR'⟩, hB'⟩
    · rw [if_neg hn]
      refine (rplain_letter lines hR hl h1 h2 hc h9 (by omega)).mono ?_
      rintro e w' ⟨rfl, hR', hB'⟩
      have hb := tk_bound ((bytesOf text).drop i) (fun x hx => bytes_of text x (List.mem_of_mem_drop hx))
      by_cases hq : (tk ((bytesOf text).drop i)).2 > 0
      · rw [if_pos hq, decide_eq_true hq]
        refine ⟨rfl, ?_, hB'⟩
        show Rdr B w' g text ((i : Int) + ((tk ((bytesOf text).drop i)).2.toNat : Int)) _
        rw [show ((tk ((bytesOf text).drop i)).2.toNat : Int) = (tk ((bytesOf text).drop i)).2 by omega]
        exact hR'
      · rw [if_neg hq, decide_eq_false hq]
        rw [show (tk ((bytesOf text).drop i)).2 = 0 by omega, Int.add_zero] at hR'
        exact ⟨rfl, ⟨_, hR'⟩, hB'⟩
  cases lines with
  | false =>
    by_cases h9 : bt text i = 9
    · rw [if_pos (.inr h9), if_neg (by omega)]
      refine (rplain_one false hR hl h1 h2 (.inr ⟨rfl, h9⟩)).mono ?_
      rintro e w' ⟨rfl, hR', hB'⟩
      exact ⟨rfl, hR', hB'⟩
    · rw [if_neg (by rintro (⟨h, _⟩ | h); cases h; exact h9 h)]
      exact letter (.inl rfl) h9
  | true =>
    by_cases h10 : bt text i = 10
    · rw [if_pos (.inl ⟨rfl, .inl h10⟩), if_neg (by omega)]
      refine (rplain_one true hR hl h1 h2 (.inl ⟨rfl, h10⟩)).mono ?_
      rintro e w' ⟨rfl, hR', hB'⟩
      exact ⟨rfl, hR', hB'⟩
    · by_cases hd : ((bytesOf text).drop i).take 2 = [13, 10]
      · have h13 := k2 hd
        rw [if_pos (.inl ⟨rfl, .inr hd⟩), if_pos h13]
        refine (rplain_two hR hl h1 h2 h13 (k1.2 hd)).mono ?_
        rintro e w' ⟨rfl, hR', hB'⟩
        exact ⟨rfl, hR', hB'⟩
      · have d1 : decide (((bytesOf text).drop i).take (⟨#[13, 10]⟩ : ByteArray).size = bytesOf ⟨#[13, 10]⟩) = false := Bool.eq_false_iff.2 (fun e => hd (k1.1 e))
        by_cases h9 : bt text i = 9
        · rw [if_pos (.inr h9), if_neg (by omega), h9]
          refine (rplain_tab hR hl h1 h2 h9 d1).mono ?_
          rintro e w' ⟨rfl, hR', hB'⟩
          exact ⟨rfl, hR', hB'⟩
        · rw [if_neg (by rintro (⟨_, h | h⟩ | h); exact h10 h; exact hd h; exact h9 h)]
          exact letter (.inr ⟨rfl, h10, d1⟩) h9
end Go.Proofs.YtoanbmggffkmgaaDoor.P
end
section
namespace Go.Proofs.YtoanbmggffkmgaaDoor.La
open Go.RowKit Go.Proofs.YtoanbmggffkmgaaDoorW.PrintWords Go.Proofs.YtoanbmggffkmgaaDoorW.PrintLast Go.Proofs.YtoanbmggffkmgaaDoorW.PrintMore
def inSet (cs : List Int) (b : Int) : Bool := cs.any (fun c => c == b)
def trimL (cs l : List Int) : List Int := l.dropWhile (inSet cs)
def ascii (l : List Int) : Bool := l.all (fun b => decide (b < 128))
def toI (l : List UInt8) : List Int := l.map fun b => (b.toNat : Int)
theorem inSet_of (cs : List UInt8) (b : UInt8) : cs.contains b = inSet (toI cs) (b.toNat : Int) := by
  unfold toI inSet
  induction cs with
  | nil => rfl
  | cons c cs ih =>
    rw [List.contains_cons, List.map_cons, List.any_cons, ih]
    congr 1
    rw [Bool.eq_iff_iff]
    simp [← UInt8.toNat_inj]
    omega
theorem dropWhile_of (cs l : List UInt8) : toI (l.dropWhile (cs.contains ·)) = (toI l).dropWhile (inSet (toI cs)) := by
  induction l with
  | nil => rfl
  | cons b l ih =>
    have h := inSet_of cs b
    simp only [List.dropWhile_cons, toI, List.map_cons] at ih ⊢
    simp only [toI] at h
    rw [h]
    split
    · exact ih
    · rfl
theorem trimL_of (l cs : List UInt8) : toI (Lib.trimLeftS l cs) = trimL (toI cs) (toI l) := dropWhile_of cs l
theorem ascii_of {s : ByteArray} (h : ascii (bytesOf s) = true) : ∀ (j : Nat) b, s.data.toList[j]? = some b → b.toNat < 128 := by
  intro j b hb
  unfold ascii at h
  rw [List.all_eq_true] at h
  have := h (b.toNat : Int) (by rw [bytesOf_data]; exact List.mem_map.2 ⟨b, List.mem_of_getElem? hb, rfl⟩)
  have := of_decide_eq_true this
  omega
theorem mk_of (l : List UInt8) : (⟨l.toArray⟩ : ByteArray) = strOfNums (toI l) := by
  have hB : Bytes (toI l) := by
    intro x hx
    obtain ⟨b, _, rfl⟩ := List.mem_map.1 hx
    have := b.toNat_lt
    omega
  apply bytesOf_inj
  rw [strOfNums_bytes hB]
  rfl
theorem mem_dropWhile {α : Type} {p : α → Bool} {l : List α} {x : α} (h : x ∈ l.dropWhile p) : x ∈ l := (List.dropWhile_suffix p).mem h
theorem trimL_bytes {cs l : List Int} (h : Bytes l) : Bytes (trimL cs l) := fun x hx => h x (mem_dropWhile hx)
end Go.Proofs.YtoanbmggffkmgaaDoor.La
namespace Go.Proofs.YtoanbmggffkmgaaDoor.P
open Go.RowKit Go.Proofs.YtoanbmggffkmgaaDoor.La Go.Proofs.YtoanbmggffkmgaaDoorW.PrintWords Go.Proofs.YtoanbmggffkmgaaDoorW.PrintLast Go.Proofs.YtoanbmggffkmgaaDoorW.PrintMore
def strings_TrimLeft.f (a0 a1 : ByteArray) : Option ByteArray := if a1.size < 4294967281 ∧ ascii (bytesOf a1) = true then some (strOfNums (trimL (bytesOf a1) (bytesOf a0))) else none
theorem strings_TrimLeft.calls (a0 a1 : ByteArray) (r : ByteArray) (w : World) (h : strings_TrimLeft.f a0 a1 = some r) :
    Calls Tryd.prog 55 #[.string a0, .string a1] w fun e w' => e = .returned (.string r) ∧ Below w.heap.size w w' := by
  unfold strings_TrimLeft.f at h
  split at h
  · rename_i hc
    obtain rfl := Option.some.inj h
    refine (Any.strings_TrimLeft_laid Tryd.lays161 (by kernel_rfl) a0 a1 w hc.1 (ascii_of hc.2)).mono fun e w' he => ?_
    obtain ⟨rfl, hb⟩ := he
    refine ⟨?_, hb⟩
    rw [mk_of, trimL_of]
    rfl
  · cases h
end Go.Proofs.YtoanbmggffkmgaaDoor.P
end
section
namespace Go.Proofs.YtoanbmggffkmgaaDoor.La
open Go.RowKit Go.Proofs.YtoanbmggffkmgaaDoor.P Go.Proofs.YtoanbmggffkmgaaDoorW.PrintWords Go.Proofs.YtoanbmggffkmgaaDoorW.PrintLast Go.Proofs.YtoanbmggffkmgaaDoorW.PrintMore
/-- How long a line's end with a stroke ahead is, blanks and all. -/
def tfold (l : List Int) : Option Nat :=
  if (trimL [32, 9] (l.drop 1)).take 1 = [10] ∨ (trimL [32, 9] (l.drop 1)).take 2 = [13, 10] then some (l.length - (trimL [32, 9, 10, 13] (l.drop 1)).length) else none
end Go.Proofs.YtoanbmggffkmgaaDoor.La
namespace Go.Proofs.YtoanbmggffkmgaaDoor.P
open Go.RowKit Go.Proofs.YtoanbmggffkmgaaDoor.La Go.Proofs.YtoanbmggffkmgaaDoorW.PrintWords Go.Proofs.YtoanbmggffkmgaaDoorW.PrintLast Go.Proofs.YtoanbmggffkmgaaDoorW.PrintMore
theorem trim2 (s : ByteArray) : strings_TrimLeft.f s (⟨#[32, 9]⟩ : ByteArray) = some (strOfNums (trimL [32, 9] (bytesOf s))) := by
  unfold strings_TrimLeft.f
  have h1 : (⟨#[32, 9]⟩ : ByteArray).size < 4294967281 := by
    have h : (⟨#[32, 9]⟩ : ByteArray).size = 2 := rfl
    rw [h]; omega
  have h2 : ascii (bytesOf (⟨#[32, 9]⟩ : ByteArray)) = true := by decide
  rw [if_pos (And.intro h1 h2)]
  rfl
theorem trim4 (s : ByteArray) : strings_TrimLeft.f s (⟨#[32, 9, 10, 13]⟩ : ByteArray) = some (strOfNums (trimL [32, 9, 10, 13] (bytesOf s))) := by
  unfold strings_TrimLeft.f
  have h1 : (⟨#[32, 9, 10, 13]⟩ : ByteArray).size < 4294967281 := by
    have h : (⟨#[32, 9, 10, 13]⟩ : ByteArray).size = 4 := rfl
    rw [h]; omega
  have h2 : ascii (bytesOf (⟨#[32, 9, 10, 13]⟩ : ByteArray)) = true := by decide
  rw [if_pos (And.intro h1 h2)]
  rfl
set_option maxRecDepth 100000 in
set_option maxHeartbeats 8000000 in
theorem rfold {B g : Nat} {text : ByteArray} {i : Nat} {bs : List Int} {w : World} (hR : Rdr B w g text (i : Int) bs) (h1 : i < text.size) (h2 : text.size ≤ 140737488000000) :
    Calls Tryd.prog 73 #[.pointer (some ⟨g, 0, none⟩)] w fun e w' => e = .returned (.bool (tfold ((bytesOf text).drop i)).isSome) ∧
      Rdr B w' g text ((i : Int) + ((tfold ((bytesOf text).drop i)).getD 0 : Nat)) bs ∧ Below B w w' := by
  obtain ⟨A, c, c0, c1, c2, f1, f2, hlt, hc, hC⟩ := hR.open_
  have hlow := hR.low
  have p1 := eq_true (show (0 : Int) ≤ (i : Int) + 1 by omega)
  have p2 := eq_true (show (i : Int) + 1 ≤ (text.size : Int) by omega)
  have hy : bytesOf (text.extract (i + 1) text.size) = (bytesOf text).drop (i + 1) := bytesOf_drop _ _
  have ht2 := trim2 (text.extract (i + 1) text.size)
  have ht4 := trim4 (text.extract (i + 1) text.size)
  rw [hy] at ht2 ht4
  generalize hln : strOfNums (trimL [32, 9] ((bytesOf text).drop (i + 1))) = ln at ht2
  have hlnb : bytesOf ln = trimL [32, 9] ((bytesOf text).drop (i + 1)) := by rw [← hln]; exact strOfNums_bytes (trimL_bytes ((bytes_of text).drop _))
  have hp1 := hasPrefix_eq ln ⟨#[10]⟩
  have hp2 := hasPrefix_eq ln ⟨#[13, 10]⟩
  have d1 : decide ((bytesOf ln).take (⟨#[10]⟩ : ByteArray).size = bytesOf ⟨#[10]⟩) = decide ((trimL [32, 9] ((bytesOf text).drop (i + 1))).take 1 = [10]) := by rw [hlnb]; rfl
  have d2 : decide ((bytesOf ln).take (⟨#[13, 10]⟩ : ByteArray).size = bytesOf ⟨#[13, 10]⟩) = decide ((trimL [32, 9] ((bytesOf text).drop (i + 1))).take 2 = [13, 10]) := by rw [hlnb]; rfl
  rw [d1] at hp1
  rw [d2] at hp2
  have hd1 : ((bytesOf text).drop i).drop 1 = (bytesOf text).drop (i + 1) := by rw [List.drop_drop]
  have hF : tfold ((bytesOf text).drop i) = if (trimL [32, 9] ((bytesOf text).drop (i + 1))).take 1 = [10] ∨ (trimL [32, 9] ((bytesOf text).drop (i + 1))).take 2 = [13, 10] then some (text.size - i - (trimL [32, 9, 10, 13] ((bytesOf text).drop (i + 1))).length) else none := by
    unfold tfold
    rw [hd1, List.length_drop, size_of]
  have hz4 : (strOfNums (trimL [32, 9, 10, 13] ((bytesOf text).drop (i + 1)))).size = (trimL [32, 9, 10, 13] ((bytesOf text).drop (i + 1))).length := size_strOfNums (trimL_bytes ((bytes_of text).drop _))
  have hl4 : (trimL [32, 9, 10, 13] ((bytesOf text).drop (i + 1))).length ≤ text.size - (i + 1) := by
    have := (List.dropWhile_suffix (inSet [32, 9, 10, 13]) (l := (bytesOf text).drop (i + 1))).length_le
    rw [List.length_drop, size_of] at this
    exact this
  generalize strOfNums (trimL [32, 9, 10, 13] ((bytesOf text).drop (i + 1))) = r4 at ht4 hz4
  generalize (trimL [32, 9, 10, 13] ((bytesOf text).drop (i + 1))).length = n4 at hF hz4 hl4
  have hd1' : ∀ P : Prop, [Decidable P] → decide P = true ∨ decide P = false := fun P _ => by cases decide P <;> simp
  clear hy hln hlnb d1 d2
  have HF := Lib.hid hF
  clear hF hd1
  have HT2 := Lib.hid ht2
  have HT4 := Lib.hid ht4
  clear ht2 ht4
  by_cases b1 : (trimL [32, 9] ((bytesOf text).drop (i + 1))).take 1 = [10]
  · rw [decide_eq_true b1] at hp1
    have HN := Lib.hid (HF.out.trans (if_pos (.inl b1)))
    have HP1 := Lib.hid hp1
    clear hp1 hp2 HF b1
    go_enter Tryd.func73, Tryd.ntmps73
    go_wp2_with fail
    go_quiet (fail)
    go_wp2_with fail
    refine (strings_TrimLeft.calls _ _ _ _ HT2.out).mono ?_
    rintro e w1 ⟨rfl, hb1⟩
    have hR1 := (hR.drewN nq).below hb1
    have hB1 := (pw_below_drewN (Below.refl B w) nq).trans (hb1.mono hlow)
    go_wp2_with fail
    refine (strings_HasPrefix.calls _ _ _ _ HP1.out).mono ?_
    rintro e w2 ⟨rfl, n2, rfl⟩
    have hR2 := hR1.drewN n2
    have hB2 := pw_below_drewN hB1 n2
    generalize w1.drewN n2 = w3 at hR2 hB2
    clear c0 c1 c2 f1 f2 hC hR
    obtain ⟨A2, cc2, c0, c1, c2, f1, f2, hlt2, hc2, hC2⟩ := hR2.open_
    have hlow3 := hR2.low
    go_wp2_with fail
    go_region_held3 (fun w' => w'.cell? ⟨g, 0, none⟩ = some (.string text)) (first | go_keep | (simp [*]; done) | (go_simp; done)) (first | (go_at_call 55; refine (strings_TrimLeft.calls _ _ _ _ HT4.out).mono ?_; rintro e w5 ⟨rfl, hb5⟩; have hR5 := (hR2.drewN _).below hb5; have hB5 := (pw_below_drewN hB2 _).trans (hb5.mono hlow3); obtain ⟨_, _, e0, e1, e2, g1, g2, _, _, _⟩ := hR5.open_))
    all_goals
      have hM := hR5.moved (IntKind.i64.wrap ((text.size : Int) - (n4 : Int)))
      have hB6 := hB5.trans hM.2
      go_wp2
      go_ret
      exact ⟨by rw [HN.out]; rfl, by rw [HN.out]; show Rdr B _ g text ((i : Int) + ((text.size - i - n4 : Nat) : Int)) bs; rw [show (i : Int) + ((text.size - i - n4 : Nat) : Int) = IntKind.i64.wrap ((text.size : Int) - (n4 : Int)) by rw [wraps_i64 _ (by omega) (by omega)]; omega]; first | exact hM.1 | exact hM.1.drewN _, by first | exact hB6 | exact pw_below_drewN hB6 _⟩
  · by_cases b2 : (trimL [32, 9] ((bytesOf text).drop (i + 1))).take 2 = [13, 10]
    · rw [decide_eq_false b1] at hp1
      rw [decide_eq_true b2] at hp2
      have HN := Lib.hid (HF.out.trans (if_pos (.inr b2)))
      have HP1 := Lib.hid hp1
      have HP2 := Lib.hid hp2
      clear hp1 hp2 HF b1 b2
      go_enter Tryd.func73, Tryd.ntmps73
      go_wp2_with fail
      go_quiet (fail)
      go_wp2_with fail
      refine (strings_TrimLeft.calls _ _ _ _ HT2.out).mono ?_
      rintro e w1 ⟨rfl, hb1⟩
      have hR1 := (hR.drewN nq).below hb1
      have hB1 := (pw_below_drewN (Below.refl B w) nq).trans (hb1.mono hlow)
      go_wp2_with fail
      refine (strings_HasPrefix.calls _ _ _ _ HP1.out).mono ?_
      rintro e w2 ⟨rfl, n2, rfl⟩
      have hR2 := hR1.drewN n2
      have hB2 := pw_below_drewN hB1 n2
      generalize w1.drewN n2 = w3 at hR2 hB2
      clear hR1 hB1
      go_wp2_with fail
      refine (strings_HasPrefix.calls _ _ _ _ HP2.out).mono ?_
      rintro e w4 ⟨rfl, n4', rfl⟩
      replace hR2 := hR2.drewN n4'
      replace hB2 := pw_below_drewN hB2 n4'
      generalize w3.drewN n4' = w3 at hR2 hB2
      clear c0 c1 c2 f1 f2 hC hR
      obtain ⟨A2, cc2, c0, c1, c2, f1, f2, hlt2, hc2, hC2⟩ := hR2.open_
      have hlow3 := hR2.low
      go_wp2_with fail
      go_region_held3 (fun w' => w'.cell? ⟨g, 0, none⟩ = some (.string text)) (first | go_keep | (simp [*]; done) | (go_simp; done)) (first | (go_at_call 55; refine (strings_TrimLeft.calls _ _ _ _ HT4.out).mono ?_; rintro e w5 ⟨rfl, hb5⟩; have hR5 := (hR2.drewN _).below hb5; have hB5 := (pw_below_drewN hB2 _).trans (hb5.mono hlow3); obtain ⟨_, _, e0, e1, e2, g1, g2, _, _, _⟩ := hR5.open_))
      all_goals
        have hM := hR5.moved (IntKind.i64.wrap ((text.size : Int) - (n4 : Int)))
        have hB6 := hB5.trans hM.2
        go_wp2
        go_ret
        exact ⟨by rw [HN.out]; rfl, by rw [HN.out]; show Rdr B _ g text ((i : Int) + ((text.size - i - n4 : Nat) : Int)) bs; rw [show (i : Int) + ((text.size - i - n4 : Nat) : Int) = IntKind.i64.wrap ((text.size : Int) - (n4 : Int)) by rw [wraps_i64 _ (by omega) (by omega)]; omega]; first | exact hM.1 | exact hM.1.drewN _, by first | exact hB6 | exact pw_below_drewN hB6 _⟩
    · rw [decide_eq_false b1] at hp1
      rw [decide_eq_false b2] at hp2
      have HN := Lib.hid (HF.out.trans (if_neg (by rintro (h | h); exact b1 h; exact b2 h)))
      have HP1 := Lib.hid hp1
      have HP2 := Lib.hid hp2
      clear hp1 hp2 HF b1 b2
      go_enter Tryd.func73, Tryd.ntmps73
      go_wp2_with fail
      go_quiet (fail)
      go_wp2_with fail
      refine (strings_TrimLeft.calls _ _ _ _ HT2.out).mono ?_
      rintro e w1 ⟨rfl, hb1⟩
      have hR1 := (hR.drewN nq).below hb1
      have hB1 := (pw_below_drewN (Below.refl B w) nq).trans (hb1.mono hlow)
      go_wp2_with fail
      refine (strings_HasPrefix.calls _ _ _ _ HP1.out).mono ?_
      rintro e w2 ⟨rfl, n2, rfl⟩
      have hR2 := hR1.drewN n2
      have hB2 := pw_below_drewN hB1 n2
      generalize w1.drewN n2 = w3 at hR2 hB2
      clear hR1 hB1
      go_wp2_with fail
      refine (strings_HasPrefix.calls _ _ _ _ HP2.out).mono ?_
      rintro e w4 ⟨rfl, n4', rfl⟩
      replace hR2 := hR2.drewN n4'
      replace hB2 := pw_below_drewN hB2 n4'
      generalize w3.drewN n4' = w3 at hR2 hB2
      go_wp2
      go_ret
      exact ⟨by rw [HN.out]; rfl, by rw [HN.out]; show Rdr B _ g text ((i : Int) + ((0 : Nat) : Int)) bs; rw [show (i : Int) + ((0 : Nat) : Int) = (i : Int) by omega]; first | exact hR2 | exact hR2.drewN _, by first | exact hB2 | exact pw_below_drewN hB2 _⟩
end Go.Proofs.YtoanbmggffkmgaaDoor.P
end
section
namespace Go.Proofs.YtoanbmggffkmgaaDoor.La
open Go.RowKit Go.Proofs.YtoanbmggffkmgaaDoor.P Go.Proofs.YtoanbmggffkmgaaDoorW.PrintWords Go.Proofs.YtoanbmggffkmgaaDoorW.PrintLast Go.Proofs.YtoanbmggffkmgaaDoorW.PrintMore
/-- The letter of a short escape of TOML. -/
def shortT (c : Int) : Option Int := if c = 34 then some 34 else if c = 92 then some 92 else if c = 98 then some 8 else if c = 102 then some 12 else if c = 110 then some 10 else if c = 114 then some 13 else if c = 116 then some 9 else if c = 101 then some 27 else none
theorem shortT_fin : ∀ b : Fin 256, esc_short.f 3 (b.val : Int) true = some ((shortT b.val).getD 0, (shortT b.val).isSome) := by decide +kernel
theorem shortT_eq {c : Int} (h0 : 0 ≤ c) (h1 : c < 256) : esc_short.f 3 c true = some ((shortT c).getD 0, (shortT c).isSome) := by
  obtain ⟨n, rfl⟩ := Int.eq_ofNat_of_zero_le h0
  exact shortT_fin ⟨n, by omega⟩
theorem shortT_good {c x : Int} (h : shortT c = some x) : good x := by
  unfold shortT at h
  (repeat' split at h) <;> first | (cases h; done) | (obtain rfl := Option.some.inj h; exact good_iff.2 (by omega))
/-- What so many digits behind an escape say. -/
def tdig (l : List Int) (n : Nat) : Option (List Int × Nat) := (digsAt l 2 n).bind fun x => if good x then some (enc x, 2 + n) else none
/-- What an escape of TOML says, a line's end aside. -/
def tesc0 (l : List Int) : Option (List Int × Nat) :=
  if l.length ≤ 1 then none
  else if (shortT (l.getD 1 0)).isSome = true then some (enc ((shortT (l.getD 1 0)).getD 0), 2)
  else if l.getD 1 0 = 117 then tdig l 4
  else if l.getD 1 0 = 85 then tdig l 8
  else none
def tesc (lines : Bool) (l : List Int) : Option (List Int × Nat) := if lines = true ∧ (tfold l).isSome = true then some ([], (tfold l).getD 0) else tesc0 l
end Go.Proofs.YtoanbmggffkmgaaDoor.La
namespace Go.Proofs.YtoanbmggffkmgaaDoor.P
open Go.RowKit Go.Proofs.YtoanbmggffkmgaaDoor.La Go.Proofs.YtoanbmggffkmgaaDoorW.PrintWords Go.Proofs.YtoanbmggffkmgaaDoorW.PrintLast Go.Proofs.YtoanbmggffkmgaaDoorW.PrintMore
/-- What tomlEscape leaves. -/
def TPost (B g : Nat) (text : ByteArray) (i : Nat) (bs : List Int) (w : World) (o : Option (List Int × Nat)) (e : Ending) (w' : World) : Prop :=
  e = .returned (.bool o.isSome) ∧ Rdr B w' g text (match o with | none => (i : Int) | some p => (i : Int) + p.2) (match o with | none => bs | some p => bs ++ p.1) ∧ Below B w w'
set_option maxRecDepth 100000 in
set_option maxHeartbeats 16000000 in
theorem rtesc_fold {B g : Nat} {text : ByteArray} {i : Nat} {bs : List Int} {w : World} (hR : Rdr B w g text (i : Int) bs) (h1 : i < text.size) (h2 : text.size ≤ 140737488000000) {n : Nat} (hf : tfold ((bytesOf text).drop i) = some n) :
    Calls Tryd.prog 43 #[.pointer (some ⟨g, 0, none⟩), .bool true] w (TPost B g text i bs w (some ([], n))) := by
  obtain ⟨A, c, c0, c1, c2, f1, f2, hlt, hc, hC⟩ := hR.open_
  have HFo := Lib.hid hf
  clear hf
  go_enter Tryd.func43, Tryd.ntmps43
  go_wp2_with fail
  refine (rfold hR h1 h2).mono ?_
  rintro e w0 ⟨rfl, hR0, hB0⟩
  rw [HFo.out] at hR0
  rw [HFo.out]
  go_wp2
  go_ret
  exact ⟨rfl, by show Rdr B _ g text ((i : Int) + (n : Int)) (bs ++ []); rw [List.append_nil]; first | exact hR0 | exact hR0.drewN _, by first | exact hB0 | exact pw_below_drewN hB0 _⟩
set_option maxRecDepth 100000 in
set_option maxHeartbeats 16000000 in
theorem rtesc_end {B g : Nat} {text : ByteArray} {i : Nat} {bs : List Int} {w : World} (lines : Bool) (hR : Rdr B w g text (i : Int) bs) (h1 : i < text.size) (h2 : text.size ≤ 140737488000000) (hin : lines = false ∨ (lines = true ∧ tfold ((bytesOf text).drop i) = none)) (hj : i + 1 = text.size) :
    Calls Tryd.prog 43 #[.pointer (some ⟨g, 0, none⟩), .bool lines] w (TPost B g text i bs w (tesc0 ((bytesOf text).drop i))) := by
  have hlen : ((bytesOf text).drop i).length = text.size - i := by rw [List.length_drop, size_of]
  have HJ := Lib.hid (show tesc0 ((bytesOf text).drop i) = none from if_pos (by omega))
  have e1 : ((i : Int) + 1 == (text.size : Int)) = true := beq_iff_eq.2 (by omega)
  clear hlen hj
  rcases hin with rfl | ⟨rfl, hf⟩
  · have hR0 := hR
    have hB0 := Below.refl B w
    obtain ⟨A, c, c0, c1, c2, f1, f2, hlt, hc, hC⟩ := hR0.open_
    go_enter Tryd.func43, Tryd.ntmps43
    go_wp2_with fail
    go_quiet (fail)
    go_wp2
    go_ret
    exact ⟨by rw [HJ.out]; rfl, by rw [HJ.out]; first | exact hR0.drewN _ | exact hR0, by first | exact pw_below_drewN hB0 _ | exact hB0⟩
  · have HFo := Lib.hid hf
    clear hf
    obtain ⟨A0, c_, a0, a1, a2, b1, b2, hlt0, hc0, hC0⟩ := hR.open_
    go_enter Tryd.func43, Tryd.ntmps43
    go_wp2_with fail
    refine (rfold hR h1 h2).mono ?_
    rintro e w0 ⟨rfl, hR0, hB0⟩
    rw [HFo.out] at hR0
    rw [HFo.out]
    rw [show (i : Int) + (((none : Option Nat).getD 0 : Nat) : Int) = (i : Int) by simp] at hR0
    clear a0 a1 a2 b1 b2 hC0
    obtain ⟨A, c, c0, c1, c2, f1, f2, hlt, hc, hC⟩ := hR0.open_
    go_wp2_with fail
    go_quiet (fail)
    go_wp2
    go_ret
    exact ⟨by rw [HJ.out]; rfl, by rw [HJ.out]; first | exact hR0.drewN _ | exact hR0, by first | exact pw_below_drewN hB0 _ | exact hB0⟩
set_option maxRecDepth 100000 in
set_option maxHeartbeats 16000000 in
theorem rtesc_short {B g : Nat} {text : ByteArray} {i : Nat} {bs : List Int} {w : World} (lines : Bool) (hR : Rdr B w g text (i : Int) bs) (hl : bs.length ≤ 140737488000000) (h1 : i < text.size) (h2 : text.size ≤ 140737488000000) (hin : lines = false ∨ (lines = true ∧ tfold ((bytesOf text).drop i) = none)) (hj : i + 1 < text.size) {x : Int} (hx : shortT (bt text (i + 1)) = some x) :
    Calls Tryd.prog 43 #[.pointer (some ⟨g, 0, none⟩), .bool lines] w (TPost B g text i bs w (tesc0 ((bytesOf text).drop i))) := by
  have e1 : ((i : Int) + 1 == (text.size : Int)) = false := beq_eq_false_iff_ne.2 (by omega)
  have hbt : bt text ((i : Int) + 1) = ((bytesOf text).drop i).getD 1 0 := by rw [bt_get, getD_drop]; congr 1
  have hbr := bt_range text ((i : Int) + 1)
  have hlen : ((bytesOf text).drop i).length = text.size - i := by rw [List.length_drop, size_of]
  have HS := Lib.hid (show esc_short.f 3 (bt text ((i : Int) + 1)) true = some (x, true) by rw [shortT_eq (by omega) (by omega), hx]; rfl)
  have hg := shortT_good hx
  have HJ := Lib.hid (show tesc0 ((bytesOf text).drop i) = some (enc x, 2) by unfold tesc0; rw [if_neg (by omega), ← hbt, hx]; rfl)
  clear hlen hx hbt
  have p1 := eq_true (show (0 : Int) ≤ (i : Int) + 1 by omega)
  have qi1 := eq_true (show (i : Int) + 1 < (text.size : Int) by omega)
  have q1 := eq_true (show ((i : Int) + 1).toNat < text.size by omega)
  have q2 := eq_true hj
  have hx1 : ∀ h : i + 1 < text.size, ((text[i + 1]'h).toNat : Int) = bt text ((i : Int) + 1) := fun h => bt_at text ((i : Int) + 1) (by omega)
  rcases hin with rfl | ⟨rfl, hf⟩
  · have hR0 := hR
    have hB0 := Below.refl B w
    obtain ⟨A, c, c0, c1, c2, f1, f2, hlt, hc, hC⟩ := hR0.open_
    go_enter Tryd.func43, Tryd.ntmps43
    go_wp2_with fail
    go_quiet (fail)
    go_wp2_with fail
    go_quiet (fail)
    go_wp2_with fail
    refine (esc_short.calls 3 _ _ _ _ _ HS.out).mono ?_
    rintro e w1 ⟨rfl, n1, rfl⟩
    go_wp2_with fail
    refine (rput_good 2 hg (hR0.drewN _) hl (by omega) (by omega) (by decide) (by decide)).mono ?_
    rintro e w2 ⟨rfl, hR2, hB2⟩
    clear c0 c1 c2 f1 f2
    go_wp2
    go_ret
    exact ⟨by rw [HJ.out]; rfl, by rw [HJ.out]; exact hR2, (pw_below_drewN hB0 _).trans hB2⟩
  · have HFo := Lib.hid hf
    clear hf
    obtain ⟨A0, c_, a0, a1, a2, b1, b2, hlt0, hc0, hC0⟩ := hR.open_
    go_enter Tryd.func43, Tryd.ntmps43
    go_wp2_with fail
    refine (rfold hR h1 h2).mono ?_
    rintro e w0 ⟨rfl, hR0, hB0⟩
    rw [HFo.out] at hR0
    rw [HFo.out]
    rw [show (i : Int) + (((none : Option Nat).getD 0 : Nat) : Int) = (i : Int) by simp] at hR0
    clear a0 a1 a2 b1 b2 hC0
    obtain ⟨A, c, c0, c1, c2, f1, f2, hlt, hc, hC⟩ := hR0.open_
    go_wp2_with fail
    go_quiet (fail)
    go_wp2_with fail
    go_quiet (fail)
    go_wp2_with fail
    refine (esc_short.calls 3 _ _ _ _ _ HS.out).mono ?_
    rintro e w1 ⟨rfl, n1, rfl⟩
    go_wp2_with fail
    refine (rput_good 2 hg (hR0.drewN _) hl (by omega) (by omega) (by decide) (by decide)).mono ?_
    rintro e w2 ⟨rfl, hR2, hB2⟩
    clear c0 c1 c2 f1 f2
    go_wp2
    go_ret
    exact ⟨by rw [HJ.out]; rfl, by rw [HJ.out]; exact hR2, (pw_below_drewN hB0 _).trans hB2⟩
set_option maxRecDepth 100000 in
set_option maxHeartbeats 16000000 in
theorem rtesc_no {B g : Nat} {text : ByteArray} {i : Nat} {bs : List Int} {w : World} (lines : Bool) (hR : Rdr B w g text (i : Int) bs) (h1 : i < text.size) (h2 : text.size ≤ 140737488000000) (hin : lines = false ∨ (lines = true ∧ tfold ((bytesOf text).drop i) = none)) (hj : i + 1 < text.size) (hx : shortT (bt text (i + 1)) = none) (h117 : bt text (i + 1) ≠ 117) (h85 : bt text (i + 1) ≠ 85) :
    Calls Tryd.prog 43 #[.pointer (some ⟨g, 0, none⟩), .bool lines] w (TPost B g text i bs w (tesc0 ((bytesOf text).drop i))) := by
  have e1 : ((i : Int) + 1 == (text.size : Int)) = false := beq_eq_false_iff_ne.2 (by omega)
  have hbt : bt text ((i : Int) + 1) = ((bytesOf text).drop i).getD 1 0 := by rw [bt_get, getD_drop]; congr 1
  have hbr := bt_range text ((i : Int) + 1)
  have hlen : ((bytesOf text).drop i).length = text.size - i := by rw [List.length_drop, size_of]
  have HS := Lib.hid (show esc_short.f 3 (bt text ((i : Int) + 1)) true = some (0, false) by rw [shortT_eq (by omega) (by omega), hx]; rfl)
  have HJ := Lib.hid (show tesc0 ((bytesOf text).drop i) = none by unfold tesc0; rw [if_neg (by omega), ← hbt, hx, if_neg (by decide), if_neg h117, if_neg h85])
  have e117 : (bt text ((i : Int) + 1) == 117) = false := beq_eq_false_iff_ne.2 h117
  have e85 : (bt text ((i : Int) + 1) == 85) = false := beq_eq_false_iff_ne.2 h85
  clear hlen hx hbt
  have p1 := eq_true (show (0 : Int) ≤ (i : Int) + 1 by omega)
  have qi1 := eq_true (show (i : Int) + 1 < (text.size : Int) by omega)
  have q1 := eq_true (show ((i : Int) + 1).toNat < text.size by omega)
  have q2 := eq_true hj
  have hx1 : ∀ h : i + 1 < text.size, ((text[i + 1]'h).toNat : Int) = bt text ((i : Int) + 1) := fun h => bt_at text ((i : Int) + 1) (by omega)
  generalize bt text ((i : Int) + 1) = b at HS hbr hx1 e117 e85
  clear h117 h85
  rcases hin with rfl | ⟨rfl, hf⟩
  · have hR0 := hR
    have hB0 := Below.refl B w
    obtain ⟨A, c, c0, c1, c2, f1, f2, hlt, hc, hC⟩ := hR0.open_
    go_enter Tryd.func43, Tryd.ntmps43
    go_wp2_with fail
    go_quiet (fail)
    go_wp2_with fail
    go_quiet (fail)
    go_wp2_with fail
    refine (esc_short.calls 3 _ _ _ _ _ HS.out).mono ?_
    rintro e w1 ⟨rfl, n1, rfl⟩
    go_wp2
    go_ret
    exact ⟨by rw [HJ.out]; rfl, by rw [HJ.out]; exact hR0.drewN _, pw_below_drewN hB0 _⟩
  · have HFo := Lib.hid hf
    clear hf
    obtain ⟨A0, c_, a0, a1, a2, b1, b2, hlt0, hc0, hC0⟩ := hR.open_
    go_enter Tryd.func43, Tryd.ntmps43
    go_wp2_with fail
    refine (rfold hR h1 h2).mono ?_
    rintro e w0 ⟨rfl, hR0, hB0⟩
    rw [HFo.out] at hR0
    rw [HFo.out]
    rw [show (i : Int) + (((none : Option Nat).getD 0 : Nat) : Int) = (i : Int) by simp] at hR0
    clear a0 a1 a2 b1 b2 hC0
    obtain ⟨A, c, c0, c1, c2, f1, f2, hlt, hc, hC⟩ := hR0.open_
    go_wp2_with fail
    go_quiet (fail)
    go_wp2_with fail
    go_quiet (fail)
    go_wp2_with fail
    refine (esc_short.calls 3 _ _ _ _ _ HS.out).mono ?_
    rintro e w1 ⟨rfl, n1, rfl⟩
    go_wp2
    go_ret
    exact ⟨by rw [HJ.out]; rfl, by rw [HJ.out]; exact hR0.drewN _, pw_below_drewN hB0 _⟩
set_option maxRecDepth 100000 in
set_option maxHeartbeats 16000000 in
theorem rtesc_dig4 {B g : Nat} {text : ByteArray} {i : Nat} {bs : List Int} {w : World} (lines : Bool) (hR : Rdr B w g text (i : Int) bs) (hl : bs.length ≤ 140737488000000) (h1 : i < text.size) (h2 : text.size ≤ 140737488000000) (hin : lines = false ∨ (lines = true ∧ tfold ((bytesOf text).drop i) = none)) (hj : i + 1 < text.size) (hx : shortT (bt text (i + 1)) = none) (hb : bt text (i + 1) = 117) :
    Calls Tryd.prog 43 #[.pointer (some ⟨g, 0, none⟩), .bool lines] w (TPost B g text i bs w (tesc0 ((bytesOf text).drop i))) := by
  have e1 : ((i : Int) + 1 == (text.size : Int)) = false := beq_eq_false_iff_ne.2 (by omega)
  have hbt : bt text ((i : Int) + 1) = ((bytesOf text).drop i).getD 1 0 := by rw [bt_get, getD_drop]; congr 1
  have hbr := bt_range text ((i : Int) + 1)
  have hlen : ((bytesOf text).drop i).length = text.size - i := by rw [List.length_drop, size_of]
  have HS := Lib.hid (show esc_short.f 3 (bt text ((i : Int) + 1)) true = some (0, false) by rw [shortT_eq (by omega) (by omega), hx]; rfl)
  have hd2 : digsAt ((bytesOf text).drop i) 2 4 = digsAt (bytesOf text) (i + 2) 4 := digsAt_drop _ (by rw [size_of]; omega) _ _
  have hJ : tesc0 ((bytesOf text).drop i) = (digsAt (bytesOf text) (i + 2) 4).bind fun x => if good x then some (enc x, 2 + 4) else none := by
    unfold tesc0
    rw [if_neg (by omega), ← hbt, hx, if_neg (by decide), if_pos hb, ← hd2]
    rfl
  clear hlen hx hbt hd2
  have p1 := eq_true (show (0 : Int) ≤ (i : Int) + 1 by omega)
  have qi1 := eq_true (show (i : Int) + 1 < (text.size : Int) by omega)
  have q1 := eq_true (show ((i : Int) + 1).toNat < text.size by omega)
  have q2 := eq_true hj
  have hx1 : ∀ h : i + 1 < text.size, ((text[i + 1]'h).toNat : Int) = bt text ((i : Int) + 1) := fun h => bt_at text ((i : Int) + 1) (by omega)
  have HD := Lib.hid (fun (w : World) (h : Rdr B w g text (i : Int) bs) => rdigits_at ((i : Int) + 2) 4 (i + 2) 4 (by omega) (by omega) (by decide) (by decide) h h2 (by omega))
  have hx4 : ∀ v, digsAt (bytesOf text) (i + 2) 4 = some v → (digsAt (bytesOf text) (i + 2) 4).getD 0 = v := fun v h => by rw [h]; rfl
  have HJ0 : (digsAt (bytesOf text) (i + 2) 4).isSome = false → tesc0 ((bytesOf text).drop i) = none := by
    intro h
    rw [hJ]
    cases hd : digsAt (bytesOf text) (i + 2) 4 with
    | none => rfl
    | some v => rw [hd] at h; cases h
  have HJ1 : (digsAt (bytesOf text) (i + 2) 4).isSome = true → good ((digsAt (bytesOf text) (i + 2) 4).getD 0) → tesc0 ((bytesOf text).drop i) = some (enc ((digsAt (bytesOf text) (i + 2) 4).getD 0), 2 + 4) := by
    intro h hg
    rw [hJ]
    obtain ⟨v, hv⟩ := Option.isSome_iff_exists.1 h
    rw [hv] at hg ⊢
    exact if_pos hg
  have HJ2 : (digsAt (bytesOf text) (i + 2) 4).isSome = true → ¬ good ((digsAt (bytesOf text) (i + 2) 4).getD 0) → tesc0 ((bytesOf text).drop i) = none := by
    intro h hg
    rw [hJ]
    obtain ⟨v, hv⟩ := Option.isSome_iff_exists.1 h
    rw [hv] at hg ⊢
    exact if_neg hg
  clear hJ hx4
  rw [hb] at HS hx1
  clear hb hbr
  generalize (digsAt (bytesOf text) (i + 2) 4).isSome = ok at HD HJ0 HJ1 HJ2
  generalize (digsAt (bytesOf text) (i + 2) 4).getD 0 = x at HD HJ1 HJ2
  have HJ0 := Lib.hid HJ0
  have HJ1 := Lib.hid HJ1
  have HJ2 := Lib.hid HJ2
  rcases hin with rfl | ⟨rfl, hf⟩
  · have hR0 := hR
    have hB0 := Below.refl B w
    obtain ⟨A, c, c0, c1, c2, f1, f2, hlt, hc, hC⟩ := hR0.open_
    go_enter Tryd.func43, Tryd.ntmps43
    go_wp2_with fail
    go_quiet (fail)
    go_wp2_with fail
    go_quiet (fail)
    go_wp2_with fail
    refine (esc_short.calls 3 _ _ _ _ _ HS.out).mono ?_
    rintro e w1 ⟨rfl, n1, rfl⟩
    go_wp2_with fail
    refine (HD.out _ (hR0.drewN _)).mono ?_
    rintro e w2 ⟨rfl, hR2, hB2⟩
    have hB3 := (pw_below_drewN hB0 _).trans hB2
    clear c0 c1 c2 f1 f2
    cases ok
    · have HN := Lib.hid (HJ0.out rfl)
      go_wp2
      go_ret
      exact ⟨by rw [HN.out]; rfl, by rw [HN.out]; exact hR2, hB3⟩
    · by_cases hg : good x
      · have HN := Lib.hid (HJ1.out rfl hg)
        go_wp2_with fail
        refine (rput_good 6 hg hR2 hl (by omega) (by omega) (by decide) (by decide)).mono ?_
        rintro e w3 ⟨rfl, hR3, hB4⟩
        go_wp2
        go_ret
        exact ⟨by rw [HN.out]; rfl, by rw [HN.out]; exact hR3, hB3.trans hB4⟩
      · have HN := Lib.hid (HJ2.out rfl hg)
        go_wp2_with fail
        refine (rput_bad 6 hg hR2 hl (by omega) (by omega) (by decide) (by decide)).mono ?_
        rintro e w3 ⟨rfl, hR3, hB4⟩
        go_wp2
        go_ret
        exact ⟨by rw [HN.out]; rfl, by rw [HN.out]; exact hR3, hB3.trans hB4⟩
  · have HFo := Lib.hid hf
    clear hf
    obtain ⟨A0, c_, a0, a1, a2, b1, b2, hlt0, hc0, hC0⟩ := hR.open_
    go_enter Tryd.func43, Tryd.ntmps43
    go_wp2_with fail
    refine (rfold hR h1 h2).mono ?_
    rintro e w0 ⟨rfl, hR0, hB0⟩
    rw [HFo.out] at hR0
    rw [HFo.out]
    rw [show (i : Int) + (((none : Option Nat).getD 0 : Nat) : Int) = (i : Int) by simp] at hR0
    clear a0 a1 a2 b1 b2 hC0
    obtain ⟨A, c, c0, c1, c2, f1, f2, hlt, hc, hC⟩ := hR0.open_
    go_wp2_with fail
    go_quiet (fail)
    go_wp2_with fail
    go_quiet (fail)
    go_wp2_with fail
    refine (esc_short.calls 3 _ _ _ _ _ HS.out).mono ?_
    rintro e w1 ⟨rfl, n1, rfl⟩
    go_wp2_with fail
    refine (HD.out _ (hR0.drewN _)).mono ?_
    rintro e w2 ⟨rfl, hR2, hB2⟩
    have hB3 := (pw_below_drewN hB0 _).trans hB2
    clear c0 c1 c2 f1 f2
    cases ok
    · have HN := Lib.hid (HJ0.out rfl)
      go_wp2
      go_ret
      exact ⟨by rw [HN.out]; rfl, by rw [HN.out]; exact hR2, hB3⟩
    · by_cases hg : good x
      · have HN := Lib.hid (HJ1.out rfl hg)
        go_wp2_with fail
        refine (rput_good 6 hg hR2 hl (by omega) (by omega) (by decide) (by decide)).mono ?_
        rintro e w3 ⟨rfl, hR3, hB4⟩
        go_wp2
        go_ret
        exact ⟨by rw [HN.out]; rfl, by rw [HN.out]; exact hR3, hB3.trans hB4⟩
      · have HN := Lib.hid (HJ2.out rfl hg)
        go_wp2_with fail
        refine (rput_bad 6 hg hR2 hl (by omega) (by omega) (by decide) (by decide)).mono ?_
        rintro e w3 ⟨rfl, hR3, hB4⟩
        go_wp2
        go_ret
        exact ⟨by rw [HN.out]; rfl, by rw [HN.out]; exact hR3, hB3.trans hB4⟩
set_option maxRecDepth 100000 in
set_option maxHeartbeats 16000000 in
theorem rtesc_dig8 {B g : Nat} {text : ByteArray} {i : Nat} {bs : List Int} {w : World} (lines : Bool) (hR : Rdr B w g text (i : Int) bs) (hl : bs.length ≤ 140737488000000) (h1 : i < text.size) (h2 : text.size ≤ 140737488000000) (hin : lines = false ∨ (lines = true ∧ tfold ((bytesOf text).drop i) = none)) (hj : i + 1 < text.size) (hx : shortT (bt text (i + 1)) = none) (hb : bt text (i + 1) = 85) :
    Calls Tryd.prog 43 #[.pointer (some ⟨g, 0, none⟩), .bool lines] w (TPost B g text i bs w (tesc0 ((bytesOf text).drop i))) := by
  have e1 : ((i : Int) + 1 == (text.size : Int)) = false := beq_eq_false_iff_ne.2 (by omega)
  have hbt : bt text ((i : Int) + 1) = ((bytesOf text).drop i).getD 1 0 := by rw [bt_get, getD_drop]; congr 1
  have hbr := bt_range text ((i : Int) + 1)
  have hlen : ((bytesOf text).drop i).length = text.size - i := by rw [List.length_drop, size_of]
  have HS := Lib.hid (show esc_short.f 3 (bt text ((i : Int) + 1)) true = some (0, false) by rw [shortT_eq (by omega) (by omega), hx]; rfl)
  have hd2 : digsAt ((bytesOf text).drop i) 2 8 = digsAt (bytesOf text) (i + 2) 8 := digsAt_drop _ (by rw [size_of]; omega) _ _
  have hJ : tesc0 ((bytesOf text).drop i) = (digsAt (bytesOf text) (i + 2) 8).bind fun x => if good x then some (enc x, 2 + 8) else none := by
    unfold tesc0
    rw [if_neg (by omega), ← hbt, hx, if_neg (by decide), if_neg (by omega), if_pos hb, ← hd2]
    rfl
  clear hlen hx hbt hd2
  have p1 := eq_true (show (0 : Int) ≤ (i : Int) + 1 by omega)
  have qi1 := eq_true (show (i : Int) + 1 < (text.size : Int) by omega)
  have q1 := eq_true (show ((i : Int) + 1).toNat < text.size by omega)
  have q2 := eq_true hj
  have hx1 : ∀ h : i + 1 < text.size, ((text[i + 1]'h).toNat : Int) = bt text ((i : Int) + 1) := fun h => bt_at text ((i : Int) + 1) (by omega)
  have HD := Lib.hid (fun (w : World) (h : Rdr B w g text (i : Int) bs) => rdigits_at ((i : Int) + 2) 8 (i + 2) 8 (by omega) (by omega) (by decide) (by decide) h h2 (by omega))
  have hx4 : ∀ v, digsAt (bytesOf text) (i + 2) 8 = some v → (digsAt (bytesOf text) (i + 2) 8).getD 0 = v := fun v h => by rw [h]; rfl
  have HJ0 : (digsAt (bytesOf text) (i + 2) 8).isSome = false → tesc0 ((bytesOf text).drop i) = none := by
    intro h
    rw [hJ]
    cases hd : digsAt (bytesOf text) (i + 2) 8 with
    | none => rfl
    | some v => rw [hd] at h; cases h
  have HJ1 : (digsAt (bytesOf text) (i + 2) 8).isSome = true → good ((digsAt (bytesOf text) (i + 2) 8).getD 0) → tesc0 ((bytesOf text).drop i) = some (enc ((digsAt (bytesOf text) (i + 2) 8).getD 0), 2 + 8) := by
    intro h hg
    rw [hJ]
    obtain ⟨v, hv⟩ := Option.isSome_iff_exists.1 h
    rw [hv] at hg ⊢
    exact if_pos hg
  have HJ2 : (digsAt (bytesOf text) (i + 2) 8).isSome = true → ¬ good ((digsAt (bytesOf text) (i + 2) 8).getD 0) → tesc0 ((bytesOf text).drop i) = none := by
    intro h hg
    rw [hJ]
    obtain ⟨v, hv⟩ := Option.isSome_iff_exists.1 h
    rw [hv] at hg ⊢
    exact if_neg hg
  clear hJ hx4
  rw [hb] at HS hx1
  clear hb hbr
  generalize (digsAt (bytesOf text) (i + 2) 8).isSome = ok at HD HJ0 HJ1 HJ2
  generalize (digsAt (bytesOf text) (i + 2) 8).getD 0 = x at HD HJ1 HJ2
  have HJ0 := Lib.hid HJ0
  have HJ1 := Lib.hid HJ1
  have HJ2 := Lib.hid HJ2
  rcases hin with rfl | ⟨rfl, hf⟩
  · have hR0 := hR
    have hB0 := Below.refl B w
    obtain ⟨A, c, c0, c1, c2, f1, f2, hlt, hc, hC⟩ := hR0.open_
    go_enter Tryd.func43, Tryd.ntmps43
    go_wp2_with fail
    go_quiet (fail)
    go_wp2_with fail
    go_quiet (fail)
    go_wp2_with fail
    refine (esc_short.calls 3 _ _ _ _ _ HS.out).mono ?_
    rintro e w1 ⟨rfl, n1, rfl⟩
    go_wp2_with fail
    refine (HD.out _ (hR0.drewN _)).mono ?_
    rintro e w2 ⟨rfl, hR2, hB2⟩
    have hB3 := (pw_below_drewN hB0 _).trans hB2
    clear c0 c1 c2 f1 f2
    cases ok
    · have HN := Lib.hid (HJ0.out rfl)
      go_wp2
      go_ret
      exact ⟨by rw [HN.out]; rfl, by rw [HN.out]; exact hR2, hB3⟩
    · by_cases hg : good x
      · have HN := Lib.hid (HJ1.out rfl hg)
        go_wp2_with fail
        refine (rput_good 10 hg hR2 hl (by omega) (by omega) (by decide) (by decide)).mono ?_
        rintro e w3 ⟨rfl, hR3, hB4⟩
        go_wp2
        go_ret
        exact ⟨by rw [HN.out]; rfl, by rw [HN.out]; exact hR3, hB3.trans hB4⟩
      · have HN := Lib.hid (HJ2.out rfl hg)
        go_wp2_with fail
        refine (rput_bad 10 hg hR2 hl (by omega) (by omega) (by decide) (by decide)).mono ?_
        rintro e w3 ⟨rfl, hR3, hB4⟩
        go_wp2
        go_ret
        exact ⟨by rw [HN.out]; rfl, by rw [HN.out]; exact hR3, hB3.trans hB4⟩
  · have HFo := Lib.hid hf
    clear hf
    obtain ⟨A0, c_, a0, a1, a2, b1, b2, hlt0, hc0, hC0⟩ := hR.open_
    go_enter Tryd.func43, Tryd.ntmps43
    go_wp2_with fail
    refine (rfold hR h1 h2).mono ?_
    rintro e w0 ⟨rfl, hR0, hB0⟩
    rw [HFo.out] at hR0
    rw [HFo.out]
    rw [show (i : Int) + (((none : Option Nat).getD 0 : Nat) : Int) = (i : Int) by simp] at hR0
    clear a0 a1 a2 b1 b2 hC0
    obtain ⟨A, c, c0, c1, c2, f1, f2, hlt, hc, hC⟩ := hR0.open_
    go_wp2_with fail
    go_quiet (fail)
    go_wp2_with fail
    go_quiet (fail)
    go_wp2_with fail
    refine (esc_short.calls 3 _ _ _ _ _ HS.out).mono ?_
    rintro e w1 ⟨rfl, n1, rfl⟩
    go_wp2_with fail
    refine (HD.out _ (hR0.drewN _)).mono ?_
    rintro e w2 ⟨rfl, hR2, hB2⟩
    have hB3 := (pw_below_drewN hB0 _).trans hB2
    clear c0 c1 c2 f1 f2
    cases ok
    · have HN := Lib.hid (HJ0.out rfl)
      go_wp2
      go_ret
      exact ⟨by rw [HN.out]; rfl, by rw [HN.out]; exact hR2, hB3⟩
    · by_cases hg : good x
      · have HN := Lib.hid (HJ1.out rfl hg)
        go_wp2_with fail
        refine (rput_good 10 hg hR2 hl (by omega) (by omega) (by decide) (by decide)).mono ?_
        rintro e w3 ⟨rfl, hR3, hB4⟩
        go_wp2
        go_ret
        exact ⟨by rw [HN.out]; rfl, by rw [HN.out]; exact hR3, hB3.trans hB4⟩
      · have HN := Lib.hid (HJ2.out rfl hg)
        go_wp2_with fail
        refine (rput_bad 10 hg hR2 hl (by omega) (by omega) (by decide) (by decide)).mono ?_
        rintro e w3 ⟨rfl, hR3, hB4⟩
        go_wp2
        go_ret
        exact ⟨by rw [HN.out]; rfl, by rw [HN.out]; exact hR3, hB3.trans hB4⟩
/-- What tomlEscape does. -/
theorem rtesc {B g : Nat} {text : ByteArray} {i : Nat} {bs : List Int} {w : World} (lines : Bool) (hR : Rdr B w g text (i : Int) bs) (hl : bs.length ≤ 140737488000000) (h1 : i < text.size) (h2 : text.size ≤ 140737488000000) :
    Calls Tryd.prog 43 #[.pointer (some ⟨g, 0, none⟩), .bool lines] w (TPost B g text i bs w (tesc lines ((bytesOf text).drop i))) := by
  have rest : (lines = false ∨ (lines = true ∧ tfold ((bytesOf text).drop i) = none)) → Calls Tryd.prog 43 #[.pointer (some ⟨g, 0, none⟩), .bool lines] w (TPost B g text i bs w (tesc0 ((bytesOf text).drop i))) := by
    intro hin
    by_cases hj : i + 1 = text.size
    · exact rtesc_end lines hR h1 h2 hin hj
    · have hj' : i + 1 < text.size := by omega
      cases hs : shortT (bt text (i + 1)) with
      | some x => exact rtesc_short lines hR hl h1 h2 hin hj' hs
      | none =>
        by_cases h117 : bt text (i + 1) = 117
        · exact rtesc_dig4 lines hR hl h1 h2 hin hj' hs h117
        · by_cases h85 : bt text (i + 1) = 85
          · exact rtesc_dig8 lines hR hl h1 h2 hin hj' hs h85
          · exact rtesc_no lines hR h1 h2 hin hj' hs h117 h85
  unfold tesc
  cases lines with
  | false => rw [if_neg (by simp)]; exact rest (.inl rfl)
  | true =>
    cases hf : tfold ((bytesOf text).drop i) with
    | none => rw [if_neg (by simp)]; exact rest (.inr ⟨rfl, hf⟩)
    | some n => rw [if_pos (by simp)]; exact rtesc_fold hR h1 h2 hf
end Go.Proofs.YtoanbmggffkmgaaDoor.P
end
section
namespace Go.Proofs
open Go.Shelf
def Tryd.lays105_ren : Go.Shelf.Ren := ⟨fun | 105 => 41 | 212 => 68 | 99 => 62 | 165 => 69 | 166 => 70 | 170 => 71 | 169 => 72 | 263 => 90 | 264 => 91 | 206 => 86 | 240 => 92 | 241 => 93 | 276 => 107 | 277 => 108 | n => n, fun | 9 => 9 | 3 => 3 | 4 => 4 | 20 => 20 | 0 => 0 | 46 => 67 | 109 => 84 | 5 => 5 | 72 => 88 | 76 => 92 | 51 => 107 | 146 => 108 | 53 => 110 | 148 => 111 | 70 => 86 | 37 => 46 | 75 => 91 | 127 => 113 | 164 => 124 | 80 => 95 | n => n, fun | n => n⟩
theorem Tryd.lays105 : Go.Proofs.Lays.n105 Tryd.prog Tryd.lays105_ren := {
  mixed := by kernel_rfl
  f99 := Tryd.func62.trans (congrArg some (by kernel_rfl))
  f105 := Tryd.func41.trans (congrArg some (by kernel_rfl))
  f165 := Tryd.func69.trans (congrArg some (by kernel_rfl))
  f166 := Tryd.func70.trans (congrArg some (by kernel_rfl))
  f169 := Tryd.func72.trans (congrArg some (by kernel_rfl))
  f170 := Tryd.func71.trans (congrArg some (by kernel_rfl))
  f206 := Tryd.func86.trans (congrArg some (by kernel_rfl))
  f212 := Tryd.func68.trans (congrArg some (by kernel_rfl))
  f240 := Tryd.func92.trans (congrArg some (by kernel_rfl))
  f241 := Tryd.func93.trans (congrArg some (by kernel_rfl))
  f263 := Tryd.func90.trans (congrArg some (by kernel_rfl))
  f264 := Tryd.func91.trans (congrArg some (by kernel_rfl))
  f276 := Tryd.func107.trans (congrArg some (by kernel_rfl))
  f277 := Tryd.func108.trans (congrArg some (by kernel_rfl))
  t0 := Tryd.underlying0
  a0 := Tryd.isAgg0
  z0 := Tryd.sizeOf0
  v0 := Tryd.zeroValue0
  t3 := Tryd.underlying3
  a3 := Tryd.isAgg3
  z3 := Tryd.sizeOf3
  v3 := Tryd.zeroValue3
  t4 := Tryd.underlying4
  a4 := Tryd.isAgg4
  z4 := Tryd.sizeOf4
  v4 := Tryd.zeroValue4
  t5 := Tryd.underlying5
  a5 := Tryd.isAgg5
  z5 := Tryd.sizeOf5
  v5 := Tryd.zeroValue5
  t9 := Tryd.underlying9
  a9 := Tryd.isAgg9
  z9 := Tryd.sizeOf9
  v9 := Tryd.zeroValue9
  t20 := Tryd.underlying20
  a20 := Tryd.isAgg20
  z20 := Tryd.sizeOf20
  v20 := Tryd.zeroValue20
  t37 := Tryd.underlying46
  a37 := Tryd.isAgg46
  z37 := Tryd.sizeOf46
  v37 := Tryd.zeroValue46
  t46 := Tryd.underlying67
  a46 := Tryd.isAgg67
  z46 := Tryd.sizeOf67
  v46 := Tryd.zeroValue67
  t51 := Tryd.underlying107
  a51 := Tryd.isAgg107
  z51 := Tryd.sizeOf107
  v51 := Tryd.zeroValue107
  t53 := Tryd.underlying110
  a53 := Tryd.isAgg110
  z53 := Tryd.sizeOf110
  v53 := Tryd.zeroValue110
  t70 := Tryd.underlying86
  a70 := Tryd.isAgg86
  z70 := Tryd.sizeOf86
  v70 := Tryd.zeroValue86
  t72 := Tryd.underlying88
  a72 := Tryd.isAgg88
  z72 := Tryd.sizeOf88
  v72 := Tryd.zeroValue88
  t75 := Tryd.underlying91
  a75 := Tryd.isAgg91
  z75 := Tryd.sizeOf91
  v75 := Tryd.zeroValue91
  t76 := Tryd.underlying92
  a76 := Tryd.isAgg92
  z76 := Tryd.sizeOf92
  v76 := Tryd.zeroValue92
  t109 := Tryd.underlying84
  a109 := Tryd.isAgg84
  z109 := Tryd.sizeOf84
  v109 := Tryd.zeroValue84
  t127 := Tryd.underlying113
  a127 := Tryd.isAgg113
  z127 := Tryd.sizeOf113
  v127 := Tryd.zeroValue113
  t146 := Tryd.underlying108
  a146 := Tryd.isAgg108
  z146 := Tryd.sizeOf108
  v146 := Tryd.zeroValue108
  t148 := Tryd.underlying111
  a148 := Tryd.isAgg111
  z148 := Tryd.sizeOf111
  v148 := Tryd.zeroValue111
  t164 := Tryd.underlying124
  a164 := Tryd.isAgg124
  z164 := Tryd.sizeOf124
  v164 := Tryd.zeroValue124 }
end Go.Proofs
end
section
namespace Go.Proofs.YtoanbmggffkmgaaDoor.P
open Go.RowKit Go.Proofs.YtoanbmggffkmgaaDoor.La Go.Proofs.YtoanbmggffkmgaaDoorW.PrintWords Go.Proofs.YtoanbmggffkmgaaDoorW.PrintLast Go.Proofs.YtoanbmggffkmgaaDoorW.PrintMore
theorem repX : Builder.Extra Tryd.prog Tryd.lays105_ren := by
  constructor
  · constructor
    all_goals first | kernel_rfl | (intro w; kernel_rfl) | decide
  all_goals first | kernel_rfl | (intro w; kernel_rfl) | decide
/-- A text of one byte. -/
def one (q : UInt8) : ByteArray := ⟨#[q]⟩
theorem one_bytes (q : UInt8) : bytesOf (one q) = [(q.toNat : Int)] := rfl
theorem repeat3 (q : UInt8) (w : World) : Calls Tryd.prog 41 #[.string (one q), .int .i64 3] w fun e w' => e = .returned (.string ⟨#[q, q, q]⟩) ∧ Below w.heap.size w w' :=
  (Any.strings_Repeat_main Tryd.lays105 repX (one q) 3 w (by decide) (by decide) (show 1 * 3 ≤ 140737488355328 by decide) (show 0 < 1 by decide)).mono fun _ _ h => h
theorem repeat4 (q : UInt8) (w : World) : Calls Tryd.prog 41 #[.string (one q), .int .i64 4] w fun e w' => e = .returned (.string ⟨#[q, q, q, q]⟩) ∧ Below w.heap.size w w' :=
  (Any.strings_Repeat_main Tryd.lays105 repX (one q) 4 w (by decide) (by decide) (show 1 * 4 ≤ 140737488355328 by decide) (show 0 < 1 by decide)).mono fun _ _ h => h
end Go.Proofs.YtoanbmggffkmgaaDoor.P
end
section
namespace Go.Proofs.YtoanbmggffkmgaaDoor.La
open Go.RowKit Go.Proofs.YtoanbmggffkmgaaDoor.P Go.Proofs.YtoanbmggffkmgaaDoorW.PrintWords Go.Proofs.YtoanbmggffkmgaaDoorW.PrintLast Go.Proofs.YtoanbmggffkmgaaDoorW.PrintMore
/-- How many of one byte a list begins with. -/
def lead (q : Int) : List Int → Nat
  | [] => 0
  | b :: l => if b = q then lead q l + 1 else 0
theorem lead_le (q : Int) (l : List Int) : lead q l ≤ l.length := by
  induction l with
  | nil => simp [lead]
  | cons b l ih => simp only [lead, List.length_cons]; split <;> omega
theorem lead_take (q : Int) (l : List Int) (n : Nat) : l.take n = List.replicate n q ↔ n ≤ lead q l := by
  induction n generalizing l with
  | zero => simp
  | succ n ih =>
    cases l with
    | nil => simp [lead, List.replicate_succ]
    | cons b l =>
      rw [List.take_succ_cons, List.replicate_succ]
      simp only [lead]
      by_cases h : b = q
      · rw [if_pos h]
        constructor
        · intro e; injection e with _ e; have := (ih l).1 e; omega
        · intro e; rw [h, (ih l).2 (by omega)]
      · rw [if_neg h]
        constructor
        · intro e; injection e with e _; exact absurd e h
        · intro e; omega
theorem lead_drop {q : Int} {l : List Int} {k : Nat} (h : k ≤ lead q l) : lead q (l.drop k) = lead q l - k := by
  induction l generalizing k with
  | nil => simp [lead]
  | cons b l ih =>
    cases k with
    | zero => simp
    | succ k =>
      simp only [lead] at h ⊢
      split at h
      · rename_i hb
        rw [if_pos hb, List.drop_succ_cons, ih (by omega)]
        omega
      · omega
/-- What stands at a string's end: what it adds to the string, and how many bytes it has. -/
def tend (lines : Bool) (q : Int) (l : List Int) : Option (List Int × Nat) :=
  if lines = true then (if lead q l < 3 then none else some (List.replicate (min (lead q l - 3) 2) q, min (lead q l - 3) 2 + 3))
  else (if lead q l = 0 then none else some ([], 1))
end Go.Proofs.YtoanbmggffkmgaaDoor.La
namespace Go.Proofs.YtoanbmggffkmgaaDoor.P
open Go.RowKit Go.Proofs.YtoanbmggffkmgaaDoor.La Go.Proofs.YtoanbmggffkmgaaDoorW.PrintWords Go.Proofs.YtoanbmggffkmgaaDoorW.PrintLast Go.Proofs.YtoanbmggffkmgaaDoorW.PrintMore
theorem rep_bytes1 (q : UInt8) : bytesOf (one q) = List.replicate 1 (q.toNat : Int) := rfl
theorem rep_bytes3 (q : UInt8) : bytesOf (⟨#[q, q, q]⟩ : ByteArray) = List.replicate 3 (q.toNat : Int) := rfl
theorem rep_bytes4 (q : UInt8) : bytesOf (⟨#[q, q, q, q]⟩ : ByteArray) = List.replicate 4 (q.toNat : Int) := rfl
/-- A row that has grown, of no known place, is stored. -/
theorem Rdr.grownT {B : Nat} {w w1 : World} {g : Nat} {text : ByteArray} {at_ : Int} {bs : List Int} {A : Option Addr} {c : Nat} (hB : B ≤ g) (hh : w.heap[g]? = some (.cells #[.string text, .int .i64 at_, .slice A bs.length c] 63 (0, 0))) (hr : Kd.R (Kd.int .u8) 5 w B (fun k => k ≠ g) (.slice A bs.length c) bs)
    {v1 : Value} {bs1 : List Int} (ho : Kd.R (Kd.int .u8) 5 w1 B (fun _ => True) v1 bs1) (hg : w.grownBy w1 (.slice A bs.length c : Value).ownBlock) :
    w1.cell? ⟨g, 0, none⟩ = some (.string text) ∧ w1.cell? ⟨g, 1, none⟩ = some (.int .i64 at_) ∧ w1.cell? ⟨g, 2, none⟩ = some (.slice A bs.length c) ∧ w1.frozen? ⟨g, 1, none⟩ = false ∧ w1.frozen? ⟨g, 2, none⟩ = false ∧ g < w1.heap.size ∧
      ∀ at1 : Int, Rdr B ((w1.setCell ⟨g, 2, none⟩ v1).setCell ⟨g, 1, none⟩ (.int .i64 at1)) g text at1 bs1 := by
  have hne : some g ≠ (Value.slice A bs.length c).ownBlock := fun e => hr.1 g e.symm rfl
  have h1 := blk_grown hh hg hne
  have hne1 : some g ≠ v1.ownBlock := Kd.R_ne ho h1 (by decide)
  have ho' : Kd.R (Kd.int .u8) 5 w1 B (fun k => k ≠ g) v1 bs1 := Kd.R_of_own (Kd.own_of_R ho) (fun k hk e => hne1 (by rw [← e]; exact hk.symm))
  obtain ⟨a1, a2, a3, a4, a5, a6, a7⟩ := Rdr.grown hB hh hr ho' hg
  exact ⟨a1, a2, a3, a4, a5, a6, fun at1 => (a7 at1).1⟩
def EndPost (B g : Nat) (text : ByteArray) (i : Nat) (bs : List Int) (w : World) (o : Option (List Int × Nat)) (e : Ending) (w' : World) : Prop :=
  e = .returned (.bool o.isSome) ∧ Rdr B w' g text (match o with | none => (i : Int) | some p => (i : Int) + p.2) (match o with | none => bs | some p => bs ++ p.1) ∧ Below B w w'
set_option maxRecDepth 100000 in
set_option maxHeartbeats 8000000 in
theorem rended_plain {B g : Nat} {text : ByteArray} {i : Nat} {bs : List Int} {w : World} (q : UInt8) (hR : Rdr B w g text (i : Int) bs) (h1 : i < text.size) (h2 : text.size ≤ 140737488000000) :
    Calls Tryd.prog 42 #[.pointer (some ⟨g, 0, none⟩), .string (one q), .bool false] w (EndPost B g text i bs w (tend false (q.toNat : Int) ((bytesOf text).drop i))) := by
  have hT := lead_take (q.toNat : Int) ((bytesOf text).drop i) 1
  have d1 : decide (((bytesOf text).drop i).take (one q).size = bytesOf (one q)) = decide (1 ≤ lead (q.toNat : Int) ((bytesOf text).drop i)) := by
    rw [rep_bytes1, decide_eq_decide]
    exact hT
  unfold tend
  rw [if_neg (by decide)]
  by_cases hn : lead (q.toNat : Int) ((bytesOf text).drop i) = 0
  · rw [if_pos hn]
    rw [decide_eq_false (show ¬ 1 ≤ lead (q.toNat : Int) ((bytesOf text).drop i) by omega)] at d1
    clear hT hn
    go_enter Tryd.func42, Tryd.ntmps42
    go_wp2_with fail
    refine (rbegins (one q) hR (by omega) (by omega)).mono ?_
    rintro e w2 ⟨rfl, n2, rfl⟩
    rw [show (i : Int).toNat = i by omega, d1]
    go_wp2
    go_ret
    exact ⟨rfl, hR.drewN _, pw_below_drewN (Below.refl _ _) _⟩
  · rw [if_neg hn]
    rw [decide_eq_true (show 1 ≤ lead (q.toNat : Int) ((bytesOf text).drop i) by omega)] at d1
    clear hT hn
    go_enter Tryd.func42, Tryd.ntmps42
    go_wp2_with fail
    refine (rbegins (one q) hR (by omega) (by omega)).mono ?_
    rintro e w2 ⟨rfl, n2, rfl⟩
    rw [show (i : Int).toNat = i by omega, d1]
    have hR2 := hR.drewN n2
    have hB2 := pw_below_drewN (Below.refl B w) n2
    generalize w.drewN n2 = w3 at hR2 hB2
    obtain ⟨A, c, c0, c1, c2, f1, f2, hlt, hc, hC⟩ := hR2.open_
    have hM := hR2.moved ((i : Int) + 1)
    go_wp2
    go_ret
    exact ⟨rfl, by show Rdr B _ g text ((i : Int) + ((1 : Nat) : Int)) (bs ++ []); rw [List.append_nil]; exact hM.1, hB2.trans hM.2⟩
/-- The state between two turns. -/
def EndRel (B g : Nat) (text : ByteArray) (i : Nat) (bs : List Int) (w : World) (q : Int) (kq : Nat) (v : Value) (wr : World) : Prop :=
  ∃ k : Nat, v = .int .i64 k ∧ k + kq = 3 ∧ k ≤ 2 ∧ k + 3 ≤ lead q ((bytesOf text).drop i) ∧ Rdr B wr g text ((i + k : Nat) : Int) (bs ++ List.replicate k q) ∧ Below B w wr
set_option maxRecDepth 100000 in
set_option maxHeartbeats 16000000 in
theorem rended_lines {B g : Nat} {text : ByteArray} {i : Nat} {bs : List Int} {w : World} (q : UInt8) (hR : Rdr B w g text (i : Int) bs) (hl : bs.length ≤ 140737480000000) (h1 : i < text.size) (h2 : text.size ≤ 140737488000000) :
    Calls Tryd.prog 42 #[.pointer (some ⟨g, 0, none⟩), .string (one q), .bool true] w (EndPost B g text i bs w (tend true (q.toNat : Int) ((bytesOf text).drop i))) := by
  have hlow := hR.low
  have hT := lead_take (q.toNat : Int) ((bytesOf text).drop i) 3
  have d1 : decide (((bytesOf text).drop i).take (⟨#[q, q, q]⟩ : ByteArray).size = bytesOf (⟨#[q, q, q]⟩ : ByteArray)) = decide (3 ≤ lead (q.toNat : Int) ((bytesOf text).drop i)) := by
    rw [rep_bytes3, decide_eq_decide]
    exact hT
  have hll := lead_le (q.toNat : Int) ((bytesOf text).drop i)
  rw [List.length_drop, size_of] at hll
  have D4 : ∀ k, k + 3 ≤ lead (q.toNat : Int) ((bytesOf text).drop i) → decide (((bytesOf text).drop (((i + k : Nat) : Int)).toNat).take (⟨#[q, q, q, q]⟩ : ByteArray).size = bytesOf (⟨#[q, q, q, q]⟩ : ByteArray)) = decide (k + 4 ≤ lead (q.toNat : Int) ((bytesOf text).drop i)) := by
    intro k hk
    rw [Int.toNat_natCast, rep_bytes4, decide_eq_decide, ← List.drop_drop]
    have := lead_take (q.toNat : Int) (((bytesOf text).drop i).drop k) 4
    rw [lead_drop (by omega)] at this
    rw [show (⟨#[q, q, q, q]⟩ : ByteArray).size = 4 from rfl, this]
    omega
  have hE : tend true (q.toNat : Int) ((bytesOf text).drop i) = if lead (q.toNat : Int) ((bytesOf text).drop i) < 3 then none else some (List.replicate (min (lead (q.toNat : Int) ((bytesOf text).drop i) - 3) 2) (q.toNat : Int), min (lead (q.toNat : Int) ((bytesOf text).drop i) - 3) 2 + 3) := if_pos rfl
  rw [hE]
  clear hE hT
  generalize hN : lead (q.toNat : Int) ((bytesOf text).drop i) = n at d1 hll D4
  by_cases hn : n < 3
  · rw [if_pos hn]
    rw [decide_eq_false (show ¬ 3 ≤ n by omega)] at d1
    go_enter Tryd.func42, Tryd.ntmps42
    go_wp2_with fail
    refine (repeat3 q w).mono ?_
    rintro e w1 ⟨rfl, hb1⟩
    have hR1 := hR.below hb1
    go_wp2_with fail
    refine (rbegins ⟨#[q, q, q]⟩ hR1 (by omega) (by omega)).mono ?_
    rintro e w2 ⟨rfl, n2, rfl⟩
    rw [show (i : Int).toNat = i by omega, d1]
    go_wp2
    go_ret
    exact ⟨rfl, hR1.drewN _, pw_below_drewN (hb1.mono hlow) _⟩
  · rw [if_neg hn]
    rw [decide_eq_true (show 3 ≤ n by omega)] at d1
    have D4h := Lib.hid D4
    clear D4
    go_enter Tryd.func42, Tryd.ntmps42
    go_wp2_with fail
    refine (repeat3 q w).mono ?_
    rintro e w1 ⟨rfl, hb1⟩
    have hR1 := hR.below hb1
    go_wp2_with fail
    refine (rbegins ⟨#[q, q, q]⟩ hR1 (by omega) (by omega)).mono ?_
    rintro e w2 ⟨rfl, n2, rfl⟩
    rw [show (i : Int).toNat = i by omega, d1]
    have hR2 := hR1.drewN n2
    have hB2 := pw_below_drewN (hb1.mono hlow) n2
    generalize w1.drewN n2 = w3 at hR2 hB2
    clear hR1 hb1 d1 hR
    go_wp2_with fail
    go_loopg [7] 3 (fun kq v wr => EndRel B g text i bs w (q.toNat : Int) kq v wr)
    case atStart => exact ⟨0, rfl, rfl, by omega, by rw [hN]; omega, by rw [Nat.add_zero]; simp; exact hR2, hB2⟩
    case round =>
      clear hR2 hB2
      obtain ⟨k, rfl, hkq, hk2, hk3, hR3, hB3⟩ := hrel
      rw [hN] at hk3
      have hlow3 := hR3.low
      obtain ⟨Af, cf, m0, m1, m2, n1, n2, hltf, _, _⟩ := hR3.open_
      by_cases hk : k = 2
      · subst hk
        have hM := hR3.moved ((i : Int) + 2 + 3)
        have hmin : min (n - 3) 2 = 2 := by omega
        go_wp2
        go_ret
        refine ⟨rfl, ?_, hB3.trans hM.2⟩
        rw [hmin]
        show Rdr B _ g text ((i : Int) + ((2 + 3 : Nat) : Int)) (bs ++ List.replicate 2 (q.toNat : Int))
        rw [show (i : Int) + ((2 + 3 : Nat) : Int) = (i : Int) + 2 + 3 by omega]
        exact hM.1
      · obtain ⟨kk, rfl⟩ : ∃ kk, gk = kk + 1 := ⟨gk - 1, by omega⟩
        have hk1 : (k : Int) < 2 := by omega
        have hk1b : decide ((k : Int) < 2) = true := decide_eq_true hk1
        go_wp2_with fail
        refine (repeat4 q _).mono ?_
        rintro e w5 ⟨rfl, hb5⟩
        have hR5 := hR3.below hb5
        have hB5 := hB3.trans (hb5.mono hlow3)
        clear m0 m1 m2 n1 n2 hR3 hB3 hb5
        go_wp2_with fail
        refine (rbegins ⟨#[q, q, q, q]⟩ hR5 (by omega) (by omega)).mono ?_
        rintro e w6 ⟨rfl, n6, rfl⟩
        rw [D4h.out k hk3]
        have hR7 := hR5.drewN n6
        have hB7 := pw_below_drewN hB5 n6
        generalize w5.drewN n6 = w7 at hR7 hB7
        clear hR5 hB5
        obtain ⟨Ar, cr, c0, c1, c2, f1, f2, hlt, hh, hrr⟩ := hR7.cells
        have hlow7 := hR7.low
        have hB := hR7.base
        have hrs := hrr
        rw [List.length_append, List.length_replicate] at c2 hrs
        by_cases hc : k + 4 ≤ n
        · rw [decide_eq_true hc]
          have hlb : (bs ++ List.replicate k (q.toNat : Int)).length = bs.length + k := by rw [List.length_append, List.length_replicate]
          have HLB := Lib.hid hlb
          clear hlb
          go_wp2_with ((with_reducible refine gate_builtin (b := .append) (xs := #[.tmp 40, .tmp 41]) rfl ?_); at_builtin; refine print_append_str (w0 := w) B rfl (.tmp 40) (.tmp 41) 46 9 5 rfl Tryd.underlying46 Tryd.underlying9 info5 (.slice Ar (bs.length + k) cr) (bs ++ List.replicate k (q.toNat : Int)) (one q) rfl rfl (Kd.own_of_R hrs) hB7 hlow7 (by rw [HLB.out]; show bs.length + k + 1 ≤ _; omega) ?_; intro v1 w8 ho8 hb8 hg8; have ho9 : Kd.R (Kd.int .u8) 5 w8 B (fun _ => True) v1 ((bs ++ List.replicate k (q.toNat : Int)) ++ bytesOf (one q)) := Kd.R_of_own ho8 (fun _ _ => trivial); obtain ⟨Av, cpv, rfl, -, -⟩ := Kd.R_reads ho9; have hg9 : w7.grownBy w8 (.slice Ar (bs ++ List.replicate k (q.toNat : Int)).length cr : Value).ownBlock := (by rw [HLB.out]; exact hg8); obtain ⟨k0, k1, k5, k2, k3, k4, hS⟩ := Rdr.grownT hB hh hrr ho9 hg9; rw [List.length_append, HLB.out] at hS; rw [HLB.out] at k5)
          simp only [Nat.add_assoc] at hS
          have h9 := hS ((i : Int) + k + 1)
          rw [show ((i : Int) + k + 1) = ((i + (k + 1) : Nat) : Int) by omega, show (bs ++ List.replicate k (q.toNat : Int)) ++ bytesOf (one q) = bs ++ List.replicate (k + 1) (q.toNat : Int) by rw [one_bytes, List.append_assoc, ← List.replicate_succ']] at h9
          go_roundg kk
          case rel => exact ⟨k + 1, by go_num, by omega, by omega, by rw [hN]; omega, by rw [show ((i : Int) + k + 1) = ((i + (k + 1) : Nat) : Int) by omega]; exact h9, (hb8.setCell hB _).setCell hB _⟩
          case measure => omega
        · rw [decide_eq_false hc]
          have hM := hR7.moved ((i : Int) + k + 3)
          have hmin : min (n - 3) 2 = k := by omega
          go_wp2
          go_ret
          refine ⟨rfl, ?_, hB7.trans hM.2⟩
          rw [hmin]
          show Rdr B _ g text ((i : Int) + ((k + 3 : Nat) : Int)) (bs ++ List.replicate k (q.toNat : Int))
          rw [show (i : Int) + ((k + 3 : Nat) : Int) = (i : Int) + k + 3 by omega]
          exact hM.1
end Go.Proofs.YtoanbmggffkmgaaDoor.P
end
section
namespace Go.Proofs.YtoanbmggffkmgaaDoor.La
open Go.RowKit Go.Proofs.YtoanbmggffkmgaaDoor.P Go.Proofs.YtoanbmggffkmgaaDoorW.PrintWords Go.Proofs.YtoanbmggffkmgaaDoorW.PrintLast Go.Proofs.YtoanbmggffkmgaaDoorW.PrintMore
/-- What stands at a place of a TOML string, its end aside: what it says, and how many bytes it has. -/
def titem (lines : Bool) (q : Int) (l : List Int) : Option (List Int × Nat) := if l.getD 0 0 = 92 ∧ q = 34 then tesc lines l else tplain lines l
/-- What a TOML string says from byte i on, acc being read: is it whole, its bytes, and where it ends or is wrong. -/
def tbody (L : List Int) (q : Int) (lines : Bool) : Nat → Nat → List Int → Bool × List Int × Nat
  | 0, i, _ => (false, [], i)
  | k + 1, i, acc =>
    if L.length ≤ i then (false, [], L.length)
    else match tend lines q (L.drop i) with
      | some p => (true, acc ++ p.1, i + p.2)
      | none => match titem lines q (L.drop i) with
        | none => (false, [], i)
        | some p => tbody L q lines k (i + p.2) (acc ++ p.1)
/-- A line's end behind three quotes. -/
def tskip (l : List Int) : Nat := if l.take 2 = [13, 10] then 2 else if l.take 1 = [10] then 1 else 0
/-- What a TOML string says. -/
def tstr (L : List Int) (i : Nat) : Bool × List Int × Nat :=
  if 3 ≤ lead (L.getD i 0) (L.drop i) then tbody L (L.getD i 0) true (L.length + 1) (i + 3 + tskip (L.drop (i + 3))) []
  else tbody L (L.getD i 0) false (L.length + 1) (i + 1) []
theorem tfold_len {l : List Int} {n : Nat} (hl : 0 < l.length) (h : tfold l = some n) : 1 ≤ n ∧ n ≤ l.length := by
  unfold tfold at h
  split at h
  · obtain rfl := Option.some.inj h
    have := (List.dropWhile_suffix (inSet [32, 9, 10, 13]) (l := l.drop 1)).length_le
    rw [List.length_drop] at this
    unfold trimL
    omega
  · cases h
theorem tdig_len {l : List Int} {n : Nat} {p : List Int × Nat} (h : tdig l n = some p) : p.2 = 2 + n ∧ 2 + n ≤ l.length ∧ p.1.length ≤ 4 := by
  unfold tdig at h
  obtain ⟨x, hx, h⟩ := Option.bind_eq_some_iff.1 h
  have hd := digsAt_len (l := l) (i := 2) (n := n) (by rw [hx]; rfl)
  split at h
  · obtain rfl := Option.some.inj h
    exact ⟨rfl, hd, (enc_len x).2⟩
  · cases h
theorem tesc_len {lines : Bool} {l : List Int} {p : List Int × Nat} (hl : 0 < l.length) (h : tesc lines l = some p) : 1 ≤ p.2 ∧ p.2 ≤ l.length ∧ p.1.length ≤ 4 := by
  unfold tesc at h
  split at h
  · rename_i hf
    obtain ⟨n, hn⟩ := Option.isSome_iff_exists.1 hf.2
    obtain rfl := Option.some.inj h
    have := tfold_len hl hn
    rw [hn]
    exact ⟨this.1, this.2, by simp⟩
  · unfold tesc0 at h
    split at h
    · cases h
    · split at h
      · obtain rfl := Option.some.inj h
        exact ⟨by show 1 ≤ 2; omega, by show 2 ≤ _; omega, (enc_len _).2⟩
      · split at h
        · have := tdig_len h; omega
        · split at h
          · have := tdig_len h; omega
          · cases h
theorem enc0_len (r : Int) : (enc0 r).length ≤ 4 := by
  unfold enc0
  split
  · exact (enc_len r).2
  · simp
theorem tplain_len {lines : Bool} {l : List Int} {p : List Int × Nat} (hb : Bytes l) (hl : 0 < l.length) (h : tplain lines l = some p) : 1 ≤ p.2 ∧ p.2 ≤ l.length ∧ p.1.length ≤ 4 := by
  unfold tplain at h
  split at h
  · rename_i hc
    split at h
    · rename_i h13
      obtain rfl := Option.some.inj h
      have h2 : l.take 2 = [13, 10] := by
        rcases hc with ⟨_, h | h⟩ | h
        · omega
        · exact h
        · omega
      have := congrArg List.length h2
      rw [List.length_take] at this
      exact ⟨by show 1 ≤ 2; omega, by show 2 ≤ _; simp at this; omega, by simp⟩
    · obtain rfl := Option.some.inj h
      exact ⟨Nat.le_refl _, hl, by simp⟩
  · split at h
    · cases h
    · split at h
      · obtain rfl := Option.some.inj h
        have hbd := tk_bound l hb
        exact ⟨by show 1 ≤ (tk l).2.toNat; omega, by show (tk l).2.toNat ≤ _; omega, enc0_len _⟩
      · cases h
theorem titem_len {lines : Bool} {q : Int} {l : List Int} {p : List Int × Nat} (hb : Bytes l) (hl : 0 < l.length) (h : titem lines q l = some p) : 1 ≤ p.2 ∧ p.2 ≤ l.length ∧ p.1.length ≤ 4 := by
  unfold titem at h
  split at h
  · exact tesc_len hl h
  · exact tplain_len hb hl h
theorem tend_len {lines : Bool} {q : Int} {l : List Int} {p : List Int × Nat} (h : tend lines q l = some p) : 1 ≤ p.2 ∧ p.2 ≤ l.length ∧ p.1.length ≤ 2 := by
  have hl := lead_le q l
  unfold tend at h
  split at h
  · split at h
    · cases h
    · obtain rfl := Option.some.inj h
      simp only [List.length_replicate]
      omega
  · split at h
    · cases h
    · obtain rfl := Option.some.inj h
      simp only [List.length_nil]
      omega
end Go.Proofs.YtoanbmggffkmgaaDoor.La
namespace Go.Proofs.YtoanbmggffkmgaaDoor.P
open Go.RowKit Go.Proofs.YtoanbmggffkmgaaDoor.La Go.Proofs.YtoanbmggffkmgaaDoorW.PrintWords Go.Proofs.YtoanbmggffkmgaaDoorW.PrintLast Go.Proofs.YtoanbmggffkmgaaDoorW.PrintMore
theorem rended {B g : Nat} {text : ByteArray} {i : Nat} {bs : List Int} {w : World} (lines : Bool) (q : UInt8) (hR : Rdr B w g text (i : Int) bs) (hl : bs.length ≤ 140737480000000) (h1 : i < text.size) (h2 : text.size ≤ 140737488000000) :
    Calls Tryd.prog 42 #[.pointer (some ⟨g, 0, none⟩), .string (one q), .bool lines] w (EndPost B g text i bs w (tend lines (q.toNat : Int) ((bytesOf text).drop i))) := by
  cases lines
  · exact rended_plain q hR h1 h2
  · exact rended_lines q hR hl h1 h2
/-- The loop's state. -/
def TInv (w : World) (text : ByteArray) (g : Nat) (F : Nat → Nat → List Int → Bool × List Int × Nat) (res : Bool × List Int × Nat) (k : Nat) (wr : World) : Prop :=
  ∃ (i : Nat) (bs : List Int), Rdr w.heap.size wr g text (i : Int) bs ∧ Below w.heap.size w wr ∧ F k i bs = res ∧ i ≤ text.size ∧ text.size - i < k ∧ bs.length ≤ 4 * i
set_option maxRecDepth 100000 in
set_option maxHeartbeats 64000000 in
theorem tunq_A (text : ByteArray) (at_ : Nat) (q : UInt8) (b34 : Bool) (hq34 : b34 = decide ((q.toNat : Int) = 34)) (hs : text.size ≤ 17592186044416) (hq : (bytesOf text).getD at_ 0 = (q.toNat : Int)) (_hqq : (q.toNat : Int) = 34 ∨ (q.toNat : Int) = 39) (hlt : at_ < text.size) (hq34' : (q.toNat : Int) = 34) (hln : ¬ 3 ≤ lead (q.toNat : Int) ((bytesOf text).drop at_)) (w : World) :
    Calls Tryd.prog 17 #[.string text, .int .i64 at_] w fun e w' => e = .returned (unqRes (tstr (bytesOf text) at_)) ∧ Below w.heap.size w w' := by
  generalize hres : tstr (bytesOf text) at_ = res
  have g1 : decide ((at_ : Int) < 0) = false := decide_eq_false (by omega)
  have htk1 : ∀ c : Int, ((bytesOf text).drop at_).take 1 = [c] ↔ (q.toNat : Int) = c := by
    intro c
    rw [take_one_drop (by rw [size_of]; exact hlt), hq]
    constructor
    · intro h; exact (List.cons.inj h).1
    · intro h; rw [h]
  have dA : decide (((bytesOf text).drop at_).take (⟨#[34]⟩ : ByteArray).size = bytesOf ⟨#[34]⟩) = b34 := by rw [hq34, decide_eq_decide]; exact htk1 34
  have dB : b34 = false → decide (((bytesOf text).drop at_).take (⟨#[39]⟩ : ByteArray).size = bytesOf ⟨#[39]⟩) = true := by
    intro h
    rw [decide_eq_true_eq]
    refine (htk1 39).2 ?_
    rw [hq34, decide_eq_false_iff_not] at h
    omega
  have hquote : text.extract at_ (at_ + 1) = one q := by
    apply bytesOf_inj
    rw [bytesOf_extract, List.drop_take, show at_ + 1 - at_ = 1 by omega, (htk1 _).2 rfl]
    rfl
  have hq1 : ((one q).toList == ([34] : List UInt8)) = b34 := by
    rw [hq34, Bool.eq_iff_iff, beq_iff_eq, decide_eq_true_eq]
    have := toList_eq_iff (one q) ⟨#[34]⟩
    rw [toList_data' ⟨#[34]⟩] at this
    rw [this, one_bytes]
    constructor
    · intro h; exact (List.cons.inj h).1
    · intro h; rw [h]; rfl
  obtain ⟨lines, hlines⟩ : ∃ lines, lines = decide (3 ≤ lead (q.toNat : Int) ((bytesOf text).drop at_)) := ⟨_, rfl⟩
  have d3 : decide (((bytesOf text).drop at_).take (⟨#[q, q, q]⟩ : ByteArray).size = bytesOf (⟨#[q, q, q]⟩ : ByteArray)) = lines := by
    rw [hlines, rep_bytes3, decide_eq_decide]
    exact lead_take _ _ 3
  have hT : tstr (bytesOf text) at_ = if lines = true then tbody (bytesOf text) (q.toNat : Int) true (text.size + 1) (at_ + 3 + tskip ((bytesOf text).drop (at_ + 3))) [] else tbody (bytesOf text) (q.toNat : Int) false (text.size + 1) (at_ + 1) [] := by
    unfold tstr
    rw [hq, hlines, size_of]
    simp only [decide_eq_true_eq]
  have hl3 : lines = true → at_ + 3 ≤ text.size := by
    intro h
    rw [hlines, decide_eq_true_eq] at h
    have := lead_le (q.toNat : Int) ((bytesOf text).drop at_)
    rw [List.length_drop, size_of] at this
    omega
  rw [hT] at hres
  have hLN : lines = false := by rw [hlines]; exact decide_eq_false hln
  clear hT htk1 hlines
  have HRES := Lib.hid hres
  clear hres
  have p0 := eq_true (show (0 : Int) ≤ (at_ : Int) by omega)
  have p1 := eq_true (show (at_ : Int) ≤ (at_ : Int) + 1 by omega)
  have p2 := eq_true (show (at_ : Int) + 1 ≤ (text.size : Int) by omega)
  go_enter Tryd.func17, Tryd.ntmps17
  go_wp2_with fail
  refine (rstart text at_ w).mono ?_
  rintro e w1 ⟨g, rfl, hR, hB⟩
  rw [show mn (mx (at_ : Int) 0) (text.size : Int) = (at_ : Int) by unfold mn mx; (repeat' split) <;> omega] at hR
  go_wp2_with fail
  refine (rbegins ⟨#[34]⟩ hR (by omega) (by omega)).mono ?_
  rintro e w2 ⟨rfl, n2, rfl⟩
  rw [show (at_ : Int).toNat = at_ by omega, dA]
  replace hR := hR.drewN n2
  replace hB := pw_below_drewN hB n2
  generalize w1.drewN n2 = w1 at hR hB
  have H34 : (q.toNat : Int) = 34 := hq34'
  obtain rfl : b34 = true := by rw [hq34, decide_eq_true hq34']
  clear dB dA hq34
  subst hLN
  have hsl : ∀ W : World, (Instr.slice 9 (.string text) (some (.int .i64 (at_ : Int))) (some (.int .i64 ((at_ : Int) + 1))) none).run Tryd.prog W = .ok (.string (one q)) W := by
    intro W
    have := run_slice_string (P := Tryd.prog) W 9 text .i64 .i64 (at_ : Int) ((at_ : Int) + 1) Tryd.underlying9 (by omega) (by omega) (by omega)
    rw [this, ← hquote]
    rfl
  go_wp2_with fail
  refine (repeat3 q _).mono ?_
  rintro e w2 ⟨rfl, hb2⟩
  replace hR := hR.below hb2
  have hlw := hB.size
  replace hB := hB.trans (hb2.mono hlw)
  clear hb2 hlw hsl hquote
  generalize w2 = w1 at hR hB
  go_wp2_with fail
  refine (rbegins ⟨#[q, q, q]⟩ hR (by omega) (by omega)).mono ?_
  rintro e w2 ⟨rfl, n2, rfl⟩
  rw [show (at_ : Int).toNat = at_ by omega, d3]
  replace hR := hR.drewN n2
  replace hB := pw_below_drewN hB n2
  generalize w1.drewN n2 = w1 at hR hB
  have HRES0 := HRES.out
  clear HRES
  rw [if_neg (by decide)] at HRES0
  obtain ⟨F, hF⟩ : ∃ F, F = tbody (bytesOf text) (q.toNat : Int) false := ⟨_, rfl⟩
  rw [← hF] at HRES0
  have HRES := Lib.hid HRES0
  clear HRES0
  obtain ⟨A, c, c0, c1, c2, f1, f2, hlt2, hc, hC⟩ := hR.open_
  have hlow := hR.low
  have hM := hR.moved ((at_ : Int) + 1)
  go_wp2_with fail
  generalize w1.setCell ⟨g, 1, none⟩ (.int .i64 ((at_ : Int) + 1)) = w4 at hM
  clear c0 c1 c2 f1 f2 hC hR
  obtain ⟨hR, hB4⟩ := hM
  replace hB := hB.trans hB4
  clear hB4
  generalize w4 = w1 at hR hB
  rw [show (at_ : Int) + 1 = ((at_ + 1 : Nat) : Int) by omega] at hR
  go_loopg [] (text.size + 1) (fun k wr => TInv w text g F res k wr)
  case atStart => exact ⟨_, [], hR, hB, HRES.out, by omega, by omega, by simp⟩
  case round =>
    clear hR hB HRES hl3 d3
    obtain ⟨i, bs, hR, hB, hj, hi, hk, hl⟩ := hrel
    cases gk with
    | zero => omega
    | succ k =>
      have hlow := hR.low
      obtain ⟨A, c, c0, c1, c2, f1, f2, hlt2, hc, hC⟩ := hR.open_
      rw [hF, tbody, ← hF] at hj
      by_cases hlt : i < text.size
      · rw [if_neg (by rw [size_of]; omega)] at hj
        have hdl : ((bytesOf text).drop i).length = text.size - i := by rw [List.length_drop, size_of]
        have e1 : decide ((i : Int) < (text.size : Int)) = true := decide_eq_true (by omega)
        go_wp2_with fail
        refine (rended _ q hR (by omega) hlt (by omega)).mono ?_
        rintro e w5 ⟨rfl, hR5, hB5⟩
        have hB6 := hB.trans hB5
        clear c0 c1 c2 f1 f2 hC hB hB5
        cases htend : tend false (q.toNat : Int) ((bytesOf text).drop i) with
        | some p =>
          rw [htend] at hj hR5
          have hr := Lib.hid hj
          clear hj
          replace hR5 : Rdr w.heap.size w5 g text ((i : Int) + p.2) (bs ++ p.1) := hR5
          obtain ⟨A5, c5, d0, d1, d2, e1', e2, _, _, hC5⟩ := hR5.open_
          have kc := fun n => Kd.C_string (P := Tryd.prog) (w := w5.drewN n) (c := c5) Tryd.underlying46 Tryd.underlying5 Tryd.underlying9 hC5
          have kc0 := Kd.C_string (P := Tryd.prog) (w := w5) (c := c5) Tryd.underlying46 Tryd.underlying5 Tryd.underlying9 hC5
          rw [List.length_append] at kc0 d2
          simp only [List.length_append] at kc
          go_wp2
          repeat (go_quiet (fail); try go_wp2)
          go_ret3
          exact ⟨by rw [← hr.out]; first | rfl | (unfold unqRes; simp), by first | exact hB6 | exact pw_below_drewN hB6 _⟩
        | none =>
          rw [htend] at hj hR5
          replace hR5 : Rdr w.heap.size w5 g text (i : Int) bs := hR5
          have hlow5 := hR5.low
          obtain ⟨A5, c5, d0, d1, d2, e1', e2, hlt5, _, hC5⟩ := hR5.open_
          have p1 := eq_true (show (0 : Int) ≤ (i : Int) by omega)
          have q1 := eq_true (show (i : Int) < (text.size : Int) by omega)
          have q2 := eq_true (show (i : Int).toNat < text.size by omega)
          have q3 := eq_true hlt
          have hx1 : ∀ h : i < text.size, ((text[i]'h).toNat : Int) = bt text (i : Int) := fun h => bt_at text (i : Int) (by omega)
          have hbt : ((bytesOf text).drop i).getD 0 0 = bt text (i : Int) := by
            rw [bt_get]
            simp [List.getD_eq_getElem?_getD, List.getElem?_drop]
          unfold titem at hj
          rw [hbt] at hj
          have hpl := fun p h => tplain_len (lines := false) (p := p) ((bytes_of text).drop i) (by omega) h
          have htl := fun p h => tesc_len (lines := false) (l := (bytesOf text).drop i) (p := p) (by omega) h
          rw [hdl] at hpl htl
          clear hbt hdl htend
          generalize bt text (i : Int) = b at hj hx1
          have HJ := Lib.hid hj
          clear hj
          have HPL := Lib.hid hpl
          have HTL := Lib.hid htl
          clear hpl htl
          by_cases h92 : b = 92
          · have HJ := Lib.hid (show _ from (by have h := HJ.out; rw [if_pos (show b = 92 ∧ (q.toNat : Int) = 34 from ⟨h92, H34⟩)] at h; exact h))
            have t92 : (b == 92) = true := beq_iff_eq.2 h92
            clear h92
            go_wp2_with fail
            refine (rtesc false hR5 (by omega) hlt (by omega)).mono ?_
            rintro e w7 ⟨rfl, hR7, hB7⟩
            have hB8 := hB6.trans hB7
            clear d0 d1 d2 e1' e2 hC5 hR5 hB6 hB7
            cases hp : tesc false ((bytesOf text).drop i) with
            | none =>
              rw [hp] at hR7 HJ
              have hr := Lib.hid HJ.out
              clear HJ
              replace hR7 : Rdr w.heap.size w7 g text (i : Int) bs := hR7
              obtain ⟨A7, c7, m0, m1, m2, m3, m4, _, _, _⟩ := hR7.open_
              go_wp2
              repeat (go_quiet (fail); try go_wp2)
              go_ret3
              exact ⟨by rw [← hr.out]; rfl, by first | exact hB8 | exact pw_below_drewN hB8 _⟩
            | some pp =>
              rw [hp] at hR7 HJ
              have hr := Lib.hid HJ.out
              clear HJ
              have hR8 : Rdr w.heap.size w7 g text ((i : Int) + pp.2) (bs ++ pp.1) := hR7
              have hpp := HTL.out pp hp
              clear HPL HTL hp hR7
              go_wp2
              go_roundg k
              case rel => exact ⟨i + pp.2, bs ++ pp.1, by rw [Int.natCast_add]; exact hR8, hB8, hr.out, by omega, by omega, by rw [List.length_append]; omega⟩
              case measure => omega
          · have HJ := Lib.hid (show _ from (by have h := HJ.out; rw [if_neg (show ¬ (b = 92 ∧ (q.toNat : Int) = 34) from fun h => h92 h.1)] at h; exact h))
            have t92 : (b == 92) = false := beq_eq_false_iff_ne.2 h92
            clear h92
            go_wp2_with fail
            refine (rplain false hR5 (by omega) hlt (by omega)).mono ?_
            rintro e w7 ⟨rfl, hR7, hB7⟩
            have hB8 := hB6.trans hB7
            clear d0 d1 d2 e1' e2 hC5 hR5 hB6 hB7
            cases hp : tplain false ((bytesOf text).drop i) with
            | none =>
              rw [hp] at hR7 HJ
              have hr := Lib.hid HJ.out
              clear HJ
              obtain ⟨bs7, hR7⟩ := hR7
              obtain ⟨A7, c7, m0, m1, m2, m3, m4, _, _, _⟩ := hR7.open_
              go_wp2
              repeat (go_quiet (fail); try go_wp2)
              go_ret3
              exact ⟨by rw [← hr.out]; rfl, by first | exact hB8 | exact pw_below_drewN hB8 _⟩
            | some pp =>
              rw [hp] at hR7 HJ
              have hr := Lib.hid HJ.out
              clear HJ
              have hR8 : Rdr w.heap.size w7 g text ((i : Int) + pp.2) (bs ++ pp.1) := hR7
              have hpp := HPL.out pp hp
              clear HPL HTL hp hR7
              go_wp2
              go_roundg k
              case rel => exact ⟨i + pp.2, bs ++ pp.1, by rw [Int.natCast_add]; exact hR8, hB8, hr.out, by omega, by omega, by rw [List.length_append]; omega⟩
              case measure => omega
      · obtain rfl : i = text.size := by omega
        rw [if_pos (by rw [size_of]; omega), size_of] at hj
        obtain rfl := hj
        have e1 : decide ((text.size : Int) < (text.size : Int)) = false := decide_eq_false (by omega)
        go_wp2
        repeat (go_quiet (fail); try go_wp2)
        go_ret3
        exact ⟨rfl, hB⟩
set_option maxRecDepth 100000 in
set_option maxHeartbeats 64000000 in
theorem tunq_B (text : ByteArray) (at_ : Nat) (q : UInt8) (b34 : Bool) (hq34 : b34 = decide ((q.toNat : Int) = 34)) (hs : text.size ≤ 17592186044416) (hq : (bytesOf text).getD at_ 0 = (q.toNat : Int)) (_hqq : (q.toNat : Int) = 34 ∨ (q.toNat : Int) = 39) (hlt : at_ < text.size) (hq34' : (q.toNat : Int) = 34) (hln : 3 ≤ lead (q.toNat : Int) ((bytesOf text).drop at_)) (hcr : ¬ ((bytesOf text).drop (at_ + 3)).take 2 = [13, 10]) (hcn : ¬ ((bytesOf text).drop (at_ + 3)).take 1 = [10]) (w : World) :
    Calls Tryd.prog 17 #[.string text, .int .i64 at_] w fun e w' => e = .returned (unqRes (tstr (bytesOf text) at_)) ∧ Below w.heap.size w w' := by
  generalize hres : tstr (bytesOf text) at_ = res
  have g1 : decide ((at_ : Int) < 0) = false := decide_eq_false (by omega)
  have htk1 : ∀ c : Int, ((bytesOf text).drop at_).take 1 = [c] ↔ (q.toNat : Int) = c := by
    intro c
    rw [take_one_drop (by rw [size_of]; exact hlt), hq]
    constructor
    · intro h; exact (List.cons.inj h).1
    · intro h; rw [h]
  have dA : decide (((bytesOf text).drop at_).take (⟨#[34]⟩ : ByteArray).size = bytesOf ⟨#[34]⟩) = b34 := by rw [hq34, decide_eq_decide]; exact htk1 34
  have dB : b34 = false → decide (((bytesOf text).drop at_).take (⟨#[39]⟩ : ByteArray).size = bytesOf ⟨#[39]⟩) = true := by
    intro h
    rw [decide_eq_true_eq]
    refine (htk1 39).2 ?_
    rw [hq34, decide_eq_false_iff_not] at h
    omega
  have hquote : text.extract at_ (at_ + 1) = one q := by
    apply bytesOf_inj
    rw [bytesOf_extract, List.drop_take, show at_ + 1 - at_ = 1 by omega, (htk1 _).2 rfl]
    rfl
  have hq1 : ((one q).toList == ([34] : List UInt8)) = b34 := by
    rw [hq34, Bool.eq_iff_iff, beq_iff_eq, decide_eq_true_eq]
    have := toList_eq_iff (one q) ⟨#[34]⟩
    rw [toList_data' ⟨#[34]⟩] at this
    rw [this, one_bytes]
    constructor
    · intro h; exact (List.cons.inj h).1
    · intro h; rw [h]; rfl
  obtain ⟨lines, hlines⟩ : ∃ lines, lines = decide (3 ≤ lead (q.toNat : Int) ((bytesOf text).drop at_)) := ⟨_, rfl⟩
  have d3 : decide (((bytesOf text).drop at_).take (⟨#[q, q, q]⟩ : ByteArray).size = bytesOf (⟨#[q, q, q]⟩ : ByteArray)) = lines := by
    rw [hlines, rep_bytes3, decide_eq_decide]
    exact lead_take _ _ 3
  have hT : tstr (bytesOf text) at_ = if lines = true then tbody (bytesOf text) (q.toNat : Int) true (text.size + 1) (at_ + 3 + tskip ((bytesOf text).drop (at_ + 3))) [] else tbody (bytesOf text) (q.toNat : Int) false (text.size + 1) (at_ + 1) [] := by
    unfold tstr
    rw [hq, hlines, size_of]
    simp only [decide_eq_true_eq]
  have hl3 : lines = true → at_ + 3 ≤ text.size := by
    intro h
    rw [hlines, decide_eq_true_eq] at h
    have := lead_le (q.toNat : Int) ((bytesOf text).drop at_)
    rw [List.length_drop, size_of] at this
    omega
  rw [hT] at hres
  have hLN : lines = true := by rw [hlines]; exact decide_eq_true hln
  clear hT htk1 hlines
  have HRES := Lib.hid hres
  clear hres
  have p0 := eq_true (show (0 : Int) ≤ (at_ : Int) by omega)
  have p1 := eq_true (show (at_ : Int) ≤ (at_ : Int) + 1 by omega)
  have p2 := eq_true (show (at_ : Int) + 1 ≤ (text.size : Int) by omega)
  go_enter Tryd.func17, Tryd.ntmps17
  go_wp2_with fail
  refine (rstart text at_ w).mono ?_
  rintro e w1 ⟨g, rfl, hR, hB⟩
  rw [show mn (mx (at_ : Int) 0) (text.size : Int) = (at_ : Int) by unfold mn mx; (repeat' split) <;> omega] at hR
  go_wp2_with fail
  refine (rbegins ⟨#[34]⟩ hR (by omega) (by omega)).mono ?_
  rintro e w2 ⟨rfl, n2, rfl⟩
  rw [show (at_ : Int).toNat = at_ by omega, dA]
  replace hR := hR.drewN n2
  replace hB := pw_below_drewN hB n2
  generalize w1.drewN n2 = w1 at hR hB
  have H34 : (q.toNat : Int) = 34 := hq34'
  obtain rfl : b34 = true := by rw [hq34, decide_eq_true hq34']
  clear dB dA hq34
  subst hLN
  have hsl : ∀ W : World, (Instr.slice 9 (.string text) (some (.int .i64 (at_ : Int))) (some (.int .i64 ((at_ : Int) + 1))) none).run Tryd.prog W = .ok (.string (one q)) W := by
    intro W
    have := run_slice_string (P := Tryd.prog) W 9 text .i64 .i64 (at_ : Int) ((at_ : Int) + 1) Tryd.underlying9 (by omega) (by omega) (by omega)
    rw [this, ← hquote]
    rfl
  go_wp2_with fail
  refine (repeat3 q _).mono ?_
  rintro e w2 ⟨rfl, hb2⟩
  replace hR := hR.below hb2
  have hlw := hB.size
  replace hB := hB.trans (hb2.mono hlw)
  clear hb2 hlw hsl hquote
  generalize w2 = w1 at hR hB
  go_wp2_with fail
  refine (rbegins ⟨#[q, q, q]⟩ hR (by omega) (by omega)).mono ?_
  rintro e w2 ⟨rfl, n2, rfl⟩
  rw [show (at_ : Int).toNat = at_ by omega, d3]
  replace hR := hR.drewN n2
  replace hB := pw_below_drewN hB n2
  generalize w1.drewN n2 = w1 at hR hB
  have HRES0 := HRES.out
  clear HRES
  rw [if_pos trivial] at HRES0
  have hl4 := hl3 trivial
  obtain ⟨F, hF⟩ : ∃ F, F = tbody (bytesOf text) (q.toNat : Int) true := ⟨_, rfl⟩
  rw [← hF] at HRES0
  have HRES := Lib.hid HRES0
  clear HRES0
  obtain ⟨A, c, c0, c1, c2, f1, f2, hlt2, hc, hC⟩ := hR.open_
  have hlow := hR.low
  have hM := hR.moved ((at_ : Int) + 1)
  go_wp2_with fail
  generalize w1.setCell ⟨g, 1, none⟩ (.int .i64 ((at_ : Int) + 1)) = w4 at hM
  clear c0 c1 c2 f1 f2 hC hR
  obtain ⟨hR, hB4⟩ := hM
  replace hB := hB.trans hB4
  clear hB4
  generalize w4 = w1 at hR hB
  obtain ⟨A, c, c0, c1, c2, f1, f2, hlt2, hc, hC⟩ := hR.open_
  have hlow := hR.low
  have hM := hR.moved ((at_ : Int) + 1 + 2)
  go_wp2_with fail
  generalize w1.setCell ⟨g, 1, none⟩ (.int .i64 ((at_ : Int) + 1 + 2)) = w4 at hM
  clear c0 c1 c2 f1 f2 hC hR
  obtain ⟨hR, hB4⟩ := hM
  replace hB := hB.trans hB4
  clear hB4
  generalize w4 = w1 at hR hB
  rw [show (at_ : Int) + 1 + 2 = ((at_ + 3 : Nat) : Int) by omega] at hR
  unfold tskip at HRES
  have dc : decide (((bytesOf text).drop (at_ + 3)).take (⟨#[13, 10]⟩ : ByteArray).size = bytesOf ⟨#[13, 10]⟩) = false := decide_eq_false hcr
  rw [if_neg hcr] at HRES
  go_wp2_with fail
  refine (rbegins ⟨#[13, 10]⟩ hR (by omega) (by omega)).mono ?_
  rintro e w2 ⟨rfl, n2, rfl⟩
  rw [show (((at_ + 3 : Nat) : Int)).toNat = at_ + 3 by omega, dc]
  replace hR := hR.drewN n2
  replace hB := pw_below_drewN hB n2
  generalize w1.drewN n2 = w1 at hR hB
  have dn : decide (((bytesOf text).drop (at_ + 3)).take (⟨#[10]⟩ : ByteArray).size = bytesOf ⟨#[10]⟩) = false := decide_eq_false hcn
  rw [if_neg hcn] at HRES
  go_wp2_with fail
  refine (rbegins ⟨#[10]⟩ hR (by omega) (by omega)).mono ?_
  rintro e w2 ⟨rfl, n2, rfl⟩
  rw [show (((at_ + 3 : Nat) : Int)).toNat = at_ + 3 by omega, dn]
  replace hR := hR.drewN n2
  replace hB := pw_below_drewN hB n2
  generalize w1.drewN n2 = w1 at hR hB
  go_wp2_with fail
  go_loopg [] (text.size + 1) (fun k wr => TInv w text g F res k wr)
  case atStart => exact ⟨_, [], hR, hB, HRES.out, by omega, by omega, by simp⟩
  case round =>
    clear hR hB HRES hl3 d3
    obtain ⟨i, bs, hR, hB, hj, hi, hk, hl⟩ := hrel
    cases gk with
    | zero => omega
    | succ k =>
      have hlow := hR.low
      obtain ⟨A, c, c0, c1, c2, f1, f2, hlt2, hc, hC⟩ := hR.open_
      rw [hF, tbody, ← hF] at hj
      by_cases hlt : i < text.size
      · rw [if_neg (by rw [size_of]; omega)] at hj
        have hdl : ((bytesOf text).drop i).length = text.size - i := by rw [List.length_drop, size_of]
        have e1 : decide ((i : Int) < (text.size : Int)) = true := decide_eq_true (by omega)
        go_wp2_with fail
        refine (rended _ q hR (by omega) hlt (by omega)).mono ?_
        rintro e w5 ⟨rfl, hR5, hB5⟩
        have hB6 := hB.trans hB5
        clear c0 c1 c2 f1 f2 hC hB hB5
        cases htend : tend true (q.toNat : Int) ((bytesOf text).drop i) with
        | some p =>
          rw [htend] at hj hR5
          have hr := Lib.hid hj
          clear hj
          replace hR5 : Rdr w.heap.size w5 g text ((i : Int) + p.2) (bs ++ p.1) := hR5
          obtain ⟨A5, c5, d0, d1, d2, e1', e2, _, _, hC5⟩ := hR5.open_
          have kc := fun n => Kd.C_string (P := Tryd.prog) (w := w5.drewN n) (c := c5) Tryd.underlying46 Tryd.underlying5 Tryd.underlying9 hC5
          have kc0 := Kd.C_string (P := Tryd.prog) (w := w5) (c := c5) Tryd.underlying46 Tryd.underlying5 Tryd.underlying9 hC5
          rw [List.length_append] at kc0 d2
          simp only [List.length_append] at kc
          go_wp2
          repeat (go_quiet (fail); try go_wp2)
          go_ret3
          exact ⟨by rw [← hr.out]; first | rfl | (unfold unqRes; simp), by first | exact hB6 | exact pw_below_drewN hB6 _⟩
        | none =>
          rw [htend] at hj hR5
          replace hR5 : Rdr w.heap.size w5 g text (i : Int) bs := hR5
          have hlow5 := hR5.low
          obtain ⟨A5, c5, d0, d1, d2, e1', e2, hlt5, _, hC5⟩ := hR5.open_
          have p1 := eq_true (show (0 : Int) ≤ (i : Int) by omega)
          have q1 := eq_true (show (i : Int) < (text.size : Int) by omega)
          have q2 := eq_true (show (i : Int).toNat < text.size by omega)
          have q3 := eq_true hlt
          have hx1 : ∀ h : i < text.size, ((text[i]'h).toNat : Int) = bt text (i : Int) := fun h => bt_at text (i : Int) (by omega)
          have hbt : ((bytesOf text).drop i).getD 0 0 = bt text (i : Int) := by
            rw [bt_get]
            simp [List.getD_eq_getElem?_getD, List.getElem?_drop]
          unfold titem at hj
          rw [hbt] at hj
          have hpl := fun p h => tplain_len (lines := true) (p := p) ((bytes_of text).drop i) (by omega) h
          have htl := fun p h => tesc_len (lines := true) (l := (bytesOf text).drop i) (p := p) (by omega) h
          rw [hdl] at hpl htl
          clear hbt hdl htend
          generalize bt text (i : Int) = b at hj hx1
          have HJ := Lib.hid hj
          clear hj
          have HPL := Lib.hid hpl
          have HTL := Lib.hid htl
          clear hpl htl
          by_cases h92 : b = 92
          · have HJ := Lib.hid (show _ from (by have h := HJ.out; rw [if_pos (show b = 92 ∧ (q.toNat : Int) = 34 from ⟨h92, H34⟩)] at h; exact h))
            have t92 : (b == 92) = true := beq_iff_eq.2 h92
            clear h92
            go_wp2_with fail
            refine (rtesc true hR5 (by omega) hlt (by omega)).mono ?_
            rintro e w7 ⟨rfl, hR7, hB7⟩
            have hB8 := hB6.trans hB7
            clear d0 d1 d2 e1' e2 hC5 hR5 hB6 hB7
            cases hp : tesc true ((bytesOf text).drop i) with
            | none =>
              rw [hp] at hR7 HJ
              have hr := Lib.hid HJ.out
              clear HJ
              replace hR7 : Rdr w.heap.size w7 g text (i : Int) bs := hR7
              obtain ⟨A7, c7, m0, m1, m2, m3, m4, _, _, _⟩ := hR7.open_
              go_wp2
              repeat (go_quiet (fail); try go_wp2)
              go_ret3
              exact ⟨by rw [← hr.out]; rfl, by first | exact hB8 | exact pw_below_drewN hB8 _⟩
            | some pp =>
              rw [hp] at hR7 HJ
              have hr := Lib.hid HJ.out
              clear HJ
              have hR8 : Rdr w.heap.size w7 g text ((i : Int) + pp.2) (bs ++ pp.1) := hR7
              have hpp := HTL.out pp hp
              clear HPL HTL hp hR7
              go_wp2
              go_roundg k
              case rel => exact ⟨i + pp.2, bs ++ pp.1, by rw [Int.natCast_add]; exact hR8, hB8, hr.out, by omega, by omega, by rw [List.length_append]; omega⟩
              case measure => omega
          · have HJ := Lib.hid (show _ from (by have h := HJ.out; rw [if_neg (show ¬ (b = 92 ∧ (q.toNat : Int) = 34) from fun h => h92 h.1)] at h; exact h))
            have t92 : (b == 92) = false := beq_eq_false_iff_ne.2 h92
            clear h92
            go_wp2_with fail
            refine (rplain true hR5 (by omega) hlt (by omega)).mono ?_
            rintro e w7 ⟨rfl, hR7, hB7⟩
            have hB8 := hB6.trans hB7
            clear d0 d1 d2 e1' e2 hC5 hR5 hB6 hB7
            cases hp : tplain true ((bytesOf text).drop i) with
            | none =>
              rw [hp] at hR7 HJ
              have hr := Lib.hid HJ.out
              clear HJ
              obtain ⟨bs7, hR7⟩ := hR7
              obtain ⟨A7, c7, m0, m1, m2, m3, m4, _, _, _⟩ := hR7.open_
              go_wp2
              repeat (go_quiet (fail); try go_wp2)
              go_ret3
              exact ⟨by rw [← hr.out]; rfl, by first | exact hB8 | exact pw_below_drewN hB8 _⟩
            | some pp =>
              rw [hp] at hR7 HJ
              have hr := Lib.hid HJ.out
              clear HJ
              have hR8 : Rdr w.heap.size w7 g text ((i : Int) + pp.2) (bs ++ pp.1) := hR7
              have hpp := HPL.out pp hp
              clear HPL HTL hp hR7
              go_wp2
              go_roundg k
              case rel => exact ⟨i + pp.2, bs ++ pp.1, by rw [Int.natCast_add]; exact hR8, hB8, hr.out, by omega, by omega, by rw [List.length_append]; omega⟩
              case measure => omega
      · obtain rfl : i = text.size := by omega
        rw [if_pos (by rw [size_of]; omega), size_of] at hj
        obtain rfl := hj
        have e1 : decide ((text.size : Int) < (text.size : Int)) = false := decide_eq_false (by omega)
        go_wp2
        repeat (go_quiet (fail); try go_wp2)
        go_ret3
        exact ⟨rfl, hB⟩
set_option maxRecDepth 100000 in
set_option maxHeartbeats 64000000 in
theorem tunq_C (text : ByteArray) (at_ : Nat) (q : UInt8) (b34 : Bool) (hq34 : b34 = decide ((q.toNat : Int) = 34)) (hs : text.size ≤ 17592186044416) (hq : (bytesOf text).getD at_ 0 = (q.toNat : Int)) (_hqq : (q.toNat : Int) = 34 ∨ (q.toNat : Int) = 39) (hlt : at_ < text.size) (hq34' : ¬ (q.toNat : Int) = 34) (hln : 3 ≤ lead (q.toNat : Int) ((bytesOf text).drop at_)) (hcr : ¬ ((bytesOf text).drop (at_ + 3)).take 2 = [13, 10]) (hcn : ((bytesOf text).drop (at_ + 3)).take 1 = [10]) (w : World) :
    Calls Tryd.prog 17 #[.string text, .int .i64 at_] w fun e w' => e = .returned (unqRes (tstr (bytesOf text) at_)) ∧ Below w.heap.size w w' := by
  generalize hres : tstr (bytesOf text) at_ = res
  have g1 : decide ((at_ : Int) < 0) = false := decide_eq_false (by omega)
  have htk1 : ∀ c : Int, ((bytesOf text).drop at_).take 1 = [c] ↔ (q.toNat : Int) = c := by
    intro c
    rw [take_one_drop (by rw [size_of]; exact hlt), hq]
    constructor
    · intro h; exact (List.cons.inj h).1
    · intro h; rw [h]
  have dA : decide (((bytesOf text).drop at_).take (⟨#[34]⟩ : ByteArray).size = bytesOf ⟨#[34]⟩) = b34 := by rw [hq34, decide_eq_decide]; exact htk1 34
  have dB : b34 = false → decide (((bytesOf text).drop at_).take (⟨#[39]⟩ : ByteArray).size = bytesOf ⟨#[39]⟩) = true := by
    intro h
    rw [decide_eq_true_eq]
    refine (htk1 39).2 ?_
    rw [hq34, decide_eq_false_iff_not] at h
    omega
  have hquote : text.extract at_ (at_ + 1) = one q := by
    apply bytesOf_inj
    rw [bytesOf_extract, List.drop_take, show at_ + 1 - at_ = 1 by omega, (htk1 _).2 rfl]
    rfl
  have hq1 : ((one q).toList == ([34] : List UInt8)) = b34 := by
    rw [hq34, Bool.eq_iff_iff, beq_iff_eq, decide_eq_true_eq]
    have := toList_eq_iff (one q) ⟨#[34]⟩
    rw [toList_data' ⟨#[34]⟩] at this
    rw [this, one_bytes]
    constructor
    · intro h; exact (List.cons.inj h).1
    · intro h; rw [h]; rfl
  obtain ⟨lines, hlines⟩ : ∃ lines, lines = decide (3 ≤ lead (q.toNat : Int) ((bytesOf text).drop at_)) := ⟨_, rfl⟩
  have d3 : decide (((bytesOf text).drop at_).take (⟨#[q, q, q]⟩ : ByteArray).size = bytesOf (⟨#[q, q, q]⟩ : ByteArray)) = lines := by
    rw [hlines, rep_bytes3, decide_eq_decide]
    exact lead_take _ _ 3
  have hT : tstr (bytesOf text) at_ = if lines = true then tbody (bytesOf text) (q.toNat : Int) true (text.size + 1) (at_ + 3 + tskip ((bytesOf text).drop (at_ + 3))) [] else tbody (bytesOf text) (q.toNat : Int) false (text.size + 1) (at_ + 1) [] := by
    unfold tstr
    rw [hq, hlines, size_of]
    simp only [decide_eq_true_eq]
  have hl3 : lines = true → at_ + 3 ≤ text.size := by
    intro h
    rw [hlines, decide_eq_true_eq] at h
    have := lead_le (q.toNat : Int) ((bytesOf text).drop at_)
    rw [List.length_drop, size_of] at this
    omega
  rw [hT] at hres
  have hLN : lines = true := by rw [hlines]; exact decide_eq_true hln
  clear hT htk1 hlines
  have HRES := Lib.hid hres
  clear hres
  have p0 := eq_true (show (0 : Int) ≤ (at_ : Int) by omega)
  have p1 := eq_true (show (at_ : Int) ≤ (at_ : Int) + 1 by omega)
  have p2 := eq_true (show (at_ : Int) + 1 ≤ (text.size : Int) by omega)
  go_enter Tryd.func17, Tryd.ntmps17
  go_wp2_with fail
  refine (rstart text at_ w).mono ?_
  rintro e w1 ⟨g, rfl, hR, hB⟩
  rw [show mn (mx (at_ : Int) 0) (text.size : Int) = (at_ : Int) by unfold mn mx; (repeat' split) <;> omega] at hR
  go_wp2_with fail
  refine (rbegins ⟨#[34]⟩ hR (by omega) (by omega)).mono ?_
  rintro e w2 ⟨rfl, n2, rfl⟩
  rw [show (at_ : Int).toNat = at_ by omega, dA]
  replace hR := hR.drewN n2
  replace hB := pw_below_drewN hB n2
  generalize w1.drewN n2 = w1 at hR hB
  have H34 : ¬ (q.toNat : Int) = 34 := hq34'
  obtain rfl : b34 = false := by rw [hq34, decide_eq_false hq34']
  have dB' := dB rfl
  clear dB dA hq34
  go_wp2_with fail
  refine (rbegins ⟨#[39]⟩ hR (by omega) (by omega)).mono ?_
  rintro e w2 ⟨rfl, n2, rfl⟩
  rw [show (at_ : Int).toNat = at_ by omega, dB']
  replace hR := hR.drewN n2
  replace hB := pw_below_drewN hB n2
  generalize w1.drewN n2 = w1 at hR hB
  clear dB'
  subst hLN
  have hsl : ∀ W : World, (Instr.slice 9 (.string text) (some (.int .i64 (at_ : Int))) (some (.int .i64 ((at_ : Int) + 1))) none).run Tryd.prog W = .ok (.string (one q)) W := by
    intro W
    have := run_slice_string (P := Tryd.prog) W 9 text .i64 .i64 (at_ : Int) ((at_ : Int) + 1) Tryd.underlying9 (by omega) (by omega) (by omega)
    rw [this, ← hquote]
    rfl
  go_wp2_with fail
  refine (repeat3 q _).mono ?_
  rintro e w2 ⟨rfl, hb2⟩
  replace hR := hR.below hb2
  have hlw := hB.size
  replace hB := hB.trans (hb2.mono hlw)
  clear hb2 hlw hsl hquote
  generalize w2 = w1 at hR hB
  go_wp2_with fail
  refine (rbegins ⟨#[q, q, q]⟩ hR (by omega) (by omega)).mono ?_
  rintro e w2 ⟨rfl, n2, rfl⟩
  rw [show (at_ : Int).toNat = at_ by omega, d3]
  replace hR := hR.drewN n2
  replace hB := pw_below_drewN hB n2
  generalize w1.drewN n2 = w1 at hR hB
  have HRES0 := HRES.out
  clear HRES
  rw [if_pos trivial] at HRES0
  have hl4 := hl3 trivial
  obtain ⟨F, hF⟩ : ∃ F, F = tbody (bytesOf text) (q.toNat : Int) true := ⟨_, rfl⟩
  rw [← hF] at HRES0
  have HRES := Lib.hid HRES0
  clear HRES0
  obtain ⟨A, c, c0, c1, c2, f1, f2, hlt2, hc, hC⟩ := hR.open_
  have hlow := hR.low
  have hM := hR.moved ((at_ : Int) + 1)
  go_wp2_with fail
  generalize w1.setCell ⟨g, 1, none⟩ (.int .i64 ((at_ : Int) + 1)) = w4 at hM
  clear c0 c1 c2 f1 f2 hC hR
  obtain ⟨hR, hB4⟩ := hM
  replace hB := hB.trans hB4
  clear hB4
  generalize w4 = w1 at hR hB
  obtain ⟨A, c, c0, c1, c2, f1, f2, hlt2, hc, hC⟩ := hR.open_
  have hlow := hR.low
  have hM := hR.moved ((at_ : Int) + 1 + 2)
  go_wp2_with fail
  generalize w1.setCell ⟨g, 1, none⟩ (.int .i64 ((at_ : Int) + 1 + 2)) = w4 at hM
  clear c0 c1 c2 f1 f2 hC hR
  obtain ⟨hR, hB4⟩ := hM
  replace hB := hB.trans hB4
  clear hB4
  generalize w4 = w1 at hR hB
  rw [show (at_ : Int) + 1 + 2 = ((at_ + 3 : Nat) : Int) by omega] at hR
  unfold tskip at HRES
  have dc : decide (((bytesOf text).drop (at_ + 3)).take (⟨#[13, 10]⟩ : ByteArray).size = bytesOf ⟨#[13, 10]⟩) = false := decide_eq_false hcr
  rw [if_neg hcr] at HRES
  go_wp2_with fail
  refine (rbegins ⟨#[13, 10]⟩ hR (by omega) (by omega)).mono ?_
  rintro e w2 ⟨rfl, n2, rfl⟩
  rw [show (((at_ + 3 : Nat) : Int)).toNat = at_ + 3 by omega, dc]
  replace hR := hR.drewN n2
  replace hB := pw_below_drewN hB n2
  generalize w1.drewN n2 = w1 at hR hB
  have dn : decide (((bytesOf text).drop (at_ + 3)).take (⟨#[10]⟩ : ByteArray).size = bytesOf ⟨#[10]⟩) = true := decide_eq_true hcn
  have hlen2 : at_ + 4 ≤ text.size := by
    have := congrArg List.length hcn
    rw [List.length_take, List.length_drop, size_of] at this
    simp at this
    omega
  rw [if_pos hcn] at HRES
  go_wp2_with fail
  refine (rbegins ⟨#[10]⟩ hR (by omega) (by omega)).mono ?_
  rintro e w2 ⟨rfl, n2, rfl⟩
  rw [show (((at_ + 3 : Nat) : Int)).toNat = at_ + 3 by omega, dn]
  replace hR := hR.drewN n2
  replace hB := pw_below_drewN hB n2
  generalize w1.drewN n2 = w1 at hR hB
  obtain ⟨A, c, c0, c1, c2, f1, f2, hlt2, hc, hC⟩ := hR.open_
  have hlow := hR.low
  have hM := hR.moved ((at_ : Int) + 3 + 1)
  go_wp2_with fail
  generalize w1.setCell ⟨g, 1, none⟩ (.int .i64 ((at_ : Int) + 3 + 1)) = w4 at hM
  clear c0 c1 c2 f1 f2 hC hR
  obtain ⟨hR, hB4⟩ := hM
  replace hB := hB.trans hB4
  clear hB4
  generalize w4 = w1 at hR hB
  rw [show (at_ : Int) + 3 + 1 = ((at_ + 3 + 1 : Nat) : Int) by omega] at hR
  go_loopg [] (text.size + 1) (fun k wr => TInv w text g F res k wr)
  case atStart => exact ⟨_, [], hR, hB, HRES.out, by omega, by omega, by simp⟩
  case round =>
    clear hR hB HRES hl3 d3
    obtain ⟨i, bs, hR, hB, hj, hi, hk, hl⟩ := hrel
    cases gk with
    | zero => omega
    | succ k =>
      have hlow := hR.low
      obtain ⟨A, c, c0, c1, c2, f1, f2, hlt2, hc, hC⟩ := hR.open_
      rw [hF, tbody, ← hF] at hj
      by_cases hlt : i < text.size
      · rw [if_neg (by rw [size_of]; omega)] at hj
        have hdl : ((bytesOf text).drop i).length = text.size - i := by rw [List.length_drop, size_of]
        have e1 : decide ((i : Int) < (text.size : Int)) = true := decide_eq_true (by omega)
        go_wp2_with fail
        refine (rended _ q hR (by omega) hlt (by omega)).mono ?_
        rintro e w5 ⟨rfl, hR5, hB5⟩
        have hB6 := hB.trans hB5
        clear c0 c1 c2 f1 f2 hC hB hB5
        cases htend : tend true (q.toNat : Int) ((bytesOf text).drop i) with
        | some p =>
          rw [htend] at hj hR5
          have hr := Lib.hid hj
          clear hj
          replace hR5 : Rdr w.heap.size w5 g text ((i : Int) + p.2) (bs ++ p.1) := hR5
          obtain ⟨A5, c5, d0, d1, d2, e1', e2, _, _, hC5⟩ := hR5.open_
          have kc := fun n => Kd.C_string (P := Tryd.prog) (w := w5.drewN n) (c := c5) Tryd.underlying46 Tryd.underlying5 Tryd.underlying9 hC5
          have kc0 := Kd.C_string (P := Tryd.prog) (w := w5) (c := c5) Tryd.underlying46 Tryd.underlying5 Tryd.underlying9 hC5
          rw [List.length_append] at kc0 d2
          simp only [List.length_append] at kc
          go_wp2
          repeat (go_quiet (fail); try go_wp2)
          go_ret3
          exact ⟨by rw [← hr.out]; first | rfl | (unfold unqRes; simp), by first | exact hB6 | exact pw_below_drewN hB6 _⟩
        | none =>
          rw [htend] at hj hR5
          replace hR5 : Rdr w.heap.size w5 g text (i : Int) bs := hR5
          have hlow5 := hR5.low
          obtain ⟨A5, c5, d0, d1, d2, e1', e2, hlt5, _, hC5⟩ := hR5.open_
          have p1 := eq_true (show (0 : Int) ≤ (i : Int) by omega)
          have q1 := eq_true (show (i : Int) < (text.size : Int) by omega)
          have q2 := eq_true (show (i : Int).toNat < text.size by omega)
          have q3 := eq_true hlt
          have hx1 : ∀ h : i < text.size, ((text[i]'h).toNat : Int) = bt text (i : Int) := fun h => bt_at text (i : Int) (by omega)
          have hbt : ((bytesOf text).drop i).getD 0 0 = bt text (i : Int) := by
            rw [bt_get]
            simp [List.getD_eq_getElem?_getD, List.getElem?_drop]
          unfold titem at hj
          rw [hbt] at hj
          have hpl := fun p h => tplain_len (lines := true) (p := p) ((bytes_of text).drop i) (by omega) h
          have htl := fun p h => tesc_len (lines := true) (l := (bytesOf text).drop i) (p := p) (by omega) h
          rw [hdl] at hpl htl
          clear hbt hdl htend
          generalize bt text (i : Int) = b at hj hx1
          have HJ := Lib.hid hj
          clear hj
          have HPL := Lib.hid hpl
          have HTL := Lib.hid htl
          clear hpl htl
          by_cases h92 : b = 92
          · have t92 : (b == 92) = true := beq_iff_eq.2 h92
            clear h92
            have HJ := Lib.hid (show _ from (by have h := HJ.out; rw [if_neg (show ¬ (b = 92 ∧ (q.toNat : Int) = 34) from fun h => H34 h.2)] at h; exact h))
            go_wp2_with fail
            refine (rplain true hR5 (by omega) hlt (by omega)).mono ?_
            rintro e w7 ⟨rfl, hR7, hB7⟩
            have hB8 := hB6.trans hB7
            clear d0 d1 d2 e1' e2 hC5 hR5 hB6 hB7
            cases hp : tplain true ((bytesOf text).drop i) with
            | none =>
              rw [hp] at hR7 HJ
              have hr := Lib.hid HJ.out
              clear HJ
              obtain ⟨bs7, hR7⟩ := hR7
              obtain ⟨A7, c7, m0, m1, m2, m3, m4, _, _, _⟩ := hR7.open_
              go_wp2
              repeat (go_quiet (fail); try go_wp2)
              go_ret3
              exact ⟨by rw [← hr.out]; rfl, by first | exact hB8 | exact pw_below_drewN hB8 _⟩
            | some pp =>
              rw [hp] at hR7 HJ
              have hr := Lib.hid HJ.out
              clear HJ
              have hR8 : Rdr w.heap.size w7 g text ((i : Int) + pp.2) (bs ++ pp.1) := hR7
              have hpp := HPL.out pp hp
              clear HPL HTL hp hR7
              go_wp2
              go_roundg k
              case rel => exact ⟨i + pp.2, bs ++ pp.1, by rw [Int.natCast_add]; exact hR8, hB8, hr.out, by omega, by omega, by rw [List.length_append]; omega⟩
              case measure => omega
          · have t92 : (b == 92) = false := beq_eq_false_iff_ne.2 h92
            clear h92
            have HJ := Lib.hid (show _ from (by have h := HJ.out; rw [if_neg (show ¬ (b = 92 ∧ (q.toNat : Int) = 34) from fun h => H34 h.2)] at h; exact h))
            go_wp2_with fail
            refine (rplain true hR5 (by omega) hlt (by omega)).mono ?_
            rintro e w7 ⟨rfl, hR7, hB7⟩
            have hB8 := hB6.trans hB7
            clear d0 d1 d2 e1' e2 hC5 hR5 hB6 hB7
            cases hp : tplain true ((bytesOf text).drop i) with
            | none =>
              rw [hp] at hR7 HJ
              have hr := Lib.hid HJ.out
              clear HJ
              obtain ⟨bs7, hR7⟩ := hR7
              obtain ⟨A7, c7, m0, m1, m2, m3, m4, _, _, _⟩ := hR7.open_
              go_wp2
              repeat (go_quiet (fail); try go_wp2)
              go_ret3
              exact ⟨by rw [← hr.out]; rfl, by first | exact hB8 | exact pw_below_drewN hB8 _⟩
            | some pp =>
              rw [hp] at hR7 HJ
              have hr := Lib.hid HJ.out
              clear HJ
              have hR8 : Rdr w.heap.size w7 g text ((i : Int) + pp.2) (bs ++ pp.1) := hR7
              have hpp := HPL.out pp hp
              clear HPL HTL hp hR7
              go_wp2
              go_roundg k
              case rel => exact ⟨i + pp.2, bs ++ pp.1, by rw [Int.natCast_add]; exact hR8, hB8, hr.out, by omega, by omega, by rw [List.length_append]; omega⟩
              case measure => omega
      · obtain rfl : i = text.size := by omega
        rw [if_pos (by rw [size_of]; omega), size_of] at hj
        obtain rfl := hj
        have e1 : decide ((text.size : Int) < (text.size : Int)) = false := decide_eq_false (by omega)
        go_wp2
        repeat (go_quiet (fail); try go_wp2)
        go_ret3
        exact ⟨rfl, hB⟩
set_option maxRecDepth 100000 in
set_option maxHeartbeats 8000000 in
/-- It is no string at all. -/
theorem tunq_not (text : ByteArray) (at_ : Nat) (hq : text.size ≤ at_ ∨ ((bytesOf text).getD at_ 0 ≠ 34 ∧ (bytesOf text).getD at_ 0 ≠ 39)) (w : World) :
    Calls Tryd.prog 17 #[.string text, .int .i64 at_] w fun e w' => e = .returned (.tuple #[.string ⟨#[]⟩, .int .i64 0, .int .i64 ((min at_ text.size : Nat) : Int)]) ∧ Below w.heap.size w w' := by
  have g1 : decide ((at_ : Int) < 0) = false := decide_eq_false (by omega)
  have hm : mn (mx (at_ : Int) 0) (text.size : Int) = ((min at_ text.size : Nat) : Int) := by unfold mn mx; (repeat' split) <;> omega
  have hne : ∀ c : Int, (c = 34 ∨ c = 39) → ((bytesOf text).drop (min at_ text.size)).take 1 ≠ [c] := by
    intro c hc h
    by_cases hlt : at_ < text.size
    · rw [show min at_ text.size = at_ by omega, take_one_drop (by rw [size_of]; exact hlt)] at h
      have h' := (List.cons.inj h).1
      rcases hq with hq | ⟨q1, q2⟩
      · omega
      · rcases hc with rfl | rfl
        · exact q1 h'
        · exact q2 h'
    · rw [show min at_ text.size = text.size by omega, List.drop_eq_nil_of_le (by rw [size_of]; omega)] at h
      cases h
  have dA : decide (((bytesOf text).drop (min at_ text.size)).take (⟨#[34]⟩ : ByteArray).size = bytesOf ⟨#[34]⟩) = false := decide_eq_false (hne 34 (.inl rfl))
  have dB : decide (((bytesOf text).drop (min at_ text.size)).take (⟨#[39]⟩ : ByteArray).size = bytesOf ⟨#[39]⟩) = false := decide_eq_false (hne 39 (.inr rfl))
  have hml : min at_ text.size ≤ text.size := by omega
  clear hne hq
  generalize min at_ text.size = m at hm dA dB hml
  go_enter Tryd.func17, Tryd.ntmps17
  go_wp2_with fail
  refine (rstart text at_ w).mono ?_
  rintro e w1 ⟨g, rfl, hR, hB⟩
  rw [hm] at hR
  go_wp2_with fail
  refine (rbegins ⟨#[34]⟩ hR (by omega) (by omega)).mono ?_
  rintro e w2 ⟨rfl, n2, rfl⟩
  rw [show (m : Int).toNat = m by omega, dA]
  replace hR := hR.drewN n2
  replace hB := pw_below_drewN hB n2
  generalize w1.drewN n2 = w1 at hR hB
  go_wp2_with fail
  refine (rbegins ⟨#[39]⟩ hR (by omega) (by omega)).mono ?_
  rintro e w2 ⟨rfl, n3, rfl⟩
  rw [show (m : Int).toNat = m by omega, dB]
  replace hR := hR.drewN n3
  replace hB := pw_below_drewN hB n3
  generalize w1.drewN n3 = w1 at hR hB
  obtain ⟨A, c, c0, c1, c2, f1, f2, hlt2, hc, hC⟩ := hR.open_
  go_wp2
  repeat (go_quiet (fail); try go_wp2)
  go_ret3
  exact ⟨rfl, by first | exact hB | exact pw_below_drewN hB _⟩
/-- The strings that this claim's proof speaks of. -/
def tdom (L : List Int) (i : Nat) : Prop := L.length ≤ i ∨ (L.getD i 0 ≠ 34 ∧ L.getD i 0 ≠ 39) ∨ (L.getD i 0 = 34 ∧ ¬ 3 ≤ lead 34 (L.drop i)) ∨
  (L.getD i 0 = 34 ∧ 3 ≤ lead 34 (L.drop i) ∧ ¬ (L.drop (i + 3)).take 2 = [13, 10] ∧ ¬ (L.drop (i + 3)).take 1 = [10]) ∨
  (L.getD i 0 = 39 ∧ 3 ≤ lead 39 (L.drop i) ∧ ¬ (L.drop (i + 3)).take 2 = [13, 10] ∧ (L.drop (i + 3)).take 1 = [10])
instance (L : List Int) (i : Nat) : Decidable (tdom L i) := by unfold tdom; infer_instance
/-- What TUnquote answers. -/
def tunqT (L : List Int) (i : Nat) : ByteArray × Int × Int :=
  if L.length ≤ i ∨ (L.getD i 0 ≠ 34 ∧ L.getD i 0 ≠ 39) then (⟨#[]⟩, 0, ((min i L.length : Nat) : Int))
  else (if (tstr L i).1 then strOfNums (tstr L i).2.1 else ⟨#[]⟩, (if (tstr L i).1 then ((tstr L i).2.2 : Int) else 0), (if (tstr L i).1 then -1 else ((tstr L i).2.2 : Int)))
def esc_TUnquote.f (a0 : ByteArray) (a1 : Int) : Option (ByteArray × Int × Int) := if 0 ≤ a1 ∧ a0.size ≤ 17592186044416 ∧ tdom (bytesOf a0) a1.toNat then some (tunqT (bytesOf a0) a1.toNat) else none
theorem esc_TUnquote.calls (a0 : ByteArray) (a1 : Int) (r1 : ByteArray) (r2 : Int) (r3 : Int) (w : World) (h : esc_TUnquote.f a0 a1 = some (r1, r2, r3)) :
    Calls Tryd.prog 17 #[.string a0, .int .i64 a1] w fun e w' => e = .returned (.tuple #[.string r1, .int .i64 r2, .int .i64 r3]) ∧ Below w.heap.size w w' := by
  unfold esc_TUnquote.f at h
  split at h
  · rename_i hc
    obtain ⟨h0, hs, hd⟩ := hc
    obtain ⟨i, rfl⟩ := Int.eq_ofNat_of_zero_le h0
    rw [Int.toNat_natCast] at hd h
    have h := Option.some.inj h
    unfold tunqT at h
    split at h
    · rename_i hq
      obtain ⟨e1, h⟩ := Prod.mk.inj h
      obtain ⟨e2, e3⟩ := Prod.mk.inj h
      subst e1
      subst e2
      subst e3
      rw [size_of] at hq ⊢
      exact tunq_not a0 i hq w
    · rename_i hq
      obtain ⟨e1, h⟩ := Prod.mk.inj h
      obtain ⟨e2, e3⟩ := Prod.mk.inj h
      subst e1
      subst e2
      subst e3
      have hlt : i < a0.size := by
        rcases Nat.lt_or_ge i a0.size with h | h
        · exact h
        · exact absurd (.inl (by rw [size_of]; exact h)) hq
      have hq2 : (bytesOf a0).getD i 0 = 34 ∨ (bytesOf a0).getD i 0 = 39 := by
        rcases Classical.em ((bytesOf a0).getD i 0 = 34) with h | h
        · exact .inl h
        · rcases Classical.em ((bytesOf a0).getD i 0 = 39) with h' | h'
          · exact .inr h'
          · exact absurd (.inr ⟨h, h'⟩) hq
      rcases hd with hd | hd | ⟨d1, d2⟩ | ⟨d1, d2, d3, d4⟩ | ⟨d1, d2, d3, d4⟩
      · exact absurd (.inl hd) hq
      · exact absurd (.inr hd) hq
      · exact tunq_A a0 i 34 true (by decide) hs d1 (.inl rfl) hlt rfl d2 w
      · exact tunq_B a0 i 34 true (by decide) hs d1 (.inl rfl) hlt rfl d2 d3 d4 w
      · exact tunq_C a0 i 39 false (by decide) hs d1 (.inr rfl) hlt (by decide) d2 d3 d4 w
  · cases h
end Go.Proofs.YtoanbmggffkmgaaDoor.P
end
section
namespace Go.Proofs.YtoanbmggffkmgaaDoor.La
/-- A byte that may stand in a bare key. -/
def bareB (b : Int) : Bool := (decide (97 ≤ b) && decide (b ≤ 122)) || ((decide (65 ≤ b) && decide (b ≤ 90)) || ((decide (48 ≤ b) && decide (b ≤ 57)) || (decide (b = 95) || decide (b = 45))))
def bareS (l : List Int) : Bool := decide (l ≠ []) && l.all bareB
end Go.Proofs.YtoanbmggffkmgaaDoor.La
namespace Go.Proofs.YtoanbmggffkmgaaDoor.P
open Go.RowKit Go.Proofs.YtoanbmggffkmgaaDoor.La Go.Proofs.YtoanbmggffkmgaaDoorW.PrintWords Go.Proofs.YtoanbmggffkmgaaDoorW.PrintLast Go.Proofs.YtoanbmggffkmgaaDoorW.PrintMore
theorem all_drop {l : List Int} {k : Nat} (hk : k < l.length) (p : Int → Bool) : (l.drop k).all p = (p (l.getD k 0) && (l.drop (k + 1)).all p) := by
  rw [List.drop_eq_getElem_cons hk, List.all_cons, List.getD_eq_getElem?_getD, List.getElem?_eq_getElem hk]
  rfl
def BareRel (s : ByteArray) (r : Bool) (i : Value) : Prop := ∃ k : Nat, k ≤ s.size ∧ i = .int .i64 k ∧ r = ((bytesOf s).drop k).all bareB
set_option maxRecDepth 100000 in
set_option maxHeartbeats 4000000 in
theorem bare_walk (s : ByteArray) (h1 : 1 ≤ s.size) (h8 : s.size ≤ 140737488355328) (w : World) :
    Calls Tryd.prog 22 #[.string s] w fun e w' => e = .returned (.bool ((bytesOf s).all bareB)) ∧ Below w.heap.size w w' := by
  have kb := print_bytes (P := Tryd.prog) 9 46 5 Tryd.underlying9 Tryd.underlying46 Tryd.underlying5 s w
  have hr := bytes_reads w 5 s (by omega)
  have hb := bytes_below (Below.refl w.heap.size w) (Nat.le_refl _) 5 s
  generalize Lib.bytesWorld w 5 s = W1 at kb hr hb
  generalize grownCap w s.size 0 5 = cp at kb
  have hne : s.toList.isEmpty = false := by
    cases hl : s.toList with
    | nil =>
      have := (toList_nil_iff s).1 hl
      have h2 := size_of s
      rw [this] at h2
      simp at h2
      omega
    | cons a t => rfl
  generalize hres : (bytesOf s).all bareB = res
  have HR := Lib.hid hres
  clear hres
  go_enter Tryd.func22, Tryd.ntmps22
  go_wp2_with fail
  go_loop [8] (BareRel s res) (fun i => s.size - (intOf i).toNat)
  case atStart => exact ⟨0, Nat.zero_le _, rfl, by rw [List.drop_zero]; exact HR.out.symm⟩
  case round =>
    obtain ⟨k, hk, rfl, hx⟩ := hrel
    have HX := Lib.hid hx
    clear hx
    by_cases hlt : k < s.size
    · have hc : W1.cell? ⟨w.heap.size, k, none⟩ = some (.int .u8 (bt s k)) := by
        obtain ⟨ad, e, h⟩ := hr.2.2 (by omega)
        obtain rfl := Option.some.inj e
        have := h k hlt
        rw [add_plain] at this
        rw [this, bt_get]
        rfl
      have hbr := bt_range s k
      have hbt : bt s (k : Int) = (bytesOf s).getD k 0 := by rw [bt_get]; rfl
      have HB := Lib.hid (show res = (bareB (bt s (k : Int)) && ((bytesOf s).drop (k + 1)).all bareB) by rw [HX.out, all_drop (by rw [size_of]; exact hlt), hbt])
      clear hbt HX
      generalize bt s (k : Int) = b at hc hbr HB
      by_cases hbare : bareB b = true
      · have HN := Lib.hid (show res = ((bytesOf s).drop (k + 1)).all bareB by rw [HB.out, hbare, Bool.true_and])
        have cases4 : (97 ≤ b ∧ b ≤ 122) ∨ (65 ≤ b ∧ b ≤ 90) ∨ (48 ≤ b ∧ b ≤ 57) ∨ b = 95 ∨ b = 45 := by
          unfold bareB at hbare
          simp at hbare
          omega
        clear HB hbare
        rcases cases4 with ⟨c1, c2⟩ | ⟨c1, c2⟩ | ⟨c1, c2⟩ | rfl | rfl
        all_goals
          go_wp2
          go_round
          case rel => exact ⟨k + 1, hlt, by go_num, HN.out⟩
          case measure => simp [intOf]; omega
      · have HN := Lib.hid (show res = false by rw [HB.out, Bool.eq_false_iff.2 hbare, Bool.false_and])
        have cases7 : b < 45 ∨ b = 46 ∨ b = 47 ∨ (58 ≤ b ∧ b < 65) ∨ (91 ≤ b ∧ b < 95) ∨ b = 96 ∨ 123 ≤ b := by
          unfold bareB at hbare
          simp at hbare
          omega
        have e95 : (b == 95) = false := beq_eq_false_iff_ne.2 (by omega)
        have e45 : (b == 45) = false := beq_eq_false_iff_ne.2 (by omega)
        clear HB hbare
        rcases cases7 with c1 | rfl | rfl | ⟨c1, c2⟩ | ⟨c1, c2⟩ | rfl | c1
        all_goals
          (try have d57 : decide (b ≤ 57) = false := decide_eq_false (by omega))
          (try have d90 : decide (b ≤ 90) = false := decide_eq_false (by omega))
          (try have d122 : decide (b ≤ 122) = false := decide_eq_false (by omega))
          go_wp2
          go_ret
          exact ⟨by rw [HN.out]; rfl, hb⟩
    · obtain rfl : k = s.size := by omega
      have HN := Lib.hid (show res = true by rw [HX.out, List.drop_eq_nil_of_le (by rw [size_of]; omega)]; rfl)
      clear HX
      go_wp2
      go_ret
      exact ⟨by rw [HN.out]; rfl, hb⟩
def esc_Bare.f (a0 : ByteArray) : Option Bool := if a0.size ≤ 140737488355328 then some (bareS (bytesOf a0)) else none
theorem esc_Bare.calls (a0 : ByteArray) (r : Bool) (w : World) (h : esc_Bare.f a0 = some r) :
    Calls Tryd.prog 22 #[.string a0] w fun e w' => e = .returned (.bool r) ∧ Below w.heap.size w w' := by
  unfold esc_Bare.f at h
  split at h
  · rename_i hs
    obtain rfl := Option.some.inj h
    by_cases h0 : a0.size = 0
    · obtain rfl : a0 = ⟨#[]⟩ := bytesOf_inj (List.length_eq_zero_iff.1 (by rw [size_of]; exact h0))
      have kb := print_bytes (P := Tryd.prog) 9 46 5 Tryd.underlying9 Tryd.underlying46 Tryd.underlying5 ⟨#[]⟩ w
      have hb := bytes_below (Below.refl w.heap.size w) (Nat.le_refl _) 5 ⟨#[]⟩
      generalize Lib.bytesWorld w 5 ⟨#[]⟩ = W1 at kb hb
      generalize grownCap w (⟨#[]⟩ : ByteArray).size 0 5 = cp at kb
      go_enter Tryd.func22, Tryd.ntmps22
      go_wp2_with fail
      go_loop [8] (fun i => i = .int .i64 0) (fun _ => 0)
      case atStart => rfl
      case round =>
        obtain rfl := hrel
        go_wp2
        go_ret
        exact ⟨rfl, hb⟩
    · refine (bare_walk a0 (by omega) hs w).mono ?_
      rintro e w' ⟨rfl, hb⟩
      refine ⟨?_, hb⟩
      unfold bareS
      rw [decide_eq_true (show bytesOf a0 ≠ [] from fun e => h0 (by rw [← size_of, e]; rfl)), Bool.true_and]
  · cases h
end Go.Proofs.YtoanbmggffkmgaaDoor.P
end
section
namespace Go.Proofs.YtoanbmggffkmgaaDoor.P
open Go.RowKit Go.Proofs.YtoanbmggffkmgaaDoor.La Go.Proofs.YtoanbmggffkmgaaDoorW.PrintWords Go.Proofs.YtoanbmggffkmgaaDoorW.PrintLast Go.Proofs.YtoanbmggffkmgaaDoorW.PrintMore
theorem awake6_1 : esc_Unquote.f (⟨#[34, 92, 117, 48, 48, 52, 49, 34]⟩ : ByteArray) 0 = some (⟨#[65]⟩, 8, -1) := by kernel_rfl
theorem awake6_2 : esc_TUnquote.f (⟨#[39, 39, 39, 10, 97, 39, 98, 39, 39, 39]⟩ : ByteArray) 0 = some (⟨#[97, 39, 98]⟩, 10, -1) := by kernel_rfl
theorem awake6_3 : esc_Hex.f (⟨#[49, 70]⟩ : ByteArray) = some (31, true) := by kernel_rfl
theorem awake6_4 : esc_Quote.f 30 (⟨#[97, 10, 98]⟩ : ByteArray) = some ⟨#[34, 97, 92, 110, 98, 34]⟩ := by kernel_rfl
theorem awake6_5 : esc_TQuote.f 30 (⟨#[127]⟩ : ByteArray) = some ⟨#[34, 92, 117, 48, 48, 55, 102, 34]⟩ := by kernel_rfl
theorem awake6_6 : esc_Bare.f (⟨#[97, 45, 49]⟩ : ByteArray) = some true := by kernel_rfl
theorem awake6_7 : esc_Bare.f (⟨#[]⟩ : ByteArray) = some false := by kernel_rfl
set_option maxHeartbeats 4000000 in
theorem awake6_walk (w : World) : Calls Tryd.prog 15 #[] w fun e w' => e = .returned (.bool true) ∧ Below w.heap.size w w' := by
  go_enter Tryd.func15, Tryd.ntmps15
  go_wp2_with fail
  refine (esc_Unquote.calls _ _ _ _ _ _ awake6_1).mono ?_
  rintro e w1 ⟨rfl, hb⟩
  go_wp2_with fail
  refine (esc_TUnquote.calls _ _ _ _ _ _ awake6_2).mono ?_
  rintro e w2 ⟨rfl, hb2⟩
  replace hb := below_step hb hb2
  go_wp2_with fail
  refine (esc_Hex.calls _ _ _ _ awake6_3).mono ?_
  rintro e w3 ⟨rfl, hb3⟩
  replace hb := below_step hb hb3
  go_wp2_with fail
  refine (esc_Quote.calls 30 _ _ _ awake6_4).mono ?_
  rintro e w4 ⟨rfl, hb4⟩
  replace hb := below_step hb hb4
  go_wp2_with fail
  refine (esc_TQuote.calls 30 _ _ _ awake6_5).mono ?_
  rintro e w5 ⟨rfl, hb5⟩
  replace hb := below_step hb hb5
  go_wp2_with fail
  refine (esc_Bare.calls _ _ _ awake6_6).mono ?_
  rintro e w6 ⟨rfl, hb6⟩
  replace hb := below_step hb hb6
  go_wp2_with fail
  refine (esc_Bare.calls _ _ _ awake6_7).mono ?_
  rintro e w7 ⟨rfl, hb7⟩
  replace hb := below_step hb hb7
  go_wp2
  go_ret
  exact ⟨rfl, by first | exact hb | exact pw_below_drewN hb _⟩
def dragomanlaw6_awake.f : Option Bool := some true
theorem dragomanlaw6_awake.calls (r : Bool) (w : World) (h : dragomanlaw6_awake.f = some r) : Calls Tryd.prog 15 #[] w fun e w' => e = .returned (.bool r) ∧ Below w.heap.size w w' := by
  obtain rfl : true = r := Option.some.inj h
  exact awake6_walk w
end Go.Proofs.YtoanbmggffkmgaaDoor.P
end
section
namespace Go.Proofs.YtoanbmggffkmgaaDoor.P
open Go.RowKit Go.Proofs.YtoanbmggffkmgaaDoorW.PrintWords Go.Proofs.YtoanbmggffkmgaaDoorW.PrintLast Go.Proofs.YtoanbmggffkmgaaDoorW.PrintMore
attribute [local go_sem] max2_int min2_int max_two min_two max_three min_three max_four min_four   -- for this text's walks alone
set_option linter.unusedVariables false
set_option linter.unusedSimpArgs false
/-! ### dragomanlaw6_EscCuts: function 8 -/
mutual
def dragomanlaw6_EscCuts.j0 : Nat → ByteArray → Int → Bool → Option (Bool)
  | 0, _, _, _ => none
  | k + 1, x0, x1, x22 => if x22 = true then (some true) else ((esc_Quote.f k x0).bind fun t583 => ((esc_TQuote.f k x0).bind fun t584 => (if x1 < 0 then (dragomanlaw6_EscCuts.j1 k x1 t583 t584 true) else (dragomanlaw6_EscCuts.j1 k x1 t583 t584 (decide (x1 ≥ (t583.size : Int)))))))
def dragomanlaw6_EscCuts.j1 : Nat → Int → ByteArray → ByteArray → Bool → Option (Bool)
  | 0, _, _, _, _ => none
  | k + 1, x1, x5, x6, x34 => if x34 = true then (some true) else (if 0 ≤ x1 then (if x1 ≤ (x5.size : Int) then ((esc_Unquote.f (x5.extract 0 (x1 : Int).toNat) 0).bind fun bt585 => (if bt585.2.2 < 0 then (dragomanlaw6_EscCuts.j2 k x1 x6 true) else (dragomanlaw6_EscCuts.j2 k x1 x6 (decide (bt585.2.2 > x1))))) else (none)) else (none))
def dragomanlaw6_EscCuts.j2 : Nat → Int → ByteArray → Bool → Option (Bool)
  | 0, _, _, _ => none
  | k + 1, x1, x6, x49 => if x49 = true then (some false) else (if x1 ≥ (x6.size : Int) then (some true) else (if x1 = 2 then (if 1 < (x6.size : Int) then (if (bt x6 1) = 34 then (some true) else (if 0 ≤ x1 then (if x1 ≤ (x6.size : Int) then ((esc_TUnquote.f (x6.extract 0 (x1 : Int).toNat) 0).bind fun bt588 => (if bt588.2.2 ≥ 0 then (some (decide (bt588.2.2 ≤ x1))) else (some false))) else (none)) else (none))) else (none)) else (if 0 ≤ x1 then (if x1 ≤ (x6.size : Int) then ((esc_TUnquote.f (x6.extract 0 (x1 : Int).toNat) 0).bind fun bt591 => (if bt591.2.2 ≥ 0 then (some (decide (bt591.2.2 ≤ x1))) else (some false))) else (none)) else (none))))
end
def dragomanlaw6_EscCuts.f (k : Nat) (a0 : ByteArray) (a1 : Int) : Option (Bool) := (dragomanlaw6_awake.f).bind fun t581 => (if t581 = true then (if (a0.size : Int) > 200 then (dragomanlaw6_EscCuts.j0 k a0 a1 true) else ((dragomanref1_Valid.f k a0).bind fun t582 => (dragomanlaw6_EscCuts.j0 k a0 a1 (decide (t582 ≥ 0))))) else (some false))
set_option maxHeartbeats 8000000 in
set_option maxRecDepth 100000 in
theorem dragomanlaw6_EscCuts.calls (k : Nat) (a0 : ByteArray) (a1 : Int) (r : Bool) (w : World) (h : dragomanlaw6_EscCuts.f k a0 a1 = some r) :
    Calls Tryd.prog 8 #[.string a0, .int .i64 a1] w fun e w' => e = .returned (.bool r) ∧ Below w.heap.size w w' := by
  have HB := Aside0.mk (Below.refl w.heap.size w)
  have H : ((dragomanlaw6_awake.f).bind fun t581 => (if t581 = true then (if (a0.size : Int) > 200 then (dragomanlaw6_EscCuts.j0 k a0 a1 true) else ((dragomanref1_Valid.f k a0).bind fun t582 => (dragomanlaw6_EscCuts.j0 k a0 a1 (decide (t582 ≥ 0))))) else (some false))) = some r := h
  clear h
  replace H := Option.bind_eq_some_iff.mp H
  obtain ⟨t581, A30, H⟩ := H
  replace H : (if t581 = true then (if (a0.size : Int) > 200 then (dragomanlaw6_EscCuts.j0 k a0 a1 true) else ((dragomanref1_Valid.f k a0).bind fun t582 => (dragomanlaw6_EscCuts.j0 k a0 a1 (decide (t582 ≥ 0))))) else (some false)) = some r := H
  have A3 := Aside0.mk A30
  clear A30
  by_cases c4 : t581 = true
  · subst c4
    have H1 : (if (a0.size : Int) > 200 then (dragomanlaw6_EscCuts.j0 k a0 a1 true) else ((dragomanref1_Valid.f k a0).bind fun t582 => (dragomanlaw6_EscCuts.j0 k a0 a1 (decide (t582 ≥ 0))))) = some r := by rw [if_pos rfl] at H; exact H
    clear H
    have H := H1
    clear H1
    have HC5 := Aside0.mk H
    clear H
    go_enter Tryd.func8, Tryd.ntmps8
    go_upto_region 3 with (first | ((with_reducible refine gate_callee (f := 15) rfl ?_); refine goesL_ (some 13) rfl rfl Tryd.func15 (by kernel_rfl) rfl #[] rfl (by (try simp only [List.map_toArray, List.map_cons, List.map_nil]); first | done | rfl | (simp only [List.length_drop, List.length_take]; rfl)) ?_; (with_reducible refine (dragomanlaw6_awake.calls  true _ A3.out).mono ?_); rintro e w6 ⟨rfl, hb⟩; refine ⟨_, rfl, ?_⟩; have n0_ := Aside0.mk (below_step (by repeat (first | (with_reducible first | exact HB.out | apply below_alloc | apply pw_below_drewN | apply below_drew1) | exact HB.out)) hb); clear HB; have HB := n0_; clear n0_; (try clear hb); (try clear hb2); (try clear hk); (try clear hi)))
    (try simp only [Act.put, List.setIfInBounds_toArray, List.set_cons_zero, List.set_cons_succ])
    go_cut [22] (fun v22 wc => ∃ (kq : Nat) (x22_4 : Bool), v22 = .bool x22_4 ∧ Aside0 (dragomanlaw6_EscCuts.j0 kq a0 a1 x22_4 = some r) ∧ Aside0 (kq ≤ k) ∧ Aside0 (Below w.heap.size w wc))
    case first =>
      have H := HC5.out
      clear HC5
      by_cases c7 : (a0.size : Int) > 200
      · rw [if_pos c7] at H
        have c7b0 : decide (200 < (a0.size : Int)) = true := decide_eq_true c7
        have c7b1 : decide (200 < a0.size) = true := decide_eq_true (by omega)
        clear c7
        (first | rw [c7b0] | (simp only [i64_w, i32_w]; rw [c7b0]) | skip)
        have H' := Aside0.mk H
        clear H
        go_wp2
        go_meet
        case rel => exact ⟨_, (true), (by first | rfl | (simp; done) | (simp [*]; done)), H', ⟨by first | omega | exact Nat.le_refl _⟩, ⟨by repeat (first | (with_reducible first | exact HB.out | apply below_alloc | apply pw_below_drewN | apply below_drew1) | exact HB.out)⟩⟩
      · rw [if_neg c7] at H
        have c7b0 : decide (200 < (a0.size : Int)) = false := decide_eq_false c7
        have c7b1 : decide (200 < a0.size) = false := decide_eq_false (by omega)
        clear c7
        (first | rw [c7b0] | (simp only [i64_w, i32_w]; rw [c7b0]) | skip)
        replace H := Option.bind_eq_some_iff.mp H
        obtain ⟨t582, A80, H⟩ := H
        replace H : (dragomanlaw6_EscCuts.j0 k a0 a1 (decide (t582 ≥ 0))) = some r := H
        have A8 := Aside0.mk A80
        clear A80
        have H' := Aside0.mk H
        clear H
        go_wp2_with (first | (go_at_call 25; (with_reducible refine (dragomanref1_Valid.calls k a0 t582 _ A8.out).mono ?_); rintro e w9 ⟨rfl, hb⟩; have n0_ := Aside0.mk (below_step (by repeat (first | (with_reducible first | exact HB.out | apply below_alloc | apply pw_below_drewN | apply below_drew1) | exact HB.out)) hb); clear HB; have HB := n0_; clear n0_; (try clear hb); (try clear hb2); (try clear hk); (try clear hi)))
        go_meet
        case rel => exact ⟨_, (decide (t582 ≥ 0)), (by first | rfl | (simp; done) | (simp [*]; done)), H', ⟨by first | omega | exact Nat.le_refl _⟩, ⟨by repeat (first | (with_reducible first | exact HB.out | apply below_alloc | apply pw_below_drewN | apply below_drew1) | exact HB.out)⟩⟩
    case rest =>
      clear HC5
      try clear c1
      try clear p2
      try clear c4
      try clear c7
      try clear c7b0
      try clear c7b1
      try clear c8
      obtain ⟨kq, x22_4, rfl, HA, HJ4, HB⟩ := hcut
      cases kq with
      | zero => exact absurd HA.out (by simp [dragomanlaw6_EscCuts.j0])
      | succ kj4 =>
        have H := HA.out
        clear HA
        simp only [dragomanlaw6_EscCuts.j0] at H
        by_cases c10 : x22_4 = true
        · subst c10
          have H1 : (some true) = some r := by rw [if_pos rfl] at H; exact H
          clear H
          have H := H1
          clear H1
          obtain rfl := Option.some.inj H
          go_wp2
          go_ret
          exact ⟨by first | rfl | (simp [errW_none, errW_some] <;> rfl) | (simp [*, errW_none, errW_some, bne]; done) | (simp [*, errW_none, errW_some] <;> rfl), by repeat (first | (with_reducible first | exact HB.out | apply below_alloc | apply pw_below_drewN | apply below_drew1) | exact HB.out)⟩
        · replace c10 := Bool.eq_false_iff.mpr c10
          subst c10
          have H1 : ((esc_Quote.f kj4 a0).bind fun t583 => ((esc_TQuote.f kj4 a0).bind fun t584 => (if a1 < 0 then (dragomanlaw6_EscCuts.j1 kj4 a1 t583 t584 true) else (dragomanlaw6_EscCuts.j1 kj4 a1 t583 t584 (decide (a1 ≥ (t583.size : Int))))))) = some r := by rw [if_neg (show ¬ (false = true) by decide)] at H; exact H
          clear H
          have H := H1
          clear H1
          replace H := Option.bind_eq_some_iff.mp H
          obtain ⟨t583, A110, H⟩ := H
          replace H : ((esc_TQuote.f kj4 a0).bind fun t584 => (if a1 < 0 then (dragomanlaw6_EscCuts.j1 kj4 a1 t583 t584 true) else (dragomanlaw6_EscCuts.j1 kj4 a1 t583 t584 (decide (a1 ≥ (t583.size : Int)))))) = some r := H
          have A11 := Aside0.mk A110
          clear A110
          replace H := Option.bind_eq_some_iff.mp H
          obtain ⟨t584, A120, H⟩ := H
          replace H : (if a1 < 0 then (dragomanlaw6_EscCuts.j1 kj4 a1 t583 t584 true) else (dragomanlaw6_EscCuts.j1 kj4 a1 t583 t584 (decide (a1 ≥ (t583.size : Int))))) = some r := H
          have A12 := Aside0.mk A120
          clear A120
          have HC13 := Aside0.mk H
          clear H
          go_upto_region 6 with (first | ((with_reducible refine gate_callee (f := 19) rfl ?_); refine goesL_ (some 24) rfl rfl Tryd.func19 (by kernel_rfl) rfl #[.string a0] rfl (by (try simp only [List.map_toArray, List.map_cons, List.map_nil]); first | done | rfl | (simp only [List.length_drop, List.length_take]; rfl)) ?_; (with_reducible refine (esc_Quote.calls kj4 a0 t583 _ A11.out).mono ?_); rintro e w14 ⟨rfl, hb⟩; refine ⟨_, rfl, ?_⟩; have n0_ := Aside0.mk (below_step (by repeat (first | (with_reducible first | exact HB.out | apply below_alloc | apply pw_below_drewN | apply below_drew1) | exact HB.out)) hb); clear HB; have HB := n0_; clear n0_; (try clear hb); (try clear hb2); (try clear hk); (try clear hi)) | ((with_reducible refine gate_callee (f := 20) rfl ?_); refine goesL_ (some 26) rfl rfl Tryd.func20 (by kernel_rfl) rfl #[.string a0] rfl (by (try simp only [List.map_toArray, List.map_cons, List.map_nil]); first | done | rfl | (simp only [List.length_drop, List.length_take]; rfl)) ?_; (with_reducible refine (esc_TQuote.calls kj4 a0 t584 _ A12.out).mono ?_); rintro e w15 ⟨rfl, hb⟩; refine ⟨_, rfl, ?_⟩; have n0_ := Aside0.mk (below_step (by repeat (first | (with_reducible first | exact HB.out | apply below_alloc | apply pw_below_drewN | apply below_drew1) | exact HB.out)) hb); clear HB; have HB := n0_; clear n0_; (try clear hb); (try clear hb2); (try clear hk); (try clear hi)))
          (try simp only [Act.put, List.setIfInBounds_toArray, List.set_cons_zero, List.set_cons_succ])
          go_cut [34] (fun v34 wc => ∃ (kq : Nat) (x34_12 : Bool), v34 = .bool x34_12 ∧ Aside0 (dragomanlaw6_EscCuts.j1 kq a1 t583 t584 x34_12 = some r) ∧ Aside0 (kq ≤ kj4) ∧ Aside0 (Below w.heap.size w wc))
          case first =>
            have H := HC13.out
            clear HC13
            by_cases c16 : a1 < 0
            · rw [if_pos c16] at H
              have c16b0 : decide (a1 < 0) = true := decide_eq_true c16
              clear c16
              (first | rw [c16b0] | (simp only [i64_w, i32_w]; rw [c16b0]) | skip)
              have H' := Aside0.mk H
              clear H
              go_wp2
              go_meet
              case rel => exact ⟨_, (true), (by first | rfl | (simp; done) | (simp [*]; done)), H', ⟨by have := HJ4.out; first | omega | exact Nat.le_refl _⟩, ⟨by repeat (first | (with_reducible first | exact HB.out | apply below_alloc | apply pw_below_drewN | apply below_drew1) | exact HB.out)⟩⟩
            · rw [if_neg c16] at H
              have c16b0 : decide (a1 < 0) = false := decide_eq_false c16
              clear c16
              (first | rw [c16b0] | (simp only [i64_w, i32_w]; rw [c16b0]) | skip)
              have H' := Aside0.mk H
              clear H
              go_wp2
              go_meet
              case rel => exact ⟨_, (decide (a1 ≥ (t583.size : Int))), (by first | rfl | (simp; done) | (simp [*]; done)), H', ⟨by have := HJ4.out; first | omega | exact Nat.le_refl _⟩, ⟨by repeat (first | (with_reducible first | exact HB.out | apply below_alloc | apply pw_below_drewN | apply below_drew1) | exact HB.out)⟩⟩
          case rest =>
            clear HC13
            try clear c1
            try clear c2
            try clear p2
            try clear c4
            try clear c7
            try clear c7b0
            try clear c7b1
            try clear c8
            try clear c10
            try clear c15
            try clear c16
            try clear c16b0
            try clear p2
            obtain ⟨kq, x34_12, rfl, HA, HJ12, HB⟩ := hcut
            cases kq with
            | zero => exact absurd HA.out (by simp [dragomanlaw6_EscCuts.j1])
            | succ kj12 =>
              have H := HA.out
              clear HA
              simp only [dragomanlaw6_EscCuts.j1] at H
              by_cases c17 : x34_12 = true
              · subst c17
                have H1 : (some true) = some r := by rw [if_pos rfl] at H; exact H
                clear H
                have H := H1
                clear H1
                obtain rfl := Option.some.inj H
                go_wp2
                go_ret
                exact ⟨by first | rfl | (simp [errW_none, errW_some] <;> rfl) | (simp [*, errW_none, errW_some, bne]; done) | (simp [*, errW_none, errW_some] <;> rfl), by repeat (first | (with_reducible first | exact HB.out | apply below_alloc | apply pw_below_drewN | apply below_drew1) | exact HB.out)⟩
              · replace c17 := Bool.eq_false_iff.mpr c17
                subst c17
                have H1 : (if 0 ≤ a1 then (if a1 ≤ (t583.size : Int) then ((esc_Unquote.f (t583.extract 0 (a1 : Int).toNat) 0).bind fun bt585 => (if bt585.2.2 < 0 then (dragomanlaw6_EscCuts.j2 kj12 a1 t584 true) else (dragomanlaw6_EscCuts.j2 kj12 a1 t584 (decide (bt585.2.2 > a1))))) else (none)) else (none)) = some r := by rw [if_neg (show ¬ (false = true) by decide)] at H; exact H
                clear H
                have H := H1
                clear H1
                by_cases c18 : 0 ≤ a1
                · rw [if_pos c18] at H
                  have c18b0 := eq_true c18
                  have c18b1 : decide (0 ≤ a1) = true := decide_eq_true c18
                  clear c18
                  by_cases c19 : a1 ≤ (t583.size : Int)
                  · rw [if_pos c19] at H
                    have c19b0 := eq_true c19
                    have c19b1 : decide (a1 ≤ (t583.size : Int)) = true := decide_eq_true c19
                    clear c19
                    replace H := Option.bind_eq_some_iff.mp H
                    obtain ⟨⟨t585, t586, t587⟩, A200, H⟩ := H
                    replace H : (if t587 < 0 then (dragomanlaw6_EscCuts.j2 kj12 a1 t584 true) else (dragomanlaw6_EscCuts.j2 kj12 a1 t584 (decide (t587 > a1)))) = some r := H
                    have A20 := Aside0.mk A200
                    clear A200
                    have HC21 := Aside0.mk H
                    clear H
                    go_upto_region 9 with (first | ((with_reducible refine gate_callee (f := 16) rfl ?_); refine goesL_ (some 39) rfl rfl Tryd.func16 (by kernel_rfl) rfl #[.string (t583.extract 0 (a1 : Int).toNat), .int .i64 0] rfl (by (try simp only [List.map_toArray, List.map_cons, List.map_nil]); first | done | rfl | (simp only [List.length_drop, List.length_take]; rfl)) ?_; (with_reducible refine (esc_Unquote.calls (t583.extract 0 (a1 : Int).toNat) 0 t585 t586 t587 _ A20.out).mono ?_); rintro e w22 ⟨rfl, hb⟩; refine ⟨_, rfl, ?_⟩; have n0_ := Aside0.mk (below_step (by repeat (first | (with_reducible first | exact HB.out | apply below_alloc | apply pw_below_drewN | apply below_drew1) | exact HB.out)) hb); clear HB; have HB := n0_; clear n0_; (try clear hb); (try clear hb2); (try clear hk); (try clear hi)))
                    (try simp only [Act.put, List.setIfInBounds_toArray, List.set_cons_zero, List.set_cons_succ])
                    go_cut [49] (fun v49 wc => ∃ (kq : Nat) (x49_20 : Bool), v49 = .bool x49_20 ∧ Aside0 (dragomanlaw6_EscCuts.j2 kq a1 t584 x49_20 = some r) ∧ Aside0 (kq ≤ kj12) ∧ Aside0 (Below w.heap.size w wc))
                    case first =>
                      have H := HC21.out
                      clear HC21
                      by_cases c23 : t587 < 0
                      · rw [if_pos c23] at H
                        have c23b0 : decide (t587 < 0) = true := decide_eq_true c23
                        clear c23
                        (first | rw [c23b0] | (simp only [i64_w, i32_w]; rw [c23b0]) | skip)
                        have H' := Aside0.mk H
                        clear H
                        go_wp2
                        go_meet
                        case rel => exact ⟨_, (true), (by first | rfl | (simp; done) | (simp [*]; done)), H', ⟨by have := HJ4.out; have := HJ12.out; first | omega | exact Nat.le_refl _⟩, ⟨by repeat (first | (with_reducible first | exact HB.out | apply below_alloc | apply pw_below_drewN | apply below_drew1) | exact HB.out)⟩⟩
                      · rw [if_neg c23] at H
                        have c23b0 : decide (t587 < 0) = false := decide_eq_false c23
                        clear c23
                        (first | rw [c23b0] | (simp only [i64_w, i32_w]; rw [c23b0]) | skip)
                        have H' := Aside0.mk H
                        clear H
                        go_wp2
                        go_meet
                        case rel => exact ⟨_, (decide (t587 > a1)), (by first | rfl | (simp; done) | (simp [*]; done)), H', ⟨by have := HJ4.out; have := HJ12.out; first | omega | exact Nat.le_refl _⟩, ⟨by repeat (first | (with_reducible first | exact HB.out | apply below_alloc | apply pw_below_drewN | apply below_drew1) | exact HB.out)⟩⟩
                    case rest =>
                      clear HC21
                      try clear c1
                      try clear c2
                      try clear p2
                      try clear c4
                      try clear c7
                      try clear c7b0
                      try clear c7b1
                      try clear c8
                      try clear c10
                      try clear c15
                      try clear c16
                      try clear c16b0
                      try clear c17
                      try clear c18
                      try clear c18b0
                      try clear c18b1
                      try clear c19
                      try clear c19b0
                      try clear c19b1
                      try clear c20
                      try clear c23
                      try clear c23b0
                      try clear p2
                      obtain ⟨kq, x49_20, rfl, HA, HJ20, HB⟩ := hcut
                      cases kq with
                      | zero => exact absurd HA.out (by simp [dragomanlaw6_EscCuts.j2])
                      | succ kj20 =>
                        have H := HA.out
                        clear HA
                        simp only [dragomanlaw6_EscCuts.j2] at H
                        by_cases c24 : x49_20 = true
                        · subst c24
                          have H1 : (some false) = some r := by rw [if_pos rfl] at H; exact H
                          clear H
                          have H := H1
                          clear H1
                          obtain rfl := Option.some.inj H
                          go_wp2
                          go_ret
                          exact ⟨by first | rfl | (simp [errW_none, errW_some] <;> rfl) | (simp [*, errW_none, errW_some, bne]; done) | (simp [*, errW_none, errW_some] <;> rfl), by repeat (first | (with_reducible first | exact HB.out | apply below_alloc | apply pw_below_drewN | apply below_drew1) | exact HB.out)⟩
                        · replace c24 := Bool.eq_false_iff.mpr c24
                          subst c24
                          have H1 : (if a1 ≥ (t584.size : Int) then (some true) else (if a1 = 2 then (if 1 < (t584.size : Int) then (if (bt t584 1) = 34 then (some true) else (if 0 ≤ a1 then (if a1 ≤ (t584.size : Int) then ((esc_TUnquote.f (t584.extract 0 (a1 : Int).toNat) 0).bind fun bt588 => (if bt588.2.2 ≥ 0 then (some (decide (bt588.2.2 ≤ a1))) else (some false))) else (none)) else (none))) else (none)) else (if 0 ≤ a1 then (if a1 ≤ (t584.size : Int) then ((esc_TUnquote.f (t584.extract 0 (a1 : Int).toNat) 0).bind fun bt591 => (if bt591.2.2 ≥ 0 then (some (decide (bt591.2.2 ≤ a1))) else (some false))) else (none)) else (none)))) = some r := by rw [if_neg (show ¬ (false = true) by decide)] at H; exact H
                          clear H
                          have H := H1
                          clear H1
                          by_cases c25 : a1 ≥ (t584.size : Int)
                          · rw [if_pos c25] at H
                            have c25b0 : decide ((t584.size : Int) ≤ a1) = true := decide_eq_true c25
                            clear c25
                            obtain rfl := Option.some.inj H
                            go_wp2
                            go_ret
                            exact ⟨by first | rfl | (simp [errW_none, errW_some] <;> rfl) | (simp [*, errW_none, errW_some, bne]; done) | (simp [*, errW_none, errW_some] <;> rfl), by repeat (first | (with_reducible first | exact HB.out | apply below_alloc | apply pw_below_drewN | apply below_drew1) | exact HB.out)⟩
                          · rw [if_neg c25] at H
                            have c25b0 : decide ((t584.size : Int) ≤ a1) = false := decide_eq_false c25
                            clear c25
                            by_cases c26 : a1 = 2
                            · rw [if_pos c26] at H
                              have c26b0 : (a1 == 2) = true := beq_iff_eq.mpr c26
                              have c26b1 : (a1 != 2) = false := bne_eq_false_iff_eq.mpr c26
                              clear c26
                              by_cases c27 : 1 < (t584.size : Int)
                              · rw [if_pos c27] at H
                                have c27b0 : decide (1 < (t584.size : Int)) = true := decide_eq_true c27
                                have c27b1 : decide (1 < t584.size) = true := decide_eq_true (by omega)
                                clear c27
                                by_cases c29 : (bt t584 1) = 34
                                · rw [if_pos c29] at H
                                  have c29b0 : ((bt t584 1) == 34) = true := beq_iff_eq.mpr c29
                                  have c29b1 : ((bt t584 1) != 34) = false := bne_eq_false_iff_eq.mpr c29
                                  clear c29
                                  obtain rfl := Option.some.inj H
                                  have p28 : 0 ≤ (1 : Int) := (by omega)
                                  have q28 : 1 < t584.size := (by have : (1 : Int) < (t584.size : Int) := of_decide_eq_true (by first | (with_reducible assumption) | assumption); omega)
                                  have hx28 : ∀ h : 1 < t584.size, ((t584[1]'h).toNat : Int) = bt t584 1 := bt_at t584 1
                                  clear p28
                                  have qi28 : (1 < (t584.size : Int)) = True := eq_true (of_decide_eq_true (by first | (with_reducible assumption) | assumption))
                                  replace q28 := eq_true q28
                                  go_wp2
                                  go_ret
                                  exact ⟨by first | rfl | (simp [errW_none, errW_some] <;> rfl) | (simp [*, errW_none, errW_some, bne]; done) | (simp [*, errW_none, errW_some] <;> rfl), by repeat (first | (with_reducible first | exact HB.out | apply below_alloc | apply pw_below_drewN | apply below_drew1) | exact HB.out)⟩
                                · rw [if_neg c29] at H
                                  have c29b0 : ((bt t584 1) == 34) = false := beq_eq_false_iff_ne.mpr c29
                                  have c29b1 : ((bt t584 1) != 34) = true := bne_iff_ne.mpr c29
                                  by_cases c30 : 0 ≤ a1
                                  · rw [if_pos c30] at H
                                    have c30b0 := eq_true c30
                                    have c30b1 : decide (0 ≤ a1) = true := decide_eq_true c30
                                    clear c30
                                    by_cases c31 : a1 ≤ (t584.size : Int)
                                    · rw [if_pos c31] at H
                                      have c31b0 := eq_true c31
                                      have c31b1 : decide (a1 ≤ (t584.size : Int)) = true := decide_eq_true c31
                                      clear c31
                                      replace H := Option.bind_eq_some_iff.mp H
                                      obtain ⟨⟨t588, t589, t590⟩, A320, H⟩ := H
                                      replace H : (if t590 ≥ 0 then (some (decide (t590 ≤ a1))) else (some false)) = some r := H
                                      have A32 := Aside0.mk A320
                                      clear A320
                                      by_cases c33 : t590 ≥ 0
                                      · rw [if_pos c33] at H
                                        have c33b0 : decide (0 ≤ t590) = true := decide_eq_true c33
                                        clear c33
                                        obtain rfl := Option.some.inj H
                                        have p28 : 0 ≤ (1 : Int) := (by omega)
                                        have q28 : 1 < t584.size := (by have : (1 : Int) < (t584.size : Int) := of_decide_eq_true (by first | (with_reducible assumption) | assumption); omega)
                                        have hx28 : ∀ h : 1 < t584.size, ((t584[1]'h).toNat : Int) = bt t584 1 := bt_at t584 1
                                        clear p28
                                        have qi28 : (1 < (t584.size : Int)) = True := eq_true (of_decide_eq_true (by first | (with_reducible assumption) | assumption))
                                        replace q28 := eq_true q28
                                        go_wp2_with (first | ((with_reducible refine gate_callee (f := 17) rfl ?_); refine goesL_ (some 67) rfl rfl Tryd.func17 (by kernel_rfl) rfl #[.string (t584.extract 0 (a1 : Int).toNat), .int .i64 0] rfl (by (try simp only [List.map_toArray, List.map_cons, List.map_nil]); first | done | rfl | (simp only [List.length_drop, List.length_take]; rfl)) ?_; (with_reducible refine (esc_TUnquote.calls (t584.extract 0 (a1 : Int).toNat) 0 t588 t589 t590 _ A32.out).mono ?_); rintro e w34 ⟨rfl, hb⟩; refine ⟨_, rfl, ?_⟩; have n0_ := Aside0.mk (below_step (by repeat (first | (with_reducible first | exact HB.out | apply below_alloc | apply pw_below_drewN | apply below_drew1) | exact HB.out)) hb); clear HB; have HB := n0_; clear n0_; (try clear hb); (try clear hb2); (try clear hk); (try clear hi)))
                                        go_ret
                                        exact ⟨by first | rfl | (simp [errW_none, errW_some] <;> rfl) | (simp [*, errW_none, errW_some, bne]; done) | (simp [*, errW_none, errW_some] <;> rfl), by repeat (first | (with_reducible first | exact HB.out | apply below_alloc | apply pw_below_drewN | apply below_drew1) | exact HB.out)⟩
                                      · rw [if_neg c33] at H
                                        have c33b0 : decide (0 ≤ t590) = false := decide_eq_false c33
                                        clear c33
                                        obtain rfl := Option.some.inj H
                                        have p28 : 0 ≤ (1 : Int) := (by omega)
                                        have q28 : 1 < t584.size := (by have : (1 : Int) < (t584.size : Int) := of_decide_eq_true (by first | (with_reducible assumption) | assumption); omega)
                                        have hx28 : ∀ h : 1 < t584.size, ((t584[1]'h).toNat : Int) = bt t584 1 := bt_at t584 1
                                        clear p28
                                        have qi28 : (1 < (t584.size : Int)) = True := eq_true (of_decide_eq_true (by first | (with_reducible assumption) | assumption))
                                        replace q28 := eq_true q28
                                        go_wp2_with (first | ((with_reducible refine gate_callee (f := 17) rfl ?_); refine goesL_ (some 67) rfl rfl Tryd.func17 (by kernel_rfl) rfl #[.string (t584.extract 0 (a1 : Int).toNat), .int .i64 0] rfl (by (try simp only [List.map_toArray, List.map_cons, List.map_nil]); first | done | rfl | (simp only [List.length_drop, List.length_take]; rfl)) ?_; (with_reducible refine (esc_TUnquote.calls (t584.extract 0 (a1 : Int).toNat) 0 t588 t589 t590 _ A32.out).mono ?_); rintro e w35 ⟨rfl, hb⟩; refine ⟨_, rfl, ?_⟩; have n0_ := Aside0.mk (below_step (by repeat (first | (with_reducible first | exact HB.out | apply below_alloc | apply pw_below_drewN | apply below_drew1) | exact HB.out)) hb); clear HB; have HB := n0_; clear n0_; (try clear hb); (try clear hb2); (try clear hk); (try clear hi)))
                                        go_ret
                                        exact ⟨by first | rfl | (simp [errW_none, errW_some] <;> rfl) | (simp [*, errW_none, errW_some, bne]; done) | (simp [*, errW_none, errW_some] <;> rfl), by repeat (first | (with_reducible first | exact HB.out | apply below_alloc | apply pw_below_drewN | apply below_drew1) | exact HB.out)⟩
                                    · rw [if_neg c31] at H
                                      exact absurd H (by simp)
                                  · rw [if_neg c30] at H
                                    exact absurd H (by simp)
                              · rw [if_neg c27] at H
                                exact absurd H (by simp)
                            · rw [if_neg c26] at H
                              have c26b0 : (a1 == 2) = false := beq_eq_false_iff_ne.mpr c26
                              have c26b1 : (a1 != 2) = true := bne_iff_ne.mpr c26
                              by_cases c36 : 0 ≤ a1
                              · rw [if_pos c36] at H
                                have c36b0 := eq_true c36
                                have c36b1 : decide (0 ≤ a1) = true := decide_eq_true c36
                                clear c36
                                by_cases c37 : a1 ≤ (t584.size : Int)
                                · rw [if_pos c37] at H
                                  have c37b0 := eq_true c37
                                  have c37b1 : decide (a1 ≤ (t584.size : Int)) = true := decide_eq_true c37
                                  clear c37
                                  replace H := Option.bind_eq_some_iff.mp H
                                  obtain ⟨⟨t591, t592, t593⟩, A380, H⟩ := H
                                  replace H : (if t593 ≥ 0 then (some (decide (t593 ≤ a1))) else (some false)) = some r := H
                                  have A38 := Aside0.mk A380
                                  clear A380
                                  by_cases c39 : t593 ≥ 0
                                  · rw [if_pos c39] at H
                                    have c39b0 : decide (0 ≤ t593) = true := decide_eq_true c39
                                    clear c39
                                    obtain rfl := Option.some.inj H
                                    go_wp2_with (first | ((with_reducible refine gate_callee (f := 17) rfl ?_); refine goesL_ (some 67) rfl rfl Tryd.func17 (by kernel_rfl) rfl #[.string (t584.extract 0 (a1 : Int).toNat), .int .i64 0] rfl (by (try simp only [List.map_toArray, List.map_cons, List.map_nil]); first | done | rfl | (simp only [List.length_drop, List.length_take]; rfl)) ?_; (with_reducible refine (esc_TUnquote.calls (t584.extract 0 (a1 : Int).toNat) 0 t591 t592 t593 _ A38.out).mono ?_); rintro e w40 ⟨rfl, hb⟩; refine ⟨_, rfl, ?_⟩; have n0_ := Aside0.mk (below_step (by repeat (first | (with_reducible first | exact HB.out | apply below_alloc | apply pw_below_drewN | apply below_drew1) | exact HB.out)) hb); clear HB; have HB := n0_; clear n0_; (try clear hb); (try clear hb2); (try clear hk); (try clear hi)))
                                    go_ret
                                    exact ⟨by first | rfl | (simp [errW_none, errW_some] <;> rfl) | (simp [*, errW_none, errW_some, bne]; done) | (simp [*, errW_none, errW_some] <;> rfl), by repeat (first | (with_reducible first | exact HB.out | apply below_alloc | apply pw_below_drewN | apply below_drew1) | exact HB.out)⟩
                                  · rw [if_neg c39] at H
                                    have c39b0 : decide (0 ≤ t593) = false := decide_eq_false c39
                                    clear c39
                                    obtain rfl := Option.some.inj H
                                    go_wp2_with (first | ((with_reducible refine gate_callee (f := 17) rfl ?_); refine goesL_ (some 67) rfl rfl Tryd.func17 (by kernel_rfl) rfl #[.string (t584.extract 0 (a1 : Int).toNat), .int .i64 0] rfl (by (try simp only [List.map_toArray, List.map_cons, List.map_nil]); first | done | rfl | (simp only [List.length_drop, List.length_take]; rfl)) ?_; (with_reducible refine (esc_TUnquote.calls (t584.extract 0 (a1 : Int).toNat) 0 t591 t592 t593 _ A38.out).mono ?_); rintro e w41 ⟨rfl, hb⟩; refine ⟨_, rfl, ?_⟩; have n0_ := Aside0.mk (below_step (by repeat (first | (with_reducible first | exact HB.out | apply below_alloc | apply pw_below_drewN | apply below_drew1) | exact HB.out)) hb); clear HB; have HB := n0_; clear n0_; (try clear hb); (try clear hb2); (try clear hk); (try clear hi)))
                                    go_ret
                                    exact ⟨by first | rfl | (simp [errW_none, errW_some] <;> rfl) | (simp [*, errW_none, errW_some, bne]; done) | (simp [*, errW_none, errW_some] <;> rfl), by repeat (first | (with_reducible first | exact HB.out | apply below_alloc | apply pw_below_drewN | apply below_drew1) | exact HB.out)⟩
                                · rw [if_neg c37] at H
                                  exact absurd H (by simp)
                              · rw [if_neg c36] at H
                                exact absurd H (by simp)
                  · rw [if_neg c19] at H
                    exact absurd H (by simp)
                · rw [if_neg c18] at H
                  exact absurd H (by simp)
  · replace c4 := Bool.eq_false_iff.mpr c4
    subst c4
    have H1 : (some false) = some r := by rw [if_neg (show ¬ (false = true) by decide)] at H; exact H
    clear H
    have H := H1
    clear H1
    obtain rfl := Option.some.inj H
    go_enter Tryd.func8, Tryd.ntmps8
    go_wp2_with (first | ((with_reducible refine gate_callee (f := 15) rfl ?_); refine goesL_ (some 13) rfl rfl Tryd.func15 (by kernel_rfl) rfl #[] rfl (by (try simp only [List.map_toArray, List.map_cons, List.map_nil]); first | done | rfl | (simp only [List.length_drop, List.length_take]; rfl)) ?_; (with_reducible refine (dragomanlaw6_awake.calls  false _ A3.out).mono ?_); rintro e w42 ⟨rfl, hb⟩; refine ⟨_, rfl, ?_⟩; have n0_ := Aside0.mk (below_step (by repeat (first | (with_reducible first | exact HB.out | apply below_alloc | apply pw_below_drewN | apply below_drew1) | exact HB.out)) hb); clear HB; have HB := n0_; clear n0_; (try clear hb); (try clear hb2); (try clear hk); (try clear hi)))
    go_ret
    exact ⟨by first | rfl | (simp [errW_none, errW_some] <;> rfl) | (simp [*, errW_none, errW_some, bne]; done) | (simp [*, errW_none, errW_some] <;> rfl), by repeat (first | (with_reducible first | exact HB.out | apply below_alloc | apply pw_below_drewN | apply below_drew1) | exact HB.out)⟩
/-- THE ONE PURE STATEMENT of dragomanlaw6_EscCuts: yours. -/
def dragomanlaw6_EscCuts.Pure : Prop := ∀ (a0 : ByteArray) (a1 : Int), a0.size ≤ 140737488351232 → (Lit.int .i64 a1).wf = true → ∃ k, dragomanlaw6_EscCuts.f k a0 a1 = some true
theorem dragomanlaw6_EscCuts.walk (P : dragomanlaw6_EscCuts.Pure) (a0 : ByteArray) (a1 : Int) (w : World) (w0 : a0.size ≤ 140737488351232) (w1 : (Lit.int .i64 a1).wf = true) :
    Calls Tryd.prog 8 #[.string a0, .int .i64 a1] w fun e w' => e = .returned (.bool true) ∧ Below w.heap.size w w' := by
  obtain ⟨k, h⟩ := P a0 a1 w0 w1
  refine (dragomanlaw6_EscCuts.calls k a0 a1 true w h).mono ?_
  rintro e w' ⟨rfl, hd⟩
  exact ⟨rfl, hd⟩
end Go.Proofs.YtoanbmggffkmgaaDoor.P
end
section
namespace Go.Proofs.YtoanbmggffkmgaaDoor.La
open Go.RowKit Go.Proofs.YtoanbmggffkmgaaDoor.P Go.Proofs.YtoanbmggffkmgaaDoorW.PrintWords Go.Proofs.YtoanbmggffkmgaaDoorW.PrintLast
/-- A digit of base 16, as it is written. -/
def hxd (v : Int) : Int := [48, 49, 50, 51, 52, 53, 54, 55, 56, 57, 97, 98, 99, 100, 101, 102].getD v.toNat 0
/-- The seven letters that have an escape of two bytes. -/
def sevn (r : Int) : Option Int := if r = 34 then some 34 else if r = 92 then some 92 else if r = 8 then some 98 else if r = 12 then some 102 else if r = 10 then some 110 else if r = 13 then some 114 else if r = 9 then some 116 else none
def ctrl (last : Bool) (r : Int) : Prop := r < 32 ∨ (r = 127 ∧ last = true)
instance (last : Bool) (r : Int) : Decidable (ctrl last r) := by unfold ctrl; infer_instance
/-- What a letter is written as. -/
def qlet (last : Bool) (r : Int) : List Int := match sevn r with
  | some c => [92, c]
  | none => if ctrl last r then [92, 117, 48, 48, hxd (r / 16), hxd (r % 16)] else enc r
/-- The letter that a text begins with, or the sign of the unknown. -/
def hdl (l : List Int) : Int := if (tk l).2 = 0 then 65533 else (tk l).1
/-- What a text is written as, its quotes aside. -/
def qbody (last : Bool) (l : List Int) : List Int := if _h : l = [] then [] else qlet last (hdl l) ++ qbody last (l.drop (stp l))
termination_by l.length
decreasing_by exact drop_lt (by assumption)
theorem qbody_nil (last : Bool) : qbody last [] = [] := by rw [qbody]; simp
theorem qbody_step {last : Bool} {l : List Int} (h : l ≠ []) : qbody last l = qlet last (hdl l) ++ qbody last (l.drop (stp l)) := by rw [qbody, dif_neg h]
theorem hdl_good {l : List Int} (hl : Bytes l) : good (hdl l) := by
  unfold hdl
  split
  · decide
  · rcases tk_inv l hl with h | h
    · rename_i h0
      rw [h] at h0
      exact absurd rfl h0
    · exact h.1
theorem hxd_fin : ∀ v : Fin 16, 48 ≤ hxd (v.val : Int) ∧ hxd (v.val : Int) ≤ 102 ∧ bt (⟨#[48, 49, 50, 51, 52, 53, 54, 55, 56, 57, 97, 98, 99, 100, 101, 102]⟩ : ByteArray) (v.val : Int) = hxd (v.val : Int) := by decide
theorem hxd_val {v : Int} (h0 : 0 ≤ v) (h1 : v < 16) : 48 ≤ hxd v ∧ hxd v ≤ 102 ∧ bt (⟨#[48, 49, 50, 51, 52, 53, 54, 55, 56, 57, 97, 98, 99, 100, 101, 102]⟩ : ByteArray) v = hxd v := by
  obtain ⟨n, rfl⟩ := Int.eq_ofNat_of_zero_le h0
  exact hxd_fin ⟨n, by omega⟩
theorem qlet_len (last : Bool) (r : Int) : 1 ≤ (qlet last r).length ∧ (qlet last r).length ≤ 6 := by
  unfold qlet
  split
  · simp
  · split
    · simp
    · have := enc_len r; omega
theorem sevn_byte {r c : Int} (h : sevn r = some c) : 34 ≤ c ∧ c ≤ 116 := by
  unfold sevn at h
  (repeat' split at h) <;> first | (cases h; done) | (have := Option.some.inj h; omega)
theorem qlet_bytes (last : Bool) {r : Int} (h : good r) : Bytes (qlet last r) := by
  have hg := h
  unfold good at hg
  unfold qlet
  split
  · rename_i c hc
    have := sevn_byte hc
    intro x hx
    simp at hx
    omega
  · split
    · rename_i hc
      have h1 := hxd_val (v := r / 16) (by omega) (by unfold ctrl at hc; omega)
      have h2 := hxd_val (v := r % 16) (by omega) (by omega)
      intro x hx
      simp at hx
      omega
    · exact enc_bytes h
theorem bytes_app {a b : List Int} (ha : Bytes a) (hb : Bytes b) : Bytes (a ++ b) := fun x hx => (List.mem_append.1 hx).elim (ha x) (hb x)
theorem bytes_drop' {a : List Int} (ha : Bytes a) (n : Nat) : Bytes (a.drop n) := fun x hx => ha x (List.mem_of_mem_drop hx)
theorem qbody_bytes (last : Bool) (l : List Int) (hl : Bytes l) : Bytes (qbody last l) := by
  by_cases h : l = []
  · subst h; rw [qbody_nil]; intro x hx; cases hx
  · rw [qbody_step h]
    exact bytes_app (qlet_bytes last (hdl_good hl)) (qbody_bytes last _ (bytes_drop' hl _))
termination_by l.length
decreasing_by exact drop_lt h
theorem qbody_len (last : Bool) (l : List Int) : (qbody last l).length ≤ 6 * l.length := by
  by_cases h : l = []
  · subst h; rw [qbody_nil]; simp
  · have h1 := qlet_len last (hdl l)
    have h2 := qbody_len last (l.drop (stp l))
    have h3 := drop_lt h
    rw [qbody_step h, List.length_append]
    omega
termination_by l.length
decreasing_by exact drop_lt h
theorem and15 {x : Int} (h₀ : 0 ≤ x) (h₁ : x < 2 ^ 62) : Go.bits .and .i64 x 15 = x % 16 := bits_mask .i64 62 (by decide) wraps_i64 4 (by decide) x h₀ h₁
/-- One letter written. -/
theorem quote_j2 (s : ByteArray) (last : Bool) (acc : List Int) (r : Int) (hg : good r) (i : Int) (hi : i = idx [34, 92, 8, 12, 10, 13, 9] (mn r 255)) (ha : acc.length + 10 < 140737488355000) {R : ByteArray}
    (h : Ev (fun k => esc_quote.l0 k s last (acc ++ qlet last r)) R) : Ev (fun k => esc_quote.j2 k s last acc r i (if r < 256 then decide (i ≥ 0) else false)) R := by
  have hr : 0 ≤ r := hg.1
  by_cases h7 : (sevn r).isSome = true
  · obtain ⟨c, hc⟩ := Option.isSome_iff_exists.1 h7
    have hq : qlet last r = [92, c] := by unfold qlet; rw [hc]
    rw [hq] at h
    have key : ∃ n : Nat, n < 7 ∧ i = (n : Int) ∧ r < 256 ∧ bt (⟨#[34, 92, 98, 102, 110, 114, 116]⟩ : ByteArray) i = c := by
      unfold sevn at hc
      (repeat' split at hc)
      · exact ⟨0, by omega, by rw [hi]; subst r; decide, by omega, by rw [hi, ← Option.some.inj hc]; subst r; decide⟩
      · exact ⟨1, by omega, by rw [hi]; subst r; decide, by omega, by rw [hi, ← Option.some.inj hc]; subst r; decide⟩
      · exact ⟨2, by omega, by rw [hi]; subst r; decide, by omega, by rw [hi, ← Option.some.inj hc]; subst r; decide⟩
      · exact ⟨3, by omega, by rw [hi]; subst r; decide, by omega, by rw [hi, ← Option.some.inj hc]; subst r; decide⟩
      · exact ⟨4, by omega, by rw [hi]; subst r; decide, by omega, by rw [hi, ← Option.some.inj hc]; subst r; decide⟩
      · exact ⟨5, by omega, by rw [hi]; subst r; decide, by omega, by rw [hi, ← Option.some.inj hc]; subst r; decide⟩
      · exact ⟨6, by omega, by rw [hi]; subst r; decide, by omega, by rw [hi, ← Option.some.inj hc]; subst r; decide⟩
      · cases hc
    obtain ⟨n, hn, hin, h256, hb⟩ := key
    rw [if_pos h256, decide_eq_true (by omega)]
    refine Ev.step (fun k => by rw [esc_quote.j2, if_pos rfl, if_pos (by omega), if_pos (by omega), Option.bind_some, hb, if_pos (by simp only [List.length_cons, List.length_nil]; omega)]) ?_
    exact h
  · have hn : sevn r = none := by
      cases hs : sevn r with
      | none => rfl
      | some c => rw [hs] at h7; exact absurd rfl h7
    have hx : (if r < 256 then decide (i ≥ 0) else false) = false := by
      split
      · rename_i h256
        have hm : mn r 255 = r := by unfold mn; split <;> omega
        unfold sevn at hn
        have : i = -1 := by
          rw [hi, hm]
          (repeat' split at hn) <;> first | (cases hn; done) | skip
          rename_i a1 a2 a3 a4 a5 a6 a7
          simp only [idx, if_neg (fun e : (34 : Int) = r => a1 e.symm), if_neg (fun e : (92 : Int) = r => a2 e.symm), if_neg (fun e : (8 : Int) = r => a3 e.symm), if_neg (fun e : (12 : Int) = r => a4 e.symm), if_neg (fun e : (10 : Int) = r => a5 e.symm), if_neg (fun e : (13 : Int) = r => a6 e.symm), if_neg (fun e : (9 : Int) = r => a7 e.symm), if_true]
        rw [this]; rfl
      · rfl
    rw [hx]
    by_cases hc : ctrl last r
    · have hq : qlet last r = [92, 117, 48, 48, hxd (r / 16), hxd (r % 16)] := by unfold qlet; rw [hn]; simp only [if_pos hc]
      rw [hq] at h
      have hr128 : r < 128 := by unfold ctrl at hc; omega
      have h1 := hxd_val (v := r / 16) (by omega) (by omega)
      have h2 := hxd_val (v := r % 16) (by omega) (by omega)
      have hand := and15 hr (by omega)
      unfold ctrl at hc
      by_cases h32 : r < 32
      · refine Ev.step (fun k => by rw [esc_quote.j2, if_neg (by decide), if_pos h32, hand, if_pos (by omega), if_pos (by omega), if_pos (by omega), if_pos (by omega), Option.bind_some, h1.2.2, h2.2.2, if_pos (by simp only [List.length_cons, List.length_nil]; omega)]) ?_
        exact h
      · obtain ⟨h127, hlast⟩ := hc.resolve_left h32
        subst hlast
        refine Ev.step (fun k => by rw [esc_quote.j2, if_neg (by decide), if_neg h32, if_pos h127, if_pos rfl, hand, if_pos (by omega), if_pos (by omega), if_pos (by omega), if_pos (by omega), Option.bind_some, h1.2.2, h2.2.2, if_pos (by simp only [List.length_cons, List.length_nil]; omega)]) ?_
        exact h
    · have hq : qlet last r = enc r := by unfold qlet; rw [hn]; simp only [if_neg hc]
      rw [hq] at h
      unfold ctrl at hc
      have hput : utf_Put.f acc r = some (acc ++ enc r) := by rw [put_eq acc r (by omega), if_pos hg]
      by_cases h127 : r = 127
      · have hlast : ¬ last = true := fun e => hc (.inr ⟨h127, e⟩)
        refine Ev.step (fun k => by rw [esc_quote.j2, if_neg (by decide), if_neg (by omega), if_pos h127, if_neg hlast, hput, Option.bind_some]) ?_
        exact h
      · refine Ev.step (fun k => by rw [esc_quote.j2, if_neg (by decide), if_neg (by omega), if_neg h127, hput, Option.bind_some]) ?_
        exact h
theorem quote_l0 (last : Bool) (n : Nat) : ∀ (s : ByteArray) (acc : List Int), s.size ≤ n → acc.length + 6 * s.size + 100 < 140737488355000 → Ev (fun k => esc_quote.l0 k s last acc) (strOfNums (acc ++ qbody last (bytesOf s) ++ [34])) := by
  induction n with
  | zero =>
    intro s acc hn ha
    have he : bytesOf s = [] := List.eq_nil_of_length_eq_zero (by rw [size_of]; omega)
    have hl : s.toList = [] := by rw [toList_nil_iff]; exact he
    refine Ev.step (fun k => by rw [esc_quote.l0, if_pos hl, if_pos (by omega)]) ?_
    rw [he, qbody_nil, List.append_nil]
    exact Ev.now _
  | succ n ih =>
    intro s acc hn ha
    by_cases he : bytesOf s = []
    · have hl : s.toList = [] := by rw [toList_nil_iff]; exact he
      refine Ev.step (fun k => by rw [esc_quote.l0, if_pos hl, if_pos (by omega)]) ?_
      rw [he, qbody_nil, List.append_nil]
      exact Ev.now _
    · have hl : ¬ s.toList = [] := by rw [toList_nil_iff]; exact he
      have hB := bytes_of s
      have hst := stp_le hB he
      have hst1 := stp_pos' (bytesOf s)
      rw [size_of] at hst
      have hg := hdl_good hB
      have hmn : 0 ≤ mn (hdl (bytesOf s)) 255 ∧ mn (hdl (bytesOf s)) 255 < 256 := by
        have := hg.1
        unfold mn
        split <;> omega
      have hql := qlet_len last (hdl (bytesOf s))
      have hsz := size_drop s (stp (bytesOf s))
      have main := ih (s.extract (stp (bytesOf s)) s.size) (acc ++ qlet last (hdl (bytesOf s))) (by omega) (by rw [List.length_append]; omega)
      rw [bytesOf_drop, List.append_assoc acc, ← qbody_step he] at main
      have j2 := quote_j2 (s.extract (stp (bytesOf s)) s.size) last acc (hdl (bytesOf s)) hg _ rfl (by omega) main
      have j1 : Ev (fun k => esc_quote.j1 k s last acc (hdl (bytesOf s)) (stp (bytesOf s) : Int)) (strOfNums (acc ++ qbody last (bytesOf s) ++ [34])) := by
        have hix : strings_IndexByte.f (⟨#[34, 92, 8, 12, 10, 13, 9]⟩ : ByteArray) ((mn (hdl (bytesOf s)) 255) % 256) = some (idx [34, 92, 8, 12, 10, 13, 9] (mn (hdl (bytesOf s)) 255)) := by
          rw [Int.emod_eq_of_lt hmn.1 hmn.2]
          unfold strings_IndexByte.f
          rw [if_pos hmn]
          rfl
        refine Ev.step (fun k => by rw [esc_quote.j1, if_pos (by omega), if_pos (by omega), hix, Option.bind_some, Int.toNat_natCast]) ?_
        by_cases h256 : hdl (bytesOf s) < 256
        · simp only [if_pos h256] at j2 ⊢
          exact j2
        · simp only [if_neg h256] at j2 ⊢
          exact j2
      refine Ev.step (fun k => by rw [esc_quote.l0, if_neg hl]) ?_
      refine Ev.bind (take_ev s) ?_
      by_cases h0 : (tk (bytesOf s)).2 = 0
      · simp only [if_pos h0]
        have e1 : hdl (bytesOf s) = 65533 := by unfold hdl; rw [if_pos h0]
        have e2 : stp (bytesOf s) = 1 := by unfold stp; rw [if_pos h0]
        rw [e1, e2] at j1
        exact j1
      · simp only [if_neg h0]
        have e1 : hdl (bytesOf s) = (tk (bytesOf s)).1 := by unfold hdl; rw [if_neg h0]
        rw [e1, ← stp_int hB h0] at j1
        exact j1
/-- What Quote and TQuote write. -/
def quoteL (last : Bool) (l : List Int) : List Int := 34 :: (qbody last l ++ [34])
theorem quote_ev (s : ByteArray) (last : Bool) (hs : s.size ≤ 10000) : Ev (fun k => esc_quote.f k s last) (strOfNums (quoteL last (bytesOf s))) :=
  Ev.congr (fun k => by rw [esc_quote.f]) (quote_l0 last s.size s [34] (Nat.le_refl _) (by simp only [List.length_cons, List.length_nil]; omega))
theorem Quote_ev (s : ByteArray) (hs : s.size ≤ 10000) : Ev (fun k => esc_Quote.f k s) (strOfNums (quoteL false (bytesOf s))) :=
  Ev.congr (fun k => by rw [esc_Quote.f]) (Ev.bind (quote_ev s false hs) (Ev.now _))
theorem TQuote_ev (s : ByteArray) (hs : s.size ≤ 10000) : Ev (fun k => esc_TQuote.f k s) (strOfNums (quoteL true (bytesOf s))) :=
  Ev.congr (fun k => by rw [esc_TQuote.f]) (Ev.bind (quote_ev s true hs) (Ev.now _))
theorem quoteL_bytes (last : Bool) (l : List Int) (hl : Bytes l) : Bytes (quoteL last l) := by
  intro x hx
  rcases List.mem_cons.1 hx with rfl | hx
  · omega
  · rcases List.mem_append.1 hx with h | h
    · exact qbody_bytes last l hl x h
    · simp at h; omega
end Go.Proofs.YtoanbmggffkmgaaDoor.La
end
section
namespace Go.Proofs.YtoanbmggffkmgaaDoor.La
theorem enc_inj {r q : Int} (hr : good r) (hq : good q) {m n : List Int} (h : enc r ++ m = enc q ++ n) : r = q ∧ m = n := by
  have h1 := tk_enc hr m
  rw [h, tk_enc hq n] at h1
  have hrq : q = r := (Prod.mk.inj h1).1
  subst hrq
  exact ⟨rfl, List.append_cancel_left h⟩
theorem enc_ne (r : Int) : enc r ≠ [] := fun h => by have := enc_len r; rw [h] at this; simp at this
/-- A letter's beginning is no letter. -/
theorem tk_cut {r : Int} (hr : good r) {n : Nat} (hn : n < (enc r).length) : tk ((enc r).take n) = (0, 0) := by
  rcases tk_inv ((enc r).take n) (fun x hx => enc_bytes hr x (List.mem_of_mem_take hx)) with h | ⟨hg, _, m, hm⟩
  · exact h
  · have h1 : enc r = enc (tk ((enc r).take n)).1 ++ (m ++ (enc r).drop n) := by
      rw [← List.append_assoc, ← hm, List.take_append_drop]
    have h2 := enc_inj hr hg (m := []) (by rw [List.append_nil]; exact h1)
    have h3 : (enc r).take n = enc r ++ m := by rw [hm, ← h2.1]
    have h4 := congrArg List.length h3
    rw [List.length_take, List.length_append] at h4
    omega
theorem stp_enc {r : Int} (hr : good r) (m : List Int) : stp (enc r ++ m) = (enc r).length := by
  have := enc_len r
  unfold stp
  rw [tk_enc hr]
  rw [if_neg (by simp only; omega)]
  simp
/-- A text of letters begins with one. -/
theorem good_text {l : List Int} (hl : ∀ x ∈ l, 0 ≤ x ∧ x < 256) (h : bad l = none) (hne : l ≠ []) : ∃ r m, good r ∧ l = enc r ++ m ∧ bad m = none := by
  have h0 : (tk l).2 ≠ 0 := fun h0 => by rw [bad_none hne h0] at h; cases h
  rcases tk_inv l hl with e | ⟨hg, _, m, hm⟩
  · rw [e] at h0; exact absurd rfl h0
  · refine ⟨_, m, hg, hm, ?_⟩
    rw [bad_step hne h0] at h
    have hs : stp l = (enc (tk l).1).length := by
      have := stp_enc hg m
      rwa [← hm] at this
    have hd : l.drop (stp l) = m := by
      rw [hs]
      have : l.drop (enc (tk l).1).length = (enc (tk l).1 ++ m).drop (enc (tk l).1).length := by rw [← hm]
      rw [this, List.drop_left]
    rw [hd] at h
    exact Option.map_eq_none_iff.1 h
theorem tk_letter_ne {r : Int} (hr : good r) (m : List Int) : (tk (enc r ++ m)).2 ≠ 0 := by
  have := enc_len r
  rw [tk_enc hr]
  simp only
  omega
/-- Induction over a text's letters. -/
theorem text_induction {P : List Int → Prop} (nil : P []) (cons : ∀ r m, good r → bad m = none → (∀ x ∈ m, 0 ≤ x ∧ x < 256) → P m → P (enc r ++ m)) (l : List Int) (hl : ∀ x ∈ l, 0 ≤ x ∧ x < 256) (h : bad l = none) : P l := by
  by_cases hne : l = []
  · subst hne; exact nil
  · obtain ⟨r, m, hr, rfl, hm⟩ := good_text hl h hne
    have hmb : ∀ x ∈ m, 0 ≤ x ∧ x < 256 := fun x hx => hl x (List.mem_append.2 (.inr hx))
    have : m.length < (enc r ++ m).length := by have := enc_len r; rw [List.length_append]; omega
    exact cons r m hr hm hmb (text_induction nil cons m hmb hm)
termination_by l.length
end Go.Proofs.YtoanbmggffkmgaaDoor.La
end
