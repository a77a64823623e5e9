/- The parts of this claim's proof, in one text: what each Go function answers and that its call comes to it; plain facts of lists of numbers. Conditions as each theorem names them. -/
import Derived.ArgAppend
import Derived.Below
import Derived.BigCall
import Derived.BigQuiet
import Derived.Deep.AppendLies
import Derived.Deep.CutBlock
import Derived.Deep.DeepCutAuto
import Derived.Deep.Draws
import Derived.Deep.LoopGhost
import Derived.Deep.OwnRows
import Derived.Deep.QuietTactic
import Derived.Deep.RegionHeld3
import Derived.Deep.RegionWith
import Derived.Defers
import Derived.KernelRfl
import Derived.Laws.BitsLemmas
import Derived.Laws.BytesArg
import Derived.Laws.IdiomCopy
import Derived.Laws.MakeOwn
import Derived.Laws.OwnMore
import Derived.Laws.RangeAny
import Derived.Laws.Rows
import Derived.Laws.Runes
import Derived.Laws.Slices
import Derived.Lib.AppendStr
import Derived.Lib.Bytealg
import Derived.Lib.Bytes
import Derived.Lib.ConvBytes
import Derived.Lib.Hide
import Derived.Lib.ReplaceLaws
import Derived.Maps.AppendAt
import Derived.OrdersHeld
import Derived.Outline
import Derived.OwnWalk
import Derived.Recover
import Derived.RowKit
import Derived.RowKit3
import Derived.Shelf.LaysM
import Derived.Shelf.Small.Strs
import Derived.Shelf.Small.Utf8
import Derived.Shelf.Strings.AsciiSet
import Derived.Shelf.Strings.Builder1
import Derived.Shelf.Strings.Builder2
import Derived.Shelf.Strings.Builder2Cap
import Derived.Shelf.Strings.BuilderF
import Derived.Shelf.Strings.BuilderK
import Derived.Shelf.Strings.Count
import Derived.Shelf.Strings.IndexAny
import Derived.Shelf.Strings.IndexAnyAll
import Derived.Shelf.Strings.LastIndex
import Derived.Shelf.Strings.OnBuilder
import Derived.Shelf.Strings.Prefix
import Derived.Shelf.Strings.Replace
import Derived.Shelf.Strings.RuneCount
import Derived.Shelf.Strings.Runes
import Derived.Shelf.Strings.Search1
import Derived.Shelf.Strings.Search2
import Derived.Shelf.Strings.Search3
import Derived.Shelf.Strings.Shaped
import Derived.Shelf.Strings.Split
import Derived.Shelf.Strings.SplitShaped
import Derived.Shelf.Unicode.Decode
import Derived.Shelf.Unicode.DecodeAny
import Derived.Shelf.Unicode.DecodeSlow
import Derived.Shelf.Utf8.RuneCount
import Derived.Tactics
import Derived.Tactics2
import Derived.WalkKit
import Derived.WalkSmall
import Derived.WideLaws
import Derived.Test.YtjmmdphkgioooaaDoorProg
import Derived.Test.YtjmmdphkgioooaaDoorWApart
import Derived.Test.YtjmmdphkgioooaaDoorWArr
import Derived.Test.YtjmmdphkgioooaaDoorWAt
import Derived.Test.YtjmmdphkgioooaaDoorWEqStruct
import Derived.Test.YtjmmdphkgioooaaDoorWFoot
import Derived.Test.YtjmmdphkgioooaaDoorWFootNe
import Derived.Test.YtjmmdphkgioooaaDoorWFour
import Derived.Test.YtjmmdphkgioooaaDoorWGuard
import Derived.Test.YtjmmdphkgioooaaDoorWInv
import Derived.Test.YtjmmdphkgioooaaDoorWInvWords
import Derived.Test.YtjmmdphkgioooaaDoorWKept
import Derived.Test.YtjmmdphkgioooaaDoorWLast
import Derived.Test.YtjmmdphkgioooaaDoorWMake0
import Derived.Test.YtjmmdphkgioooaaDoorWMore
import Derived.Test.YtjmmdphkgioooaaDoorWN
import Derived.Test.YtjmmdphkgioooaaDoorWNEv
import Derived.Test.YtjmmdphkgioooaaDoorWQPut
import Derived.Test.YtjmmdphkgioooaaDoorWRepsOne
import Derived.Test.YtjmmdphkgioooaaDoorWShare
import Derived.Test.YtjmmdphkgioooaaDoorWTab
import Derived.Test.YtjmmdphkgioooaaDoorWWords
import Derived.Test.YtjmmdphkgioooaaDoorWZeros
import Derived.Test.YtjmmdphkgioooaaDoorMCprintCells1
section
namespace Go.Proofs.YtjmmdphkgioooaaDoor.La
open Go.RowKit Go.Proofs.YtjmmdphkgioooaaDoor.P Go.Proofs.YtjmmdphkgioooaaDoorW.PrintWords Go.Proofs.YtjmmdphkgioooaaDoorW.PrintLast Go.Proofs.YtjmmdphkgioooaaDoorW.PrintMore
theorem ref_good_eq (r : Int) : dragomanref1_Good.f r = some (decide (good r)) := good_eq r
def enc0 (r : Int) : List Int := if good r then enc r else []
theorem enc0_bytes (r : Int) : Bytes (enc0 r) := by
 unfold enc0
 split
 ·rename_i h; exact enc_bytes h
 ·intro x hx; cases hx
theorem ref_put_eq (r : Int) : dragomanref1_Put.f r = some (strOfNums (enc0 r)) := by
 unfold dragomanref1_Put.f enc0
 rw [ref_good_eq, Option.bind_some]
 by_cases hg : good r
 ·have hg' := good_iff.1 hg
  have d1 : Int.tdiv r 64 = r / 64 := Int.tdiv_eq_ediv_of_nonneg (by omega)
  have d2 : Int.tdiv r 4096 = r / 4096 := Int.tdiv_eq_ediv_of_nonneg (by omega)
  have d3 : Int.tdiv r 262144 = r / 262144 := Int.tdiv_eq_ediv_of_nonneg (by omega)
  have m1 : Int.tmod r 64 = r % 64 := Int.tmod_eq_emod_of_nonneg (by omega)
  have m2 : Int.tmod (r / 64) 64 = r / 64 % 64 := Int.tmod_eq_emod_of_nonneg (by omega)
  have m3 : Int.tmod (r / 4096) 64 = r / 4096 % 64 := Int.tmod_eq_emod_of_nonneg (by omega)
  have w1 : wrap64 (r / 64) = r / 64 := wrap_id (by omega) (by omega)
  have w2 : wrap64 (r / 4096) = r / 4096 := wrap_id (by omega) (by omega)
  have w3 : wrap64 (r / 262144) = r / 262144 := wrap_id (by omega) (by omega)
  rw [if_pos (decide_eq_true hg), if_pos hg, d1, d2, d3, w1, w2, w3, m1, m2, m3]
  unfold enc
  split
  ·rw [show r % 256 = r by omega]
  ·split
   ·rw [wrap_id (n := 192 + r / 64) (by omega) (by omega), wrap_id (n := 128 + r % 64) (by omega) (by omega), show (192 + r / 64) % 256 = 192 + r / 64 by omega, show (128 + r % 64) % 256 = 128 + r % 64 by omega]
   ·split
    ·rw [wrap_id (n := 224 + r / 4096) (by omega) (by omega), wrap_id (n := 128 + r / 64 % 64) (by omega) (by omega), wrap_id (n := 128 + r % 64) (by omega) (by omega), show (224 + r / 4096) % 256 = 224 + r / 4096 by omega, show (128 + r / 64 % 64) % 256 = 128 + r / 64 % 64 by omega, show (128 + r % 64) % 256 = 128 + r % 64 by omega]
    ·rw [wrap_id (n := 240 + r / 262144) (by omega) (by omega), wrap_id (n := 128 + r / 4096 % 64) (by omega) (by omega), wrap_id (n := 128 + r / 64 % 64) (by omega) (by omega), wrap_id (n := 128 + r % 64) (by omega) (by omega), show (240 + r / 262144) % 256 = 240 + r / 262144 by omega, show (128 + r / 4096 % 64) % 256 = 128 + r / 4096 % 64 by omega, show (128 + r / 64 % 64) % 256 = 128 + r / 64 % 64 by omega, show (128 + r % 64) % 256 = 128 + r % 64 by omega]
 ·rw [if_neg (by simpa using hg), if_neg hg]
  rfl
def rend (r : Int) (n : Nat) (l : List Int) : Int × Int := if enc0 r = l.take n then (r, (n : Int)) else (0, 0)
theorem rl0_end (k : Nat) (s : ByteArray) {r i : Int} {n : Nat} (h : ¬ i < (n : Int)) (hn : n ≤ s.size) : dragomanref1_Take.l0 (k + 1) s (n : Int) r i = some (rend r n (bytesOf s)) := by
 simp only [dragomanref1_Take.l0]
 rw [if_neg h, ref_put_eq, Option.bind_some, if_pos (by omega), if_pos (by omega)]
 unfold rend
 have : ((strOfNums (enc0 r)).toList = (s.extract 0 ((n : Int)).toNat).toList) ↔ enc0 r = (bytesOf s).take n := by
  rw [toList_eq_iff, strOfNums_bytes (enc0_bytes r), bytesOf_take, Int.toNat_natCast]
 simp only [this]
 split <;> rfl
theorem rl0_bad (k : Nat) (s : ByteArray) {n r i : Int} (h : i < n) (h0 : 0 ≤ i) (hs : i < s.size) (hb : ¬ (128 ≤ bt s i ∧ bt s i < 192)) : dragomanref1_Take.l0 (k + 1) s n r i = some (0, 0) := by
 simp only [dragomanref1_Take.l0]
 rw [if_pos h, if_pos h0, if_pos hs]
 by_cases c : bt s i < 128
 ·rw [if_pos c]
 ·rw [if_neg c, if_pos (by omega)]
theorem rl0_more (k : Nat) (s : ByteArray) {n r i : Int} (h : i < n) (h0 : 0 ≤ i) (hs : i < s.size) (hb : 128 ≤ bt s i ∧ bt s i < 192) (r0 : 0 ≤ r) (r1 : r < 2097152) (i1 : i < 10) : dragomanref1_Take.l0 (k + 1) s n r i = dragomanref1_Take.l0 k s n (r * 64 + (bt s i - 128)) (i + 1) := by
 simp only [dragomanref1_Take.l0]
 rw [if_pos h, if_pos h0, if_pos hs, if_neg (by omega), if_neg (by omega), wrap_id (n := 64 * r) (by omega) (by omega), wrap_id (n := bt s i) (by omega) (by omega), wrap_id (n := 64 * r + bt s i) (by omega) (by omega), wrap_id (n := 64 * r + bt s i - 128) (by omega) (by omega), wrap_id (n := i + 1) (by omega) (by omega), show 64 * r + bt s i - 128 = r * 64 + (bt s i - 128) by omega]
theorem enc0_eq {r : Int} {l : List Int} (hl : l ≠ []) : enc0 r = l ↔ good r ∧ enc r = l := by
 unfold enc0
 split
 ·rename_i h; exact ⟨fun e => ⟨h, e⟩, fun e => e.2⟩
 ·rename_i h; exact ⟨fun e => absurd e.symm hl, fun e => absurd e.1 h⟩
theorem enc2 {r a b : Int} (h : r = tk2 a b) (ha : 192 ≤ a ∧ a < 224) (hb : 128 ≤ b ∧ b < 192) : enc r = [a, b] ↔ 128 ≤ r := by
 unfold tk2 at h
 unfold enc
 by_cases c : r < 128
 ·rw [if_pos c]; simp; omega
 ·rw [if_neg c, if_pos (by omega)]; simp; omega
theorem enc3 {r a b c : Int} (h : r = tk3 a b c) (ha : 224 ≤ a ∧ a < 240) (hb : 128 ≤ b ∧ b < 192) (hc : 128 ≤ c ∧ c < 192) : enc r = [a, b, c] ↔ 2048 ≤ r := by
 unfold tk3 at h
 unfold enc
 by_cases c1 : r < 128
 ·rw [if_pos c1]; simp; omega
 ·rw [if_neg c1]
  by_cases c2 : r < 2048
  ·rw [if_pos c2]; simp; omega
  ·rw [if_neg c2, if_pos (by omega)]; simp; omega
theorem enc4 {r a b c d : Int} (h : r = tk4 a b c d) (_ha : 240 ≤ a ∧ a < 248) (hb : 128 ≤ b ∧ b < 192) (hc : 128 ≤ c ∧ c < 192) (hd : 128 ≤ d ∧ d < 192) : enc r = [a, b, c, d] ↔ 65536 ≤ r := by
 unfold tk4 at h
 unfold enc
 by_cases c1 : r < 128
 ·rw [if_pos c1]; simp; omega
 ·rw [if_neg c1]
  by_cases c2 : r < 2048
  ·rw [if_pos c2]; simp; omega
  ·rw [if_neg c2]
   by_cases c3 : r < 65536
   ·rw [if_pos c3]; simp; omega
   ·rw [if_neg c3]; simp; omega
theorem ref_take_eq (k : Nat) (s : ByteArray) : dragomanref1_Take.f (k + 9) s = some (tk (bytesOf s)) := by
 have hB := bytes_of s
 have hS := size_of s
 generalize hl : bytesOf s = l at hB hS
 have hbt : ∀ i, bt s i = l.getD i.toNat 0 := fun i => by rw [bt_get, hl]
 unfold dragomanref1_Take.f
 match l with
 | [] => rw [if_pos ((toList_nil_iff s).2 hl)]; rfl
 | a :: t =>
  have ha := hB a List.mem_cons_self
  have h0 : bt s 0 = a := by rw [hbt]; rfl
  have hsz : (s.size : Int) = (t.length : Int) + 1 := by rw [← hS]; simp
  rw [if_neg (fun h => by rw [toList_nil_iff, hl] at h; cases h), if_pos (by omega), h0, wrap_id (by omega) (by omega)]
  simp only [tk]
  by_cases c5 : 240 ≤ a
  ·rw [if_pos c5, if_neg (show ¬ a < 128 by omega), if_neg (show ¬ a < 192 by omega), if_neg (show ¬ a < 224 by omega), if_neg (show ¬ a < 240 by omega)]
   by_cases c6 : a < 248
   ·rw [decide_eq_true c6, if_pos c6]
    simp only [dragomanref1_Take.j0]
    rw [if_pos trivial]
    simp only [dragomanref1_Take.j3]
    rw [wrap_id (by omega) (by omega)]
    match t with
    | [] =>
     simp at hsz
     rw [if_pos (by omega)]
    | [b] =>
     simp at hsz
     rw [if_pos (by omega)]
    | [b, c] =>
     simp at hsz
     rw [if_pos (by omega)]
    | b :: c :: d :: t =>
     simp at hsz
     dsimp only
     have hb : bt s 1 = b := by rw [hbt]; rfl
     have hc : bt s 2 = c := by rw [hbt]; rfl
     have hd : bt s 3 = d := by rw [hbt]; rfl
     rw [if_neg (by omega)]
     have hr := hB b (by simp)
     have hr2 := hB c (by simp)
     have hr3 := hB d (by simp)
     by_cases k1 : 128 ≤ b ∧ b < 192
     ·rw [rl0_more _ _ (by decide) (by decide) (by omega) (by rw [hb]; exact k1) (by omega) (by omega) (by decide), hb]
      by_cases k2 : 128 ≤ c ∧ c < 192
      ·rw [rl0_more _ _ (by decide) (by decide) (by omega) (by rw [show (1 : Int) + 1 = 2 by decide, hc]; exact k2) (by omega) (by omega) (by decide), show (1 : Int) + 1 = 2 by decide, hc]
       by_cases k3 : 128 ≤ d ∧ d < 192
       ·rw [rl0_more _ _ (by decide) (by decide) (by omega) (by rw [show (2 : Int) + 1 = 3 by decide, hd]; exact k3) (by omega) (by omega) (by decide), show (2 : Int) + 1 = 3 by decide, hd]
        have e : (((a - 240) * 64 + (b - 128)) * 64 + (c - 128)) * 64 + (d - 128) = tk4 a b c d := by unfold tk4; omega
        have e1 : 0 ≤ tk4 a b c d := by unfold tk4; omega
        rw [e, show (4 : Int) = ((4 : Nat) : Int) by rfl, rl0_end _ _ (by decide) (by omega), hl]
        unfold rend
        simp only [List.take_succ_cons, List.take_zero, enc0_eq (List.cons_ne_nil _ _), enc4 rfl ⟨c5, c6⟩ k1 k2 k3, good_iff]
        by_cases k4 : 65536 ≤ tk4 a b c d ∧ tk4 a b c d ≤ 1114111
        ·rw [if_pos (by omega), if_pos (by omega)]
        ·rw [if_neg (by omega), if_neg (by omega)]
       ·rw [rl0_bad _ _ (by decide) (by decide) (by omega) (by rw [show (2 : Int) + 1 = 3 by decide, hd]; exact k3), if_neg (by omega)]
      ·rw [rl0_bad _ _ (by decide) (by decide) (by omega) (by rw [show (1 : Int) + 1 = 2 by decide, hc]; exact k2), if_neg (by omega)]
     ·rw [rl0_bad _ _ (by decide) (by decide) (by omega) (by rw [hb]; exact k1), if_neg (by omega)]
   ·rw [decide_eq_false c6, if_neg c6]
    simp only [dragomanref1_Take.j0]
    rw [if_neg (by decide), if_pos (by omega)]
    simp only [dragomanref1_Take.j1]
    rw [if_neg (by simp; omega), if_pos (by omega)]
    simp only [dragomanref1_Take.j2]
    rw [if_neg (by simp; omega), if_pos (by omega)]
  ·rw [if_neg c5]
   simp only [dragomanref1_Take.j0]
   rw [if_neg (by decide)]
   by_cases c4 : 224 ≤ a
   ·rw [if_pos c4, if_neg (show ¬ a < 128 by omega), if_neg (show ¬ a < 192 by omega), if_neg (show ¬ a < 224 by omega), if_pos (show a < 240 by omega)]
    simp only [dragomanref1_Take.j1]
    rw [if_pos (decide_eq_true (by omega)), wrap_id (by omega) (by omega)]
    simp only [dragomanref1_Take.j3]
    match t with
    | [] =>
     simp at hsz
     rw [if_pos (by omega)]
    | [b] =>
     simp at hsz
     rw [if_pos (by omega)]
    | b :: c :: t =>
     simp at hsz
     dsimp only
     have hb : bt s 1 = b := by rw [hbt]; rfl
     have hc : bt s 2 = c := by rw [hbt]; rfl
     rw [if_neg (by omega)]
     have hr := hB b (by simp)
     have hr2 := hB c (by simp)
     by_cases k1 : 128 ≤ b ∧ b < 192
     ·rw [rl0_more _ _ (by decide) (by decide) (by omega) (by rw [hb]; exact k1) (by omega) (by omega) (by decide), hb]
      by_cases k2 : 128 ≤ c ∧ c < 192
      ·rw [rl0_more _ _ (by decide) (by decide) (by omega) (by rw [show (1 : Int) + 1 = 2 by decide, hc]; exact k2) (by omega) (by omega) (by decide), show (1 : Int) + 1 = 2 by decide, hc]
       have e : ((a - 224) * 64 + (b - 128)) * 64 + (c - 128) = tk3 a b c := by unfold tk3; omega
       have e1 : 0 ≤ tk3 a b c ∧ tk3 a b c < 65536 := by unfold tk3; omega
       rw [e, show (3 : Int) = ((3 : Nat) : Int) by rfl, rl0_end _ _ (by decide) (by omega), hl]
       unfold rend
       simp only [List.take_succ_cons, List.take_zero, enc0_eq (List.cons_ne_nil _ _), enc3 rfl ⟨c4, by omega⟩ k1 k2, good_iff]
       by_cases k4 : 2048 ≤ tk3 a b c ∧ (tk3 a b c < 55296 ∨ 57343 < tk3 a b c)
       ·rw [if_pos (by omega), if_pos (by omega)]
       ·rw [if_neg (by omega), if_neg (by omega)]
      ·rw [rl0_bad _ _ (by decide) (by decide) (by omega) (by rw [show (1 : Int) + 1 = 2 by decide, hc]; exact k2), if_neg (by omega)]
     ·rw [rl0_bad _ _ (by decide) (by decide) (by omega) (by rw [hb]; exact k1), if_neg (by omega)]
   ·rw [if_neg c4]
    simp only [dragomanref1_Take.j1]
    rw [if_neg (by decide)]
    by_cases c3 : 192 ≤ a
    ·rw [if_pos c3, if_neg (show ¬ a < 128 by omega), if_neg (show ¬ a < 192 by omega), if_pos (show a < 224 by omega)]
     simp only [dragomanref1_Take.j2]
     rw [if_pos (decide_eq_true (by omega)), wrap_id (by omega) (by omega)]
     simp only [dragomanref1_Take.j3]
     match t with
     | [] =>
      simp at hsz
      rw [if_pos (by omega)]
     | b :: t =>
      simp at hsz
      dsimp only
      have hb : bt s 1 = b := by rw [hbt]; rfl
      rw [if_neg (by omega)]
      have hr := hB b (by simp)
      by_cases k1 : 128 ≤ b ∧ b < 192
      ·rw [rl0_more _ _ (by decide) (by decide) (by omega) (by rw [hb]; exact k1) (by omega) (by omega) (by decide), hb]
       have e : (a - 192) * 64 + (b - 128) = tk2 a b := by unfold tk2; omega
       have e1 : 0 ≤ tk2 a b ∧ tk2 a b < 2048 := by unfold tk2; omega
       rw [e, show (2 : Int) = ((2 : Nat) : Int) by rfl, rl0_end _ _ (by decide) (by omega), hl]
       unfold rend
       simp only [List.take_succ_cons, List.take_zero, enc0_eq (List.cons_ne_nil _ _), enc2 rfl ⟨c3, by omega⟩ k1, good_iff]
       by_cases k4 : 128 ≤ tk2 a b
       ·rw [if_pos (by omega), if_pos (by omega)]
       ·rw [if_neg (by omega), if_neg (by omega)]
      ·rw [rl0_bad _ _ (by decide) (by decide) (by omega) (by rw [hb]; exact k1), if_neg (by omega)]
    ·rw [if_neg c3]
     simp only [dragomanref1_Take.j2]
     rw [if_neg (by decide)]
     by_cases c2 : 128 ≤ a
     ·rw [if_pos c2, if_neg (show ¬ a < 128 by omega), if_pos (show a < 192 by omega)]
     ·rw [if_neg c2, if_pos (show a < 128 by omega)]
      simp only [dragomanref1_Take.j3]
      rw [if_neg (by omega), show (1 : Int) = ((1 : Nat) : Int) by rfl, rl0_end _ _ (by decide) (by omega), hl]
      unfold rend
      rw [List.take_succ_cons, List.take_zero, if_pos ((enc0_eq (List.cons_ne_nil _ _)).2 ⟨good_iff.2 (by omega), by unfold enc; rw [if_pos (by omega)]⟩)]
theorem ref_take_ev (s : ByteArray) : Ev (fun k => dragomanref1_Take.f k s) (tk (bytesOf s)) := ⟨9, fun k hk => by
 obtain ⟨m, rfl⟩ : ∃ m, k = m + 9 := ⟨k - 9, by omega⟩
 exact ref_take_eq m s⟩
def rbadR (at_ : Nat) : Option Nat → Int
 | none => -1
 | some p => ((at_ + p : Nat) : Int)
theorem ref_valid_l0 (s : ByteArray) (hs : s.size ≤ 140737488355328) (n : Nat) : ∀ (i : Nat), i ≤ s.size → s.size - i = n → Ev (fun k => dragomanref1_Valid.l0 k s (i : Int)) (rbadR i (bad ((bytesOf s).drop i))) := by
 induction n using Nat.strongRecOn with
 | _ n ih =>
 intro i hi hn
 have hL : ((bytesOf s).drop i).length = s.size - i := by rw [List.length_drop, size_of]
 have hBd : Bytes ((bytesOf s).drop i) := (bytes_of s).drop i
 refine Ev.step (fun k => by rw [dragomanref1_Valid.l0]) ?_
 by_cases h : i < s.size
 ·have h1 : (i : Int) < (s.size : Int) := by omega
  have h2 : (0 : Int) ≤ (i : Int) := by omega
  have h3 : (i : Int) ≤ (s.size : Int) := by omega
  have hne : (bytesOf s).drop i ≠ [] := fun e => by rw [e] at hL; simp at hL; omega
  simp only [if_pos h1, if_pos h2, if_pos h3, Int.toNat_natCast]
  refine Ev.bind (ref_take_ev _) ?_
  rw [bytesOf_drop]
  by_cases h0 : (tk ((bytesOf s).drop i)).2 = 0
  ·simp only [if_pos h0, bad_none hne h0, rbadR]
   exact Ev.now _
  ·simp only [if_neg h0]
   have hb := tk_bound _ hBd
   have hp := stp_pos _ hBd
   have hst := stp_le hBd hne
   rw [stp_int hBd h0, wrap_id (by omega) (by omega), bad_step hne h0, List.drop_drop]
   have e : (i : Int) + (stp ((bytesOf s).drop i) : Int) = ((i + stp ((bytesOf s).drop i) : Nat) : Int) := by omega
   rw [e]
   have := ih (s.size - (i + stp ((bytesOf s).drop i))) (by omega) (i + stp ((bytesOf s).drop i)) (by omega) rfl
   generalize stp ((bytesOf s).drop i) = q at *
   cases hc : bad ((bytesOf s).drop (i + q)) with
   | none => rw [hc] at this; exact this
   | some p =>
    rw [hc] at this
    simp only [Option.map_some, rbadR] at this ⊢
    rw [show i + (p + q) = i + q + p by omega]
    exact this
 ·obtain rfl : i = s.size := by omega
  simp only [if_neg (show ¬ ((s.size : Int) < (s.size : Int)) by omega)]
  rw [List.drop_eq_nil_of_le (by rw [size_of]; omega), bad_nil]
  exact Ev.now _
theorem ref_valid_ev (s : ByteArray) (hs : s.size ≤ 140737488355328) : Ev (fun k => dragomanref1_Valid.f k s) (rbadR 0 (bad (bytesOf s))) :=
 ref_valid_l0 s hs _ 0 (by omega) rfl
end Go.Proofs.YtjmmdphkgioooaaDoor.La
end
section
namespace Go.Proofs.YtjmmdphkgioooaaDoor.P
open Go.RowKit Go.Proofs.YtjmmdphkgioooaaDoorW.PrintWords Go.Proofs.YtjmmdphkgioooaaDoorW.PrintLast Go.Proofs.YtjmmdphkgioooaaDoorW.PrintMore
attribute [local go_sem] max2_int min2_int max_two min_two max_three min_three max_four min_four   -- for this text's walks alone
set_option linter.unusedVariables false
set_option linter.unusedSimpArgs false
/-! ### place_clamp: function 65 -/
def place_clamp.f (a0 : ByteArray) (a1 : Int) : Option (Int) := some (mn (mx a1 0) (a0.size : Int))
set_option maxHeartbeats 8000000 in
set_option maxRecDepth 100000 in
theorem place_clamp.calls (a0 : ByteArray) (a1 : Int) (r : Int) (w : World) (h : place_clamp.f a0 a1 = some r) :
  Calls Tryd.prog 65 #[.string a0, .int .i64 a1] w fun e w' => e = .returned (.int .i64 r) ∧ Below w.heap.size w w' := by
 have HB := Aside0.mk (Below.refl w.heap.size w)
 have H : (some (mn (mx a1 0) (a0.size : Int))) = some r := h
 clear h
 obtain ⟨ji3, hji3⟩ : ∃ j_ : Int, (mx a1 0) = j_ := ⟨_, rfl⟩
 replace H : (some (mn (ji3) (a0.size : Int))) = some r := by first | (rw [hji3] at H; exact H) | (simp only [hji3] at H ⊢; exact H)
 (try (have hji3l : 0 ≤ ji3 := by (rw [← hji3]; unfold mx; (repeat' split) <;> omega)))
 (try (have hji3m : 0 ≤ ji3 := by omega))
 have hji3_ : (if a1 < 0 then 0 else a1) = ji3 := hji3
 obtain ⟨ji4, hji4⟩ : ∃ j_ : Int, (mn (ji3) (a0.size : Int)) = j_ := ⟨_, rfl⟩
 replace H : (some ji4) = some r := by first | (rw [hji4] at H; exact H) | (simp only [hji4] at H ⊢; exact H)
 have hji4_ : (if (a0.size : Int) < (ji3) then (a0.size : Int) else (ji3)) = ji4 := hji4
 obtain rfl := Option.some.inj H
 go_enter Tryd.func65, Tryd.ntmps65
 go_wp2
 go_ret
 exact ⟨by first | rfl | (simp [errW_none, errW_some] <;> rfl) | (simp [*, errW_none, errW_some, bne]; done) | (simp only [← hji3, ← hji4]; first | rfl | (simp [errW_none, errW_some] <;> rfl)) | (simp [*, errW_none, errW_some] <;> rfl), by repeat (first | (with_reducible first | exact HB.out | apply below_alloc | apply pw_below_drewN | apply below_drew1) | exact HB.out)⟩
end Go.Proofs.YtjmmdphkgioooaaDoor.P
end
section
namespace Go.Proofs.YtjmmdphkgioooaaDoor.P
open Go.RowKit Go.Proofs.YtjmmdphkgioooaaDoorW.PrintWords Go.Proofs.YtjmmdphkgioooaaDoorW.PrintLast Go.Proofs.YtjmmdphkgioooaaDoorW.PrintMore
attribute [local go_sem] max2_int min2_int max_two min_two max_three min_three max_four min_four   -- for this text's walks alone
set_option linter.unusedVariables false
set_option linter.unusedSimpArgs false
/-! ### bytealg_LastIndexByteString: function 80 -/
def bytealg_LastIndexByteString.l0 : Nat → ByteArray → Int → Int → Option (Int)
 | 0, _, _, _ => none
 | k + 1, x0, x1, x5 => if x5 ≥ 0 then (if 0 ≤ x5 then (if x5 < (x0.size : Int) then (if (bt x0 x5) = x1 then (some x5) else (bytealg_LastIndexByteString.l0 k x0 x1 (wrap64 (x5 - 1)))) else (none)) else (none)) else (some (-1))
def bytealg_LastIndexByteString.f (k : Nat) (a0 : ByteArray) (a1 : Int) : Option (Int) := bytealg_LastIndexByteString.l0 k a0 a1 (wrap64 ((a0.size : Int) - 1))
set_option maxHeartbeats 8000000 in
set_option maxRecDepth 100000 in
theorem bytealg_LastIndexByteString.calls (k : Nat) (a0 : ByteArray) (a1 : Int) (r : Int) (w : World) (h : bytealg_LastIndexByteString.f k a0 a1 = some r) :
  Calls Tryd.prog 80 #[.string a0, .int .u8 a1] w fun e w' => e = .returned (.int .i64 r) ∧ Drawn0 w w' := by
 have H : (bytealg_LastIndexByteString.l0 k a0 a1 (wrap64 ((a0.size : Int) - 1))) = some r := h
 clear h
 have H' := Aside0.mk H
 clear H
 go_enter Tryd.func80, Tryd.ntmps80
 go_wp2
 go_loopg [5] k (fun kq v5 w' => ∃ (x5_1 : Int), v5 = .int .i64 x5_1 ∧ Aside0 (bytealg_LastIndexByteString.l0 kq a0 a1 x5_1 = some r) ∧ Aside0 (kq ≤ k) ∧ Drawn0 w w')
 case atStart => exact ⟨(wrap64 ((a0.size : Int) - 1)), (by first | rfl | (simp; done) | (simp [*]; done)), H', ⟨Nat.le_refl _⟩, by repeat (first | exact Drawn0.refl _ | apply Drawn0.step)⟩
 case round =>
  clear H'
  try clear p2
  obtain ⟨x5_1, rfl, HA, HK1, ⟨m1, rfl⟩⟩ := hrel
  cases gk with
  | zero => exact absurd HA.out (by simp [bytealg_LastIndexByteString.l0])
  | succ k1 =>
   have H := HA.out
   clear HA
   simp only [bytealg_LastIndexByteString.l0] at H
   by_cases c3 : x5_1 ≥ 0
   ·rw [if_pos c3] at H
    have c3b0 : decide (0 ≤ x5_1) = true := decide_eq_true c3
    clear c3
    by_cases c4 : 0 ≤ x5_1
    ·rw [if_pos c4] at H
     have c4b0 : decide (0 ≤ x5_1) = true := decide_eq_true c4
     clear c4
     by_cases c5 : x5_1 < (a0.size : Int)
     ·rw [if_pos c5] at H
      have c5b0 : decide (x5_1 < (a0.size : Int)) = true := decide_eq_true c5
      clear c5
      by_cases c7 : (bt a0 x5_1) = a1
      ·rw [if_pos c7] at H
       have c7b0 : ((bt a0 x5_1) == a1) = true := beq_iff_eq.mpr c7
       have c7b1 : ((bt a0 x5_1) != a1) = false := bne_eq_false_iff_eq.mpr c7
       clear c7
       obtain rfl := Option.some.inj H
       have p6 : 0 ≤ (x5_1 : Int) := of_decide_eq_true (by first | (with_reducible assumption) | assumption)
       have q6 : x5_1 < (a0.size : Int) := of_decide_eq_true (by first | (with_reducible assumption) | assumption)
       have hx6 := bt_at a0 x5_1
       replace p6 := eq_true p6
       replace q6 := eq_true q6
       go_wp2
       go_ret
       exact ⟨by first | rfl | (simp; done) | (simp [*]; done), by repeat (first | exact Drawn0.refl _ | apply Drawn0.step)⟩
      ·rw [if_neg c7] at H
       have c7b0 : ((bt a0 x5_1) == a1) = false := beq_eq_false_iff_ne.mpr c7
       have c7b1 : ((bt a0 x5_1) != a1) = true := bne_iff_ne.mpr c7
       have H' := Aside0.mk H
       clear H
       have p6 : 0 ≤ (x5_1 : Int) := of_decide_eq_true (by first | (with_reducible assumption) | assumption)
       have q6 : x5_1 < (a0.size : Int) := of_decide_eq_true (by first | (with_reducible assumption) | assumption)
       have hx6 := bt_at a0 x5_1
       replace p6 := eq_true p6
       replace q6 := eq_true q6
       go_wp2
       go_roundg k1
       case measure => have := HK1.out; omega
       case rel => exact ⟨(wrap64 (x5_1 - 1)), (by first | rfl | (simp; done) | (simp [*]; done)), H', ⟨by have := HK1.out; omega⟩, by repeat (first | exact Drawn0.refl _ | apply Drawn0.step)⟩
     ·rw [if_neg c5] at H
      exact absurd H (by simp)
    ·rw [if_neg c4] at H
     exact absurd H (by simp)
   ·rw [if_neg c3] at H
    have c3b0 : decide (0 ≤ x5_1) = false := decide_eq_false c3
    clear c3
    obtain rfl := Option.some.inj H
    go_wp2
    go_ret
    exact ⟨by first | rfl | (simp; done) | (simp [*]; done), by repeat (first | exact Drawn0.refl _ | apply Drawn0.step)⟩
end Go.Proofs.YtjmmdphkgioooaaDoor.P
end
section
namespace Go.Proofs.YtjmmdphkgioooaaDoor.P
open Go.RowKit Go.Proofs.YtjmmdphkgioooaaDoorW.PrintWords Go.Proofs.YtjmmdphkgioooaaDoorW.PrintLast Go.Proofs.YtjmmdphkgioooaaDoorW.PrintMore
attribute [local go_sem] max2_int min2_int max_two min_two max_three min_three max_four min_four   -- for this text's walks alone
set_option linter.unusedVariables false
set_option linter.unusedSimpArgs false
/-! ### strings_LastIndexByte: function 73 -/
def strings_LastIndexByte.f (k : Nat) (a0 : ByteArray) (a1 : Int) : Option (Int) := (bytealg_LastIndexByteString.f k a0 a1).bind fun t214 => (some t214)
set_option maxHeartbeats 8000000 in
set_option maxRecDepth 100000 in
theorem strings_LastIndexByte.calls (k : Nat) (a0 : ByteArray) (a1 : Int) (r : Int) (w : World) (h : strings_LastIndexByte.f k a0 a1 = some r) :
  Calls Tryd.prog 73 #[.string a0, .int .u8 a1] w fun e w' => e = .returned (.int .i64 r) ∧ Drawn0 w w' := by
 have H : ((bytealg_LastIndexByteString.f k a0 a1).bind fun t214 => (some t214)) = some r := h
 clear h
 replace H := Option.bind_eq_some_iff.mp H
 obtain ⟨t214, A30, H⟩ := H
 replace H : (some t214) = some r := H
 have A3 := Aside0.mk A30
 clear A30
 obtain rfl := Option.some.inj H
 go_enter Tryd.func73, Tryd.ntmps73
 go_wp2_with (first | ((with_reducible refine gate_callee (f := 80) rfl ?_); refine goesL_ (some 7) rfl rfl Tryd.func80 (by kernel_rfl) rfl #[.string a0, .int .u8 a1] rfl (by (try simp only [List.map_toArray, List.map_cons, List.map_nil]); first | done | rfl | (simp only [List.length_drop, List.length_take]; rfl)) ?_; (with_reducible refine (bytealg_LastIndexByteString.calls k a0 a1 t214 _ A3.out).mono ?_); rintro e w' ⟨rfl, ⟨nd, rfl⟩⟩; refine ⟨_, rfl, ?_⟩))
 go_ret
 exact ⟨by first | rfl | (simp; done) | (simp [*]; done), by repeat (first | exact Drawn0.refl _ | apply Drawn0.step)⟩
end Go.Proofs.YtjmmdphkgioooaaDoor.P
end
section
namespace Go.Proofs.YtjmmdphkgioooaaDoor.P
open Go.RowKit Go.Proofs.YtjmmdphkgioooaaDoorW.PrintWords Go.Proofs.YtjmmdphkgioooaaDoorW.PrintLast Go.Proofs.YtjmmdphkgioooaaDoorW.PrintMore
attribute [local go_sem] max2_int min2_int max_two min_two max_three min_three max_four min_four   -- for this text's walks alone
set_option linter.unusedVariables false
set_option linter.unusedSimpArgs false
/-! ### place_Of: function 64 -/
def place_Of.f (k : Nat) (a0 : ByteArray) (a1 : Int) : Option (Int × Int) := (place_clamp.f a0 a1).bind fun t218 => (if 0 ≤ t218 then (if t218 ≤ (a0.size : Int) then ((strings_LastIndexByte.f k (a0.extract 0 (t218 : Int).toNat) 10).bind fun t219 => ((strings_Count.f (a0.extract 0 (t218 : Int).toNat) (⟨#[10]⟩ : ByteArray)).bind fun t220 => (if 0 ≤ (wrap64 (t219 + 1)) then (if (wrap64 (t219 + 1)) ≤ ((a0.extract 0 (t218 : Int).toNat).size : Int) then ((utf_Count.f k ((a0.extract 0 (t218 : Int).toNat).extract ((wrap64 (t219 + 1)) : Int).toNat (a0.extract 0 (t218 : Int).toNat).size)).bind fun t221 => (some (wrap64 (t220 + 1), wrap64 (t221 + 1)))) else (none)) else (none)))) else (none)) else (none))
def place_Of.T3 : Bool × List (List Nat × List Nat) := (true, [([], []), ([0], [0]), ([1], [1]), ([], []), ([], []), ([3, 4], [3, 4]), ([5, 1], [5]), ([6], [6]), ([2, 6, 0, 1, 2], [2]), ([7, 8, 0, 1, 2, 3, 4, 5, 6, 7, 8], [7])])
def place_Of.B3 : List Nat := [0, 1, 3, 0, 0, 24, 59, 123, 127, 511]
theorem place_Of.tab3 : rtab .any (opsOf Tryd.f64 3) = place_Of.T3 := by kernel_rfl
theorem place_Of.bits3 : waitsOk place_Of.T3.2 place_Of.B3 = true := by kernel_rfl
set_option maxHeartbeats 8000000 in
set_option maxRecDepth 100000 in
theorem place_Of.calls (k : Nat) (a0 : ByteArray) (a1 : Int) (r1 : Int) (r2 : Int) (w : World) (h : place_Of.f k a0 a1 = some (r1, r2)) :
  Calls Tryd.prog 64 #[.string a0, .int .i64 a1] w fun e w' => e = .returned (.tuple #[.int .i64 r1, .int .i64 r2]) ∧ Below w.heap.size w w' := by
 have HB := Aside0.mk (Below.refl w.heap.size w)
 have H : ((place_clamp.f a0 a1).bind fun t218 => (if 0 ≤ t218 then (if t218 ≤ (a0.size : Int) then ((strings_LastIndexByte.f k (a0.extract 0 (t218 : Int).toNat) 10).bind fun t219 => ((strings_Count.f (a0.extract 0 (t218 : Int).toNat) (⟨#[10]⟩ : ByteArray)).bind fun t220 => (if 0 ≤ (wrap64 (t219 + 1)) then (if (wrap64 (t219 + 1)) ≤ ((a0.extract 0 (t218 : Int).toNat).size : Int) then ((utf_Count.f k ((a0.extract 0 (t218 : Int).toNat).extract ((wrap64 (t219 + 1)) : Int).toNat (a0.extract 0 (t218 : Int).toNat).size)).bind fun t221 => (some (wrap64 (t220 + 1), wrap64 (t221 + 1)))) else (none)) else (none)))) else (none)) else (none))) = some (r1, r2) := h
 clear h
 replace H := Option.bind_eq_some_iff.mp H
 obtain ⟨t218, A30, H⟩ := H
 replace H : (if 0 ≤ t218 then (if t218 ≤ (a0.size : Int) then ((strings_LastIndexByte.f k (a0.extract 0 (t218 : Int).toNat) 10).bind fun t219 => ((strings_Count.f (a0.extract 0 (t218 : Int).toNat) (⟨#[10]⟩ : ByteArray)).bind fun t220 => (if 0 ≤ (wrap64 (t219 + 1)) then (if (wrap64 (t219 + 1)) ≤ ((a0.extract 0 (t218 : Int).toNat).size : Int) then ((utf_Count.f k ((a0.extract 0 (t218 : Int).toNat).extract ((wrap64 (t219 + 1)) : Int).toNat (a0.extract 0 (t218 : Int).toNat).size)).bind fun t221 => (some (wrap64 (t220 + 1), wrap64 (t221 + 1)))) else (none)) else (none)))) else (none)) else (none)) = some (r1, r2) := H
 have A3 := Aside0.mk A30
 clear A30
 by_cases c4 : 0 ≤ t218
 ·rw [if_pos c4] at H
  have c4b0 := eq_true c4
  have c4b1 : decide (0 ≤ t218) = true := decide_eq_true c4
  clear c4
  by_cases c5 : t218 ≤ (a0.size : Int)
  ·rw [if_pos c5] at H
   have c5b0 := eq_true c5
   have c5b1 : decide (t218 ≤ (a0.size : Int)) = true := decide_eq_true c5
   clear c5
   replace H := Option.bind_eq_some_iff.mp H
   obtain ⟨t219, A60, H⟩ := H
   replace H : ((strings_Count.f (a0.extract 0 (t218 : Int).toNat) (⟨#[10]⟩ : ByteArray)).bind fun t220 => (if 0 ≤ (wrap64 (t219 + 1)) then (if (wrap64 (t219 + 1)) ≤ ((a0.extract 0 (t218 : Int).toNat).size : Int) then ((utf_Count.f k ((a0.extract 0 (t218 : Int).toNat).extract ((wrap64 (t219 + 1)) : Int).toNat (a0.extract 0 (t218 : Int).toNat).size)).bind fun t221 => (some (wrap64 (t220 + 1), wrap64 (t221 + 1)))) else (none)) else (none))) = some (r1, r2) := H
   have A6 := Aside0.mk A60
   clear A60
   replace H := Option.bind_eq_some_iff.mp H
   obtain ⟨t220, A70, H⟩ := H
   replace H : (if 0 ≤ (wrap64 (t219 + 1)) then (if (wrap64 (t219 + 1)) ≤ ((a0.extract 0 (t218 : Int).toNat).size : Int) then ((utf_Count.f k ((a0.extract 0 (t218 : Int).toNat).extract ((wrap64 (t219 + 1)) : Int).toNat (a0.extract 0 (t218 : Int).toNat).size)).bind fun t221 => (some (wrap64 (t220 + 1), wrap64 (t221 + 1)))) else (none)) else (none)) = some (r1, r2) := H
   have A7 := Aside0.mk A70
   clear A70
   obtain ⟨ji8, hji8⟩ : ∃ j_ : Int, (wrap64 (t219 + 1)) = j_ := ⟨_, rfl⟩
   replace H : (if 0 ≤ (ji8) then (if (ji8) ≤ ((a0.extract 0 (t218 : Int).toNat).size : Int) then ((utf_Count.f k ((a0.extract 0 (t218 : Int).toNat).extract ((ji8) : Int).toNat (a0.extract 0 (t218 : Int).toNat).size)).bind fun t221 => (some (wrap64 (t220 + 1), wrap64 (t221 + 1)))) else (none)) else (none)) = some (r1, r2) := by first | (rw [hji8] at H; exact H) | (simp only [hji8] at H ⊢; exact H)
   (try rw [hji8] at A3)
   (try rw [hji8] at A6)
   (try rw [hji8] at A7)
   have hji8w : (IntKind.i64.wrap (t219 + 1)) = ji8 := (i64_w _).trans hji8
   by_cases c9 : 0 ≤ (ji8)
   ·rw [if_pos c9] at H
    have c9b0 := eq_true c9
    have c9b1 : decide (0 ≤ (ji8)) = true := decide_eq_true c9
    clear c9
    by_cases c10 : (ji8) ≤ ((a0.extract 0 (t218 : Int).toNat).size : Int)
    ·rw [if_pos c10] at H
     have c10b0 := eq_true c10
     have c10b1 : decide ((ji8) ≤ ((a0.extract 0 (t218 : Int).toNat).size : Int)) = true := decide_eq_true c10
     have c10x : (ji8 ≤ max t218 0) = True := eq_true (by have h1_ := of_decide_eq_true c10b1; rw [ByteArray.size_extract] at h1_; have h2_ := of_decide_eq_true c5b1; omega)
     clear c10
     replace H := Option.bind_eq_some_iff.mp H
     obtain ⟨t221, A110, H⟩ := H
     replace H : (some (wrap64 (t220 + 1), wrap64 (t221 + 1))) = some (r1, r2) := H
     have A11 := Aside0.mk A110
     clear A110
     simp only [Option.some.injEq, Prod.mk.injEq] at H
     obtain ⟨rfl, rfl⟩ := H
     go_enter Tryd.func64, Tryd.ntmps64
     try go_wp2_with (first | ((with_reducible refine gate_callee (f := 65) rfl ?_); refine goesL_ (some 11) rfl rfl Tryd.func65 (by kernel_rfl) rfl #[.string a0, .int .i64 a1] rfl (by (try simp only [List.map_toArray, List.map_cons, List.map_nil]); first | done | rfl | (simp only [List.length_drop, List.length_take]; rfl)) ?_; (with_reducible refine (place_clamp.calls a0 a1 t218 _ A3.out).mono ?_); rintro e w12 ⟨rfl, hb⟩; refine ⟨_, rfl, ?_⟩; have n0_ := Aside0.mk (below_step (by repeat (first | (with_reducible first | exact HB.out | apply below_alloc | apply pw_below_drewN | apply below_drew1) | exact HB.out)) hb); clear HB; have HB := n0_; clear n0_; (try clear hb); (try clear hb2); (try clear hk); (try clear hi)) | ((with_reducible refine gate_callee (f := 73) rfl ?_); refine goesL_ (some 14) rfl rfl Tryd.func73 (by kernel_rfl) rfl #[.string (a0.extract 0 (t218 : Int).toNat), .int .u8 10] rfl (by (try simp only [List.map_toArray, List.map_cons, List.map_nil]); first | done | rfl | (simp only [List.length_drop, List.length_take]; rfl)) ?_; (with_reducible refine (strings_LastIndexByte.calls k (a0.extract 0 (t218 : Int).toNat) 10 t219 _ A6.out).mono ?_); rintro e w' ⟨rfl, ⟨nd, rfl⟩⟩; refine ⟨_, rfl, ?_⟩))
     (try (rw [drewN_self w12]; generalize hq_ : World.drewN w12 _ = w12; have n0_ : Aside0 (Below w.heap.size w w12) := ⟨by rw [← hq_]; exact (by repeat (first | (with_reducible first | exact HB.out | apply below_alloc | apply pw_below_drewN | apply below_drew1) | exact HB.out))⟩; clear HB hq_; have HB := n0_; clear n0_))
     have n0_ := Aside0.mk (below_drew1 HB.out)
     clear HB
     have HB := n0_
     clear n0_
     refine start_ (n := 10) (S := fun w' => True) (ds := []) #[false, false, false, false, false, false, false, false, false, false] (by kernel_rfl) rfl rfl trivial (fun hHeld => ?_); refine with_tabW place_Of.tab3 place_Of.bits3 (fun HT_ HW_ => ?_)
     generalize w12.drew = w13 at HB hHeld ⊢
     refine pure_ (i := 0) (N := some 16) (v := ?_) (a' := ?_) #[true, false, false, false, false, false, false, false, false, false] rfl rfl (any_of HT_.out (by kernel_rfl)) (fun _ _ _ h => h) (Or.inl ⟨by rfl, ?_⟩) ?_ ?_
     rotate_left
     ·intro w'
      go_simp
      with_reducible rfl
     rotate_left
     ·simp only [Act.put, List.setIfInBounds_toArray, List.set_cons_zero, List.set_cons_succ, i64_w, i32_w]
      rfl
     refine pure_ (i := 3) (N := some 19) (v := ?_) (a' := ?_) #[true, false, false, true, false, false, false, false, false, false] rfl rfl (any_of HT_.out (by kernel_rfl)) (fun _ _ _ h => h) (Or.inl ⟨by rfl, ?_⟩) ?_ ?_
     rotate_left
     ·intro w'
      go_simp
      with_reducible rfl
     rotate_left
     ·simp only [Act.put, List.setIfInBounds_toArray, List.set_cons_zero, List.set_cons_succ, i64_w, i32_w]
      rfl
     refine pure_ (i := 4) (N := some 20) (v := ?_) (a' := ?_) #[true, false, false, true, true, false, false, false, false, false] rfl rfl (any_of HT_.out (by kernel_rfl)) (fun _ _ _ h => h) (Or.inl ⟨by rfl, ?_⟩) ?_ ?_
     rotate_left
     ·intro w'
      go_simp
      with_reducible rfl
     rotate_left
     ·simp only [Act.put, List.setIfInBounds_toArray, List.set_cons_zero, List.set_cons_succ, i64_w, i32_w]
      rfl
     refine pure_ (i := 5) (N := some 21) (v := ?_) (a' := ?_) #[true, false, false, true, true, true, false, false, false, false] rfl rfl (any_of HT_.out (by kernel_rfl)) (fun _ _ _ h => h) (Or.inl ⟨by rfl, ?_⟩) ?_ ?_
     rotate_left
     ·intro w'
      go_simp
      with_reducible rfl
     rotate_left
     ·simp only [Act.put, List.setIfInBounds_toArray, List.set_cons_zero, List.set_cons_succ, i64_w, i32_w]
      rfl
     refine one_ (i := 1) (N := some 17) #[true, true, false, true, true, true, false, false, false, false] rfl rfl (one_of HT_.out (by kernel_rfl)) (by decide) (fun K hK => ?_)
     refine goes_ Tryd.func48 (by kernel_rfl) rfl #[.string (a0.extract 0 (t218 : Int).toNat), .string (⟨#[10]⟩ : ByteArray)] (by rfl) rfl rfl (by (try simp only [List.map_toArray, List.map_cons, List.map_nil]); first | done | rfl | (simp only [List.length_drop, List.length_take]; rfl)) ?_
     with_reducible refine (strings_Count.calls (a0.extract 0 (t218 : Int).toNat) (⟨#[10]⟩ : ByteArray) t220 _ A7.out).mono ?_
     rintro e w' ⟨rfl, ⟨nd, rfl⟩⟩
     refine ⟨_, rfl, ?_⟩
     refine hK.out _ _ trivial (fun hHeld => ?_)
     clear hK K
     refine norm_ (a' := ?_) ?_ ?_
     rotate_left
     ·show Act.put _ (some 17) _ = _
      simp only [Act.put, List.setIfInBounds_toArray, List.set_cons_zero, List.set_cons_succ, i64_w, i32_w]
      rfl
     refine pure_ (i := 2) (N := some 18) (v := ?_) (a' := ?_) #[true, true, true, true, true, true, false, false, false, false] rfl rfl (any_of HT_.out (by kernel_rfl)) (fun _ _ _ h => h) (Or.inl ⟨by rfl, ?_⟩) ?_ ?_
     rotate_left
     ·intro w'
      go_simp
      with_reducible rfl
     rotate_left
     ·simp only [Act.put, List.setIfInBounds_toArray, List.set_cons_zero, List.set_cons_succ, i64_w, i32_w]
      rfl
     refine one_ (i := 6) (N := some 22) #[true, true, true, true, true, true, true, false, false, false] rfl rfl (one_of HT_.out (by kernel_rfl)) (by decide) (fun K hK => ?_)
     refine goes_ Tryd.func74 (by kernel_rfl) rfl #[.string ((a0.extract 0 (t218 : Int).toNat).extract ((ji8) : Int).toNat (a0.extract 0 (t218 : Int).toNat).size)] (by rfl) rfl rfl (by (try simp only [List.map_toArray, List.map_cons, List.map_nil]); first | done | (rw [show (a0.extract 0 (t218 : Int).toNat).size = (t218 : Int).toNat from (by rw [ByteArray.size_extract]; have h2_ := of_decide_eq_true c5b1; have h1_ := of_decide_eq_true c4b1; omega)]; rfl) | (simp only [hji8]; rfl) | rfl | (simp only [List.length_drop, List.length_take]; rfl)) ?_
     with_reducible refine (utf_Count.calls k ((a0.extract 0 (t218 : Int).toNat).extract ((ji8) : Int).toNat (a0.extract 0 (t218 : Int).toNat).size) t221 _ A11.out).mono ?_
     rintro e w14 ⟨rfl, hb⟩
     refine ⟨_, rfl, ?_⟩
     have n0_ := Aside0.mk (below_step (by repeat (first | (with_reducible first | exact HB.out | apply below_alloc | apply pw_below_drewN | apply below_drew1) | exact HB.out)) hb)
     clear HB
     have HB := n0_
     clear n0_
     (try clear hb)
     (try clear hb2)
     (try clear hk)
     (try clear hi)
     refine hK.out _ _ trivial (fun hHeld => ?_)
     clear hK K
     refine norm_ (a' := ?_) ?_ ?_
     rotate_left
     ·show Act.put _ (some 22) _ = _
      simp only [Act.put, List.setIfInBounds_toArray, List.set_cons_zero, List.set_cons_succ, i64_w, i32_w]
      rfl
     refine pure_ (i := 7) (N := some 23) (v := ?_) (a' := ?_) #[true, true, true, true, true, true, true, true, false, false] rfl rfl (any_of HT_.out (by kernel_rfl)) (fun _ _ _ h => h) (Or.inl ⟨by rfl, ?_⟩) ?_ ?_
     rotate_left
     ·intro w'
      go_simp
      with_reducible rfl
     rotate_left
     ·simp only [Act.put, List.setIfInBounds_toArray, List.set_cons_zero, List.set_cons_succ, i64_w, i32_w]
      rfl
     refine pure_ (i := 8) (N := some 4) (v := ?_) (a' := ?_) #[true, true, true, true, true, true, true, true, true, false] rfl rfl (any_of HT_.out (by kernel_rfl)) (fun _ _ _ h => h) (Or.inl ⟨by rfl, ?_⟩) ?_ ?_
     rotate_left
     ·intro w'
      go_simp
      with_reducible rfl
     rotate_left
     ·simp only [Act.put, List.setIfInBounds_toArray, List.set_cons_zero, List.set_cons_succ, i64_w, i32_w]
      rfl
     refine pure_ (i := 9) (N := some 5) (v := ?_) (a' := ?_) #[true, true, true, true, true, true, true, true, true, true] rfl rfl (any_of HT_.out (by kernel_rfl)) (fun _ _ _ h => h) (Or.inl ⟨by rfl, ?_⟩) ?_ ?_
     rotate_left
     ·intro w'
      go_simp
      with_reducible rfl
     rotate_left
     ·simp only [Act.put, List.setIfInBounds_toArray, List.set_cons_zero, List.set_cons_succ, i64_w, i32_w]
      rfl
     refine done_ (done_of HT_.out (by kernel_rfl)) ?_
     try go_wp2
     go_ret2
     exact ⟨by first | rfl | (simp [errW_none, errW_some] <;> rfl) | (simp [*, errW_none, errW_some, bne]; done) | (simp only [← hji8]; first | rfl | (simp [errW_none, errW_some] <;> rfl)) | (simp [*, errW_none, errW_some] <;> rfl), by repeat (first | (with_reducible first | exact HB.out | apply below_alloc | apply pw_below_drewN | apply below_drew1) | exact HB.out)⟩
    ·rw [if_neg c10] at H
     exact absurd H (by simp)
   ·rw [if_neg c9] at H
    exact absurd H (by simp)
  ·rw [if_neg c5] at H
   exact absurd H (by simp)
 ·rw [if_neg c4] at H
  exact absurd H (by simp)
end Go.Proofs.YtjmmdphkgioooaaDoor.P
end
section
namespace Go.Proofs.YtjmmdphkgioooaaDoor.P
open Go.RowKit Go.Proofs.YtjmmdphkgioooaaDoorW.PrintWords Go.Proofs.YtjmmdphkgioooaaDoorW.PrintLast Go.Proofs.YtjmmdphkgioooaaDoorW.PrintMore
attribute [local go_sem] max2_int min2_int max_two min_two max_three min_three max_four min_four   -- for this text's walks alone
set_option linter.unusedVariables false
set_option linter.unusedSimpArgs false
/-! ### place_Fault: function 51 -/
def place_Fault.f (k : Nat) (a0 : ByteArray) (a1 : Int) (a2 : Int) : Option (Int × Int × Int × Int) := (place_Of.f k a0 a1).bind fun bt223 => ((place_clamp.f a0 a1).bind fun t225 => (some (a2, t225, bt223.1, bt223.2)))
set_option maxHeartbeats 8000000 in
set_option maxRecDepth 100000 in
theorem place_Fault.calls (k : Nat) (a0 : ByteArray) (a1 : Int) (a2 : Int) (r1 : Int) (r2 : Int) (r3 : Int) (r4 : Int) (w : World) (h : place_Fault.f k a0 a1 a2 = some (r1, r2, r3, r4)) :
  Calls Tryd.prog 51 #[.string a0, .int .i64 a1, .int .i64 a2] w fun e w' => e = .returned (.agg #[.int .i64 r1, .int .i64 r2, .int .i64 r3, .int .i64 r4]) ∧ Below w.heap.size w w' := by
 have hu30 := Tryd.underlying30
 have HB := Aside0.mk (Below.refl w.heap.size w)
 have H : ((place_Of.f k a0 a1).bind fun bt223 => ((place_clamp.f a0 a1).bind fun t225 => (some (a2, t225, bt223.1, bt223.2)))) = some (r1, r2, r3, r4) := h
 clear h
 replace H := Option.bind_eq_some_iff.mp H
 obtain ⟨⟨t223, t224⟩, A40, H⟩ := H
 replace H : ((place_clamp.f a0 a1).bind fun t225 => (some (a2, t225, t223, t224))) = some (r1, r2, r3, r4) := H
 have A4 := Aside0.mk A40
 clear A40
 replace H := Option.bind_eq_some_iff.mp H
 obtain ⟨t225, A50, H⟩ := H
 replace H : (some (a2, t225, t223, t224)) = some (r1, r2, r3, r4) := H
 have A5 := Aside0.mk A50
 clear A50
 simp only [Option.some.injEq, Prod.mk.injEq] at H
 obtain ⟨rfl, rfl, rfl, rfl⟩ := H
 go_enter Tryd.func51, Tryd.ntmps51
 go_wp2_with (first | ((with_reducible refine gate_dst (N := 6) rfl ?_); refine box_event ?hg (N := 6) ?hd (cs := #[.int .i64 0, .int .i64 0, .int .i64 0, .int .i64 0]) (t := 30) ?hr ?_; (case hd => rfl); (case hg => rfl); (case hr => first | (go_simp; done) | (go_simp; rfl)); intro gb222 hg w6 hbox hb; have n0_ := Aside0.mk (below_step (by repeat (first | (with_reducible first | exact HB.out | apply below_alloc | apply pw_below_drewN | apply below_drew1) | exact HB.out)) hb); have n1_ := Aside0.mk (hbox); have n2_ := Aside0.mk ((by rw [hg]; exact (below_size (by repeat (first | (with_reducible first | exact HB.out | apply below_alloc | apply pw_below_drewN | apply below_drew1) | exact HB.out))) : w.heap.size ≤ gb222)); have n3_ := Aside0.mk ((by rw [hg]; exact (below_size (by repeat (first | (with_reducible first | exact HB.out | apply below_alloc | apply pw_below_drewN | apply below_drew1) | exact HB.out))) : w.heap.size ≤ gb222)); clear HB; have HB := n0_; have BK222 := n1_; have GW222 := n2_; have GE222 := n3_; clear n0_ n1_ n2_ n3_; clear hb hbox hg) | ((with_reducible refine gate_callee (f := 64) rfl ?_); refine goesL_ (some 12) rfl rfl Tryd.func64 (by kernel_rfl) rfl #[.string a0, .int .i64 a1] rfl (by (try simp only [List.map_toArray, List.map_cons, List.map_nil]); first | done | rfl | (simp only [List.length_drop, List.length_take]; rfl)) ?_; (with_reducible refine (place_Of.calls k a0 a1 t223 t224 _ A4.out).mono ?_); rintro e w7 ⟨rfl, hb⟩; refine ⟨_, rfl, ?_⟩; have n0_ := Aside0.mk (blk_below (g := gb222) (o := .cells #[.int .i64 0, .int .i64 0, .int .i64 0, .int .i64 0] 30 (0, 0)) (by (with_reducible repeat (first | refine blk_drewN ?_ _ | refine blk_drew ?_ | refine blk_alloc ?_ _)); exact BK222.out) hb); have n1_ := Aside0.mk (below_step (by repeat (first | (with_reducible first | exact HB.out | apply below_alloc | apply pw_below_drewN | apply below_drew1 | refine below_set ?_ GE222.out) | exact HB.out)) hb); clear BK222; clear HB; have BK222 := n0_; have HB := n1_; clear n0_ n1_; (try clear hb); (try clear hb2); (try clear hk); (try clear hi)) | ((with_reducible refine gate_callee (f := 65) rfl ?_); refine goesL_ (some 18) rfl rfl Tryd.func65 (by kernel_rfl) rfl #[.string a0, .int .i64 a1] rfl (by (try simp only [List.map_toArray, List.map_cons, List.map_nil]); first | done | rfl | (simp only [List.length_drop, List.length_take]; rfl)) ?_; (with_reducible refine (place_clamp.calls a0 a1 t225 _ A5.out).mono ?_); rintro e w8 ⟨rfl, hb⟩; refine ⟨_, rfl, ?_⟩; have n0_ := Aside0.mk (blk_below (g := gb222) (o := .cells #[.int .i64 0, .int .i64 0, .int .i64 0, .int .i64 0] 30 (0, 0)) (by (with_reducible repeat (first | refine blk_drewN ?_ _ | refine blk_drew ?_ | refine blk_alloc ?_ _)); exact BK222.out) hb); have n1_ := Aside0.mk (below_step (by repeat (first | (with_reducible first | exact HB.out | apply below_alloc | apply pw_below_drewN | apply below_drew1 | refine below_set ?_ GE222.out) | exact HB.out)) hb); clear BK222; clear HB; have BK222 := n0_; have HB := n1_; clear n0_ n1_; (try clear hb); (try clear hb2); (try clear hk); (try clear hi); have hcz9_0 : w8.cell? ⟨gb222, 0, none⟩ = some (.int .i64 0) := (blk_cell BK222.out 0).trans rfl; have hcz9_1 : w8.cell? ⟨gb222, 1, none⟩ = some (.int .i64 0) := (blk_cell BK222.out 1).trans rfl; have hcz9_2 : w8.cell? ⟨gb222, 2, none⟩ = some (.int .i64 0) := (blk_cell BK222.out 2).trans rfl; have hcz9_3 : w8.cell? ⟨gb222, 3, none⟩ = some (.int .i64 0) := (blk_cell BK222.out 3).trans rfl; have hfz9_0 := blk_frozen BK222.out 0; have hfz9_1 := blk_frozen BK222.out 1; have hfz9_2 := blk_frozen BK222.out 2; have hfz9_3 := blk_frozen BK222.out 3))
 refine bodyPost_ret (results_cell_row rfl _ _ gb222 30 #[.int .i64 a2, .int .i64 t225, .int .i64 t223, .int .i64 t224] (0, 0) _ rfl (by (with_reducible repeat (first | refine blk_drewN ?_ _ | refine blk_drew ?_ | refine blk_alloc ?_ _)); refine blk_put (cs := #[.int .i64 a2, .int .i64 t225, .int .i64 t223, .int .i64 0]) ?_ 3 _ rfl; (with_reducible repeat (first | refine blk_drewN ?_ _ | refine blk_drew ?_ | refine blk_alloc ?_ _)); refine blk_put (cs := #[.int .i64 a2, .int .i64 t225, .int .i64 0, .int .i64 0]) ?_ 2 _ rfl; (with_reducible repeat (first | refine blk_drewN ?_ _ | refine blk_drew ?_ | refine blk_alloc ?_ _)); refine blk_put (cs := #[.int .i64 a2, .int .i64 0, .int .i64 0, .int .i64 0]) ?_ 1 _ rfl; (with_reducible repeat (first | refine blk_drewN ?_ _ | refine blk_drew ?_ | refine blk_alloc ?_ _)); refine blk_put (cs := #[.int .i64 0, .int .i64 0, .int .i64 0, .int .i64 0]) ?_ 0 _ rfl; (with_reducible repeat (first | refine blk_drewN ?_ _ | refine blk_drew ?_ | refine blk_alloc ?_ _)); exact BK222.out) Tryd.underlying30 rfl (by kernel_rfl)) rfl ?_
 exact ⟨by first | rfl | (simp [errW_none, errW_some] <;> rfl) | (simp [*, errW_none, errW_some, bne]; done) | (simp [*, errW_none, errW_some] <;> rfl), by repeat (first | (with_reducible first | exact HB.out | apply below_alloc | apply pw_below_drewN | apply below_drew1 | refine below_set ?_ GE222.out) | exact HB.out)⟩
end Go.Proofs.YtjmmdphkgioooaaDoor.P
end
section
namespace Go.Proofs.YtjmmdphkgioooaaDoor.La
open Go.RowKit Go.Proofs.YtjmmdphkgioooaaDoor.P Go.Proofs.YtjmmdphkgioooaaDoorW.PrintWords Go.Proofs.YtjmmdphkgioooaaDoorW.PrintLast Go.Proofs.YtjmmdphkgioooaaDoorW.PrintMore
def clamp (size : Nat) (i : Int) : Nat := if i < 0 then 0 else if i > (size : Int) then size else i.toNat
theorem clamp_le (size : Nat) (i : Int) : clamp size i ≤ size := by unfold clamp; (repeat' split) <;> omega
theorem clamp_eq (s : ByteArray) (i : Int) : place_clamp.f s i = some (clamp s.size i : Int) := by
 unfold place_clamp.f mn mx clamp
 congr 1
 (repeat' split) <;> omega
theorem count10 (s : ByteArray) : strings_Count.f s (⟨#[10]⟩ : ByteArray) = some (nl (bytesOf s) : Int) := by
 unfold strings_Count.f
 rw [if_pos (by rfl)]
 rfl
theorem last_l0 (s : ByteArray) (hs : s.size ≤ 140737488355328) (m : Nat) : m ≤ s.size → Ev (fun k => bytealg_LastIndexByteString.l0 k s 10 ((m : Int) - 1)) ((lst ((bytesOf s).take m) : Int) - 1) := by
 induction m with
 | zero =>
  intro _
  refine Ev.step (fun k => by rw [bytealg_LastIndexByteString.l0]) ?_
  simp only [if_neg (show ¬ (((0 : Nat) : Int) - 1 ≥ 0) by omega)]
  exact Ev.now _
 | succ m ih =>
  intro hm
  refine Ev.step (fun k => by rw [bytealg_LastIndexByteString.l0]) ?_
  have e : ((m + 1 : Nat) : Int) - 1 = (m : Int) := by omega
  have hlt : m < (bytesOf s).length := by rw [size_of]; omega
  have hb : bt s (m : Int) = (bytesOf s)[m] := by rw [bt_get]; simp [List.getD_eq_getElem?_getD, hlt]
  simp only [e, if_pos (show (m : Int) ≥ 0 by omega), if_pos (show (m : Int) < (s.size : Int) by omega)]
  rw [List.take_succ_eq_append_getElem hlt, lst_snoc, hb]
  by_cases h : (bytesOf s)[m] = 10
  ·simp only [if_pos h, List.length_take, Nat.min_eq_left (Nat.le_of_lt hlt)]
   have : ((m + 1 : Nat) : Int) - 1 = (m : Int) := by omega
   rw [this]
   exact Ev.now _
  ·simp only [if_neg h]
   rw [wrap_id (by omega) (by omega)]
   exact ih (by omega)
theorem last_ev (s : ByteArray) (hs : s.size ≤ 140737488355328) : Ev (fun k => strings_LastIndexByte.f k s 10) ((lst (bytesOf s) : Int) - 1) := by
 have h := last_l0 s hs s.size (Nat.le_refl _)
 rw [List.take_of_length_le (by rw [size_of]; omega)] at h
 refine Ev.congr (fun k => by rw [strings_LastIndexByte.f, bytealg_LastIndexByteString.f, wrap_id (by omega) (by omega)]) (Ev.bind h ?_)
 exact Ev.now _
/-- A place's line and column. -/
def lineOf (l : List Int) : Int := (nl l : Int) + 1
def colOf (l : List Int) : Int := (cnt (l.drop (lst l)) : Int) + 1
theorem of_ev (s : ByteArray) (hs : s.size ≤ 8796093022208) (i : Int) : Ev (fun k => place_Of.f k s i) (lineOf ((bytesOf s).take (clamp s.size i)), colOf ((bytesOf s).take (clamp s.size i))) := by
 have hc := clamp_le s.size i
 refine Ev.congr (fun k => by rw [place_Of.f, clamp_eq, Option.bind_some]) ?_
 generalize clamp s.size i = c at *
 have hsz : (s.extract 0 c).size = c := size_take s hc
 have hl := lst_le ((bytesOf s).take c)
 rw [List.length_take, size_of, Nat.min_eq_left hc] at hl
 simp only [if_pos (show (0 : Int) ≤ (c : Int) by omega), if_pos (show (c : Int) ≤ (s.size : Int) by omega), Int.toNat_natCast]
 refine Ev.bind (last_ev (s.extract 0 c) (by rw [hsz]; omega)) ?_
 rw [bytesOf_take]
 have hn : nl ((bytesOf s).take c) ≤ c := by
  have := cntB_le ((bytesOf s).take c) 10
  rw [List.length_take, size_of, Nat.min_eq_left hc] at this
  exact this
 have hw : wrap64 ((lst ((bytesOf s).take c) : Int) - 1 + 1) = (lst ((bytesOf s).take c) : Int) := by rw [wrap_id (by omega) (by omega)]; omega
 simp only [count10, Option.bind_some, hw, hsz, bytesOf_take, if_pos (show (0 : Int) ≤ (lst ((bytesOf s).take c) : Int) by omega), if_pos (show (lst ((bytesOf s).take c) : Int) ≤ (c : Int) by omega), Int.toNat_natCast]
 have hx : bytesOf ((s.extract 0 c).extract (lst ((bytesOf s).take c)) c) = ((bytesOf s).take c).drop (lst ((bytesOf s).take c)) := by
  rw [bytesOf_extract, bytesOf_take, List.take_take, Nat.min_self]
 have hxs : ((s.extract 0 c).extract (lst ((bytesOf s).take c)) c).size ≤ 140737488355328 := by rw [← size_of, hx, List.length_drop, List.length_take, size_of]; omega
 refine Ev.bind (count_ev _ hxs) ?_
 rw [hx]
 have hcn := cnt_le (((bytesOf s).take c).drop (lst ((bytesOf s).take c)))
 rw [List.length_drop, List.length_take, size_of] at hcn
 rw [wrap_id (by omega) (by omega), wrap_id (by omega) (by omega)]
 exact Ev.now _
theorem fault_ev (s : ByteArray) (hs : s.size ≤ 8796093022208) (i e : Int) : Ev (fun k => place_Fault.f k s i e) (e, (clamp s.size i : Int), lineOf ((bytesOf s).take (clamp s.size i)), colOf ((bytesOf s).take (clamp s.size i))) := by
 refine Ev.congr (fun k => by rw [place_Fault.f]) (Ev.bind (of_ev s hs i) ?_)
 rw [clamp_eq, Option.bind_some]
 exact Ev.now _
end Go.Proofs.YtjmmdphkgioooaaDoor.La
end
section
namespace Go.Proofs.YtjmmdphkgioooaaDoor.P
open Go.RowKit Go.Proofs.YtjmmdphkgioooaaDoor.La Go.Proofs.YtjmmdphkgioooaaDoorW.PrintWords Go.Proofs.YtjmmdphkgioooaaDoorW.PrintLast Go.Proofs.YtjmmdphkgioooaaDoorW.PrintMore
theorem wpQ {P : Program} {c : Code} {Q : Exit → Act → World → Prop} {a : Act} {w : World} (R : Act → World → Prop) (h : ∀ Q', (∀ a' w', R a' w' → Q' Exit.normal a' w') → c.wp P Q' a w) (hR : ∀ a' w', R a' w' → Q .normal a' w') : c.wp P Q a w := h Q hR
theorem tassert_yes (v : Value) (xT : TypeId) (w : World) : (Instr.typeAssert (.iface 85 v) xT 85 true).run Tryd.prog w = .ok (.tuple #[v, .bool true]) w := by
 simp [Instr.typeAssert, run_underlying Tryd.underlying85, go_sem, Result.andThen]
theorem tassert_nil (xT : TypeId) (w : World) : (Instr.typeAssert .nilIface xT 85 true).run Tryd.prog w = .ok (.tuple #[.agg #[.int .i64 0, .int .i64 0], .bool false]) w := by
 simp [Instr.typeAssert, run_underlying Tryd.underlying85, Tryd.zeroValue85, go_sem, Result.andThen]
set_option maxRecDepth 100000 in
set_option maxHeartbeats 8000000 in
/-- The deferred closure, where something was thrown. -/
theorem catch_thrown {W : World} {b : Nat} {text : ByteArray} {at_ er : Int} {k : Nat} {r1 r2 r3 r4 : Int} (older : List PanicEntry) (hF : place_Fault.f k text at_ er = some (r1, r2, r3, r4))
  (h0 : W.heap[b]? = some (.cells #[.string text] 9 (0, 0))) (h1 : W.heap[b + 1]? = some (.cells #[.slice none 0 0] 52 (0, 0))) (h2 : W.heap[b + 2]? = some (.cells #[.int .i64 0, .int .i64 0, .int .i64 0, .int .i64 0] 30 (0, 0))) :
  CallsD Tryd.prog 52 #[.pointer (some ⟨b, 0, none⟩), .pointer (some ⟨b + 1, 0, none⟩), .pointer (some ⟨b + 2, 0, none⟩)] (.panicking ({ v := .iface 85 (.agg #[.int .i64 er, .int .i64 at_]), recovered := false } :: older)) W fun e u' w' =>
   e = .returned (.tuple #[]) ∧ u' = .panicking ({ v := .iface 85 (.agg #[.int .i64 er, .int .i64 at_]), recovered := true } :: older) ∧ Below b W w' ∧
   w'.heap[b + 1]? = some (.cells #[.slice none 0 0] 52 (0, 0)) ∧ w'.heap[b + 2]? = some (.cells #[.int .i64 r1, .int .i64 r2, .int .i64 r3, .int .i64 r4] 30 (0, 0)) := by
 have hlt := cblk_lt h2
 have hA : Below W.heap.size W (W.alloc (.cells #[.int .i64 er, .int .i64 at_] 85)) := below_alloc (Below.refl _ _) _
 have hA0 := (hA.block b (by omega)).trans h0
 have e0 : (W.alloc (.cells #[.int .i64 er, .int .i64 at_] 85)).cell? ⟨b, 0, none⟩ = some (.string text) := by rw [cblk_cell hA0]; rfl
 refine callsD_of_wpS Tryd.func52 rfl fun c₀ cs hu => ?_
 simp only [Tryd.ntmps52, List.size_toArray, List.length_cons, List.length_nil, Nat.reduceAdd, Nat.reduceSub, Array.replicate_succ, Array.replicate_zero, List.push_toArray, List.append_toArray, List.nil_append, List.cons_append]
 apply wpS_seq
 apply wpS_region
 simp [wpOpsS, go_sem, recoverD, hu, Exit.thenS]
 refine wpS_of_wp ?_
 refine wpQ (fun a' w' => a'.defers = [] ∧ Below b W w' ∧ w'.heap[b + 1]? = some (.cells #[.slice none 0 0] 52 (0, 0)) ∧ w'.heap[b + 2]? = some (.cells #[.int .i64 r1, .int .i64 r2, .int .i64 r3, .int .i64 r4] 30 (0, 0))) ?_ ?_
 ·intro Q' hQ'
  have HQ := Lib.hid hQ'
  clear hQ' hu
  have hta := tassert_yes
  go_wp2_with fail
  refine (place_Fault.calls k _ _ _ _ _ _ _ _ hF).mono ?_
  rintro e w5 ⟨rfl, hb5⟩
  have hB := below_step hA hb5
  have g1 := (hB.block (b + 1) (by omega)).trans h1
  have g2 := (hB.block (b + 2) (by omega)).trans h2
  clear e0 hA0 hA hb5
  have k1 : w5.cell? ⟨b + 1, 0, none⟩ = some (.slice none 0 0) := by rw [cblk_cell g1]; rfl
  have k2 := cblk_free g1 0
  have m0 : w5.cell? ⟨b + 2, 0, none⟩ = some (.int .i64 0) := by rw [cblk_cell g2]; rfl
  have m1 : w5.cell? ⟨b + 2, 1, none⟩ = some (.int .i64 0) := by rw [cblk_cell g2]; rfl
  have m2 : w5.cell? ⟨b + 2, 2, none⟩ = some (.int .i64 0) := by rw [cblk_cell g2]; rfl
  have m3 : w5.cell? ⟨b + 2, 3, none⟩ = some (.int .i64 0) := by rw [cblk_cell g2]; rfl
  have n0 := cblk_free g2 0
  have n1 := cblk_free g2 1
  have n2 := cblk_free g2 2
  have n3 := cblk_free g2 3
  go_wp2_with fail
  refine HQ.out _ _ ⟨rfl, ?_, ?_, ?_⟩
  ·exact (((((hB.mono (show b ≤ W.heap.size by omega)).setCell (p := ⟨b + 1, 0, none⟩) (Nat.le_add_right b 1) _).setCell (p := ⟨b + 2, 0, none⟩) (Nat.le_add_right b 2) _).setCell (p := ⟨b + 2, 1, none⟩) (Nat.le_add_right b 2) _).setCell (p := ⟨b + 2, 2, none⟩) (Nat.le_add_right b 2) _).setCell (p := ⟨b + 2, 3, none⟩) (Nat.le_add_right b 2) _
  ·rw [Below.heap_setCell _ _ _ _ (show b + 1 ≠ b + 2 by omega), Below.heap_setCell _ _ _ _ (show b + 1 ≠ b + 2 by omega), Below.heap_setCell _ _ _ _ (show b + 1 ≠ b + 2 by omega), Below.heap_setCell _ _ _ _ (show b + 1 ≠ b + 2 by omega)]
   exact cblk_set g1 0 _
  ·exact cblk_set (cblk_set (cblk_set (cblk_set ((Below.heap_setCell _ _ _ _ (show b + 2 ≠ b + 1 by omega)).trans g2) 0 (.int .i64 r1)) 1 (.int .i64 r2)) 2 (.int .i64 r3)) 3 (.int .i64 r4)
 ·rintro a' w' ⟨h1, h2⟩
  exact ⟨h1, _, rfl, _, results_none rfl _ _ _, rfl, rfl, h2⟩
set_option maxRecDepth 100000 in
set_option maxHeartbeats 8000000 in
/-- .. where nothing was thrown. -/
theorem catch_idle (b : Nat) (W : World) :
  CallsD Tryd.prog 52 #[.pointer (some ⟨b, 0, none⟩), .pointer (some ⟨b + 1, 0, none⟩), .pointer (some ⟨b + 2, 0, none⟩)] .returning W fun e u' w' =>
   e = .returned (.tuple #[]) ∧ u' = .returning ∧ Below W.heap.size W w' := by
 refine callsD_of_wpS Tryd.func52 rfl fun c₀ cs hu => ?_
 simp only [Tryd.ntmps52, List.size_toArray, List.length_cons, List.length_nil, Nat.reduceAdd, Nat.reduceSub, Array.replicate_succ, Array.replicate_zero, List.push_toArray, List.append_toArray, List.nil_append, List.cons_append]
 apply wpS_seq
 apply wpS_region
 simp [wpOpsS, go_sem, recoverD, hu, Exit.thenS]
 refine wpS_of_wp ?_
 refine wpQ (fun a' w' => a'.defers = [] ∧ Below W.heap.size W w') ?_ ?_
 ·intro Q' hQ'
  have HQ := Lib.hid hQ'
  clear hQ' hu
  have hta := tassert_nil
  go_wp2_with fail
  exact HQ.out _ _ ⟨rfl, below_alloc (Below.refl _ _) _⟩
 ·rintro a' w' ⟨h1, h2⟩
  cases c₀
  exact ⟨h1, _, by simp_all, _, results_none rfl _ _ _, rfl, rfl, h2⟩
theorem rowS_drop {L : List Int} : ∀ (k : Nat) (acc : List S57) (i : Nat) (r : List S57) (l2 : List Int) (j : Nat), i ≤ L.length → rowS k acc (L.drop i) i = .inr (r, l2, j) → l2 = L.drop j ∧ j ≤ L.length
 | 0, _, _, _, _, _, _, h => by cases h
 | k + 1, acc, i, r, l2, j, hi, h => by
  rw [rowS] at h
  cases hf : fieldS (L.drop i) i with
  | inl e => rw [hf] at h; cases h
  | inr p =>
   rw [hf] at h
   obtain ⟨_, _, h3⟩ := fieldS_len hf
   rw [List.length_drop] at h3
   simp only [List.drop_drop] at h
   by_cases h44 : (L.drop (i + p.2)).take 1 = [44]
   ·rw [if_pos h44] at h
    have h5 := congrArg List.length h44
    rw [List.length_take, List.length_drop] at h5
    simp at h5
    exact rowS_drop k _ (i + p.2 + 1) r l2 j (by omega) h
   ·rw [if_neg h44] at h
    have h6 := Prod.mk.inj (Sum.inr.inj h)
    obtain ⟨h7, h8⟩ := Prod.mk.inj h6.2
    have h9 := lend_le (L.drop (i + p.2))
    rw [List.length_drop] at h9
    subst h7
    subst h8
    exact ⟨by congr 1; omega, by omega⟩
/-- One row more. -/
theorem wholeS_step {L : List Int} {n i : Nat} {rows : List (List S57)} (hi : i < L.length) (hn : rows.length + n = 513) :
  (∃ e, rowR rows (L.drop i) i = .inl e ∧ wholeS n rows (L.drop i) i = .inl e) ∨ (∃ r j m, rowR rows (L.drop i) i = .inr (r, j) ∧ n = m + 1 ∧ j ≤ L.length ∧ wholeS n rows (L.drop i) i = wholeS m (rows ++ [r]) (L.drop j) j) := by
 have hne : L.drop i ≠ [] := by
  intro h
  have := congrArg List.length h
  rw [List.length_drop] at this
  simp at this; omega
 unfold rowR
 cases n with
 | zero => exact .inl ⟨(2, i), by rw [if_pos (by omega)], by rw [wholeS, if_neg hne]⟩
 | succ m =>
  rw [if_neg (by omega), wholeS, if_neg hne]
  cases hr : rowS 64 [] (L.drop i) i with
  | inl e => exact .inl ⟨e, rfl, rfl⟩
  | inr x =>
   obtain ⟨r, l2, j⟩ := x
   obtain ⟨h1, h2⟩ := rowS_drop 64 [] i r l2 j (by omega) hr
   by_cases hc : rows ≠ [] ∧ r.length ≠ (rows.headD []).length
   ·exact .inl ⟨(7, i), by simp only; rw [if_pos hc], by simp only; rw [if_pos hc]⟩
   ·exact .inr ⟨r, j, m, by simp only; rw [if_neg hc], rfl, h2, by simp only; rw [if_neg hc, h1]⟩
/-- The state of the loop over the rows. -/
def WInv (w : World) (g : Nat) (text : ByteArray) (res : (Int × Nat) ⊕ List (List S57)) (k : Nat) (wx : World) : Prop :=
 ∃ (n i : Nat) (rows : List (List S57)) (rv : Value), k = n + 1 ∧ Cur wx g text i rv ∧ Kd.S (Kd.slice 57 k57) 55 wx g (fun k => k ≠ g) rv rows ∧ Below g w wx ∧ rows.length + n = 513 ∧ i ≤ text.size ∧ res = wholeS n rows ((bytesOf text).drop i) i
theorem wstores {W : World} {b1 b2 : Nat} (hne : b1 ≠ b2) {v v0 : Value} (h1 : W.heap[b1]? = some (.cells #[v0] 52 (0, 0))) (h2 : W.heap[b2]? = some (.cells #[.int .i64 0, .int .i64 0, .int .i64 0, .int .i64 0] 30 (0, 0))) (B : Nat) (hB1 : B ≤ b1) (hB2 : B ≤ b2) :
  (((((W.setCell ⟨b1, 0, none⟩ v).setCell ⟨b2, 0, none⟩ (.int .i64 0)).setCell ⟨b2, 1, none⟩ (.int .i64 0)).setCell ⟨b2, 2, none⟩ (.int .i64 0)).setCell ⟨b2, 3, none⟩ (.int .i64 0)).heap[b1]? = some (.cells #[v] 52 (0, 0)) ∧
  (((((W.setCell ⟨b1, 0, none⟩ v).setCell ⟨b2, 0, none⟩ (.int .i64 0)).setCell ⟨b2, 1, none⟩ (.int .i64 0)).setCell ⟨b2, 2, none⟩ (.int .i64 0)).setCell ⟨b2, 3, none⟩ (.int .i64 0)).heap[b2]? = some (.cells #[.int .i64 0, .int .i64 0, .int .i64 0, .int .i64 0] 30 (0, 0)) ∧
  Below B W (((((W.setCell ⟨b1, 0, none⟩ v).setCell ⟨b2, 0, none⟩ (.int .i64 0)).setCell ⟨b2, 1, none⟩ (.int .i64 0)).setCell ⟨b2, 2, none⟩ (.int .i64 0)).setCell ⟨b2, 3, none⟩ (.int .i64 0)) ∧
  (∀ k, k ≠ b1 → k ≠ b2 → (((((W.setCell ⟨b1, 0, none⟩ v).setCell ⟨b2, 0, none⟩ (.int .i64 0)).setCell ⟨b2, 1, none⟩ (.int .i64 0)).setCell ⟨b2, 2, none⟩ (.int .i64 0)).setCell ⟨b2, 3, none⟩ (.int .i64 0)).heap[k]? = W.heap[k]?) := by
 refine ⟨?_, ?_, ?_, ?_⟩
 ·rw [Below.heap_setCell _ _ _ _ hne, Below.heap_setCell _ _ _ _ hne, Below.heap_setCell _ _ _ _ hne, Below.heap_setCell _ _ _ _ hne]
  exact cblk_set h1 0 v
 ·exact cblk_set (cblk_set (cblk_set (cblk_set ((Below.heap_setCell _ _ _ _ (Ne.symm hne)).trans h2) 0 (.int .i64 0)) 1 (.int .i64 0)) 2 (.int .i64 0)) 3 (.int .i64 0)
 ·exact (((((Below.refl B W).setCell (p := ⟨b1, 0, none⟩) hB1 _).setCell (p := ⟨b2, 0, none⟩) hB2 _).setCell (p := ⟨b2, 1, none⟩) hB2 _).setCell (p := ⟨b2, 2, none⟩) hB2 _).setCell (p := ⟨b2, 3, none⟩) hB2 _
 ·intro k n1 n2
  rw [Below.heap_setCell _ _ _ _ n2, Below.heap_setCell _ _ _ _ n2, Below.heap_setCell _ _ _ _ n2, Below.heap_setCell _ _ _ _ n2, Below.heap_setCell _ _ _ _ n1]
theorem wresults (tmps : Array Value) (w : World) (b1 b2 : Nat) (v : Value) (r1 r2 r3 r4 : Int) (h2 : tmps.getD 2 undef = .pointer (some ⟨b1, 0, none⟩)) (h3 : tmps.getD 3 undef = .pointer (some ⟨b2, 0, none⟩))
  (g1 : w.heap[b1]? = some (.cells #[v] 52 (0, 0))) (g2 : w.heap[b2]? = some (.cells #[.int .i64 r1, .int .i64 r2, .int .i64 r3, .int .i64 r4] 30 (0, 0))) :
  (results Tryd.f37 tmps).run Tryd.prog w = .ok (.tuple #[v, .agg #[.int .i64 r1, .int .i64 r2, .int .i64 r3, .int .i64 r4]]) w := by
 have c1 : w.cell? ⟨b1, 0, none⟩ = some v := by rw [cblk_cell g1]; rfl
 have hr : Tryd.f37.results = [.cell 2 52, .cell 3 30].toArray := rfl
 have hl := run_loadVar_row (P := Tryd.prog) w b2 30 30 _ (0, 0) _ g2 Tryd.underlying30 rfl (by kernel_rfl)
 have hl1 : (loadVar 52 ⟨b1, 0, none⟩).run Tryd.prog w = .ok v w := by
  simp [loadVar, go_sem, c1]
 unfold results
 rw [hr, List.mapM_toArray]
 rw [Array.getD_eq_getD_getElem?] at h2 h3
 simp [List.mapM_cons, asAddr, h2, h3, hl, hl1, Result.andThen]
/-- A fault at a place. -/
def faultR (s : ByteArray) (at_ e : Int) : Int × Int × Int × Int := (e, (clamp s.size at_ : Int), lineOf ((bytesOf s).take (clamp s.size at_)), colOf ((bytesOf s).take (clamp s.size at_)))
/-- What is answered. -/
def wholeR (a0 : ByteArray) : (Int × Nat) ⊕ List (List S57) → List (List S57) × Int × Int × Int × Int
 | .inl e => ([], faultR a0 e.2 e.1)
 | .inr rows => (rows, 0, 0, 0, 0)
def cread_whole.f (a0 : ByteArray) : Option (List (List S57) × Int × Int × Int × Int) :=
 if a0.size ≤ 70000 then some (wholeR a0 (wholeS 513 [] (bytesOf a0) 0)) else none
set_option maxRecDepth 100000 in
set_option maxHeartbeats 8000000 in
theorem cread_whole.calls (a0 : ByteArray) (r1 : List (List S57)) (r2 r3 r4 r5 : Int) (w : World) (h : cread_whole.f a0 = some (r1, r2, r3, r4, r5)) :
  Calls Tryd.prog 37 #[.string a0] w fun e w' => ∃ v0_ : Value, e = .returned (.tuple #[v0_, .agg #[.int .i64 r2, .int .i64 r3, .int .i64 r4, .int .i64 r5]]) ∧ Kd.S (Kd.slice 57 k57) 55 w' w.heap.size (fun _ => True) v0_ r1 ∧ Below w.heap.size w w' := by
 have hmf : ∀ (fn : Fn) (first cap : Array Value) (w : World), (Instr.makeFunc fn first cap).run Tryd.prog w = .ok (.func fn first cap) w := fun _ _ _ _ => rfl
 unfold cread_whole.f at h
 by_cases hs : a0.size ≤ 70000
 ·rw [if_pos hs] at h
  obtain ⟨res, hres⟩ : ∃ res, wholeS 513 [] (bytesOf a0) 0 = res := ⟨_, rfl⟩
  rw [hres] at h
  have H := Lib.hid (Option.some.inj h)
  have HRES := Lib.hid hres
  clear h hres
  go_enter_defers Tryd.func37, Tryd.ntmps37
  go_wp2_with fail
  have hB4 : Below w.heap.size w ((((w.alloc (.cells #[.string a0] 9)).alloc (.cells #[.slice none 0 0] 52)).alloc (.cells #[.int .i64 0, .int .i64 0, .int .i64 0, .int .i64 0] 30)).alloc (.cells #[.string a0, .int .i64 0, .slice none 0 0] 89)) :=
   below_alloc (below_alloc (below_alloc (below_alloc (Below.refl _ _) _) _) _) _
  have hz0 : (w.alloc (.cells #[.string a0] 9)).heap.size = w.heap.size + 1 := Array.size_push _
  have hz1 : ((w.alloc (.cells #[.string a0] 9)).alloc (.cells #[.slice none 0 0] 52)).heap.size = w.heap.size + 1 + 1 := by rw [← hz0]; exact Array.size_push _
  have hz2 : (((w.alloc (.cells #[.string a0] 9)).alloc (.cells #[.slice none 0 0] 52)).alloc (.cells #[.int .i64 0, .int .i64 0, .int .i64 0, .int .i64 0] 30)).heap.size = w.heap.size + 1 + 1 + 1 := by rw [← hz1]; exact Array.size_push _
  have hnew : ∀ (W : World) (o : Obj), (W.alloc o).heap[W.heap.size]? = some o := fun W o => Array.getElem?_push_size
  have hold : ∀ (W : World) (o : Obj) (k : Nat), k < W.heap.size → (W.alloc o).heap[k]? = W.heap[k]? := fun W o k hk => Below.heap_alloc W o k hk
  have g3 := hnew (((w.alloc (.cells #[.string a0] 9)).alloc (.cells #[.slice none 0 0] 52)).alloc (.cells #[.int .i64 0, .int .i64 0, .int .i64 0, .int .i64 0] 30)) (.cells #[.string a0, .int .i64 0, .slice none 0 0] 89)
  rw [hz2] at g3
  have g2 := (hold (((w.alloc (.cells #[.string a0] 9)).alloc (.cells #[.slice none 0 0] 52)).alloc (.cells #[.int .i64 0, .int .i64 0, .int .i64 0, .int .i64 0] 30)) (.cells #[.string a0, .int .i64 0, .slice none 0 0] 89) (w.heap.size + 1 + 1) (by omega)).trans (show _ = some (.cells #[.int .i64 0, .int .i64 0, .int .i64 0, .int .i64 0] 30 (0, 0)) from by
   have h := hnew ((w.alloc (.cells #[.string a0] 9)).alloc (.cells #[.slice none 0 0] 52)) (.cells #[.int .i64 0, .int .i64 0, .int .i64 0, .int .i64 0] 30)
   rw [hz1] at h
   exact h)
  have g1 := (hold (((w.alloc (.cells #[.string a0] 9)).alloc (.cells #[.slice none 0 0] 52)).alloc (.cells #[.int .i64 0, .int .i64 0, .int .i64 0, .int .i64 0] 30)) (.cells #[.string a0, .int .i64 0, .slice none 0 0] 89) (w.heap.size + 1) (by omega)).trans ((hold ((w.alloc (.cells #[.string a0] 9)).alloc (.cells #[.slice none 0 0] 52)) (.cells #[.int .i64 0, .int .i64 0, .int .i64 0, .int .i64 0] 30) (w.heap.size + 1) (by omega)).trans (show _ = some (.cells #[.slice none 0 0] 52 (0, 0)) from by
   have h := hnew (w.alloc (.cells #[.string a0] 9)) (.cells #[.slice none 0 0] 52)
   rw [hz0] at h
   exact h))
  have g0 := (hold (((w.alloc (.cells #[.string a0] 9)).alloc (.cells #[.slice none 0 0] 52)).alloc (.cells #[.int .i64 0, .int .i64 0, .int .i64 0, .int .i64 0] 30)) (.cells #[.string a0, .int .i64 0, .slice none 0 0] 89) w.heap.size (by omega)).trans ((hold ((w.alloc (.cells #[.string a0] 9)).alloc (.cells #[.slice none 0 0] 52)) (.cells #[.int .i64 0, .int .i64 0, .int .i64 0, .int .i64 0] 30) w.heap.size (by omega)).trans ((hold (w.alloc (.cells #[.string a0] 9)) (.cells #[.slice none 0 0] 52) w.heap.size (by omega)).trans (hnew w (.cells #[.string a0] 9))))
  generalize (((w.alloc (.cells #[.string a0] 9)).alloc (.cells #[.slice none 0 0] 52)).alloc (.cells #[.int .i64 0, .int .i64 0, .int .i64 0, .int .i64 0] 30)).alloc (.cells #[.string a0, .int .i64 0, .slice none 0 0] 89) = w4 at hB4 g0 g1 g2 g3 ⊢
  clear hz0 hz1 hz2 hnew hold
  go_loopg [] 514 (fun k wx => WInv w4 (w.heap.size + 1 + 1 + 1) a0 res k wx)
  case atStart => exact ⟨513, 0, [], .slice none 0 0, rfl, g3, Kd.S_nil _ _ _ _ _, Below.refl _ _, rfl, by omega, by rw [List.drop_zero]; exact HRES.out.symm⟩
  case round =>
   obtain ⟨n, i, rows, rv, hk, hC, hS, hB, hn, hi, hr⟩ := hrel
   have HR := Lib.hid hr
   have HK := Lib.hid hk
   clear hr hk
   have b0 := (hB.block w.heap.size (by omega)).trans g0
   have b1 := (hB.block (w.heap.size + 1) (by omega)).trans g1
   have b2 := (hB.block (w.heap.size + 1 + 1) (by omega)).trans g2
   obtain ⟨c0, c1, c2, f1, f2, hlt⟩ := hC.open_
   have t0 : wr.cell? ⟨w.heap.size, 0, none⟩ = some (.string a0) := by rw [cblk_cell b0]; rfl
   by_cases hlt2 : i < a0.size
   ·have e1 : decide ((i : Int) < (a0.size : Int)) = true := decide_eq_true (by omega)
    go_wp2_with fail
    go_quiet (fail)
    go_wp2_with fail
    refine (crow (hC.drewN nq) (Kd.S_drewN hS nq) (Nat.le_refl _) hi hs (by omega)).mono ?_
    rintro e w5 ⟨hB5, hrr⟩
    have hB6 := (pw_below_drewN hB nq).trans hB5
    rcases wholeS_step (L := bytesOf a0) (n := n) (i := i) (rows := rows) (by rw [size_of]; exact hlt2) hn with ⟨e, h1, h2⟩ | ⟨r, j, m, h1, hnm, hj, h2⟩
    ·rw [h1] at hrr
     obtain rfl := hrr
     have hres := HR.out.trans h2
     have HH := H.out
     rw [hres] at HH
     have hf := fault_ev a0 (by omega) e.2 e.1
     obtain ⟨K, hK⟩ := hf
     have b0' := (hB6.block w.heap.size (by omega)).trans g0
     have b1' := (hB6.block (w.heap.size + 1) (by omega)).trans g1
     have b2' := (hB6.block (w.heap.size + 1 + 1) (by omega)).trans g2
     refine leaves_cons (f := 52) (args := #[.pointer (some ⟨w.heap.size, 0, none⟩), .pointer (some ⟨w.heap.size + 1, 0, none⟩), .pointer (some ⟨w.heap.size + 1 + 1, 0, none⟩)]) (by simp) (by simp [go_sem]) ?_
     refine (catch_thrown [] (hK K (Nat.le_refl _)) b0' b1' b2').mono ?_
     rintro e7 u7 w7 ⟨rfl, rfl, hB7, h7, h8⟩
     refine ⟨_, wresults _ w7 _ _ _ _ _ _ _ rfl rfl h7 h8, ?_⟩
     obtain ⟨q1, q2⟩ := Prod.mk.inj HH
     obtain ⟨q2, q3⟩ := Prod.mk.inj q2
     obtain ⟨q3, q4⟩ := Prod.mk.inj q3
     obtain ⟨q4, q5⟩ := Prod.mk.inj q4
     subst q1
     exact ⟨_, by rw [← q2, ← q3, ← q4, ← q5], Kd.S_nil _ _ _ _ _, hB4.trans ((hB6.mono (by omega)).trans hB7)⟩
    ·rw [h1] at hrr
     obtain ⟨rfl, rv', hC5, hS5⟩ := hrr
     have hk := HK.out
     subst hnm
     subst hk
     go_wp2_with fail
     go_roundg (m + 1)
     case rel => exact ⟨m, j, rows ++ [r], rv', rfl, hC5, hS5, hB6, by rw [List.length_append]; simp; omega, by rw [size_of] at hj; exact hj, HR.out.trans h2⟩
     case measure => omega
   ·have e1 : decide ((i : Int) < (a0.size : Int)) = false := decide_eq_false (by omega)
    obtain ⟨RA, RC, hrv, _, _⟩ := Kd.S_reads hS
    have HRV := Lib.hid hrv
    subst hrv
    have k1 : wr.cell? ⟨w.heap.size + 1, 0, none⟩ = some (.slice none 0 0) := by rw [cblk_cell b1]; rfl
    have k2 := cblk_free b1 0
    have m0 : wr.cell? ⟨w.heap.size + 1 + 1, 0, none⟩ = some (.int .i64 0) := by rw [cblk_cell b2]; rfl
    have m1 : wr.cell? ⟨w.heap.size + 1 + 1, 1, none⟩ = some (.int .i64 0) := by rw [cblk_cell b2]; rfl
    have m2 : wr.cell? ⟨w.heap.size + 1 + 1, 2, none⟩ = some (.int .i64 0) := by rw [cblk_cell b2]; rfl
    have m3 : wr.cell? ⟨w.heap.size + 1 + 1, 3, none⟩ = some (.int .i64 0) := by rw [cblk_cell b2]; rfl
    have n0 := cblk_free b2 0
    have n1 := cblk_free b2 1
    have n2 := cblk_free b2 2
    have n3 := cblk_free b2 3
    go_wp2_with fail
    go_quiet (fail)
    go_wp2_with fail
    have hil : i = a0.size := by omega
    have hres : res = .inr rows := by
     rw [HR.out, List.drop_eq_nil_of_le (by rw [size_of]; omega)]
     cases n <;> rfl
    have HH := H.out
    rw [hres] at HH
    obtain ⟨q1, q2⟩ := Prod.mk.inj HH
    obtain ⟨q2, q3⟩ := Prod.mk.inj q2
    obtain ⟨q3, q4⟩ := Prod.mk.inj q3
    obtain ⟨q4, q5⟩ := Prod.mk.inj q4
    subst q1
    refine leaves_cons (f := 52) (args := #[.pointer (some ⟨w.heap.size, 0, none⟩), .pointer (some ⟨w.heap.size + 1, 0, none⟩), .pointer (some ⟨w.heap.size + 1 + 1, 0, none⟩)]) (by simp) (by simp [go_sem]) ?_
    refine (catch_idle w.heap.size _).mono ?_
    rintro e7 u7 w7 ⟨rfl, rfl, hB7⟩
    obtain ⟨p1, p2, p3, p4⟩ := wstores (W := wr.drewN nq) (b1 := w.heap.size + 1) (b2 := w.heap.size + 1 + 1) (by omega) (v := .slice RA rows.length RC) b1 b2 w.heap.size (by omega) (by omega)
    have s1 := Kd.S_mono (Kd.S_step (Kd.S_bound (Kd.S_drewN hS nq)) (fun k hk _ => p4 k (by have := hk.2.1; omega) (by have := hk.2.1; omega))) (fun k hk => hk.1)
    have s2 := Kd.S_mono (Kd.S_lower (Kd.S_below s1 hB7) (show w.heap.size ≤ w.heap.size + 1 + 1 + 1 by omega)) (fun _ _ => trivial)
    have hlt1 := cblk_lt p1
    have hlt2 := cblk_lt p2
    refine ⟨_, wresults _ w7 _ _ _ _ _ _ _ rfl rfl ((hB7.block _ hlt1).trans p1) ((hB7.block _ hlt2).trans p2), ?_⟩
    exact ⟨_, by rw [← q2, ← q3, ← q4, ← q5], s2, hB4.trans (((pw_below_drewN (hB.mono (by omega)) nq).trans p3).trans (hB7.mono (Nat.le_trans hB4.size (Nat.le_trans hB.size p3.size))))⟩
 ·rw [if_neg hs] at h
  cases h
end Go.Proofs.YtjmmdphkgioooaaDoor.P
end
section
namespace Go.Proofs.YtjmmdphkgioooaaDoor.P
open Go.RowKit Go.Proofs.YtjmmdphkgioooaaDoorW.PrintWords Go.Proofs.YtjmmdphkgioooaaDoorW.PrintLast Go.Proofs.YtjmmdphkgioooaaDoorW.PrintMore
attribute [local go_sem] max2_int min2_int max_two min_two max_three min_three max_four min_four   -- for this text's walks alone
set_option linter.unusedVariables false
set_option linter.unusedSimpArgs false
/-! ### jlex_Judge: function 36 -/
def jlex_Judge.f (k : Nat) (a0 : ByteArray) : Option (Int × Int × Int × Int) := if (a0.size : Int) > 65536 then ((place_Fault.f k a0 (a0.size : Int) 2).bind fun bt227 => (some (bt227.1, bt227.2.1, bt227.2.2.1, bt227.2.2.2))) else ((utf_Valid.f k a0).bind fun bt231 => (if bt231.2 = true then (some (0, 0, 0, 0)) else ((place_Fault.f k a0 bt231.1 3).bind fun bt233 => (some (bt233.1, bt233.2.1, bt233.2.2.1, bt233.2.2.2)))))
set_option maxHeartbeats 8000000 in
set_option maxRecDepth 100000 in
theorem jlex_Judge.calls (k : Nat) (a0 : ByteArray) (r1 : Int) (r2 : Int) (r3 : Int) (r4 : Int) (w : World) (h : jlex_Judge.f k a0 = some (r1, r2, r3, r4)) :
  Calls Tryd.prog 36 #[.string a0] w fun e w' => e = .returned (.agg #[.int .i64 r1, .int .i64 r2, .int .i64 r3, .int .i64 r4]) ∧ Below w.heap.size w w' := by
 have hu30 := Tryd.underlying30
 have HB := Aside0.mk (Below.refl w.heap.size w)
 have H : (if (a0.size : Int) > 65536 then ((place_Fault.f k a0 (a0.size : Int) 2).bind fun bt227 => (some (bt227.1, bt227.2.1, bt227.2.2.1, bt227.2.2.2))) else ((utf_Valid.f k a0).bind fun bt231 => (if bt231.2 = true then (some (0, 0, 0, 0)) else ((place_Fault.f k a0 bt231.1 3).bind fun bt233 => (some (bt233.1, bt233.2.1, bt233.2.2.1, bt233.2.2.2)))))) = some (r1, r2, r3, r4) := h
 clear h
 by_cases c2 : (a0.size : Int) > 65536
 ·rw [if_pos c2] at H
  have c2b0 : decide (65536 < (a0.size : Int)) = true := decide_eq_true c2
  have c2b1 : decide (65536 < a0.size) = true := decide_eq_true (by omega)
  clear c2
  replace H := Option.bind_eq_some_iff.mp H
  obtain ⟨⟨t227, t228, t229, t230⟩, A30, H⟩ := H
  replace H : (some (t227, t228, t229, t230)) = some (r1, r2, r3, r4) := H
  have A3 := Aside0.mk A30
  clear A30
  simp only [Option.some.injEq, Prod.mk.injEq] at H
  obtain ⟨rfl, rfl, rfl, rfl⟩ := H
  go_enter Tryd.func36, Tryd.ntmps36
  go_wp2_with (first | ((with_reducible refine gate_dst (N := 2) rfl ?_); refine box_event ?hg (N := 2) ?hd (cs := #[.int .i64 0, .int .i64 0, .int .i64 0, .int .i64 0]) (t := 30) ?hr ?_; (case hd => rfl); (case hg => rfl); (case hr => first | (go_simp; done) | (go_simp; rfl)); intro gb226 hg w4 hbox hb; have n0_ := Aside0.mk (below_step (by repeat (first | (with_reducible first | exact HB.out | apply below_alloc | apply pw_below_drewN | apply below_drew1) | exact HB.out)) hb); have n1_ := Aside0.mk (hbox); have n2_ := Aside0.mk ((by rw [hg]; exact (below_size (by repeat (first | (with_reducible first | exact HB.out | apply below_alloc | apply pw_below_drewN | apply below_drew1) | exact HB.out))) : w.heap.size ≤ gb226)); have n3_ := Aside0.mk ((by rw [hg]; exact (below_size (by repeat (first | (with_reducible first | exact HB.out | apply below_alloc | apply pw_below_drewN | apply below_drew1) | exact HB.out))) : w.heap.size ≤ gb226)); clear HB; have HB := n0_; have BK226 := n1_; have GW226 := n2_; have GE226 := n3_; clear n0_ n1_ n2_ n3_; clear hb hbox hg) | ((with_reducible refine gate_callee (f := 51) rfl ?_); refine goesL_ (some 11) rfl rfl Tryd.func51 (by kernel_rfl) rfl #[.string a0, .int .i64 (a0.size : Int), .int .i64 2] rfl (by (try simp only [List.map_toArray, List.map_cons, List.map_nil]); first | done | rfl | (simp only [List.length_drop, List.length_take]; rfl)) ?_; (with_reducible refine (place_Fault.calls k a0 (a0.size : Int) 2 t227 t228 t229 t230 _ A3.out).mono ?_); rintro e w5 ⟨rfl, hb⟩; refine ⟨_, rfl, ?_⟩; have n0_ := Aside0.mk (blk_below (g := gb226) (o := .cells #[.int .i64 0, .int .i64 0, .int .i64 0, .int .i64 0] 30 (0, 0)) (by (with_reducible repeat (first | refine blk_drewN ?_ _ | refine blk_drew ?_ | refine blk_alloc ?_ _)); exact BK226.out) hb); have n1_ := Aside0.mk (below_step (by repeat (first | (with_reducible first | exact HB.out | apply below_alloc | apply pw_below_drewN | apply below_drew1 | refine below_set ?_ GE226.out) | exact HB.out)) hb); clear BK226; clear HB; have BK226 := n0_; have HB := n1_; clear n0_ n1_; (try clear hb); (try clear hb2); (try clear hk); (try clear hi); have hcz6_0 : w5.cell? ⟨gb226, 0, none⟩ = some (.int .i64 0) := (blk_cell BK226.out 0).trans rfl; have hcz6_1 : w5.cell? ⟨gb226, 1, none⟩ = some (.int .i64 0) := (blk_cell BK226.out 1).trans rfl; have hcz6_2 : w5.cell? ⟨gb226, 2, none⟩ = some (.int .i64 0) := (blk_cell BK226.out 2).trans rfl; have hcz6_3 : w5.cell? ⟨gb226, 3, none⟩ = some (.int .i64 0) := (blk_cell BK226.out 3).trans rfl; have hfz6_0 := blk_frozen BK226.out 0; have hfz6_1 := blk_frozen BK226.out 1; have hfz6_2 := blk_frozen BK226.out 2; have hfz6_3 := blk_frozen BK226.out 3))
  refine bodyPost_ret (results_cell_row rfl _ _ gb226 30 #[.int .i64 t227, .int .i64 t228, .int .i64 t229, .int .i64 t230] (0, 0) _ rfl (by (with_reducible repeat (first | refine blk_drewN ?_ _ | refine blk_drew ?_ | refine blk_alloc ?_ _)); refine blk_put (cs := #[.int .i64 t227, .int .i64 t228, .int .i64 t229, .int .i64 0]) ?_ 3 _ rfl; (with_reducible repeat (first | refine blk_drewN ?_ _ | refine blk_drew ?_ | refine blk_alloc ?_ _)); refine blk_put (cs := #[.int .i64 t227, .int .i64 t228, .int .i64 0, .int .i64 0]) ?_ 2 _ rfl; (with_reducible repeat (first | refine blk_drewN ?_ _ | refine blk_drew ?_ | refine blk_alloc ?_ _)); refine blk_put (cs := #[.int .i64 t227, .int .i64 0, .int .i64 0, .int .i64 0]) ?_ 1 _ rfl; (with_reducible repeat (first | refine blk_drewN ?_ _ | refine blk_drew ?_ | refine blk_alloc ?_ _)); refine blk_put (cs := #[.int .i64 0, .int .i64 0, .int .i64 0, .int .i64 0]) ?_ 0 _ rfl; (with_reducible repeat (first | refine blk_drewN ?_ _ | refine blk_drew ?_ | refine blk_alloc ?_ _)); exact BK226.out) Tryd.underlying30 rfl (by kernel_rfl)) rfl ?_
  exact ⟨by first | rfl | (simp [errW_none, errW_some] <;> rfl) | (simp [*, errW_none, errW_some, bne]; done) | (simp [*, errW_none, errW_some] <;> rfl), by repeat (first | (with_reducible first | exact HB.out | apply below_alloc | apply pw_below_drewN | apply below_drew1 | refine below_set ?_ GE226.out) | exact HB.out)⟩
 ·rw [if_neg c2] at H
  have c2b0 : decide (65536 < (a0.size : Int)) = false := decide_eq_false c2
  have c2b1 : decide (65536 < a0.size) = false := decide_eq_false (by omega)
  clear c2
  replace H := Option.bind_eq_some_iff.mp H
  obtain ⟨⟨t231, t232⟩, A70, H⟩ := H
  replace H : (if t232 = true then (some (0, 0, 0, 0)) else ((place_Fault.f k a0 t231 3).bind fun bt233 => (some (bt233.1, bt233.2.1, bt233.2.2.1, bt233.2.2.2)))) = some (r1, r2, r3, r4) := H
  have A7 := Aside0.mk A70
  clear A70
  by_cases c8 : t232 = true
  ·subst c8
   have H1 : (some (0, 0, 0, 0)) = some (r1, r2, r3, r4) := by rw [if_pos rfl] at H; exact H
   clear H
   have H := H1
   clear H1
   simp only [Option.some.injEq, Prod.mk.injEq] at H
   obtain ⟨rfl, rfl, rfl, rfl⟩ := H
   go_enter Tryd.func36, Tryd.ntmps36
   go_wp2_with (first | ((with_reducible refine gate_dst (N := 2) rfl ?_); refine box_event ?hg (N := 2) ?hd (cs := #[.int .i64 0, .int .i64 0, .int .i64 0, .int .i64 0]) (t := 30) ?hr ?_; (case hd => rfl); (case hg => rfl); (case hr => first | (go_simp; done) | (go_simp; rfl)); intro gb226 hg w9 hbox hb; have n0_ := Aside0.mk (below_step (by repeat (first | (with_reducible first | exact HB.out | apply below_alloc | apply pw_below_drewN | apply below_drew1) | exact HB.out)) hb); have n1_ := Aside0.mk (hbox); have n2_ := Aside0.mk ((by rw [hg]; exact (below_size (by repeat (first | (with_reducible first | exact HB.out | apply below_alloc | apply pw_below_drewN | apply below_drew1) | exact HB.out))) : w.heap.size ≤ gb226)); have n3_ := Aside0.mk ((by rw [hg]; exact (below_size (by repeat (first | (with_reducible first | exact HB.out | apply below_alloc | apply pw_below_drewN | apply below_drew1) | exact HB.out))) : w.heap.size ≤ gb226)); clear HB; have HB := n0_; have BK226 := n1_; have GW226 := n2_; have GE226 := n3_; clear n0_ n1_ n2_ n3_; clear hb hbox hg) | ((with_reducible refine gate_callee (f := 19) rfl ?_); refine goesL_ (some 14) rfl rfl Tryd.func19 (by kernel_rfl) rfl #[.string a0] rfl (by (try simp only [List.map_toArray, List.map_cons, List.map_nil]); first | done | rfl | (simp only [List.length_drop, List.length_take]; rfl)) ?_; (with_reducible refine (utf_Valid.calls k a0 t231 true _ A7.out).mono ?_); rintro e w' ⟨rfl, ⟨nd, rfl⟩⟩; refine ⟨_, rfl, ?_⟩; (try (rw [drewN_self w9]; generalize hq_ : World.drewN w9 _ = w9; have n0_ : Aside0 (w9.heap[gb226]? = some (.cells #[.int .i64 0, .int .i64 0, .int .i64 0, .int .i64 0] 30 (0, 0))) := ⟨by rw [← hq_]; exact (by (with_reducible repeat (first | refine blk_drewN ?_ _ | refine blk_drew ?_ | refine blk_alloc ?_ _)); exact BK226.out)⟩; have n1_ : Aside0 (Below w.heap.size w w9) := ⟨by rw [← hq_]; exact (by repeat (first | (with_reducible first | exact HB.out | apply below_alloc | apply pw_below_drewN | apply below_drew1 | refine below_set ?_ GE226.out) | exact HB.out))⟩; clear BK226 HB hq_; have BK226 := n0_; have HB := n1_; clear n0_ n1_)); have hcz10_0 : w9.cell? ⟨gb226, 0, none⟩ = some (.int .i64 0) := (blk_cell BK226.out 0).trans rfl; have hcz10_1 : w9.cell? ⟨gb226, 1, none⟩ = some (.int .i64 0) := (blk_cell BK226.out 1).trans rfl; have hcz10_2 : w9.cell? ⟨gb226, 2, none⟩ = some (.int .i64 0) := (blk_cell BK226.out 2).trans rfl; have hcz10_3 : w9.cell? ⟨gb226, 3, none⟩ = some (.int .i64 0) := (blk_cell BK226.out 3).trans rfl; have hfz10_0 := blk_frozen BK226.out 0; have hfz10_1 := blk_frozen BK226.out 1; have hfz10_2 := blk_frozen BK226.out 2; have hfz10_3 := blk_frozen BK226.out 3))
   refine bodyPost_ret (results_cell_row rfl _ _ gb226 30 #[.int .i64 0, .int .i64 0, .int .i64 0, .int .i64 0] (0, 0) _ rfl (by (with_reducible repeat (first | refine blk_drewN ?_ _ | refine blk_drew ?_ | refine blk_alloc ?_ _)); refine blk_put (cs := #[.int .i64 0, .int .i64 0, .int .i64 0, .int .i64 0]) ?_ 3 _ rfl; (with_reducible repeat (first | refine blk_drewN ?_ _ | refine blk_drew ?_ | refine blk_alloc ?_ _)); refine blk_put (cs := #[.int .i64 0, .int .i64 0, .int .i64 0, .int .i64 0]) ?_ 2 _ rfl; (with_reducible repeat (first | refine blk_drewN ?_ _ | refine blk_drew ?_ | refine blk_alloc ?_ _)); refine blk_put (cs := #[.int .i64 0, .int .i64 0, .int .i64 0, .int .i64 0]) ?_ 1 _ rfl; (with_reducible repeat (first | refine blk_drewN ?_ _ | refine blk_drew ?_ | refine blk_alloc ?_ _)); refine blk_put (cs := #[.int .i64 0, .int .i64 0, .int .i64 0, .int .i64 0]) ?_ 0 _ rfl; (with_reducible repeat (first | refine blk_drewN ?_ _ | refine blk_drew ?_ | refine blk_alloc ?_ _)); exact BK226.out) Tryd.underlying30 rfl (by kernel_rfl)) rfl ?_
   exact ⟨by first | rfl | (simp [errW_none, errW_some] <;> rfl) | (simp [*, errW_none, errW_some, bne]; done) | (simp [*, errW_none, errW_some] <;> rfl), by repeat (first | (with_reducible first | exact HB.out | apply below_alloc | apply pw_below_drewN | apply below_drew1 | refine below_set ?_ GE226.out) | exact HB.out)⟩
  ·replace c8 := Bool.eq_false_iff.mpr c8
   subst c8
   have H1 : ((place_Fault.f k a0 t231 3).bind fun bt233 => (some (bt233.1, bt233.2.1, bt233.2.2.1, bt233.2.2.2))) = some (r1, r2, r3, r4) := by rw [if_neg (show ¬ (false = true) by decide)] at H; exact H
   clear H
   have H := H1
   clear H1
   replace H := Option.bind_eq_some_iff.mp H
   obtain ⟨⟨t233, t234, t235, t236⟩, A110, H⟩ := H
   replace H : (some (t233, t234, t235, t236)) = some (r1, r2, r3, r4) := H
   have A11 := Aside0.mk A110
   clear A110
   simp only [Option.some.injEq, Prod.mk.injEq] at H
   obtain ⟨rfl, rfl, rfl, rfl⟩ := H
   go_enter Tryd.func36, Tryd.ntmps36
   go_wp2_with (first | ((with_reducible refine gate_dst (N := 2) rfl ?_); refine box_event ?hg (N := 2) ?hd (cs := #[.int .i64 0, .int .i64 0, .int .i64 0, .int .i64 0]) (t := 30) ?hr ?_; (case hd => rfl); (case hg => rfl); (case hr => first | (go_simp; done) | (go_simp; rfl)); intro gb226 hg w12 hbox hb; have n0_ := Aside0.mk (below_step (by repeat (first | (with_reducible first | exact HB.out | apply below_alloc | apply pw_below_drewN | apply below_drew1) | exact HB.out)) hb); have n1_ := Aside0.mk (hbox); have n2_ := Aside0.mk ((by rw [hg]; exact (below_size (by repeat (first | (with_reducible first | exact HB.out | apply below_alloc | apply pw_below_drewN | apply below_drew1) | exact HB.out))) : w.heap.size ≤ gb226)); have n3_ := Aside0.mk ((by rw [hg]; exact (below_size (by repeat (first | (with_reducible first | exact HB.out | apply below_alloc | apply pw_below_drewN | apply below_drew1) | exact HB.out))) : w.heap.size ≤ gb226)); clear HB; have HB := n0_; have BK226 := n1_; have GW226 := n2_; have GE226 := n3_; clear n0_ n1_ n2_ n3_; clear hb hbox hg) | ((with_reducible refine gate_callee (f := 19) rfl ?_); refine goesL_ (some 14) rfl rfl Tryd.func19 (by kernel_rfl) rfl #[.string a0] rfl (by (try simp only [List.map_toArray, List.map_cons, List.map_nil]); first | done | rfl | (simp only [List.length_drop, List.length_take]; rfl)) ?_; (with_reducible refine (utf_Valid.calls k a0 t231 false _ A7.out).mono ?_); rintro e w' ⟨rfl, ⟨nd, rfl⟩⟩; refine ⟨_, rfl, ?_⟩; (try (rw [drewN_self w12]; generalize hq_ : World.drewN w12 _ = w12; have n0_ : Aside0 (w12.heap[gb226]? = some (.cells #[.int .i64 0, .int .i64 0, .int .i64 0, .int .i64 0] 30 (0, 0))) := ⟨by rw [← hq_]; exact (by (with_reducible repeat (first | refine blk_drewN ?_ _ | refine blk_drew ?_ | refine blk_alloc ?_ _)); exact BK226.out)⟩; have n1_ : Aside0 (Below w.heap.size w w12) := ⟨by rw [← hq_]; exact (by repeat (first | (with_reducible first | exact HB.out | apply below_alloc | apply pw_below_drewN | apply below_drew1 | refine below_set ?_ GE226.out) | exact HB.out))⟩; clear BK226 HB hq_; have BK226 := n0_; have HB := n1_; clear n0_ n1_))) | ((with_reducible refine gate_callee (f := 51) rfl ?_); refine goesL_ (some 21) rfl rfl Tryd.func51 (by kernel_rfl) rfl #[.string a0, .int .i64 t231, .int .i64 3] rfl (by (try simp only [List.map_toArray, List.map_cons, List.map_nil]); first | done | rfl | (simp only [List.length_drop, List.length_take]; rfl)) ?_; (with_reducible refine (place_Fault.calls k a0 t231 3 t233 t234 t235 t236 _ A11.out).mono ?_); rintro e w13 ⟨rfl, hb⟩; refine ⟨_, rfl, ?_⟩; have n0_ := Aside0.mk (blk_below (g := gb226) (o := .cells #[.int .i64 0, .int .i64 0, .int .i64 0, .int .i64 0] 30 (0, 0)) (by (with_reducible repeat (first | refine blk_drewN ?_ _ | refine blk_drew ?_ | refine blk_alloc ?_ _)); exact BK226.out) hb); have n1_ := Aside0.mk (below_step (by repeat (first | (with_reducible first | exact HB.out | apply below_alloc | apply pw_below_drewN | apply below_drew1 | refine below_set ?_ GE226.out) | exact HB.out)) hb); clear BK226; clear HB; have BK226 := n0_; have HB := n1_; clear n0_ n1_; (try clear hb); (try clear hb2); (try clear hk); (try clear hi); have hcz14_0 : w13.cell? ⟨gb226, 0, none⟩ = some (.int .i64 0) := (blk_cell BK226.out 0).trans rfl; have hcz14_1 : w13.cell? ⟨gb226, 1, none⟩ = some (.int .i64 0) := (blk_cell BK226.out 1).trans rfl; have hcz14_2 : w13.cell? ⟨gb226, 2, none⟩ = some (.int .i64 0) := (blk_cell BK226.out 2).trans rfl; have hcz14_3 : w13.cell? ⟨gb226, 3, none⟩ = some (.int .i64 0) := (blk_cell BK226.out 3).trans rfl; have hfz14_0 := blk_frozen BK226.out 0; have hfz14_1 := blk_frozen BK226.out 1; have hfz14_2 := blk_frozen BK226.out 2; have hfz14_3 := blk_frozen BK226.out 3))
   refine bodyPost_ret (results_cell_row rfl _ _ gb226 30 #[.int .i64 t233, .int .i64 t234, .int .i64 t235, .int .i64 t236] (0, 0) _ rfl (by (with_reducible repeat (first | refine blk_drewN ?_ _ | refine blk_drew ?_ | refine blk_alloc ?_ _)); refine blk_put (cs := #[.int .i64 t233, .int .i64 t234, .int .i64 t235, .int .i64 0]) ?_ 3 _ rfl; (with_reducible repeat (first | refine blk_drewN ?_ _ | refine blk_drew ?_ | refine blk_alloc ?_ _)); refine blk_put (cs := #[.int .i64 t233, .int .i64 t234, .int .i64 0, .int .i64 0]) ?_ 2 _ rfl; (with_reducible repeat (first | refine blk_drewN ?_ _ | refine blk_drew ?_ | refine blk_alloc ?_ _)); refine blk_put (cs := #[.int .i64 t233, .int .i64 0, .int .i64 0, .int .i64 0]) ?_ 1 _ rfl; (with_reducible repeat (first | refine blk_drewN ?_ _ | refine blk_drew ?_ | refine blk_alloc ?_ _)); refine blk_put (cs := #[.int .i64 0, .int .i64 0, .int .i64 0, .int .i64 0]) ?_ 0 _ rfl; (with_reducible repeat (first | refine blk_drewN ?_ _ | refine blk_drew ?_ | refine blk_alloc ?_ _)); exact BK226.out) Tryd.underlying30 rfl (by kernel_rfl)) rfl ?_
   exact ⟨by first | rfl | (simp [errW_none, errW_some] <;> rfl) | (simp [*, errW_none, errW_some, bne]; done) | (simp [*, errW_none, errW_some] <;> rfl), by repeat (first | (with_reducible first | exact HB.out | apply below_alloc | apply pw_below_drewN | apply below_drew1 | refine below_set ?_ GE226.out) | exact HB.out)⟩
end Go.Proofs.YtjmmdphkgioooaaDoor.P
end
section
namespace Go.Proofs.YtjmmdphkgioooaaDoor.P
open Go.RowKit Go.Proofs.YtjmmdphkgioooaaDoorW.PrintWords Go.Proofs.YtjmmdphkgioooaaDoorW.PrintLast Go.Proofs.YtjmmdphkgioooaaDoorW.PrintMore
attribute [local go_sem] max2_int min2_int max_two min_two max_three min_three max_four min_four   -- for this text's walks alone
set_option linter.unusedVariables false
set_option linter.unusedSimpArgs false
/-! ### cread_Fields: function 27 -/
def cread_Fields.f (k : Nat) (a0 : ByteArray) : Option ((List (List (S57))) × Int × Int × Int × Int) := (jlex_Judge.f k a0).bind fun bt245 => (if bt245.1 = 0 then ((cread_whole.f a0).bind fun bt250 => (some (bt250.1, bt250.2.1, bt250.2.2.1, bt250.2.2.2.1, bt250.2.2.2.2))) else (some (([] : List (List (S57))), bt245.1, bt245.2.1, bt245.2.2.1, bt245.2.2.2)))
set_option maxHeartbeats 8000000 in
set_option maxRecDepth 100000 in
theorem cread_Fields.calls (k : Nat) (a0 : ByteArray) (r1 : List (List (S57))) (r2 : Int) (r3 : Int) (r4 : Int) (r5 : Int) (w : World) (h : cread_Fields.f k a0 = some (r1, r2, r3, r4, r5)) :
  Calls Tryd.prog 27 #[.string a0] w fun e w' => ∃ v0_ : Value, e = .returned (.tuple #[v0_, .agg #[.int .i64 r2, .int .i64 r3, .int .i64 r4, .int .i64 r5]]) ∧ Kd.S (Kd.slice 57 k57) 55 w' w.heap.size (fun _ => True) v0_ r1 ∧ Below w.heap.size w w' := by
 have hu30 := Tryd.underlying30
 have HB := Aside0.mk (Below.refl w.heap.size w)
 have H : ((jlex_Judge.f k a0).bind fun bt245 => (if bt245.1 = 0 then ((cread_whole.f a0).bind fun bt250 => (some (bt250.1, bt250.2.1, bt250.2.2.1, bt250.2.2.2.1, bt250.2.2.2.2))) else (some (([] : List (List (S57))), bt245.1, bt245.2.1, bt245.2.2.1, bt245.2.2.2)))) = some (r1, r2, r3, r4, r5) := h
 clear h
 replace H := Option.bind_eq_some_iff.mp H
 obtain ⟨⟨t245, t246, t247, t248⟩, A20, H⟩ := H
 replace H : (if t245 = 0 then ((cread_whole.f a0).bind fun bt250 => (some (bt250.1, bt250.2.1, bt250.2.2.1, bt250.2.2.2.1, bt250.2.2.2.2))) else (some (([] : List (List (S57))), t245, t246, t247, t248))) = some (r1, r2, r3, r4, r5) := H
 have A2 := Aside0.mk A20
 clear A20
 by_cases c3 : t245 = 0
 ·rw [if_pos c3] at H
  have c3b0 : (t245 == 0) = true := beq_iff_eq.mpr c3
  have c3b1 : (t245 != 0) = false := bne_eq_false_iff_eq.mpr c3
  clear c3
  replace H := Option.bind_eq_some_iff.mp H
  obtain ⟨⟨t250, t253, t254, t255, t256⟩, A40, H⟩ := H
  replace H : (some (t250, t253, t254, t255, t256)) = some (r1, r2, r3, r4, r5) := H
  have A4 := Aside0.mk A40
  clear A40
  simp only [Option.some.injEq, Prod.mk.injEq] at H
  obtain ⟨rfl, rfl, rfl, rfl, rfl⟩ := H
  go_enter Tryd.func27, Tryd.ntmps27
  go_wp2_with (first | ((with_reducible refine gate_dst (N := 3) rfl ?_); refine box_event ?hg (N := 3) ?hd (cs := #[.int .i64 0, .int .i64 0, .int .i64 0, .int .i64 0]) (t := 30) ?hr ?_; (case hd => rfl); (case hg => rfl); (case hr => first | (go_simp; done) | (go_simp; rfl)); intro gb244 hg w5 hbox hb; have n0_ := Aside0.mk (below_step (by repeat (first | (with_reducible first | exact HB.out | apply below_alloc | apply pw_below_drewN | apply below_drew1) | exact HB.out)) hb); have n1_ := Aside0.mk (hbox); have n2_ := Aside0.mk ((by rw [hg]; exact (below_size (by repeat (first | (with_reducible first | exact HB.out | apply below_alloc | apply pw_below_drewN | apply below_drew1) | exact HB.out))) : w.heap.size ≤ gb244)); have n3_ := Aside0.mk ((by rw [hg]; exact (below_size (by repeat (first | (with_reducible first | exact HB.out | apply below_alloc | apply pw_below_drewN | apply below_drew1) | exact HB.out))) : w.heap.size ≤ gb244)); clear HB; have HB := n0_; have BK244 := n1_; have GW244 := n2_; have GE244 := n3_; clear n0_ n1_ n2_ n3_; clear hb hbox hg) | ((with_reducible refine gate_callee (f := 36) rfl ?_); refine goesL_ (some 6) rfl rfl Tryd.func36 (by kernel_rfl) rfl #[.string a0] rfl (by (try simp only [List.map_toArray, List.map_cons, List.map_nil]); first | done | rfl | (simp only [List.length_drop, List.length_take]; rfl)) ?_; (with_reducible refine (jlex_Judge.calls k a0 t245 t246 t247 t248 _ A2.out).mono ?_); rintro e w6 ⟨rfl, hb⟩; refine ⟨_, rfl, ?_⟩; have n0_ := Aside0.mk (blk_below (g := gb244) (o := .cells #[.int .i64 0, .int .i64 0, .int .i64 0, .int .i64 0] 30 (0, 0)) (by (with_reducible repeat (first | refine blk_drewN ?_ _ | refine blk_drew ?_ | refine blk_alloc ?_ _)); exact BK244.out) hb); have n1_ := Aside0.mk (below_step (by repeat (first | (with_reducible first | exact HB.out | apply below_alloc | apply pw_below_drewN | apply below_drew1 | refine below_set ?_ GE244.out) | exact HB.out)) hb); clear BK244; clear HB; have BK244 := n0_; have HB := n1_; clear n0_ n1_; (try clear hb); (try clear hb2); (try clear hk); (try clear hi)) | ((with_reducible refine gate_dst (N := 4) rfl ?_); refine box_event ?hg (N := 4) ?hd (cs := #[.int .i64 0, .int .i64 0, .int .i64 0, .int .i64 0]) (t := 30) ?hr ?_; (case hd => rfl); (case hg => rfl); (case hr => first | (go_simp; done) | (go_simp; rfl)); intro gb249 hg w7 hbox hb; have n0_ := Aside0.mk (blk_below (g := gb244) (o := .cells #[.int .i64 0, .int .i64 0, .int .i64 0, .int .i64 0] 30 (0, 0)) (by (with_reducible repeat (first | refine blk_drewN ?_ _ | refine blk_drew ?_ | refine blk_alloc ?_ _)); exact BK244.out) hb); have n1_ := Aside0.mk (below_step (by repeat (first | (with_reducible first | exact HB.out | apply below_alloc | apply pw_below_drewN | apply below_drew1 | refine below_set ?_ GE244.out) | exact HB.out)) hb); have n2_ := Aside0.mk (hbox); have n3_ := Aside0.mk ((by rw [hg]; exact (below_size (by repeat (first | (with_reducible first | exact HB.out | apply below_alloc | apply pw_below_drewN | apply below_drew1 | refine below_set ?_ GE244.out) | exact HB.out))) : w.heap.size ≤ gb249)); have n4_ := Aside0.mk ((by rw [hg]; exact (below_size (by repeat (first | (with_reducible first | exact HB.out | apply below_alloc | apply pw_below_drewN | apply below_drew1 | refine below_set ?_ GE244.out) | exact HB.out))) : w.heap.size ≤ gb249)); have n5_ := Aside0.mk ((by rw [hg]; exact Nat.ne_of_lt (blk_lt (g := gb244) (o := .cells #[.int .i64 0, .int .i64 0, .int .i64 0, .int .i64 0] 30 (0, 0)) (by (with_reducible repeat (first | refine blk_drewN ?_ _ | refine blk_drew ?_ | refine blk_alloc ?_ _)); exact BK244.out)) : gb244 ≠ gb249)); have n6_ := Aside0.mk ((by rw [hg]; exact Nat.ne_of_gt (blk_lt (g := gb244) (o := .cells #[.int .i64 0, .int .i64 0, .int .i64 0, .int .i64 0] 30 (0, 0)) (by (with_reducible repeat (first | refine blk_drewN ?_ _ | refine blk_drew ?_ | refine blk_alloc ?_ _)); exact BK244.out)) : gb249 ≠ gb244)); clear BK244; clear HB; have BK244 := n0_; have HB := n1_; have BK249 := n2_; have GW249 := n3_; have GE249 := n4_; have NB244_249 := n5_; have NB249_244 := n6_; clear n0_ n1_ n2_ n3_ n4_ n5_ n6_; clear hb hbox hg; have hnb8 := NB249_244.out; have hnc8 := NB244_249.out; have hcz9_0 : w7.cell? ⟨gb249, 0, none⟩ = some (.int .i64 0) := (blk_cell BK249.out 0).trans rfl; have hcz9_1 : w7.cell? ⟨gb249, 1, none⟩ = some (.int .i64 0) := (blk_cell BK249.out 1).trans rfl; have hcz9_2 : w7.cell? ⟨gb249, 2, none⟩ = some (.int .i64 0) := (blk_cell BK249.out 2).trans rfl; have hcz9_3 : w7.cell? ⟨gb249, 3, none⟩ = some (.int .i64 0) := (blk_cell BK249.out 3).trans rfl; have hfz9_0 := blk_frozen BK249.out 0; have hfz9_1 := blk_frozen BK249.out 1; have hfz9_2 := blk_frozen BK249.out 2; have hfz9_3 := blk_frozen BK249.out 3) | ((with_reducible refine gate_callee (f := 37) rfl ?_); refine goesL_ (some 12) rfl rfl Tryd.func37 (by kernel_rfl) rfl #[.string a0] rfl (by (try simp only [List.map_toArray, List.map_cons, List.map_nil]); first | done | rfl | (simp only [List.length_drop, List.length_take]; rfl)) ?_; (with_reducible refine (cread_whole.calls a0 t250 t253 t254 t255 t256 _ A4.out).mono ?_); rintro e w10 ⟨v251, rfl, ho0, hb⟩; refine ⟨_, rfl, ?_⟩; have n0_ := Aside0.mk (Kd.S_lower ho0 (below_size (by repeat (first | (with_reducible first | exact HB.out | apply below_alloc | apply pw_below_drewN | apply below_drew1 | refine below_set ?_ GE244.out | refine below_set ?_ GE249.out) | exact HB.out)))); have n1_ := Aside0.mk (blk_below (g := gb244) (o := .cells #[.int .i64 0, .int .i64 0, .int .i64 0, .int .i64 0] 30 (0, 0)) (by (with_reducible repeat (first | refine blk_drewN ?_ _ | refine blk_drew ?_ | refine blk_alloc ?_ _)); refine blk_far ?_ NB244_249.out _; (with_reducible repeat (first | refine blk_drewN ?_ _ | refine blk_drew ?_ | refine blk_alloc ?_ _)); refine blk_far ?_ NB244_249.out _; (with_reducible repeat (first | refine blk_drewN ?_ _ | refine blk_drew ?_ | refine blk_alloc ?_ _)); refine blk_far ?_ NB244_249.out _; (with_reducible repeat (first | refine blk_drewN ?_ _ | refine blk_drew ?_ | refine blk_alloc ?_ _)); refine blk_far ?_ NB244_249.out _; (with_reducible repeat (first | refine blk_drewN ?_ _ | refine blk_drew ?_ | refine blk_alloc ?_ _)); exact BK244.out) hb); have n2_ := Aside0.mk (blk_below (g := gb249) (o := .cells #[.int .i64 t245, .int .i64 t246, .int .i64 t247, .int .i64 t248] 30 (0, 0)) (by (with_reducible repeat (first | refine blk_drewN ?_ _ | refine blk_drew ?_ | refine blk_alloc ?_ _)); refine blk_put (cs := #[.int .i64 t245, .int .i64 t246, .int .i64 t247, .int .i64 0]) ?_ 3 _ rfl; (with_reducible repeat (first | refine blk_drewN ?_ _ | refine blk_drew ?_ | refine blk_alloc ?_ _)); refine blk_put (cs := #[.int .i64 t245, .int .i64 t246, .int .i64 0, .int .i64 0]) ?_ 2 _ rfl; (with_reducible repeat (first | refine blk_drewN ?_ _ | refine blk_drew ?_ | refine blk_alloc ?_ _)); refine blk_put (cs := #[.int .i64 t245, .int .i64 0, .int .i64 0, .int .i64 0]) ?_ 1 _ rfl; (with_reducible repeat (first | refine blk_drewN ?_ _ | refine blk_drew ?_ | refine blk_alloc ?_ _)); refine blk_put (cs := #[.int .i64 0, .int .i64 0, .int .i64 0, .int .i64 0]) ?_ 0 _ rfl; (with_reducible repeat (first | refine blk_drewN ?_ _ | refine blk_drew ?_ | refine blk_alloc ?_ _)); exact BK249.out) hb); have n3_ := Aside0.mk (below_step (by repeat (first | (with_reducible first | exact HB.out | apply below_alloc | apply pw_below_drewN | apply below_drew1 | refine below_set ?_ GE244.out | refine below_set ?_ GE249.out) | exact HB.out)) hb); clear BK244; clear BK249; clear HB; have HO252 := n0_; have BK244 := n1_; have BK249 := n2_; have HB := n3_; clear n0_ n1_ n2_ n3_; (try clear hb); (try clear hb2); (try clear hk); (try clear hi); (try clear ho0); have hcz11_0 : w10.cell? ⟨gb244, 0, none⟩ = some (.int .i64 0) := (blk_cell BK244.out 0).trans rfl; have hcz11_1 : w10.cell? ⟨gb244, 1, none⟩ = some (.int .i64 0) := (blk_cell BK244.out 1).trans rfl; have hcz11_2 : w10.cell? ⟨gb244, 2, none⟩ = some (.int .i64 0) := (blk_cell BK244.out 2).trans rfl; have hcz11_3 : w10.cell? ⟨gb244, 3, none⟩ = some (.int .i64 0) := (blk_cell BK244.out 3).trans rfl; have hfz11_0 := blk_frozen BK244.out 0; have hfz11_1 := blk_frozen BK244.out 1; have hfz11_2 := blk_frozen BK244.out 2; have hfz11_3 := blk_frozen BK244.out 3))
  refine bodyPost_ret (results_tc rfl _ _ gb244 30 #[.int .i64 t253, .int .i64 t254, .int .i64 t255, .int .i64 t256] (0, 0) _ rfl (by (with_reducible repeat (first | refine blk_drewN ?_ _ | refine blk_drew ?_ | refine blk_alloc ?_ _)); refine blk_put (cs := #[.int .i64 t253, .int .i64 t254, .int .i64 t255, .int .i64 0]) ?_ 3 _ rfl; (with_reducible repeat (first | refine blk_drewN ?_ _ | refine blk_drew ?_ | refine blk_alloc ?_ _)); refine blk_put (cs := #[.int .i64 t253, .int .i64 t254, .int .i64 0, .int .i64 0]) ?_ 2 _ rfl; (with_reducible repeat (first | refine blk_drewN ?_ _ | refine blk_drew ?_ | refine blk_alloc ?_ _)); refine blk_put (cs := #[.int .i64 t253, .int .i64 0, .int .i64 0, .int .i64 0]) ?_ 1 _ rfl; (with_reducible repeat (first | refine blk_drewN ?_ _ | refine blk_drew ?_ | refine blk_alloc ?_ _)); refine blk_put (cs := #[.int .i64 0, .int .i64 0, .int .i64 0, .int .i64 0]) ?_ 0 _ rfl; (with_reducible repeat (first | refine blk_drewN ?_ _ | refine blk_drew ?_ | refine blk_alloc ?_ _)); exact BK244.out) Tryd.underlying30 rfl (by kernel_rfl)) rfl ?_
  exact ⟨_, by first | rfl | (simp [errW_none, errW_some] <;> rfl) | (simp [*, errW_none, errW_some, bne]; done) | (simp [*, errW_none, errW_some] <;> rfl), by (with_reducible repeat (first | apply Kd.S_alloc | apply Kd.S_drewN | apply Kd.S_drew)); exact Kd.S_mono (Kd.S_far (p := ⟨gb244, 3, none⟩) (Kd.S_far (p := ⟨gb244, 2, none⟩) (Kd.S_far (p := ⟨gb244, 1, none⟩) (Kd.S_far (p := ⟨gb244, 0, none⟩) (Kd.S_types HO252.out BK244.out (by decide)) (fun _ hk => hk.2) (.int .i64 t253)) (fun _ hk => hk.2) (.int .i64 t254)) (fun _ hk => hk.2) (.int .i64 t255)) (fun _ hk => hk.2) (.int .i64 t256)) (fun _ hk => trivial), by repeat (first | (with_reducible first | exact HB.out | apply below_alloc | apply pw_below_drewN | apply below_drew1 | refine below_set ?_ GE244.out | refine below_set ?_ GE249.out) | exact HB.out)⟩
 ·rw [if_neg c3] at H
  have c3b0 : (t245 == 0) = false := beq_eq_false_iff_ne.mpr c3
  have c3b1 : (t245 != 0) = true := bne_iff_ne.mpr c3
  simp only [Option.some.injEq, Prod.mk.injEq] at H
  obtain ⟨rfl, rfl, rfl, rfl, rfl⟩ := H
  go_enter Tryd.func27, Tryd.ntmps27
  try go_wp2_with (first | ((with_reducible refine gate_dst (N := 3) rfl ?_); refine box_event ?hg (N := 3) ?hd (cs := #[.int .i64 0, .int .i64 0, .int .i64 0, .int .i64 0]) (t := 30) ?hr ?_; (case hd => rfl); (case hg => rfl); (case hr => first | (go_simp; done) | (go_simp; rfl)); intro gb244 hg w12 hbox hb; have n0_ := Aside0.mk (below_step (by repeat (first | (with_reducible first | exact HB.out | apply below_alloc | apply pw_below_drewN | apply below_drew1) | exact HB.out)) hb); have n1_ := Aside0.mk (hbox); have n2_ := Aside0.mk ((by rw [hg]; exact (below_size (by repeat (first | (with_reducible first | exact HB.out | apply below_alloc | apply pw_below_drewN | apply below_drew1) | exact HB.out))) : w.heap.size ≤ gb244)); have n3_ := Aside0.mk ((by rw [hg]; exact (below_size (by repeat (first | (with_reducible first | exact HB.out | apply below_alloc | apply pw_below_drewN | apply below_drew1) | exact HB.out))) : w.heap.size ≤ gb244)); clear HB; have HB := n0_; have BK244 := n1_; have GW244 := n2_; have GE244 := n3_; clear n0_ n1_ n2_ n3_; clear hb hbox hg) | ((with_reducible refine gate_callee (f := 36) rfl ?_); refine goesL_ (some 6) rfl rfl Tryd.func36 (by kernel_rfl) rfl #[.string a0] rfl (by (try simp only [List.map_toArray, List.map_cons, List.map_nil]); first | done | rfl | (simp only [List.length_drop, List.length_take]; rfl)) ?_; (with_reducible refine (jlex_Judge.calls k a0 t245 t246 t247 t248 _ A2.out).mono ?_); rintro e w13 ⟨rfl, hb⟩; refine ⟨_, rfl, ?_⟩; have n0_ := Aside0.mk (blk_below (g := gb244) (o := .cells #[.int .i64 0, .int .i64 0, .int .i64 0, .int .i64 0] 30 (0, 0)) (by (with_reducible repeat (first | refine blk_drewN ?_ _ | refine blk_drew ?_ | refine blk_alloc ?_ _)); exact BK244.out) hb); have n1_ := Aside0.mk (below_step (by repeat (first | (with_reducible first | exact HB.out | apply below_alloc | apply pw_below_drewN | apply below_drew1 | refine below_set ?_ GE244.out) | exact HB.out)) hb); clear BK244; clear HB; have BK244 := n0_; have HB := n1_; clear n0_ n1_; (try clear hb); (try clear hb2); (try clear hk); (try clear hi)) | ((with_reducible refine gate_dst (N := 4) rfl ?_); refine box_event ?hg (N := 4) ?hd (cs := #[.int .i64 0, .int .i64 0, .int .i64 0, .int .i64 0]) (t := 30) ?hr ?_; (case hd => rfl); (case hg => rfl); (case hr => first | (go_simp; done) | (go_simp; rfl)); intro gb249 hg w14 hbox hb; have n0_ := Aside0.mk (blk_below (g := gb244) (o := .cells #[.int .i64 0, .int .i64 0, .int .i64 0, .int .i64 0] 30 (0, 0)) (by (with_reducible repeat (first | refine blk_drewN ?_ _ | refine blk_drew ?_ | refine blk_alloc ?_ _)); exact BK244.out) hb); have n1_ := Aside0.mk (below_step (by repeat (first | (with_reducible first | exact HB.out | apply below_alloc | apply pw_below_drewN | apply below_drew1 | refine below_set ?_ GE244.out) | exact HB.out)) hb); have n2_ := Aside0.mk (hbox); have n3_ := Aside0.mk ((by rw [hg]; exact (below_size (by repeat (first | (with_reducible first | exact HB.out | apply below_alloc | apply pw_below_drewN | apply below_drew1 | refine below_set ?_ GE244.out) | exact HB.out))) : w.heap.size ≤ gb249)); have n4_ := Aside0.mk ((by rw [hg]; exact (below_size (by repeat (first | (with_reducible first | exact HB.out | apply below_alloc | apply pw_below_drewN | apply below_drew1 | refine below_set ?_ GE244.out) | exact HB.out))) : w.heap.size ≤ gb249)); have n5_ := Aside0.mk ((by rw [hg]; exact Nat.ne_of_lt (blk_lt (g := gb244) (o := .cells #[.int .i64 0, .int .i64 0, .int .i64 0, .int .i64 0] 30 (0, 0)) (by (with_reducible repeat (first | refine blk_drewN ?_ _ | refine blk_drew ?_ | refine blk_alloc ?_ _)); exact BK244.out)) : gb244 ≠ gb249)); have n6_ := Aside0.mk ((by rw [hg]; exact Nat.ne_of_gt (blk_lt (g := gb244) (o := .cells #[.int .i64 0, .int .i64 0, .int .i64 0, .int .i64 0] 30 (0, 0)) (by (with_reducible repeat (first | refine blk_drewN ?_ _ | refine blk_drew ?_ | refine blk_alloc ?_ _)); exact BK244.out)) : gb249 ≠ gb244)); clear BK244; clear HB; have BK244 := n0_; have HB := n1_; have BK249 := n2_; have GW249 := n3_; have GE249 := n4_; have NB244_249 := n5_; have NB249_244 := n6_; clear n0_ n1_ n2_ n3_ n4_ n5_ n6_; clear hb hbox hg; have hnb15 := NB249_244.out; have hnc15 := NB244_249.out; have hcz16_0 : w14.cell? ⟨gb249, 0, none⟩ = some (.int .i64 0) := (blk_cell BK249.out 0).trans rfl; have hcz16_1 : w14.cell? ⟨gb249, 1, none⟩ = some (.int .i64 0) := (blk_cell BK249.out 1).trans rfl; have hcz16_2 : w14.cell? ⟨gb249, 2, none⟩ = some (.int .i64 0) := (blk_cell BK249.out 2).trans rfl; have hcz16_3 : w14.cell? ⟨gb249, 3, none⟩ = some (.int .i64 0) := (blk_cell BK249.out 3).trans rfl; have hfz16_0 := blk_frozen BK249.out 0; have hfz16_1 := blk_frozen BK249.out 1; have hfz16_2 := blk_frozen BK249.out 2; have hfz16_3 := blk_frozen BK249.out 3))
  have n0_ : Aside0 (((((w14.setCell ⟨gb249, 0, none⟩ (.int .i64 t245)).setCell ⟨gb249, 1, none⟩ (.int .i64 t246)).setCell ⟨gb249, 2, none⟩ (.int .i64 t247)).setCell ⟨gb249, 3, none⟩ (.int .i64 t248)).heap[gb244]? = some (.cells #[.int .i64 0, .int .i64 0, .int .i64 0, .int .i64 0] 30 (0, 0))) := ⟨by (with_reducible repeat (first | refine blk_drewN ?_ _ | refine blk_drew ?_ | refine blk_alloc ?_ _)); refine blk_far ?_ NB244_249.out _; (with_reducible repeat (first | refine blk_drewN ?_ _ | refine blk_drew ?_ | refine blk_alloc ?_ _)); refine blk_far ?_ NB244_249.out _; (with_reducible repeat (first | refine blk_drewN ?_ _ | refine blk_drew ?_ | refine blk_alloc ?_ _)); refine blk_far ?_ NB244_249.out _; (with_reducible repeat (first | refine blk_drewN ?_ _ | refine blk_drew ?_ | refine blk_alloc ?_ _)); refine blk_far ?_ NB244_249.out _; (with_reducible repeat (first | refine blk_drewN ?_ _ | refine blk_drew ?_ | refine blk_alloc ?_ _)); exact BK244.out⟩
  have n1_ : Aside0 (((((w14.setCell ⟨gb249, 0, none⟩ (.int .i64 t245)).setCell ⟨gb249, 1, none⟩ (.int .i64 t246)).setCell ⟨gb249, 2, none⟩ (.int .i64 t247)).setCell ⟨gb249, 3, none⟩ (.int .i64 t248)).heap[gb249]? = some (.cells #[.int .i64 t245, .int .i64 t246, .int .i64 t247, .int .i64 t248] 30 (0, 0))) := ⟨by (with_reducible repeat (first | refine blk_drewN ?_ _ | refine blk_drew ?_ | refine blk_alloc ?_ _)); refine blk_put (cs := #[.int .i64 t245, .int .i64 t246, .int .i64 t247, .int .i64 0]) ?_ 3 _ rfl; (with_reducible repeat (first | refine blk_drewN ?_ _ | refine blk_drew ?_ | refine blk_alloc ?_ _)); refine blk_put (cs := #[.int .i64 t245, .int .i64 t246, .int .i64 0, .int .i64 0]) ?_ 2 _ rfl; (with_reducible repeat (first | refine blk_drewN ?_ _ | refine blk_drew ?_ | refine blk_alloc ?_ _)); refine blk_put (cs := #[.int .i64 t245, .int .i64 0, .int .i64 0, .int .i64 0]) ?_ 1 _ rfl; (with_reducible repeat (first | refine blk_drewN ?_ _ | refine blk_drew ?_ | refine blk_alloc ?_ _)); refine blk_put (cs := #[.int .i64 0, .int .i64 0, .int .i64 0, .int .i64 0]) ?_ 0 _ rfl; (with_reducible repeat (first | refine blk_drewN ?_ _ | refine blk_drew ?_ | refine blk_alloc ?_ _)); exact BK249.out⟩
  have n2_ : Aside0 (Below w.heap.size w ((((w14.setCell ⟨gb249, 0, none⟩ (.int .i64 t245)).setCell ⟨gb249, 1, none⟩ (.int .i64 t246)).setCell ⟨gb249, 2, none⟩ (.int .i64 t247)).setCell ⟨gb249, 3, none⟩ (.int .i64 t248))) := ⟨by repeat (first | (with_reducible first | exact HB.out | apply below_alloc | apply pw_below_drewN | apply below_drew1 | refine below_set ?_ GE244.out | refine below_set ?_ GE249.out) | exact HB.out)⟩
  (try clear BK244)
  (try clear BK249)
  (try clear HB)
  generalize ((((w14.setCell ⟨gb249, 0, none⟩ (.int .i64 t245)).setCell ⟨gb249, 1, none⟩ (.int .i64 t246)).setCell ⟨gb249, 2, none⟩ (.int .i64 t247)).setCell ⟨gb249, 3, none⟩ (.int .i64 t248)) = w17 at n0_ n1_ n2_ ⊢
  have BK244 := n0_
  have BK249 := n1_
  have HB := n2_
  clear n0_ n1_ n2_
  have n0_ := Aside0.mk (blk_drew BK244.out)
  have n1_ := Aside0.mk (blk_drew BK249.out)
  have n2_ := Aside0.mk (below_drew1 HB.out)
  clear BK244
  clear BK249
  clear HB
  have BK244 := n0_
  have BK249 := n1_
  have HB := n2_
  clear n0_ n1_ n2_
  refine start_ (n := 3) (S := fun w' => w'.cell? ⟨gb249, 0, none⟩ = some (.int .i64 t245) ∧ w'.cell? ⟨gb249, 1, none⟩ = some (.int .i64 t246) ∧ w'.cell? ⟨gb249, 2, none⟩ = some (.int .i64 t247) ∧ w'.cell? ⟨gb249, 3, none⟩ = some (.int .i64 t248)) (ds := []) #[false, false, false] (by kernel_rfl) rfl rfl ⟨(blk_cell BK249.out 0).trans rfl, (blk_cell BK249.out 1).trans rfl, (blk_cell BK249.out 2).trans rfl, (blk_cell BK249.out 3).trans rfl⟩ (fun hHeld => ?_)
  generalize w17.drew = w18 at BK244 BK249 HB hHeld ⊢
  refine pure_ (i := 1) (N := some 2) (v := ?_) (a' := ?_) #[false, true, false] rfl rfl (by kernel_rfl) (fun _ _ _ h => h) (Or.inl ⟨by rfl, ?_⟩) ?_ ?_
  rotate_left
  ·intro w'
   go_simp
   with_reducible rfl
  rotate_left
  ·simp only [Act.put, List.setIfInBounds_toArray, List.set_cons_zero, List.set_cons_succ, i64_w, i32_w]
   rfl
  refine take_ (i := 0) (N := some 10) (v := ?_) (a' := ?_) #[true, true, false] rfl rfl (by kernel_rfl) (fun _ _ _ h => h) (Or.inl ⟨by rfl, ?_⟩) hHeld ?_ ?_
  rotate_left
  ·rintro w' ⟨s0, s1, s2, s3⟩
   go_simp
   with_reducible rfl
  rotate_left
  ·simp only [Act.put, List.setIfInBounds_toArray, List.set_cons_zero, List.set_cons_succ, i64_w, i32_w]
   rfl
  refine one_ (i := 2) (N := none) #[true, true, true] rfl rfl (by kernel_rfl) (by decide) (fun K hK => ?_)
  have hs19 : w18.cell? ⟨gb244, 0, none⟩ = some (.int .i64 0) := (blk_cell BK244.out 0).trans rfl
  have hfs19 := blk_frozen BK244.out 0
  have hns19_1 := NB249_244.out
  have hms19_1 := NB244_249.out
  have hs20 : w18.cell? ⟨gb244, 1, none⟩ = some (.int .i64 0) := (blk_cell BK244.out 1).trans rfl
  have hfs20 := blk_frozen BK244.out 1
  have hns20_1 := NB249_244.out
  have hms20_1 := NB244_249.out
  have hs21 : w18.cell? ⟨gb244, 2, none⟩ = some (.int .i64 0) := (blk_cell BK244.out 2).trans rfl
  have hfs21 := blk_frozen BK244.out 2
  have hns21_1 := NB249_244.out
  have hms21_1 := NB244_249.out
  have hs22 : w18.cell? ⟨gb244, 3, none⟩ = some (.int .i64 0) := (blk_cell BK244.out 3).trans rfl
  have hfs22 := blk_frozen BK244.out 3
  have hns22_1 := NB249_244.out
  have hms22_1 := NB244_249.out
  refine skip_ (w1 := ?_) (by rfl) rfl ?_ ?_
  rotate_left
  ·go_simp
   rfl
  refine hK.out _ _ ⟨((cell_far (p := ⟨gb244, _, none⟩) NB249_244.out _).trans (((cell_far (p := ⟨gb244, _, none⟩) NB249_244.out _).trans (((cell_far (p := ⟨gb244, _, none⟩) NB249_244.out _).trans (((cell_far (p := ⟨gb244, _, none⟩) NB249_244.out _).trans (hHeld.1)))))))), ((cell_far (p := ⟨gb244, _, none⟩) NB249_244.out _).trans (((cell_far (p := ⟨gb244, _, none⟩) NB249_244.out _).trans (((cell_far (p := ⟨gb244, _, none⟩) NB249_244.out _).trans (((cell_far (p := ⟨gb244, _, none⟩) NB249_244.out _).trans (hHeld.2.1)))))))), ((cell_far (p := ⟨gb244, _, none⟩) NB249_244.out _).trans (((cell_far (p := ⟨gb244, _, none⟩) NB249_244.out _).trans (((cell_far (p := ⟨gb244, _, none⟩) NB249_244.out _).trans (((cell_far (p := ⟨gb244, _, none⟩) NB249_244.out _).trans (hHeld.2.2.1)))))))), ((cell_far (p := ⟨gb244, _, none⟩) NB249_244.out _).trans (((cell_far (p := ⟨gb244, _, none⟩) NB249_244.out _).trans (((cell_far (p := ⟨gb244, _, none⟩) NB249_244.out _).trans (((cell_far (p := ⟨gb244, _, none⟩) NB249_244.out _).trans (hHeld.2.2.2))))))))⟩ (fun hHeld => ?_)
  clear hK K
  refine done_ (by kernel_rfl) ?_
  try go_wp2
  refine bodyPost_ret (results_tc rfl _ _ gb244 30 #[.int .i64 t245, .int .i64 t246, .int .i64 t247, .int .i64 t248] (0, 0) _ rfl (by (with_reducible repeat (first | refine blk_drewN ?_ _ | refine blk_drew ?_ | refine blk_alloc ?_ _)); refine blk_put (cs := #[.int .i64 t245, .int .i64 t246, .int .i64 t247, .int .i64 0]) ?_ 3 _ rfl; (with_reducible repeat (first | refine blk_drewN ?_ _ | refine blk_drew ?_ | refine blk_alloc ?_ _)); refine blk_put (cs := #[.int .i64 t245, .int .i64 t246, .int .i64 0, .int .i64 0]) ?_ 2 _ rfl; (with_reducible repeat (first | refine blk_drewN ?_ _ | refine blk_drew ?_ | refine blk_alloc ?_ _)); refine blk_put (cs := #[.int .i64 t245, .int .i64 0, .int .i64 0, .int .i64 0]) ?_ 1 _ rfl; (with_reducible repeat (first | refine blk_drewN ?_ _ | refine blk_drew ?_ | refine blk_alloc ?_ _)); refine blk_put (cs := #[.int .i64 0, .int .i64 0, .int .i64 0, .int .i64 0]) ?_ 0 _ rfl; (with_reducible repeat (first | refine blk_drewN ?_ _ | refine blk_drew ?_ | refine blk_alloc ?_ _)); exact BK244.out) Tryd.underlying30 rfl (by kernel_rfl)) rfl ?_
  exact ⟨_, by first | rfl | (simp [errW_none, errW_some] <;> rfl) | (simp [*, errW_none, errW_some, bne]; done) | (simp [*, errW_none, errW_some] <;> rfl), by first | exact Kd.S_nil _ _ _ _ _ | exact Kd.N_nil _ _ _ _ _ | exact Kd.V_nil _ _ _ _ _ | exact Kd.Q_nil _ _ _ _ _ | exact Kd.R_nil _ _ _ _ _, by repeat (first | (with_reducible first | exact HB.out | apply below_alloc | apply pw_below_drewN | apply below_drew1 | refine below_set ?_ GE244.out | refine below_set ?_ GE249.out) | exact HB.out)⟩
end Go.Proofs.YtjmmdphkgioooaaDoor.P
end
section
namespace Go.Proofs.YtjmmdphkgioooaaDoor.La
open Go.RowKit Go.Proofs.YtjmmdphkgioooaaDoor.P Go.Proofs.YtjmmdphkgioooaaDoorW.PrintWords Go.Proofs.YtjmmdphkgioooaaDoorW.PrintLast Go.Proofs.YtjmmdphkgioooaaDoorW.PrintMore
def judgeR (s : ByteArray) : Int × Int × Int × Int :=
 if 65536 < s.size then faultR s s.size 2 else match bad (bytesOf s) with
  | none => (0, 0, 0, 0)
  | some p => faultR s p 3
theorem judge_ev (s : ByteArray) (hs : s.size ≤ 8796093022208) : Ev (fun k => jlex_Judge.f k s) (judgeR s) := by
 unfold judgeR
 by_cases hz : 65536 < s.size
 ·rw [if_pos hz]
  refine Ev.congr (fun k => by rw [jlex_Judge.f, if_pos (by omega)]) (Ev.bind (fault_ev s hs s.size 2) (Ev.now _))
 ·rw [if_neg hz]
  refine Ev.congr (fun k => by rw [jlex_Judge.f, if_neg (by omega)]) (Ev.bind (valid_ev s (by omega)) ?_)
  cases hb : bad (bytesOf s) with
  | none =>
   simp only [badR, if_true]
   exact Ev.now _
  | some p =>
   simp only [badR, Bool.false_eq_true, if_false, Nat.zero_add]
   exact Ev.bind (fault_ev s (by omega) (p : Int) 3) (Ev.now _)
def fieldsR (s : ByteArray) : List (List S57) × Int × Int × Int × Int :=
 if 65536 < s.size then ([], faultR s s.size 2) else match bad (bytesOf s) with
  | some p => ([], faultR s p 3)
  | none => wholeR s (wholeS 513 [] (bytesOf s) 0)
theorem fields_ev (s : ByteArray) (hs : s.size ≤ 8796093022208) : Ev (fun k => cread_Fields.f k s) (fieldsR s) := by
 refine Ev.congr (fun k => by rw [cread_Fields.f]) (Ev.bind (judge_ev s hs) ?_)
 unfold judgeR fieldsR
 by_cases hz : 65536 < s.size
 ·rw [if_pos hz, if_pos hz]
  exact Ev.congr (fun k => if_neg (show ¬ (2 : Int) = 0 by decide)) (Ev.now _)
 ·rw [if_neg hz, if_neg hz]
  cases hb : bad (bytesOf s) with
  | none =>
   simp only [if_true]
   unfold cread_whole.f
   rw [if_pos (by omega)]
   exact Ev.now _
  | some p =>
   exact Ev.congr (fun k => if_neg (show ¬ (3 : Int) = 0 by decide)) (Ev.now _)
theorem rowS_bound : ∀ (k : Nat) (acc : List S57) (l : List Int) (i : Nat) (r : List S57) (l2 : List Int) (j : Nat), rowS k acc l i = .inr (r, l2, j) → r.length ≤ acc.length + k
 | 0, _, _, _, _, _, _, h => by cases h
 | k + 1, acc, l, i, r, l2, j, h => by
  rw [rowS] at h
  cases hf : fieldS l i with
  | inl e => rw [hf] at h; cases h
  | inr p =>
   rw [hf] at h
   simp only at h
   split at h
   ·have := rowS_bound k _ _ _ _ _ _ h
    rw [List.length_append, List.length_singleton] at this
    omega
   ·have h6 := (Prod.mk.inj (Sum.inr.inj h)).1
    rw [← h6, List.length_append, List.length_singleton]
    omega
theorem wholeS_bound : ∀ (n : Nat) (rows : List (List S57)) (l : List Int) (i : Nat) (r : List (List S57)), wholeS n rows l i = .inr r → r.length ≤ rows.length + n ∧ ∀ R ∈ r, R ∈ rows ∨ R.length ≤ 64
 | 0, rows, l, i, r, h => by
  rw [wholeS] at h
  split at h
  ·obtain rfl := Sum.inr.inj h
   exact ⟨by omega, fun R hR => .inl hR⟩
  ·cases h
 | n + 1, rows, l, i, r, h => by
  rw [wholeS] at h
  split at h
  ·obtain rfl := Sum.inr.inj h
   exact ⟨by omega, fun R hR => .inl hR⟩
  ·cases hr : rowS 64 [] l i with
   | inl e => rw [hr] at h; cases h
   | inr x =>
    obtain ⟨a, l2, j⟩ := x
    rw [hr] at h
    simp only at h
    split at h
    ·cases h
    ·obtain ⟨h1, h2⟩ := wholeS_bound n _ _ _ _ h
     have h3 := rowS_bound 64 [] l i a l2 j hr
     rw [List.length_append, List.length_singleton] at h1
     refine ⟨by omega, fun R hR => ?_⟩
     rcases h2 R hR with h4 | h4
     ·rcases List.mem_append.1 h4 with h5 | h5
      ·exact .inl h5
      ·rw [List.mem_singleton.1 h5]
       exact .inr (by simpa using h3)
     ·exact .inr h4
theorem fieldsR_bound (s : ByteArray) : (fieldsR s).1.length ≤ 513 ∧ ∀ R ∈ (fieldsR s).1, R.length ≤ 64 := by
 unfold fieldsR
 split
 ·exact ⟨by simp, fun R hR => by cases hR⟩
 ·split
  ·exact ⟨by simp, fun R hR => by cases hR⟩
  ·cases hw : wholeS 513 [] (bytesOf s) 0 with
   | inl e => exact ⟨by simp [wholeR], fun R hR => by cases hR⟩
   | inr r =>
    obtain ⟨h1, h2⟩ := wholeS_bound 513 [] _ _ _ hw
    refine ⟨by simpa [wholeR] using h1, fun R hR => ?_⟩
    rcases h2 R hR with h | h
    ·cases h
    ·exact h
/-- What cread.Rows answers. -/
def readR (s : ByteArray) : List (List ByteArray) × Int × Int × Int × Int := ((fieldsR s).1.map (·.map S57.f0), (fieldsR s).2)
end Go.Proofs.YtjmmdphkgioooaaDoor.La
end
section
namespace Go.Proofs.YtjmmdphkgioooaaDoor.P
open Go.RowKit Go.Proofs.YtjmmdphkgioooaaDoor.La Go.Proofs.YtjmmdphkgioooaaDoorW.PrintWords Go.Proofs.YtjmmdphkgioooaaDoorW.PrintLast Go.Proofs.YtjmmdphkgioooaaDoorW.PrintMore
theorem cinfoT : (Tryd.prog.info? 9).map (fun i => (i.zero, i.size, i.bytes)) = some (some (.string ⟨#[]⟩), 1, 16) := by kernel_rfl
theorem cinfoTs : (Tryd.prog.info? 24).map (fun i => (i.zero, i.size, i.bytes)) = some (some (.slice none 0 0), 1, 24) := by kernel_rfl
abbrev OutS (wx : World) (B : Nat) (ok : Nat → Prop) (v : Value) (xs : List (List ByteArray)) : Prop := Kd.S (Kd.slice 9 Kd.string) 24 wx B ok v xs
abbrev InS (wx : World) (B : Nat) (ok : Nat → Prop) (v : Value) (xs : List (List S57)) : Prop := Kd.S (Kd.slice 57 k57) 55 wx B ok v xs
def Boxes (wx : World) (b bf : Nat) (q1 q2 q3 q4 : Int) : Prop := wx.heap[b]? = some (.cells #[.int .i64 0, .int .i64 0, .int .i64 0, .int .i64 0] 30 (0, 0)) ∧ wx.heap[bf]? = some (.cells #[.int .i64 q1, .int .i64 q2, .int .i64 q3, .int .i64 q4] 30 (0, 0))
theorem Boxes.step {wx w1 : World} {b bf : Nat} {q1 q2 q3 q4 : Int} (h : Boxes wx b bf q1 q2 q3 q4) (hm : ∀ k, k < wx.heap.size → (k = b ∨ k = bf) → w1.heap[k]? = wx.heap[k]?) : Boxes w1 b bf q1 q2 q3 q4 :=
 ⟨(hm b (cblk_lt h.1) (.inl rfl)).trans h.1, (hm bf (cblk_lt h.2) (.inr rfl)).trans h.2⟩
/-- The outer loop's state. -/
def OInv (w : World) (rows : List (List S57)) (rv : Value) (bf : Nat) (q1 q2 q3 q4 : Int) (k : Nat) (vo vi : Value) (wx : World) : Prop :=
 ∃ x : Int, 0 ≤ x ∧ x ≤ rows.length ∧ k = rows.length - x.toNat + 1 ∧ vi = .int .i64 x ∧ OutS wx w.heap.size (fun _ => True) vo ((rows.take x.toNat).map (·.map S57.f0)) ∧ InS wx w.heap.size (fun _ => True) rv rows ∧ Boxes wx w.heap.size bf q1 q2 q3 q4 ∧ Below w.heap.size w wx
/-- The inner loop's state. -/
def NInv (w : World) (N : Nat) (rows : List (List S57)) (rv : Value) (outs : List (List ByteArray)) (vo : Value) (row : List S57) (vr : Value) (bf : Nat) (q1 q2 q3 q4 : Int) (k : Nat) (vl vi : Value) (wx : World) : Prop :=
 ∃ x : Int, 0 ≤ x ∧ x ≤ row.length ∧ k = row.length - x.toNat + 1 ∧ vi = .int .i64 x ∧ Kd.R Kd.string 9 wx N (fun _ => True) vl ((row.take x.toNat).map S57.f0) ∧ OutS wx w.heap.size (fun k => k < N) vo outs ∧ InS wx w.heap.size (fun k => k < N) rv rows ∧
  Kd.R k57 57 wx w.heap.size (fun k => k < N) vr row ∧ Boxes wx w.heap.size bf q1 q2 q3 q4 ∧ Below w.heap.size w wx ∧ N ≤ wx.heap.size
def cread_Rows.f (a0 : ByteArray) : Option (List (List ByteArray) × Int × Int × Int × Int) := if a0.size ≤ 8796093022208 then some (readR a0) else none
set_option maxRecDepth 100000 in
set_option maxHeartbeats 8000000 in
theorem cread_Rows.calls (a0 : ByteArray) (r1 : List (List ByteArray)) (r2 r3 r4 r5 : Int) (w : World) (h : cread_Rows.f a0 = some (r1, r2, r3, r4, r5)) :
  Calls Tryd.prog 15 #[.string a0] w fun e w' => ∃ v0_ : Value, e = .returned (.tuple #[v0_, .agg #[.int .i64 r2, .int .i64 r3, .int .i64 r4, .int .i64 r5]]) ∧ Kd.S (Kd.slice 9 Kd.string) 24 w' w.heap.size (fun _ => True) v0_ r1 ∧ Below w.heap.size w w' := by
 unfold cread_Rows.f at h
 by_cases hs : a0.size ≤ 8796093022208
 ·rw [if_pos hs] at h
  obtain ⟨K, hK⟩ := fields_ev a0 hs
  obtain ⟨hb1, hb2⟩ := fieldsR_bound a0
  have hK := hK K (Nat.le_refl _)
  have H := Lib.hid (Option.some.inj h)
  clear h
  unfold readR at H
  generalize fieldsR a0 = q at hb1 hb2 hK H
  obtain ⟨rows, q1, q2, q3, q4⟩ := q
  go_enter Tryd.func15, Tryd.ntmps15
  go_wp2_with fail
  refine (cread_Fields.calls K a0 rows q1 q2 q3 q4 _ hK).mono ?_
  rintro e w1 ⟨v0, rfl, hS, hB⟩
  have hz0 : (w.alloc (.cells #[.int .i64 0, .int .i64 0, .int .i64 0, .int .i64 0] 30)).heap.size = w.heap.size + 1 := Array.size_push _
  have hA : Below w.heap.size w (w.alloc (.cells #[.int .i64 0, .int .i64 0, .int .i64 0, .int .i64 0] 30)) := below_alloc (Below.refl _ _) _
  have hB1 := below_step hA hB
  have g0 : w1.heap[w.heap.size]? = some (.cells #[.int .i64 0, .int .i64 0, .int .i64 0, .int .i64 0] 30 (0, 0)) := (hB.block w.heap.size (by omega)).trans (show (w.heap.push _)[w.heap.size]? = _ from Array.getElem?_push_size)
  have hS1 := Kd.S_lower hS (show w.heap.size ≤ (w.alloc (.cells #[.int .i64 0, .int .i64 0, .int .i64 0, .int .i64 0] 30)).heap.size by omega)
  clear hS hB hA hz0
  have hS2 := Kd.S_alloc hS1 (.cells #[.int .i64 q1, .int .i64 q2, .int .i64 q3, .int .i64 q4] 30)
  have hB2 := below_alloc hB1 (.cells #[.int .i64 q1, .int .i64 q2, .int .i64 q3, .int .i64 q4] 30)
  have hX : Boxes (w1.alloc (.cells #[.int .i64 q1, .int .i64 q2, .int .i64 q3, .int .i64 q4] 30)) w.heap.size w1.heap.size q1 q2 q3 q4 :=
   ⟨(Below.heap_alloc _ _ _ (cblk_lt g0)).trans g0, show (w1.heap.push _)[w1.heap.size]? = _ from Array.getElem?_push_size⟩
  obtain ⟨RA, RC, hrv, hrc, hRC⟩ := Kd.S_reads hS1
  subst hrv
  go_wp2_with fail
  generalize w1.alloc (.cells #[.int .i64 q1, .int .i64 q2, .int .i64 q3, .int .i64 q4] 30) = w2 at hS2 hB2 hX ⊢
  generalize w1.heap.size = bf at hX ⊢
  clear hS1 hB1 g0 hRC hK
  go_loopg [6, 19] (rows.length + 1) (fun k vo vi wx => OInv w rows (.slice RA rows.length RC) bf q1 q2 q3 q4 k vo vi wx)
  case atStart => exact ⟨0, by omega, by omega, by simp, rfl, Kd.S_nil _ _ _ _ _, hS2, hX, hB2⟩
  case round =>
   clear hS2 hX hB2
   obtain ⟨x, hx0, hx1, hk, rfl, hO, hI, hX, hB⟩ := hrel
   have HK := Lib.hid hk
   clear hk
   obtain ⟨OA, OC, hov, hoc, _⟩ := Kd.S_reads hO
   by_cases hxl : x < rows.length
   ·have e1 : decide (x < (rows.length : Int)) = true := decide_eq_true hxl
    obtain ⟨c, ad, hc⟩ : ∃ c ad, (Value.slice RA rows.length RC) = .slice (some ad) rows.length RC ∧ c = RC := by
     obtain ⟨g, cap, h, _⟩ := Kd.S_form hI (by omega)
     injection h with h1 h2 h3
     exact ⟨_, _, by rw [h1], rfl⟩
    injection hc.1 with hRA
    subst hRA
    obtain ⟨cs, hcs, hM, hcell⟩ := Kd.S_get hI [] x hx0 (by omega)
    obtain ⟨vr, rfl, hR⟩ := hM
    have hce := hcell 0 vr rfl
    have hrow : rows.getD x.toNat [] ∈ rows := by
     rw [List.getD_eq_getElem?_getD, List.getElem?_eq_getElem (show x.toNat < rows.length by omega)]
     exact List.getElem_mem _
    obtain ⟨row, hrw⟩ : ∃ row, rows.getD x.toNat [] = row := ⟨_, rfl⟩
    rw [hrw] at hR hrow
    have hrl := hb2 row hrow
    have HRW := Lib.hid hrw
    clear hrw hcell hrow hcs
    replace hce : wr.cell? (ad.add x.toNat) = some vr := by
     have h := hce
     rw [show x.toNat * (Kd.slice 57 k57).sz + 0 = x.toNat from (by show x.toNat * 1 + 0 = x.toNat; omega)] at h
     exact h
    obtain ⟨VA, VC, hvr, hvc, _⟩ := Kd.R_reads hR
    subst hvr
    have p1 := eq_true hx0
    have p2 := eq_true hxl
    have p3 := eq_true (show x.toNat < rows.length by omega)
    have q8 : decide (0 ≤ x) = true := decide_eq_true hx0
    subst hov
    have hO' : OutS wr w.heap.size (fun k => k < wr.heap.size) _ _ := Kd.S_mono (Kd.S_bound hO) (fun k hk => hk.2.2.1)
    have hI' : InS wr w.heap.size (fun k => k < wr.heap.size) _ _ := Kd.S_mono (Kd.S_bound hI) (fun k hk => hk.2.2.1)
    have hR' : Kd.R k57 57 wr w.heap.size (fun k => k < wr.heap.size) _ _ := Kd.R_mono (Kd.R_bound hR) (fun k hk => hk.2.2.1)
    have hol : ((rows.take x.toNat).map (·.map S57.f0)).length = x.toNat := by rw [List.length_map, List.length_take]; omega
    have HOL := Lib.hid hol
    generalize hov2 : (rows.take x.toNat).map (·.map S57.f0) = outs at hO hO' HOL ⊢
    have HOV := Lib.hid hov2
    clear hov2 hol hO hI hR
    have hbN := cblk_lt hX.1
    have hfN := cblk_lt hX.2
    obtain ⟨N, hN⟩ : ∃ N, wr.heap.size = N := ⟨_, rfl⟩
    rw [hN] at hbN hfN
    rw [hN] at hO' hI' hR'
    go_wp2_with fail
    go_loopg [9, 25] (row.length + 1) (fun k vl vi wx => NInv w N rows (.slice (some ad) rows.length RC) outs (.slice OA outs.length OC) row (.slice VA row.length VC) bf q1 q2 q3 q4 k vl vi wx)
    case atStart => exact ⟨0, by omega, by omega, by simp, rfl, Kd.R_nil _ _ _ _ _, hO', hI', hR', hX, hB, by omega⟩
    case round =>
     obtain ⟨y, hy0, hy1, hk2, rfl, hL, hO2, hI2, hR2, hX2, hB2, hN2⟩ := hrel
     have HK2 := Lib.hid hk2
     clear hk2 hce
     obtain ⟨LA, LC, hlv, hlc, _⟩ := Kd.R_reads hL
     obtain ⟨nl, hnl⟩ : ∃ nl, ((row.take y.toNat).map S57.f0).length = nl := ⟨_, rfl⟩
     have HNL := Lib.hid hnl
     rw [hnl] at hlv
     subst hlv
     clear hnl hlc
     by_cases hyl : y < row.length
     ·have e2 : decide (y < (row.length : Int)) = true := decide_eq_true hyl
      obtain ⟨ad2, hVA, k0, k1⟩ := at_T57 (Kd.R_reads' hR2).2.2 y hy0 hyl
      subst hVA
      have p4 := eq_true hy0
      have p5 := eq_true hyl
      have p6 := eq_true (show y.toNat < row.length by omega)
      have q9 : decide (0 ≤ y) = true := decide_eq_true hy0
      have hbL := Kd.R_base hL
      have hll : ((row.take y.toNat).map S57.f0).length ≤ 64 := by rw [List.length_map, List.length_take]; omega
      have hLa := Kd.R_alloc hL (.cells #[.string (rd_T57 row y).f0, .int .i64 (rd_T57 row y).f1] 57)
      have hza : (wr.alloc (.cells #[.string (rd_T57 row y).f0, .int .i64 (rd_T57 row y).f1] 57)).heap.size = wr.heap.size + 1 := Array.size_push _
      have hw1 : IntKind.i64.wrap (y + 1) = y + 1 := cwrap _ (by omega) (by omega)
      go_wp2_with (at_builtin; refine Kd.R_append Kd.string (w0 := wr.alloc (.cells #[.string (rd_T57 row y).f0, .int .i64 (rd_T57 row y).f1] 57)) N rfl (.tmp 29) (.tmp 32) 24 9 (.string ⟨#[]⟩) 16 rfl Tryd.underlying24 cinfoT rfl (by decide) (by omega) (.slice LA nl LC) ((row.take y.toNat).map S57.f0) (rd_T57 row y).f0 [.string (rd_T57 row y).f0] (fun _ => True) (fun _ => False) rfl (by first | (go_simp; done) | (go_simp; rfl)) rfl (fun _ hk => hk.elim) (fun _ _ => trivial) hLa (Below.refl _ _) (by omega) (by omega) ?_)
      intro v1 w5 hR5 hb5 hg5 hat5
      have hold : ∀ k, k < N → w5.heap[k]? = wr.heap[k]? := fun k hk => (hb5.block k hk).trans (Below.heap_alloc _ _ _ (by omega))
      have hO5 := Kd.S_step (w1 := w5) hO2 (fun k hk _ => hold k hk)
      have hI5 := Kd.S_step (w1 := w5) hI2 (fun k hk _ => hold k hk)
      have hV5 := Kd.R_step (w1 := w5) hR2 (fun k hk _ => hold k hk)
      have hX5 := hX2.step (w1 := w5) (fun k _ hk => hold k (by rcases hk with rfl | rfl <;> omega))
      have hB5 := (below_alloc hB2 (.cells #[.string (rd_T57 row y).f0, .int .i64 (rd_T57 row y).f1] 57)).trans (hb5.mono (show w.heap.size ≤ N by omega))
      have hN5 : N ≤ w5.heap.size := by have := hb5.size; omega
      clear hO2 hI2 hR2 hX2 hB2 hb5 hg5 hat5 hLa hL hold
      go_wp2_with fail
      have hkk := HK2.out
      obtain ⟨gk2, hgk⟩ : ∃ gk2, row.length - y.toNat + 1 = gk2 + 1 := ⟨_, rfl⟩
      rw [hgk] at hkk
      subst hkk
      go_roundg gk2
      case rel =>
       refine ⟨y + 1, by omega, by omega, by omega, rfl, ?_, hO5, hI5, hV5, hX5, hB5, hN5⟩
       rw [show (y + 1).toNat = y.toNat + 1 by omega, List.take_succ_eq_append_getElem (show y.toNat < row.length by omega), List.map_append]
       have e : (rd_T57 row y).f0 = (row[y.toNat]'(by omega)).f0 := by
        unfold rd_T57
        rw [List.getD_eq_getElem?_getD, List.getElem?_eq_getElem (show y.toNat < row.length by omega)]
        rfl
       rw [e] at hR5
       simp only [List.map_take] at hR5 ⊢
       exact hR5
      case measure => omega
     ·have hye : y = row.length := by omega
      have e2 : decide (y < (row.length : Int)) = false := decide_eq_false (by omega)
      have hlen : ((row.take y.toNat).map S57.f0) = row.map S57.f0 := by rw [List.take_of_length_le (by omega)]
      rw [hlen] at hL
      have hbL := Kd.R_base hL
      have hown : ∀ k, (Value.slice OA outs.length OC).ownBlock = some k → k < N := fun k hk => (Kd.S_R hO2).1 k hk
      have hP : (Kd.slice 9 Kd.string).M wr w.heap.size (fun k => N ≤ k) (row.map S57.f0) [.slice LA nl LC] := ⟨_, rfl, Kd.R_mono (Kd.R_lower (Kd.R_bound hL) (by omega)) (fun k hk => hk.2.1)⟩
      have hO3 : OutS wr w.heap.size (fun k => True ∧ ¬ N ≤ k) (.slice OA outs.length OC) outs := Kd.S_mono hO2 (fun k hk => ⟨trivial, by omega⟩)
      have hnb := Kd.S_ne hO2 hX2.1 (by decide)
      have hnf := Kd.S_ne hO2 hX2.2 (by decide)
      have hw1 : IntKind.i64.wrap (x + 1) = x + 1 := cwrap _ (by omega) (by omega)
      go_wp2_with (at_builtin; refine Kd.S_append (Kd.slice 9 Kd.string) (w0 := wr) w.heap.size rfl (.tmp 35) (.tmp 37) 25 24 (.slice none 0 0) 24 rfl Tryd.underlying25 cinfoTs rfl (by decide) (by omega) (.slice OA outs.length OC) outs (row.map S57.f0) [.slice LA nl LC] (fun _ => True) (fun k => N ≤ k) rfl (by first | (go_simp; done) | (go_simp; rfl)) hP (fun k hk => ⟨trivial, fun e => by have := hown k e.symm; omega⟩) (fun _ _ => trivial) hO3 (Below.refl _ _) (by omega) (by have := HOL.out; omega) ?_)
      intro v2 w6 hS6 hb6 hg6 hat6
      have hI6 : InS w6 w.heap.size (fun _ => True) _ _ := Kd.S_mono (Kd.S_over' hI2 (Kd.S_typed hO2) (by decide) hg6) (fun _ _ => trivial)
      have hX6 := hX2.step (w1 := w6) (fun k hk h => by
       refine hg6.block k hk ?_
       rcases h with rfl | rfl
       ·exact hnb
       ·exact hnf)
      have hB6 := hB2.trans hb6
      clear hO2 hI2 hR2 hX2 hB2 hb6 hg6 hat6 hO3 hP hL
      go_wp2_with fail
      have hkk := HK.out
      obtain ⟨gk3, hgk⟩ : ∃ gk3, rows.length - x.toNat + 1 = gk3 + 1 := ⟨_, rfl⟩
      rw [hgk] at hkk
      subst hkk
      go_roundg gk3
      case rel =>
       refine ⟨x + 1, by omega, by omega, by omega, rfl, ?_, hI6, hX6, hB6⟩
       rw [show (x + 1).toNat = x.toNat + 1 by omega, List.take_succ_eq_append_getElem (show x.toNat < rows.length by omega), List.map_append, HOV.out]
       have e : rows[x.toNat]'(by omega) = row := by
        rw [← HRW.out, List.getD_eq_getElem?_getD, List.getElem?_eq_getElem (show x.toNat < rows.length by omega)]
        rfl
       simp only [List.map_cons, List.map_nil, e]
       exact hS6
      case measure => omega
   ·have hxe : x = rows.length := by omega
    have e1 : decide (x < (rows.length : Int)) = false := decide_eq_false (by omega)
    have k0 : wr.cell? ⟨w.heap.size, 0, none⟩ = some (.int .i64 0) := by rw [cblk_cell hX.1]; rfl
    have k1 : wr.cell? ⟨w.heap.size, 1, none⟩ = some (.int .i64 0) := by rw [cblk_cell hX.1]; rfl
    have k2 : wr.cell? ⟨w.heap.size, 2, none⟩ = some (.int .i64 0) := by rw [cblk_cell hX.1]; rfl
    have k3 : wr.cell? ⟨w.heap.size, 3, none⟩ = some (.int .i64 0) := by rw [cblk_cell hX.1]; rfl
    have n0 := cblk_free hX.1 0
    have n1 := cblk_free hX.1 1
    have n2 := cblk_free hX.1 2
    have n3 := cblk_free hX.1 3
    have m0 : wr.cell? ⟨bf, 0, none⟩ = some (.int .i64 q1) := by rw [cblk_cell hX.2]; rfl
    have m1 : wr.cell? ⟨bf, 1, none⟩ = some (.int .i64 q2) := by rw [cblk_cell hX.2]; rfl
    have m2 : wr.cell? ⟨bf, 2, none⟩ = some (.int .i64 q3) := by rw [cblk_cell hX.2]; rfl
    have m3 : wr.cell? ⟨bf, 3, none⟩ = some (.int .i64 q4) := by rw [cblk_cell hX.2]; rfl
    have ht : (rows.take x.toNat).map (·.map S57.f0) = rows.map (·.map S57.f0) := by rw [List.take_of_length_le (by omega)]
    rw [ht] at hO hov
    subst hov
    have y0 := cblk_set hX.1 0 (.int .i64 q1)
    have y1 := cblk_set y0 1 (.int .i64 q2)
    have y2 := cblk_set y1 2 (.int .i64 q3)
    have y3 := cblk_set y2 3 (.int .i64 q4)
    have s0 := Kd.S_set hO hX.1 (by decide) 0 (.int .i64 q1)
    have s1 := Kd.S_set s0 y0 (by decide) 1 (.int .i64 q2)
    have s2 := Kd.S_set s1 y1 (by decide) 2 (.int .i64 q3)
    have s3 := Kd.S_set s2 y2 (by decide) 3 (.int .i64 q4)
    have b3 := ((((hB.setCell (p := ⟨w.heap.size, 0, none⟩) (Nat.le_refl _) (.int .i64 q1)).setCell (p := ⟨w.heap.size, 1, none⟩) (Nat.le_refl _) (.int .i64 q2)).setCell (p := ⟨w.heap.size, 2, none⟩) (Nat.le_refl _) (.int .i64 q3)).setCell (p := ⟨w.heap.size, 3, none⟩) (Nat.le_refl _) (.int .i64 q4))
    have HH := H.out
    obtain ⟨z1, z2⟩ := Prod.mk.inj HH
    obtain ⟨z2, z3⟩ := Prod.mk.inj z2
    obtain ⟨z3, z4⟩ := Prod.mk.inj z3
    obtain ⟨z4, z5⟩ := Prod.mk.inj z4
    subst z1
    subst z2
    subst z3
    subst z4
    subst z5
    clear H HH hI ht
    go_wp2_with fail
    go_region_with (first | fail)
    all_goals
     go_wp2_with fail
     refine bodyPost_ret (results_list (rs := [.tmp 2, .cell 3 30]) rfl (by simp) (.tmp (.cell w.heap.size 30 #[.int .i64 q1, .int .i64 q2, .int .i64 q3, .int .i64 q4] (0, 0) _ rfl y3 Tryd.underlying30 rfl (by kernel_rfl) .nil))) rfl ?_
     refine ⟨_, rfl, ?_, Below.drew b3⟩
     have s4 := Kd.S_drew s3
     simp only [List.length_map] at s4
     exact s4
 ·rw [if_neg hs] at h
  cases h
end Go.Proofs.YtjmmdphkgioooaaDoor.P
end
section
namespace Go.Proofs.YtjmmdphkgioooaaDoor.La
open Go.RowKit Go.Proofs.YtjmmdphkgioooaaDoor.P Go.Proofs.YtjmmdphkgioooaaDoorW.PrintWords Go.Proofs.YtjmmdphkgioooaaDoorW.PrintLast Go.Proofs.YtjmmdphkgioooaaDoorW.PrintMore
theorem rows_f (s : ByteArray) (hs : s.size ≤ 8796093022208) : cread_Rows.f s = some (readR s) := by
 unfold cread_Rows.f
 rw [if_pos hs]
theorem enc_low {r : Int} (h : r < 128) : enc r = [r] := by unfold enc; rw [if_pos h]
theorem enc_high {r : Int} (h : 128 ≤ r) (hg : good r) : ∀ b ∈ enc r, 128 ≤ b := by
 have hg' := good_iff.1 hg
 unfold enc
 rw [if_neg (by omega)]
 intro b hb
 split at hb
 ·simp at hb; omega
 ·split at hb
  ·simp at hb; omega
  ·simp at hb; omega
/-- A text of letters, cut ahead of a byte below 128 (or at its end): both parts are letters. -/
theorem bad_cut (L : List Int) (hL : Bytes L) (h : bad L = none) : ∀ a b : List Int, L = a ++ b → (∀ c t, b = c :: t → c < 128) → bad a = none ∧ bad b = none := by
 refine text_induction (P := fun L => ∀ a b : List Int, L = a ++ b → (∀ c t, b = c :: t → c < 128) → bad a = none ∧ bad b = none) ?_ ?_ L hL h
 ·intro a b hab _
  obtain ⟨rfl, rfl⟩ := List.append_eq_nil_iff.1 hab.symm
  exact ⟨bad_nil, bad_nil⟩
 ·intro r m hr hm _ ih a b hab hb
  cases a with
  | nil =>
   rw [List.nil_append] at hab
   refine ⟨bad_nil, ?_⟩
   rw [← hab, bad_enc hr, hm]
   rfl
  | cons x a' =>
   by_cases hlen : (enc r).length ≤ (x :: a').length
   ·have e1 : (x :: a').take (enc r).length = enc r := by
     have := congrArg (List.take (enc r).length) hab
     rw [List.take_left, List.take_append_of_le_length hlen] at this
     exact this.symm
    have e2 : m = (x :: a').drop (enc r).length ++ b := by
     have := congrArg (List.drop (enc r).length) hab
     rw [List.drop_left, List.drop_append_of_le_length hlen] at this
     exact this
    obtain ⟨h1, h2⟩ := ih _ _ e2 hb
    refine ⟨?_, h2⟩
    rw [← List.take_append_drop (enc r).length (x :: a'), e1, bad_enc hr, h1]
    rfl
   ·exfalso
    have hl := (enc_len r).2
    have hge : 128 ≤ r := by
     rcases Int.lt_or_le r 128 with h | h
     ·rw [enc_low h] at hlen; simp at hlen
     ·exact h
    have hi : (x :: a').length < (enc r).length := by omega
    have hne : b ≠ [] := by
     intro e
     subst e
     have := congrArg List.length hab
     rw [List.append_nil, List.length_append] at this
     omega
    obtain ⟨c, t, rfl⟩ : ∃ c t, b = c :: t := by cases b with
     | nil => exact absurd rfl hne
     | cons c t => exact ⟨c, t, rfl⟩
    have hc := hb c t rfl
    have e3 : (enc r ++ m)[(x :: a').length]? = some c := by
     rw [hab, List.getElem?_append_right (Nat.le_refl _), Nat.sub_self]
     rfl
    rw [List.getElem?_append_left hi] at e3
    have := enc_high hge hr c (List.mem_of_getElem? e3)
    omega
theorem bad_one {b : Int} (h0 : 0 ≤ b) (h1 : b < 128) (m : List Int) : bad (b :: m) = (bad m).map (· + 1) := by
 have e : enc b = [b] := by unfold enc; rw [if_pos h1]
 have h := bad_enc (r := b) ⟨h0, by omega, .inl (by omega)⟩ m
 rw [e] at h
 exact h
theorem bad_one_none {b : Int} (h0 : 0 ≤ b) (h1 : b < 128) (m : List Int) : bad (b :: m) = none ↔ bad m = none := by
 rw [bad_one h0 h1]
 cases bad m <;> simp
theorem bad_asc {l : List Int} (h : ∀ b ∈ l, 0 ≤ b ∧ b < 128) : bad l = none := by
 induction l with
 | nil => exact bad_nil
 | cons b l ih =>
  have := h b List.mem_cons_self
  exact (bad_one_none this.1 this.2 l).2 (ih (fun x hx => h x (List.mem_cons_of_mem _ hx)))
theorem bad_app {a b : List Int} (ha : Bytes a) (h1 : bad a = none) (h2 : bad b = none) : bad (a ++ b) = none := by
 rw [bad_join ha h1, h2]; rfl
/-- Behind a byte below 128. -/
theorem bad_mid {a b : List Int} {c : Int} (h0 : 0 ≤ c) (h1 : c < 128) (hB : Bytes (a ++ c :: b)) : bad (a ++ c :: b) = none ↔ bad a = none ∧ bad b = none := by
 constructor
 ·intro h
  obtain ⟨h2, h3⟩ := bad_cut _ hB h a (c :: b) rfl (fun x t hx => by rw [← (List.cons.inj hx).1]; exact h1)
  exact ⟨h2, (bad_one_none h0 h1 b).1 h3⟩
 ·rintro ⟨h2, h3⟩
  exact bad_app hB.left h2 ((bad_one_none h0 h1 b).2 h3)
/-- A text of lines, read. -/
theorem read_lines (ls : List Line) (hL : Lines ls) (hv : bad (textOf ls) = none) (hz : (textOf ls).length ≤ 65536) (hn : ls.length ≤ 513) (s : ByteArray) (hs : bytesOf s = textOf ls) :
  match rowsOf [] (ls.map Prod.fst) with
  | none => (readR s).1 = [] ∧ (readR s).2.1 = 7
  | some r => readR s = (r, 0, 0, 0, 0) := by
 have h := whole_lines ls hL 513 [] 0 hn
 rw [← hs] at h hv hz
 rw [size_of] at hz
 unfold readR fieldsR
 rw [if_neg (by omega), hv]
 simp only [List.map_nil] at h
 cases hr : rowsOf [] (ls.map Prod.fst) with
 | none =>
  rw [hr] at h
  obtain ⟨j, hj⟩ := h
  rw [hj]
  exact ⟨rfl, rfl⟩
 | some r =>
  rw [hr] at h
  obtain ⟨rows', hj, rfl⟩ := h
  rw [hj]
  rfl
/-- Rows of one length. -/
theorem rowsOf_same {c : Nat} : ∀ (l : List (List (List Int × List Int))) (rows : List (List ByteArray)), (∀ r ∈ rows, r.length = c) → (∀ f ∈ l, f.length = c) → rowsOf rows l = some (rows ++ l.map (·.map (fun p => strOfNums p.2)))
 | [], rows, _, _ => by simp [rowsOf]
 | f :: t, rows, h1, h2 => by
  have hf := h2 f List.mem_cons_self
  rw [rowsOf, if_neg, rowsOf_same t _ (by
   intro r hr
   rcases List.mem_append.1 hr with hr | hr
   ·exact h1 r hr
   ·rw [List.mem_singleton.1 hr, List.length_map]; exact hf) (fun x hx => h2 x (List.mem_cons_of_mem _ hx))]
  ·simp
  ·rintro ⟨h3, h4⟩
   cases rows with
   | nil => exact h3 rfl
   | cons a b => exact h4 (hf.trans (h1 a List.mem_cons_self).symm)
end Go.Proofs.YtjmmdphkgioooaaDoor.La
end
section
namespace Go.Proofs.YtjmmdphkgioooaaDoor.P
set_option linter.unusedVariables false
open Go.RowKit Go.Proofs.YtjmmdphkgioooaaDoor.La Go.Proofs.YtjmmdphkgioooaaDoorW.PrintWords Go.Proofs.YtjmmdphkgioooaaDoorW.PrintLast Go.Proofs.YtjmmdphkgioooaaDoorW.PrintMore
set_option maxHeartbeats 2000000 in
set_option maxRecDepth 100000 in
theorem bgrow0 (B b n : Nat) (w : World) (hB : B ≤ b) (hbk : w.heap[b]? = some (.cells #[.pointer (some ⟨b, 0, none⟩), .slice none 0 0] 44 (0, 0))) (hBw : B ≤ w.heap.size) (hn : n ≤ 281474976710656) :
  Calls Tryd.prog 55 #[.pointer (some ⟨b, 0, none⟩), .int .i64 n] w fun e w' => e = .returned (.tuple #[]) ∧ AtB B b [] w' ∧ Below B w w' := by
 obtain ⟨cs, hrun, hle, hmax⟩ := Lib.run_makeNoZero (P := Tryd.prog) w.drew #[3] 42 5 Tryd.underlying42 n hn
 have hw : IntKind.i64.wrap (IntKind.i64.wrap 0 + (n : Int)) = n := by
  rw [IntKind.wrap_i64, IntKind.wrap_i64]
  omega
 have hcall : (callFunc 70 #[.int .i64 (IntKind.i64.wrap (IntKind.i64.wrap 0 + (n : Int)))]).run Tryd.prog w.drew = .ok (.value (.slice (some ⟨w.drew.heap.size, 0, none⟩) n cs.size)) (w.drew.drew.drew.alloc (.cells cs 5)) := by
  rw [hw, run_callFunc_extern Tryd.func70 (by kernel_rfl) (by kernel_rfl) (by kernel_rfl) (e := Extern.BytealgMakeNoZero.makeNoZero #[3] #[42]) (by kernel_rfl), hrun]
  rfl
 have hlt : b < w.heap.size := bblk_lt hbk
 have c1 : w.drew.cell? ⟨b, 1, none⟩ = some (.slice none 0 0) := by
  have : w.drew.heap[b]? = _ := hbk
  rw [Lib.cell_of_heap this]; rfl
 have c2 : (w.alloc (.cells cs 5)).cell? ⟨b, 1, none⟩ = some (.slice none 0 0) := by
  have : (w.alloc (.cells cs 5)).heap[b]? = _ := (Lib.alloc_old w _ b hlt).trans hbk
  rw [Lib.cell_of_heap this]; rfl
 have f2 : (w.alloc (.cells cs 5)).frozen? ⟨b, 1, none⟩ = false := Lib.frozen_of_heap ((Lib.alloc_old w _ b hlt).trans hbk) 1
 have hcopy : ∀ W : World, (Builtin.copy_ #[42, 42] 3 #[.slice (some ⟨w.heap.size, 0, none⟩) 0 cs.size, .slice none 0 0]).run Tryd.prog W = .ok (goInt 0) W :=
  fun W => run_copy_none W 42 42 3 5 _ _ 0 cs.size 0 0 Tryd.underlying42 (by kernel_rfl) rfl
 clear hw
 have hfin := Lib.grown_fresh (T := 44) (e := 5) (cs := cs) hB hbk hBw (hmax (by unfold maxLen; omega)) (by decide)
 go_enter Tryd.func55, Tryd.ntmps55
 rw [World.setCell_alloc_past _ _ _ _ hlt] at hfin
 go_wp2
 go_region_with (fail)
 all_goals go_wp2
 all_goals (go_end0; exact ⟨rfl, Lib.BuilderAtF.of hfin.1, hfin.2⟩)
set_option maxHeartbeats 2000000 in
set_option maxRecDepth 100000 in
theorem bGrow (B b n : Nat) (w : World) (hB : B ≤ b) (hbk : w.heap[b]? = some (.cells #[.pointer none, .slice none 0 0] 44 (0, 0))) (hBw : B ≤ w.heap.size) (hn : n ≤ 281474976710656) :
  Calls Tryd.prog 42 #[.pointer (some ⟨b, 0, none⟩), .int .i64 n] w fun e w' => e = .returned (.tuple #[]) ∧ AtB B b [] w' ∧ Below B w w' := by
 have hbk1 : (w.setCell ⟨b, 0, none⟩ (.pointer (some ⟨b, 0, none⟩))).heap[b]? = some (.cells #[.pointer (some ⟨b, 0, none⟩), .slice none 0 0] 44 (0, 0)) := by
  simp [World.setCell, Array.getElem?_modify, hbk]
 have c1 : (w.setCell ⟨b, 0, none⟩ (.pointer (some ⟨b, 0, none⟩))).cell? ⟨b, 1, none⟩ = some (.slice none 0 0) := by rw [Lib.cell_of_heap hbk1]; rfl
 have hb1 : Below B w (w.setCell ⟨b, 0, none⟩ (.pointer (some ⟨b, 0, none⟩))) := (Below.refl B w).setCell (p := ⟨b, 0, none⟩) hB _
 have hU : AtB B b [] (w.setCell ⟨b, 0, none⟩ (.pointer (some ⟨b, 0, none⟩))) := Lib.BuilderAtF.of ⟨hB, .slice none 0 0, hbk1, World.ownsRow_nil _ _ _ _, by simp [Value.ownBlock]⟩
 have c1' : (w.setCell ⟨b, 0, none⟩ (.pointer (some ⟨b, 0, none⟩))).drew.cell? ⟨b, 1, none⟩ = some (.slice none 0 0) := c1
 go_enter Tryd.func42, Tryd.ntmps42
 go_wp2_with (go_at_call 33; refine (bcheck_new b w (by rw [Lib.cell_of_heap hbk]; rfl) (by simp [World.shape?, hbk]) (Lib.frozen_of_heap hbk 0)).mono ?_; rintro e w' ⟨rfl, rfl⟩)
 go_region_with (fail)
 all_goals go_wp2_with (go_at_call 55; refine (bgrow0 B b n (w.setCell ⟨b, 0, none⟩ (.pointer (some ⟨b, 0, none⟩))).drew hB hbk1 (by simpa [World.setCell, World.drew, -World.drew_eq] using hBw) hn).mono ?_; rintro e w' ⟨rfl, h1, h2⟩)
 all_goals first
  | (go_end0; exact ⟨rfl, h1, hb1.drew.trans h2⟩)
  | (go_end0; exact ⟨rfl, hU.drew, hb1.drew⟩)
end Go.Proofs.YtjmmdphkgioooaaDoor.P
end
section
namespace Go.Proofs.YtjmmdphkgioooaaDoor.P
set_option linter.unusedVariables false
open Go.RowKit Go.Proofs.YtjmmdphkgioooaaDoor.La Go.Proofs.YtjmmdphkgioooaaDoorW.PrintWords Go.Proofs.YtjmmdphkgioooaaDoorW.PrintLast Go.Proofs.YtjmmdphkgioooaaDoorW.PrintMore
abbrev Q1 : ByteArray := ⟨#[34]⟩
abbrev Q2 : ByteArray := ⟨#[34, 34]⟩
/-- The bytes of a builder. -/
def bl (l : List UInt8) : List Int := l.map fun b => (b.toNat : Int)
theorem bl_append (a b : List UInt8) : bl (a ++ b) = bl a ++ bl b := List.map_append
theorem bl_data (s : ByteArray) : bl s.data.toList = bytesOf s := rfl
theorem bytes_mk (l : List UInt8) : bytesOf ⟨l.toArray⟩ = bl l := by rw [bytesOf_data]; rfl
theorem q_idx (s : ByteArray) : Lib.indexByte s.data.toList 34 = idx (bytesOf s) 34 := idx_of s.data.toList (c := 34) (by omega) (by omega)
theorem q_cnt (s : ByteArray) : Lib.countByte s.data.toList 34 = cntB (bytesOf s) 34 := cntB_of s.data.toList (c := 34) (by omega) (by omega)
theorem cnt_pos {l : List Int} {c : Int} (h : 0 < cntB l c) : 0 ≤ idx l c := by
 induction l with
 | nil => simp [cntB] at h
 | cons b l ih =>
  rw [cntB] at h
  rw [idx]
  split
  ·omega
  ·rename_i hb
   rw [if_neg hb] at h
   have := ih (by omega)
   split <;> omega
theorem cnt_zero {l : List Int} {c : Int} (h : c ∉ l) : cntB l c = 0 := by
 induction l with
 | nil => rfl
 | cons b l ih =>
  rw [cntB, if_neg (fun e => h (by rw [e]; exact List.mem_cons_self)), ih (fun e => h (List.mem_cons_of_mem _ e))]
theorem cnt_not {l : List Int} {c : Int} (h : cntB l c = 0) : c ∉ l := by
 induction l with
 | nil => simp
 | cons b l ih =>
  rw [cntB] at h
  split at h
  ·omega
  ·rename_i hb
   intro hm
   rcases List.mem_cons.1 hm with e | e
   ·exact hb e.symm
   ·exact ih (by omega) e
theorem repl_cnt0 (s : ByteArray) (h : cntB (bytesOf s) 34 = 0) : dbl (bytesOf s) = bytesOf s := dbl_id (cnt_not h)
set_option maxHeartbeats 4000000 in
set_option maxRecDepth 100000 in
theorem repl_none (s : ByteArray) (h : cntB (bytesOf s) 34 = 0) (w : World) :
  Calls Tryd.prog 35 #[.string s, .string Q1, .string Q2, .int .i64 (-1)] w fun e w' => e = .returned (.string s) ∧ w' = w := by
 have hC := Tryd.strings_Count_one s 34 w
 rw [q_cnt, h] at hC
 go_enter Tryd.func35, Tryd.ntmps35
 go_wp2_with (first | (go_at_call 48; refine hC.mono ?_; rintro e w' ⟨rfl, hw⟩; rw [hw]))
 go_ret
 exact ⟨rfl, rfl⟩
set_option maxHeartbeats 8000000 in
set_option maxRecDepth 100000 in
theorem repl_some (s : ByteArray) (K : Nat) (hK : cntB (bytesOf s) 34 = K) (hK1 : 1 ≤ K) (hs : s.size ≤ 35184372088832) (w : World) :
  Calls Tryd.prog 35 #[.string s, .string Q1, .string Q2, .int .i64 (-1)] w fun e w' => e = .returned (.string (strOfNums (dbl (bytesOf s)))) ∧ Below w.heap.size w w' := by
 have hC := Tryd.strings_Count_one s 34 w
 rw [q_cnt, hK] at hC
 have hKs : K ≤ s.size := by rw [← hK, ← size_of]; exact cntB_le _ _
 have hcz : ((K : Int) == 0) = false := beq_eq_false_iff_ne.2 (by omega)
 have hga : IntKind.i64.wrap ((s.size : Int) + IntKind.i64.wrap ((K : Int) * IntKind.i64.wrap (2 - 1))) = ((s.size + K : Nat) : Int) := by
  simp only [IntKind.wrap_i64]; omega
 go_enter Tryd.func35, Tryd.ntmps35
 go_wp2_with (first | (go_at_call 48; refine hC.mono ?_; rintro e w' ⟨rfl, hw⟩; rw [hw]))
 clear hC
 try rw [hga]
 refine (bGrow w.heap.size w.heap.size (s.size + K) _ (Nat.le_refl _) (heap_alloc_new w _) (by simp) (by omega)).mono ?_
 rintro e w1 ⟨rfl, hb0, hb1⟩
 have H1 := Lib.hid (Or.inr hb0 : IsB w.heap.size w.heap.size (Lib.byteCells []) w1)
 have Hb1 := Lib.hid (((Below.refl w.heap.size w).alloc (Nat.le_refl _) _).trans hb1)
 clear hb0 hb1 hga
 go_wp2_with fail
 go_loopg [11, 53] K (fun g s11 s53 wx => ∃ (i start : Nat) (acc : List UInt8), s53 = .int .i64 i ∧ s11 = .int .i64 start ∧ i + g = K ∧ start ≤ s.size ∧
  Hid (IsB w.heap.size w.heap.size (Lib.byteCells acc) wx) ∧ Hid (Below w.heap.size w wx) ∧ Hid (bl acc ++ dbl ((bytesOf s).drop start) = dbl (bytesOf s)) ∧
  Hid (cntB ((bytesOf s).drop start) 34 = g) ∧ acc.length ≤ 2 * start)
 case atStart => exact ⟨0, 0, [], rfl, rfl, by omega, Nat.zero_le _, H1, Hb1, Lib.hid rfl, Lib.hid hK, Nat.le_refl _⟩
 case round =>
  obtain ⟨i, start, acc, rfl, rfl, hig, hst, HB, HW, HR, HC, hbd⟩ := hrel
  have hBw : w.heap.size ≤ wr.heap.size := HW.out.size
  have c1 : (0 : Int) ≤ (start : Int) := by omega
  have c2 : (start : Int) ≤ (s.size : Int) := by omega
  have hex : bytesOf (s.extract start s.size) = (bytesOf s).drop start := bytesOf_drop s start
  cases gk with
  | zero =>
   have hiK : ¬ ((i : Int) < (K : Int)) := by omega
   have hfin : bl (acc ++ (s.extract start s.size).data.toList) = dbl (bytesOf s) := by
    rw [bl_append, bl_data, hex, ← HR.out, dbl_id (cnt_not HC.out)]
   have hstr : (⟨(acc ++ (s.extract start s.size).data.toList).toArray⟩ : ByteArray) = strOfNums (dbl (bytesOf s)) := by
    apply bytesOf_inj
    rw [bytes_mk, hfin, strOfNums_bytes (dbl_bytes (bytes_of s))]
   have Hfin := Lib.hid hstr
   clear hstr
   clear hfin hex
   go_wp2_with fail
   refine (bwrite w.heap.size w.heap.size _ (s.extract start s.size) wr HB.out (by rw [Lib.byteCells_length, size_drop]; omega) hBw).mono ?_
   rintro e w3 ⟨rfl, h3, hb3⟩
   have h3 := builder_more h3
   have H3 := Lib.hid h3
   have Hb3 := Lib.hid (HW.out.trans hb3)
   have hBw3 : w.heap.size ≤ w3.heap.size := Hb3.out.size
   clear h3 hb3
   go_wp2_with fail
   refine (bstring w.heap.size w.heap.size _ w3 H3.out hBw3).mono ?_
   rintro e w5 ⟨rfl, hb5⟩
   rw [Hfin.out]
   have Hb5 := Lib.hid (Hb3.out.trans hb5)
   clear hb5
   go_wp2
   go_ret
   exact ⟨rfl, Hb5.out⟩
  | succ g =>
   have hiK : (i : Int) < (K : Int) := by omega
   obtain ⟨j, hj, hjl, hsp, hno⟩ := idx_some (cnt_pos (l := (bytesOf s).drop start) (c := 34) (by rw [HC.out]; omega))
   rw [List.length_drop, size_of] at hjl
   have hIx := Tryd.strings_Index_one (s.extract start s.size) 34 wr
   rw [q_idx, hex, hj] at hIx
   have c3 : (start : Int) ≤ (start : Int) + (j : Int) := by omega
   have c4 : (start : Int) + (j : Int) ≤ (s.size : Int) := by omega
   have HS := Lib.hid hsp
   have HN := Lib.hid hno
   have HJ := Lib.hid hj
   clear hsp hno hj hex
   go_wp2_with (first | (go_at_call 49; refine hIx.mono ?_; rintro e w' ⟨rfl, hw⟩; rw [hw]))
   refine (bwrite w.heap.size w.heap.size _ (s.extract start (start + j)) wr HB.out (by rw [Lib.byteCells_length, ByteArray.size_extract]; omega) hBw).mono ?_
   rintro e w3 ⟨rfl, h3, hb3⟩
   have h3 := builder_more h3
   have hBw3 : w.heap.size ≤ w3.heap.size := Nat.le_trans hBw hb3.size
   have H3 := Lib.hid h3
   have Hb3 := Lib.hid hb3
   clear h3 hb3
   have hl3 : (acc ++ (s.extract start (start + j)).data.toList).length = acc.length + j := by
    rw [List.length_append, ← Lib.size_eq, ByteArray.size_extract]; omega
   have HL3 := Lib.hid hl3
   clear hl3
   go_wp2_with fail
   refine (bwrite w.heap.size w.heap.size _ Q2 w3 H3.out (by rw [Lib.byteCells_length, HL3.out]; show _ + 2 ≤ _; omega) hBw3).mono ?_
   rintro e w4 ⟨rfl, h4, hb4⟩
   have h4 := builder_more h4
   have H4 := Lib.hid h4
   have Hb4 := Lib.hid ((HW.out.trans Hb3.out).trans hb4)
   clear h4 hb4
   have hex2 : bytesOf (s.extract start (start + j)) = ((bytesOf s).drop start).take j := by rw [bytesOf_extract, List.drop_take, Nat.add_sub_cancel_left]
   have hdr : ((bytesOf s).drop start).drop (j + 1) = (bytesOf s).drop (start + j + 1) := by rw [List.drop_drop, Nat.add_assoc]
   have hrel : bl ((acc ++ (s.extract start (start + j)).data.toList) ++ Q2.data.toList) ++ dbl ((bytesOf s).drop (start + j + 1)) = dbl (bytesOf s) := by
    rw [← HR.out, HS.out, dbl_append, dbl_cons, if_pos rfl, dbl_id HN.out, hdr, bl_append, bl_append, bl_data, hex2]
    simp [bl]
   have hcn : cntB ((bytesOf s).drop (start + j + 1)) 34 = g := by
    have h := HC.out
    rw [HS.out, cntB_append, cnt_zero HN.out, cntB, if_pos rfl, hdr] at h
    omega
   have HREL := Lib.hid hrel
   have HCN := Lib.hid hcn
   have hln : ((acc ++ (s.extract start (start + j)).data.toList) ++ Q2.data.toList).length ≤ 2 * (start + j + 1) := by
    rw [List.length_append, HL3.out]; show _ + 2 ≤ _; omega
   have HLN := Lib.hid hln
   clear hrel hcn hln hex2 hdr
   go_wp2
   go_roundg g
   case measure => omega
   case rel => exact ⟨i + 1, start + j + 1, _, by first | rfl | (simp; unfold wrap64; omega), by first | rfl | simp | (simp; unfold wrap64; omega), by omega, by omega, H4, Hb4, HREL, HCN, HLN.out⟩
end Go.Proofs.YtjmmdphkgioooaaDoor.P
end
section
namespace Go.Proofs.YtjmmdphkgioooaaDoor.P
set_option linter.unusedVariables false
open Go.RowKit Go.Proofs.YtjmmdphkgioooaaDoor.La Go.Proofs.YtjmmdphkgioooaaDoorW.PrintWords Go.Proofs.YtjmmdphkgioooaaDoorW.PrintLast Go.Proofs.YtjmmdphkgioooaaDoorW.PrintMore
/-- A field, written. -/
def fieldL (s : List Int) (alone : Bool) : List Int := if s.any odd4 = true ∨ (s = [] ∧ alone = true) then 34 :: (dbl s ++ [34]) else s
def fieldW (s : ByteArray) (alone : Bool) : ByteArray := strOfNums (fieldL (bytesOf s) alone)
theorem fieldL_bytes {s : List Int} (h : Bytes s) (alone : Bool) : Bytes (fieldL s alone) := by
 unfold fieldL
 split
 ·intro b hb
  rcases List.mem_cons.1 hb with rfl | hb
  ·omega
  ·rcases List.mem_append.1 hb with hb | hb
   ·exact dbl_bytes h b hb
   ·simp at hb; omega
 ·exact h
theorem fieldW_bytes (s : ByteArray) (alone : Bool) : bytesOf (fieldW s alone) = fieldL (bytesOf s) alone := strOfNums_bytes (fieldL_bytes (bytes_of s) alone)
theorem fieldL_len (s : List Int) (alone : Bool) : (fieldL s alone).length ≤ 2 * s.length + 2 := by
 unfold fieldL
 have := (dbl_len s).2
 split
 ·simp; omega
 ·omega
def cprint_Field.f (s : ByteArray) (alone : Bool) : Option ByteArray := if s.size ≤ 10000 then some (fieldW s alone) else none
theorem containsq (b : UInt8) : ([34, 44, 10, 13] : List UInt8).contains b = odd4 (b.toNat : Int) := by
 have h : ∀ c : UInt8, (b == c) = ((b.toNat : Int) == (c.toNat : Int)) := by
  intro c
  rw [Bool.eq_iff_iff, beq_iff_eq, beq_iff_eq, ← UInt8.toNat_inj]
  omega
 simp only [List.contains_cons, List.contains_nil, Bool.or_false, odd4]
 rw [h 44, h 10, h 13, h 34]
 show (((b.toNat : Int) == 34) || (((b.toNat : Int) == 44) || (((b.toNat : Int) == 10) || ((b.toNat : Int) == 13)))) = ((((b.toNat : Int) == 44) || ((b.toNat : Int) == 10) || ((b.toNat : Int) == 13) || ((b.toNat : Int) == 34)))
 cases ((b.toNat : Int) == 34) <;> cases ((b.toNat : Int) == 44) <;> cases ((b.toNat : Int) == 10) <;> cases ((b.toNat : Int) == 13) <;> rfl
theorem idxq (l : List UInt8) : -1 ≤ Lib.indexAny l [34, 44, 10, 13] ∧ decide (0 ≤ Lib.indexAny l [34, 44, 10, 13]) = (bl l).any odd4 := by
 induction l with
 | nil => exact ⟨by decide, by decide⟩
 | cons b l ih =>
  rw [Lib.indexAny, containsq]
  have e : (bl (b :: l)).any odd4 = (odd4 (b.toNat : Int) || (bl l).any odd4) := rfl
  rw [e, ← ih.2]
  cases odd4 (b.toNat : Int) with
  | true => exact ⟨by simp, by simp⟩
  | false =>
   by_cases hm : Lib.indexAny l [34, 44, 10, 13] = -1
   ·rw [hm]; exact ⟨by simp, by simp⟩
   ·have e1 : (Lib.indexAny l [34, 44, 10, 13] == -1) = false := beq_eq_false_iff_ne.2 hm
    have := ih.1
    simp only [Bool.false_eq_true, if_false, e1, Bool.false_or]
    exact ⟨by omega, by rw [decide_eq_decide]; omega⟩
theorem asciiInfoC : (Tryd.prog.info? 77).map (fun i => (i.zero, i.size)) = some (some (.agg (Array.replicate 256 (.bool false))), 256) := by kernel_rfl
theorem idxAnyq (s : ByteArray) (hs : s.size < 4294967281) (w : World) :
  Calls Tryd.prog 34 #[.string s, .string ⟨#[34, 44, 10, 13]⟩] w fun e w' => e = .returned (.int .i64 (Lib.indexAny s.data.toList [34, 44, 10, 13])) ∧ Below w.heap.size w w' := by
 have hc : ∀ (j : Nat) (b : UInt8), (⟨#[34, 44, 10, 13]⟩ : ByteArray).data.toList[j]? = some b → b.toNat < 128 := by
  intro j b h
  match j, h with
  | 0, h => obtain rfl := Option.some.inj h; decide
  | 1, h => obtain rfl := Option.some.inj h; decide
  | 2, h => obtain rfl := Option.some.inj h; decide
  | 3, h => obtain rfl := Option.some.inj h; decide
 by_cases h8 : s.size ≤ 8
 ·exact idxAny_short s _ rfl hc h8 w
 ·refine (Tryd.strings_IndexAny_long (zero_of_info asciiInfoC).1 s _ w (by decide) (by omega) hs (by decide) hc).mono fun e w' h => ⟨h.1, ?_⟩
  rw [h.2]
  exact below_alloc (below_alloc (Below.refl _ _) _) _
theorem containsAnyq (s : ByteArray) (hs : s.size < 4294967281) (w : World) :
  Calls Tryd.prog 24 #[.string s, .string ⟨#[34, 44, 10, 13]⟩] w fun e w' => e = .returned (.bool ((bytesOf s).any odd4)) ∧ Below w.heap.size w w' := by
 have hx := (idxq s.data.toList).2
 rw [bl_data] at hx
 go_enter Tryd.func24, Tryd.ntmps24
 go_wp2_with fail
 refine (idxAnyq s hs _).mono ?_
 rintro e w1 ⟨rfl, hb1⟩
 go_wp2
 go_ret
 exact ⟨by rw [← hx]; rfl, hb1⟩
theorem replaceAllq (s : ByteArray) (hs : s.size ≤ 35184372088832) (w : World) :
  Calls Tryd.prog 25 #[.string s, .string Q1, .string Q2] w fun e w' => e = .returned (.string (strOfNums (dbl (bytesOf s)))) ∧ Below w.heap.size w w' := by
 have hR : Calls Tryd.prog 35 #[.string s, .string Q1, .string Q2, .int .i64 (-1)] w fun e w' => e = .returned (.string (strOfNums (dbl (bytesOf s)))) ∧ Below w.heap.size w w' := by
  by_cases h : cntB (bytesOf s) 34 = 0
  ·refine (repl_none s h w).mono ?_
   rintro e w' ⟨rfl, rfl⟩
   exact ⟨by rw [repl_cnt0 s h, strOfNums_of], Below.refl _ _⟩
  ·exact repl_some s _ rfl (by omega) hs w
 go_enter Tryd.func25, Tryd.ntmps25
 go_wp2_with fail
 refine hR.mono ?_
 rintro e w1 ⟨rfl, hb1⟩
 go_wp2
 go_ret
 exact ⟨rfl, hb1⟩
theorem quoted_eq (s : ByteArray) : (Q1 ++ strOfNums (dbl (bytesOf s))) ++ Q1 = strOfNums (34 :: (dbl (bytesOf s) ++ [34])) := by
 apply bytesOf_inj
 have hb : Bytes (34 :: (dbl (bytesOf s) ++ [34])) := by
  intro b hb
  rcases List.mem_cons.1 hb with rfl | hb
  ·omega
  ·rcases List.mem_append.1 hb with hb | hb
   ·exact dbl_bytes (bytes_of s) b hb
   ·simp at hb; omega
 rw [bytesOf_append, bytesOf_append, strOfNums_bytes (dbl_bytes (bytes_of s)), strOfNums_bytes hb]
 simp [bytesOf_data]
set_option maxHeartbeats 4000000 in
set_option maxRecDepth 100000 in
theorem cprint_Field.calls (a0 : ByteArray) (a1 : Bool) (r : ByteArray) (w : World) (h : cprint_Field.f a0 a1 = some r) :
  Calls Tryd.prog 10 #[.string a0, .bool a1] w fun e w' => e = .returned (.string r) ∧ Below w.heap.size w w' := by
 unfold cprint_Field.f at h
 split at h
 ·rename_i hs
  obtain rfl := Option.some.inj h
  clear h
  have hd : (strOfNums (dbl (bytesOf a0))).size ≤ 20000 := by
   rw [size_strOfNums (dbl_bytes (bytes_of a0))]
   have := (dbl_len (bytesOf a0)).2
   rw [size_of] at this
   omega
  have g1 : Q1.size + (strOfNums (dbl (bytesOf a0))).size ≤ 9223372036854775807 := by show 1 + _ ≤ _; omega
  have g2 : (Q1 ++ strOfNums (dbl (bytesOf a0))).size + Q1.size ≤ 9223372036854775807 := by rw [size_append']; show 1 + _ + 1 ≤ _; omega
  by_cases hq : (bytesOf a0).any odd4 = true ∨ (bytesOf a0 = [] ∧ a1 = true)
  ·have hf : fieldW a0 a1 = (Q1 ++ strOfNums (dbl (bytesOf a0))) ++ Q1 := by
    rw [quoted_eq]
    unfold fieldW fieldL
    rw [if_pos hq]
   rw [hf]
   cases hany : (bytesOf a0).any odd4 with
   | true =>
    go_enter Tryd.func10, Tryd.ntmps10
    go_wp2_with fail
    refine (containsAnyq a0 (by omega) _).mono ?_
    rintro e w1 ⟨rfl, hb1⟩
    rw [hany]
    go_wp2_with fail
    refine (replaceAllq a0 (by omega) _).mono ?_
    rintro e w2 ⟨rfl, hb2⟩
    go_wp2
    go_ret
    exact ⟨rfl, below_step hb1 hb2⟩
   | false =>
    rw [hany] at hq
    obtain ⟨he, rfl⟩ : bytesOf a0 = [] ∧ a1 = true := by
     rcases hq with h | h
     ·cases h
     ·exact h
    have e0 : (a0.toList == ([] : List UInt8)) = true := beq_iff_eq.mpr ((toList_nil_iff a0).2 he)
    have e1 : a0.toList.isEmpty = true := List.isEmpty_iff.2 ((toList_nil_iff a0).2 he)
    go_enter Tryd.func10, Tryd.ntmps10
    go_wp2_with fail
    refine (containsAnyq a0 (by omega) _).mono ?_
    rintro e w1 ⟨rfl, hb1⟩
    rw [hany]
    go_wp2_with fail
    refine (replaceAllq a0 (by omega) _).mono ?_
    rintro e w2 ⟨rfl, hb2⟩
    go_wp2
    go_ret
    exact ⟨by rw [he]; rfl, below_step hb1 hb2⟩
  ·have hf : fieldW a0 a1 = a0 := by
    unfold fieldW fieldL
    rw [if_neg hq, strOfNums_of]
   rw [hf]
   have hany : (bytesOf a0).any odd4 = false := by
    cases h : (bytesOf a0).any odd4 with
    | true => exact absurd (.inl h) hq
    | false => rfl
   by_cases he : bytesOf a0 = []
   ·have ha1 : a1 = false := by
     cases a1 with
     | true => exact absurd (.inr ⟨he, rfl⟩) hq
     | false => rfl
    subst ha1
    have e0 : (a0.toList == ([] : List UInt8)) = true := beq_iff_eq.mpr ((toList_nil_iff a0).2 he)
    have e1 : a0.toList.isEmpty = true := List.isEmpty_iff.2 ((toList_nil_iff a0).2 he)
    go_enter Tryd.func10, Tryd.ntmps10
    go_wp2_with fail
    refine (containsAnyq a0 (by omega) _).mono ?_
    rintro e w1 ⟨rfl, hb1⟩
    rw [hany]
    go_wp2
    go_ret
    exact ⟨rfl, hb1⟩
   ·have e0 : (a0.toList == ([] : List UInt8)) = false := beq_eq_false_iff_ne.mpr (fun h => he ((toList_nil_iff a0).1 h))
    have e1 : a0.toList.isEmpty = false := List.isEmpty_eq_false_iff.2 (fun h => he ((toList_nil_iff a0).1 h))
    go_enter Tryd.func10, Tryd.ntmps10
    go_wp2_with fail
    refine (containsAnyq a0 (by omega) _).mono ?_
    rintro e w1 ⟨rfl, hb1⟩
    rw [hany]
    go_wp2
    go_ret
    exact ⟨rfl, hb1⟩
 ·cases h
end Go.Proofs.YtjmmdphkgioooaaDoor.P
end
section
namespace Go.Proofs.YtjmmdphkgioooaaDoor.P
set_option linter.unusedVariables false
open Go.RowKit Go.Proofs.YtjmmdphkgioooaaDoor.La Go.Proofs.YtjmmdphkgioooaaDoorW.PrintWords Go.Proofs.YtjmmdphkgioooaaDoorW.PrintLast Go.Proofs.YtjmmdphkgioooaaDoorW.PrintMore
theorem joinC_snoc : ∀ (l : List (List Int)) (x : List Int), l ≠ [] → joinC (l ++ [x]) = joinC l ++ 44 :: x
 | [], _, h => absurd rfl h
 | [a], x, _ => rfl
 | a :: b :: t, x, _ => by
  have ih := joinC_snoc (b :: t) x (by simp)
  rw [List.cons_append, List.cons_append, joinC, joinC, ← List.cons_append, ih, List.append_assoc]
  rfl
theorem joinC_take (l : List (List Int)) {k : Nat} (h0 : 0 < k) (h : k < l.length) : joinC (l.take (k + 1)) = joinC (l.take k) ++ 44 :: l[k] := by
 rw [List.take_add_one, List.getElem?_eq_getElem h]
 exact joinC_snoc _ _ (by intro e; have := congrArg List.length e; rw [List.length_take, List.length_nil] at this; omega)
theorem joinC_bytes : ∀ {l : List (List Int)}, (∀ x ∈ l, Bytes x) → Bytes (joinC l)
 | [], _ => fun b hb => by cases hb
 | [a], h => h a List.mem_cons_self
 | a :: b :: t, h => by
  rw [joinC]
  refine (h a List.mem_cons_self).append ?_
  intro x hx
  rcases List.mem_cons.1 hx with rfl | hx
  ·omega
  ·exact joinC_bytes (fun y hy => h y (List.mem_cons_of_mem _ hy)) x hx
theorem joinC_len : ∀ (l : List (List Int)) (m : Nat), (∀ x ∈ l, x.length ≤ m) → (joinC l).length ≤ l.length * (m + 1)
 | [], _, _ => Nat.zero_le _
 | [a], m, h => by have := h a List.mem_cons_self; rw [joinC, List.length_singleton]; omega
 | a :: b :: t, m, h => by
  have ih := joinC_len (b :: t) m (fun y hy => h y (List.mem_cons_of_mem _ hy))
  have := h a List.mem_cons_self
  rw [joinC, List.length_append, List.length_cons, List.length_cons (a := a), Nat.succ_mul]
  omega
def joinW (xs : List ByteArray) : ByteArray := strOfNums (joinC (xs.map bytesOf))
theorem joinW_bytes (xs : List ByteArray) : bytesOf (joinW xs) = joinC (xs.map bytesOf) := strOfNums_bytes (joinC_bytes (fun x hx => by
 obtain ⟨s, _, rfl⟩ := List.mem_map.1 hx
 exact bytes_of s))
theorem joinW_size (xs : List ByteArray) (hS : ∀ x ∈ xs, x.size ≤ 20002) : (joinW xs).size ≤ xs.length * 20003 := by
 rw [← size_of, joinW_bytes]
 have h := joinC_len (xs.map bytesOf) 20002 (fun x hx => by
  obtain ⟨s, hs, rfl⟩ := List.mem_map.1 hx
  rw [size_of]; exact hS s hs)
 rw [List.length_map] at h
 exact h
theorem join_one (bk o c : Nat) (x : ByteArray) (w : World) (hc : w.cell? ⟨bk, o, none⟩ = some (.string x)) :
  Calls Tryd.prog 32 #[.slice (some ⟨bk, o, none⟩) 1 c, .string ⟨#[44]⟩] w fun e w' => e = .returned (.string x) ∧ Below w.heap.size w w' := by
 go_enter Tryd.func32, Tryd.ntmps32
 go_wp2
 go_ret
 exact ⟨rfl, by first | exact Below.refl _ _ | exact pw_below_drewN (Below.refl _ _) _ | exact pw_below_drew (Below.refl _ _)⟩
set_option maxHeartbeats 16000000 in
set_option maxRecDepth 100000 in
theorem join_many (bk o c : Nat) (xs : List ByteArray) (w : World)
  (hcells : ∀ (j : Nat) x, xs[j]? = some x → w.cell? ⟨bk, o + j, none⟩ = some (.string x))
  (hbk : bk < w.heap.size) (h2 : 2 ≤ xs.length) (hN : xs.length ≤ 200) (hcap : xs.length ≤ c) (hS : ∀ x ∈ xs, x.size ≤ 20002) :
  Calls Tryd.prog 32 #[.slice (some ⟨bk, o, none⟩) xs.length c, .string ⟨#[44]⟩] w fun e w' => e = .returned (.string (joinW xs)) ∧ Below w.heap.size w w' := by
 have HC := Lib.hid hcells
 have HS := Lib.hid hS
 clear hcells hS
 have hdv : ¬ (9223372036854775807 / ((xs.length : Int) - 1) ≤ 1) := by
  intro h
  have h3 : (2 : Int) ≤ 9223372036854775807 / ((xs.length : Int) - 1) := by
   rw [Int.le_ediv_iff_mul_le (by omega)]; omega
  omega
 have hne0 : ((xs.length : Int) == 0) = false := beq_eq_false_iff_ne.2 (by omega)
 have hne1 : ((xs.length : Int) == 1) = false := beq_eq_false_iff_ne.2 (by omega)
 go_enter Tryd.func32, Tryd.ntmps32
 go_wp2_with fail
 go_loop [5, 41] (fun n i => ∃ (k : Nat) (z : Int), k ≤ xs.length ∧ i = .int .i64 k ∧ n = .int .i64 z ∧ 0 ≤ z ∧ z ≤ 200 + k * 20002) (fun _ i => xs.length - (intOf i).toNat)
 case atStart => exact ⟨0, (xs.length : Int) - 1, Nat.zero_le _, rfl, by first | rfl | (simp; done) | (refine congrArg _ ?_; simp; unfold wrap64; omega), by omega, by omega⟩
 case round =>
  obtain ⟨k, z, hk, rfl, rfl, hz0, hz1⟩ := hrel
  by_cases hkn : k < xs.length
  ·obtain ⟨x, hx⟩ : ∃ x, xs[k]? = some x := ⟨xs[k], List.getElem?_eq_getElem hkn⟩
   have hc := HC.out k x hx
   have hxs := HS.out x (List.mem_of_getElem? hx)
   clear hx
   go_wp2
   exact ⟨⟨k + 1, z + x.size, by omega, by go_num, by first | rfl | (refine congrArg _ ?_; omega), by omega, by omega⟩, by simp [intOf]; omega⟩
  ·have hke : k = xs.length := by omega
   subst hke
   go_wp2_with fail
   obtain ⟨n, rfl⟩ : ∃ n : Nat, z = (n : Int) := ⟨z.toNat, by omega⟩
   refine (bGrow w.heap.size w.heap.size n _ (Nat.le_refl _) (heap_alloc_new w _) (by simp) (by omega)).mono ?_
   rintro e w1 ⟨rfl, h1, hb1⟩
   have hb1' : Below w.heap.size w w1 := ((Below.refl w.heap.size w).alloc (Nat.le_refl _) _).trans hb1
   obtain ⟨x0, hx0⟩ : ∃ x, xs[0]? = some x := ⟨xs[0], List.getElem?_eq_getElem (by omega)⟩
   have hc0 : w1.cell? ⟨bk, o, none⟩ = some (.string x0) := by
    rw [hb1'.cell (p := ⟨bk, o, none⟩) hbk]
    exact HC.out 0 x0 hx0
   have hs0 := HS.out x0 (List.mem_of_getElem? hx0)
   have H1 := Lib.hid (Or.inr h1 : IsB w.heap.size w.heap.size (Lib.byteCells []) w1)
   have Hb1 := Lib.hid hb1'
   have hBw1 : w.heap.size ≤ w1.heap.size := hb1'.size
   have HX0 := Lib.hid hx0
   clear h1 hb1 hb1' hx0
   go_wp2_with fail
   refine (bwrite w.heap.size w.heap.size _ x0 w1 H1.out (by rw [Lib.byteCells_length]; simp; omega) hBw1).mono ?_
   rintro e w2 ⟨rfl, h2', hb2⟩
   have h2' := builder_more h2'
   rw [List.nil_append] at h2'
   have H2 := Lib.hid h2'
   have Hb2 := Lib.hid (Hb1.out.trans hb2)
   have hr0 : bl x0.data.toList = joinC ((xs.map bytesOf).take 1) := by
    have : (xs.map bytesOf).take 1 = [bytesOf x0] := by
     rw [List.take_add_one, List.take_zero, List.getElem?_map, HX0.out]; rfl
    rw [this]; rfl
   have HR0 := Lib.hid hr0
   have hl0 : x0.data.toList.length ≤ 20003 := by rw [← Lib.size_eq]; omega
   clear h2' hb2 hr0
   go_wp2_with fail
   go_loopw [65] (fun i wr => ∃ (k : Nat) (acc : List UInt8), k ≤ xs.length - 1 ∧ i = .int .i64 k ∧ Hid (IsB w.heap.size w.heap.size (Lib.byteCells acc) wr) ∧ Hid (Below w.heap.size w wr) ∧ Hid (bl acc = joinC ((xs.map bytesOf).take (k + 1))) ∧ acc.length ≤ (k + 1) * 20003) (fun i _ => xs.length - 1 - (intOf i).toNat)
   case atStart => exact ⟨0, _, Nat.zero_le _, rfl, H2, Hb2, HR0, by omega⟩
   case round =>
    obtain ⟨k, acc, hk', rfl, HB, HW, HR, hal⟩ := hrel
    have hBw : w.heap.size ≤ wr.heap.size := HW.out.size
    by_cases hkr : k < xs.length - 1
    ·have hk1 : k + 1 < xs.length := by omega
     obtain ⟨y, hy⟩ : ∃ y, xs[k + 1]? = some y := ⟨xs[k + 1], List.getElem?_eq_getElem hk1⟩
     have hcy : wr.cell? ⟨bk, o + 1 + k, none⟩ = some (.string y) := by
      rw [HW.out.cell (p := ⟨bk, o + 1 + k, none⟩) hbk, show o + 1 + k = o + (k + 1) by omega]
      exact HC.out (k + 1) y hy
     have hys := HS.out y (List.mem_of_getElem? hy)
     have hnx : joinC ((xs.map bytesOf).take (k + 1 + 1)) = joinC ((xs.map bytesOf).take (k + 1)) ++ 44 :: bytesOf y := by
      rw [joinC_take _ (by omega) (by rw [List.length_map]; exact hk1), List.getElem_map]
      rw [List.getElem?_eq_getElem hk1] at hy
      rw [Option.some.inj hy]
     have HN := Lib.hid hnx
     clear hnx hy
     go_wp2_with fail
     refine (bwrite w.heap.size w.heap.size _ ⟨#[44]⟩ wr HB.out (by rw [Lib.byteCells_length]; show _ + 1 ≤ _; omega) hBw).mono ?_
     rintro e w3 ⟨rfl, h3, hb3⟩
     have h3 := builder_more h3
     have hBw3 : w.heap.size ≤ w3.heap.size := Nat.le_trans hBw hb3.size
     have H3 := Lib.hid h3
     have Hb3 := Lib.hid hb3
     have hl3 : (acc ++ (⟨#[44]⟩ : ByteArray).data.toList).length = acc.length + 1 := by rw [List.length_append]; rfl
     have HL3 := Lib.hid hl3
     clear h3 hb3 hl3
     go_wp2_with fail
     refine (bwrite w.heap.size w.heap.size _ y w3 H3.out (by rw [Lib.byteCells_length, HL3.out]; omega) hBw3).mono ?_
     rintro e w4 ⟨rfl, h4, hb4⟩
     have h4 := builder_more h4
     have H4 := Lib.hid h4
     have Hb4 := Lib.hid ((HW.out.trans Hb3.out).trans hb4)
     have hrel : bl ((acc ++ (⟨#[44]⟩ : ByteArray).data.toList) ++ y.data.toList) = joinC ((xs.map bytesOf).take (k + 1 + 1)) := by
      rw [HN.out, bl_append, bl_append, HR.out, bl_data, List.append_assoc]; rfl
     have HREL := Lib.hid hrel
     have hln : ((acc ++ (⟨#[44]⟩ : ByteArray).data.toList) ++ y.data.toList).length ≤ (k + 1 + 1) * 20003 := by
      rw [List.length_append, HL3.out, ← Lib.size_eq]; omega
     have HLN := Lib.hid hln
     clear h4 hb4 hrel hln
     go_wp2
     exact ⟨⟨k + 1, _, by omega, by go_num, H4, Hb4, HREL, HLN.out⟩, by simp [intOf]; omega⟩
    ·have hke : k = xs.length - 1 := by omega
     have hstr : (⟨acc.toArray⟩ : ByteArray) = joinW xs := by
      apply bytesOf_inj
      rw [bytes_mk, HR.out, joinW_bytes, List.take_of_length_le (by rw [List.length_map]; omega)]
     have Hstr := Lib.hid hstr
     clear hstr
     go_wp2_with fail
     refine (bstring w.heap.size w.heap.size _ wr HB.out hBw).mono ?_
     rintro e w5 ⟨rfl, hb5⟩
     rw [Hstr.out]
     have Hb5 := Lib.hid (HW.out.trans hb5)
     clear hb5
     go_wp2
     go_ret
     exact ⟨rfl, Hb5.out⟩
end Go.Proofs.YtjmmdphkgioooaaDoor.P
end
section
namespace Go.Proofs.YtjmmdphkgioooaaDoor.P
set_option linter.unusedVariables false
open Go.RowKit Go.Proofs.YtjmmdphkgioooaaDoor.La Go.Proofs.YtjmmdphkgioooaaDoorW.PrintWords Go.Proofs.YtjmmdphkgioooaaDoorW.PrintLast Go.Proofs.YtjmmdphkgioooaaDoorW.PrintMore
theorem cinfoQ : (Tryd.prog.info? 9).map (fun i => (i.zero, i.size, i.bytes)) = some (some (.string ⟨#[]⟩), 1, 16) := by kernel_rfl
/-- A row, written. -/
def rowL (r : List ByteArray) : List Int := joinC (r.map fun s => fieldL (bytesOf s) (r.length == 1)) ++ [13, 10]
def rowW (r : List ByteArray) : ByteArray := joinW (r.map fun s => fieldW s (r.length == 1)) ++ ⟨#[13, 10]⟩
theorem rowW_bytes (r : List ByteArray) : bytesOf (rowW r) = rowL r := by
 unfold rowW rowL
 rw [bytesOf_append, joinW_bytes, List.map_map]
 have : (bytesOf ∘ fun s => fieldW s (r.length == 1)) = fun s => fieldL (bytesOf s) (r.length == 1) := by
  funext s
  exact fieldW_bytes s _
 rw [this]; rfl
theorem fieldW_size (s : ByteArray) (alone : Bool) (h : s.size ≤ 10000) : (fieldW s alone).size ≤ 20002 := by
 rw [← size_of, fieldW_bytes]
 have := fieldL_len (bytesOf s) alone
 rw [size_of] at this
 omega
theorem join_none (c : Nat) (A : Option Addr) (w : World) :
  Calls Tryd.prog 32 #[.slice A 0 c, .string ⟨#[44]⟩] w fun e w' => e = .returned (.string ⟨#[]⟩) ∧ Below w.heap.size w w' := by
 go_enter Tryd.func32, Tryd.ntmps32
 go_wp2
 go_ret
 exact ⟨rfl, by first | exact Below.refl _ _ | exact pw_below_drewN (Below.refl _ _) _ | exact pw_below_drew (Below.refl _ _)⟩
/-- strings.Join of a row of one's own. -/
theorem join_own (e : TypeId) (base : Nat) (ok : Nat → Prop) (A : Option Addr) (c : Nat) (xs : List ByteArray) (w : World) (h : Kd.R Kd.string e w base ok (.slice A xs.length c) xs) (hN : xs.length ≤ 200) (hS : ∀ x ∈ xs, x.size ≤ 20002) :
  Calls Tryd.prog 32 #[.slice A xs.length c, .string ⟨#[44]⟩] w fun e w' => e = .returned (.string (joinW xs)) ∧ Below w.heap.size w w' := by
 obtain ⟨_, hc, hC⟩ := Kd.R_reads' h
 match hxs : xs with
 | [] => exact join_none c A w
 | x :: r =>
  obtain ⟨g, cap, hv, _⟩ : ∃ g cap, Value.slice A (x :: r).length c = .slice (some ⟨g, 0, none⟩) (x :: r).length cap ∧ True := by
   obtain ⟨inner, ho⟩ := Kd.R_own h
   rcases ho.2 with ⟨hv, h0⟩ | ⟨g, cap, cur, hv, _⟩
   ·simp at h0
   ·exact ⟨g, cap, hv, trivial⟩
  injection hv with hA _ _
  subst hA
  have hcells : ∀ (j : Nat) y, (x :: r)[j]? = some y → w.cell? ⟨g, 0 + j, none⟩ = some (.string y) := by
   intro j y hj
   obtain ⟨hjl, hjy⟩ := List.getElem?_eq_some_iff.1 hj
   obtain ⟨ad, hA, hcell⟩ := Kd.at_string hC (j : Int) (by omega) (by omega)
   injection hA with hA
   subst hA
   have e : (⟨g, 0, none⟩ : Addr).add ((j : Int)).toNat = ⟨g, 0 + j, none⟩ := by
    rw [Int.toNat_natCast, Addr.add]
    split
    ·rename_i hz; rw [hz]
    ·rfl
   rw [e] at hcell
   rw [hcell]
   congr 2
   unfold rdOf
   rw [Int.toNat_natCast, List.getD_eq_getElem?_getD, hj]
   rfl
  have hg : g < w.heap.size := World.block_lt_of_cell? w _ (hcells 0 x rfl)
  by_cases hr : r = []
  ·subst hr
   have h1 : joinW [x] = x := by unfold joinW; exact strOfNums_of x
   rw [h1]
   exact join_one g 0 c x w (hcells 0 x rfl)
  ·exact join_many g 0 c (x :: r) w hcells hg (by cases r with | nil => exact absurd rfl hr | cons a b => simp) hN hc hS
set_option maxHeartbeats 8000000 in
set_option maxRecDepth 100000 in
theorem cprint_row_ (A : Option Addr) (c : Nat) (r : List ByteArray) (w : World) (hr : Kd.C Kd.string w A r.length r) (hc : r.length ≤ c) (hN : r.length ≤ 200) (hS : ∀ s ∈ r, s.size ≤ 10000) :
  Calls Tryd.prog 21 #[.slice A r.length c] w fun e w' => e = .returned (.string (rowW r)) ∧ Below w.heap.size w w' := by
 have HR := Lib.hid hr
 have HS := Lib.hid hS
 clear hr hS
 obtain ⟨al, hal⟩ : ∃ al, (r.length == 1) = al := ⟨_, rfl⟩
 have hal2 : ((r.length : Int) == 1) = al := by
  rw [← hal, Bool.eq_iff_iff, beq_iff_eq, beq_iff_eq]; omega
 have HAL := Lib.hid hal
 clear hal
 go_enter Tryd.func21, Tryd.ntmps21
 go_wp2_with fail
 go_loopg [3, 8] (r.length + 1) (fun g l i wx => ∃ x : Nat, x ≤ r.length ∧ g = r.length - x + 1 ∧ i = .int .i64 x ∧ Kd.R Kd.string 9 wx w.heap.size (fun _ => True) l ((r.map fun s => fieldW s al).take x) ∧ Below w.heap.size w wx)
 case atStart => exact ⟨0, Nat.zero_le _, rfl, rfl, Kd.R_nil _ _ _ _ _, Below.refl _ _⟩
 case round =>
  obtain ⟨x, hx, hg, rfl, hL, hB⟩ := hrel
  have HG := Lib.hid hg
  clear hg
  obtain ⟨LA, LC, hlv, hlc, _⟩ := Kd.R_reads hL
  have hln : ((r.map fun s => fieldW s al).take x).length = x := by rw [List.length_take, List.length_map]; omega
  by_cases hxl : x < r.length
  ·rw [hln] at hlv
   subst hlv
   obtain ⟨ad, rfl, hcell⟩ := Kd.at_string HR.out (x : Int) (by omega) (by omega)
   replace hcell := (hB.cell (World.block_lt_of_cell? w _ hcell)).trans hcell
   have hrd : rdOf ByteArray.empty r (x : Int) = r[x] := by
    unfold rdOf
    rw [Int.toNat_natCast, List.getD_eq_getElem?_getD, List.getElem?_eq_getElem hxl]; rfl
   rw [hrd, Int.toNat_natCast] at hcell
   have hsz := HS.out _ (List.getElem_mem hxl)
   obtain ⟨s, hs⟩ : ∃ s, r[x] = s := ⟨_, rfl⟩
   rw [hs] at hcell hsz
   have HSX := Lib.hid hs
   clear hs hrd hln
   go_wp2_with fail
   refine (cprint_Field.calls s al (fieldW s al) _ (by unfold cprint_Field.f; rw [if_pos hsz])).mono ?_
   rintro e w1 ⟨rfl, hb1⟩
   have hL1 := Kd.R_below hL hb1
   have hB1 := below_step hB hb1
   have hBs := hB1.size
   have htk : (r.map fun s => fieldW s al).take (x + 1) = (r.map fun s => fieldW s al).take x ++ [fieldW s al] := by
    rw [List.take_add_one, List.getElem?_map, List.getElem?_eq_getElem hxl, HSX.out]; rfl
   have hln : ((r.map fun s => fieldW s al).take x).length = x := by rw [List.length_take, List.length_map]; omega
   have HTK := Lib.hid htk
   have HLN := Lib.hid hln
   clear htk hln hL hb1
   go_wp2_with (at_builtin; refine Kd.R_append Kd.string (w0 := w1) w.heap.size rfl (.tmp 12) (.tmp 18) 24 9 (.string ⟨#[]⟩) 16 rfl Tryd.underlying24 cinfoQ rfl (by decide) (by omega) (.slice LA x LC) ((r.map fun s => fieldW s al).take x) (fieldW s al) [.string (fieldW s al)] (fun _ => True) (fun _ => False) rfl (by first | (go_simp; done) | (go_simp; rfl)) rfl (fun _ hk => hk.elim) (fun _ _ => trivial) hL1 (Below.refl _ _) (by omega) (by rw [HLN.out]; omega) ?_)
   intro v1 w5 hR5 hb5 hg5 hat5
   rw [← HTK.out] at hR5
   have hB5 := hB1.trans hb5
   clear hb5 hg5 hat5 hL1 hB1
   go_wp2
   have hgk := HG.out
   obtain ⟨g, hgg⟩ : ∃ g, r.length - x + 1 = g + 1 := ⟨_, rfl⟩
   rw [hgg] at hgk
   subst hgk
   go_roundg g
   case rel => exact ⟨x + 1, by omega, by omega, by go_num, hR5, hB5⟩
   case measure => omega
  ·have hxe : x = r.length := by omega
   subst hxe
   rw [hln] at hlv
   subst hlv
   have hall : (r.map fun s => fieldW s al).take r.length = r.map fun s => fieldW s al := List.take_of_length_le (by rw [List.length_map]; exact Nat.le_refl _)
   rw [hall] at hL
   have hlen : (r.map fun s => fieldW s al).length = r.length := List.length_map _
   rw [← hlen] at hL
   have hJ := fun W (hb : Below wr.heap.size wr W) => join_own _ _ _ LA LC (r.map fun s => fieldW s al) W (Kd.R_below hL hb) (by rw [hlen]; exact hN) (fun y hy => by
    obtain ⟨s, hs, rfl⟩ := List.mem_map.1 hy
    exact fieldW_size s al (HS.out s hs))
   rw [hlen] at hJ
   have hw : rowW r = joinW (r.map fun s => fieldW s al) ++ ⟨#[13, 10]⟩ := by unfold rowW; rw [HAL.out]
   have hjs : (joinW (r.map fun s => fieldW s al)).size ≤ 200 * 20003 := by
    have h := joinW_size (r.map fun s => fieldW s al) (fun y hy => by
     obtain ⟨s, hs, rfl⟩ := List.mem_map.1 hy
     exact fieldW_size s al (HS.out s hs))
    rw [hlen] at h
    exact Nat.le_trans h (Nat.mul_le_mul_right _ hN)
   have g1 : (joinW (r.map fun s => fieldW s al)).size + 2 ≤ 9223372036854775807 := by omega
   have HJ := Lib.hid hJ
   have HW := Lib.hid hw
   clear hall hlen hL hJ hw hln
   go_wp2_with fail
   refine (HJ.out _ (Below.refl _ _)).mono ?_
   rintro e w5 ⟨rfl, hb5⟩
   have hB5 := below_step hB hb5
   go_wp2
   go_ret
   exact ⟨by rw [HW.out]; rfl, hB5⟩
end Go.Proofs.YtjmmdphkgioooaaDoor.P
end
section
namespace Go.Proofs.YtjmmdphkgioooaaDoor.P
set_option linter.unusedVariables false
open Go.RowKit Go.Proofs.YtjmmdphkgioooaaDoor.La Go.Proofs.YtjmmdphkgioooaaDoorW.PrintWords Go.Proofs.YtjmmdphkgioooaaDoorW.PrintLast Go.Proofs.YtjmmdphkgioooaaDoorW.PrintMore
theorem at_rows {w : World} {A : Option Addr} {n : Nat} {xs : List (List ByteArray)} (h : Kd.C (Kd.slice 9 Kd.string) w A n xs) (i : Nat) (hn : i < n) (hi : i < xs.length) : ∃ ad A0 c0, A = some ad ∧ w.cell? (ad.add i) = some (.slice A0 xs[i].length c0) ∧ xs[i].length ≤ c0 ∧ Kd.string.C w A0 xs[i].length xs[i] := by
 obtain ⟨ad, c, e, _, hK, hc0⟩ := Kd.C_get h ([] : List ByteArray) (i : Int) (by omega) (by omega)
 have e1 : xs.getD ((i : Int)).toNat [] = xs[i] := by rw [Int.toNat_natCast, List.getD_eq_getElem?_getD, List.getElem?_eq_getElem hi]; rfl
 rw [e1] at hK
 obtain ⟨A0, c0, rfl, l0, g0⟩ := hK
 refine ⟨ad, A0, c0, e, ?_, l0, g0⟩
 have hq := hc0 0 _ rfl
 rw [Int.toNat_natCast, show i * (Kd.slice 9 Kd.string).sz + 0 = i from (by show i * 1 + 0 = i; omega)] at hq
 exact hq
theorem AtB_later {B b : Nat} {p : Value} {bs : List Value} {w w' : World} (h : Lib.BuilderAtF 44 5 B b p bs w) (hb : Below w.heap.size w w') : Lib.BuilderAtF 44 5 B b p bs w' := by
 have hlt := h.lt
 obtain ⟨hB, v, hv, hown, hne⟩ := h
 exact ⟨hB, v, (hb.block b hlt).trans hv, hown.kept (row := none) ⟨hb.os, hb.tape, hb.output, hb.size, fun k hk _ => hb.block k hk⟩ (Classical.em _), hne⟩
theorem IsB_later {B b : Nat} {bs : List Value} {w w' : World} (h : IsB B b bs w) (hb : Below w.heap.size w w') : IsB B b bs w' :=
 h.elim (fun x => .inl (AtB_later x hb)) (fun x => .inr (AtB_later x hb))
def fits (rows : List (List ByteArray)) : Prop := rows.length ≤ 100 ∧ ∀ r ∈ rows, r.length ≤ 200 ∧ ∀ s ∈ r, s.size ≤ 10000
instance (rows : List (List ByteArray)) : Decidable (fits rows) := inferInstanceAs (Decidable (rows.length ≤ 100 ∧ ∀ r ∈ rows, r.length ≤ 200 ∧ ∀ s ∈ r, s.size ≤ 10000))
def printL (rows : List (List ByteArray)) : List Int := rows.flatMap rowL
def printW (rows : List (List ByteArray)) : ByteArray := strOfNums (printL rows)
def cprint_Print.f (rows : List (List ByteArray)) : Option ByteArray := if fits rows then some (printW rows) else none
theorem rowL_bytes (r : List ByteArray) : Bytes (rowL r) := by rw [← rowW_bytes]; exact bytes_of _
theorem printL_bytes (rows : List (List ByteArray)) : Bytes (printL rows) := by
 intro b hb
 obtain ⟨r, _, hb⟩ := List.mem_flatMap.1 hb
 exact rowL_bytes r b hb
theorem printW_bytes (rows : List (List ByteArray)) : bytesOf (printW rows) = printL rows := strOfNums_bytes (printL_bytes rows)
theorem rowW_size (r : List ByteArray) (h : r.length ≤ 200) (hS : ∀ s ∈ r, s.size ≤ 10000) : (rowW r).size ≤ 4000602 := by
 unfold rowW
 rw [size_append']
 have h1 := joinW_size (r.map fun s => fieldW s (r.length == 1)) (fun y hy => by
  obtain ⟨s, hs, rfl⟩ := List.mem_map.1 hy
  exact fieldW_size s _ (hS s hs))
 rw [List.length_map] at h1
 have h2 : r.length * 20003 ≤ 200 * 20003 := Nat.mul_le_mul_right _ h
 show _ + 2 ≤ _
 omega
set_option maxHeartbeats 8000000 in
set_option maxRecDepth 100000 in
theorem cprint_Print.calls (A0 : Option Addr) (c0 : Nat) (l0 : List (List ByteArray)) (r : ByteArray) (w : World) (hr0 : Kd.C (Kd.slice 9 Kd.string) w A0 l0.length l0) (hc0 : l0.length ≤ c0) (h : cprint_Print.f l0 = some r) :
  Calls Tryd.prog 9 #[.slice A0 l0.length c0] w fun e w' => e = .returned (.string r) ∧ Below w.heap.size w w' := by
 unfold cprint_Print.f at h
 split at h
 ·rename_i hf
  obtain rfl := Option.some.inj h
  clear h
  have hN := hf.1
  have HF := Lib.hid hf.2
  have HR := Lib.hid hr0
  clear hf hr0
  go_enter Tryd.func9, Tryd.ntmps9
  go_wp2_with fail
  have hfresh : IsB w.heap.size w.heap.size (Lib.byteCells []) (w.alloc (.cells #[.pointer none, .slice none 0 0] 44)) :=
   .inl (Lib.BuilderAtF.of ⟨Nat.le_refl _, .slice none 0 0, heap_alloc_new w _, World.ownsRow_nil _ _ _ _, by simp [Value.ownBlock]⟩)
  have H0 := Lib.hid hfresh
  have hb0 : Below w.heap.size w (w.alloc (.cells #[.pointer none, .slice none 0 0] 44)) := below_alloc (Below.refl _ _) _
  have Hb0 := Lib.hid hb0
  clear hfresh hb0
  go_loopg [8] (l0.length + 1) (fun g i wx => ∃ (x : Nat) (acc : List UInt8), x ≤ l0.length ∧ g = l0.length - x + 1 ∧ i = .int .i64 x ∧ Hid (IsB w.heap.size w.heap.size (Lib.byteCells acc) wx) ∧ Hid (Below w.heap.size w wx) ∧ Hid (bl acc = printL (l0.take x)) ∧ acc.length ≤ x * 4000602)
  case atStart => exact ⟨0, [], Nat.zero_le _, rfl, rfl, H0, Hb0, Lib.hid rfl, Nat.zero_le _⟩
  case round =>
   obtain ⟨x, acc, hx, hg, rfl, HBl, HB, HA, hal⟩ := hrel
   have HG := Lib.hid hg
   clear hg
   have hBw : w.heap.size ≤ wr.heap.size := HB.out.size
   by_cases hxl : x < l0.length
   ·obtain ⟨ad, A1, c1, rfl, hcell, hc1, hC1⟩ := at_rows HR.out x hxl hxl
    replace hcell := (HB.out.cell (World.block_lt_of_cell? w _ hcell)).trans hcell
    have hf := HF.out _ (List.getElem_mem hxl)
    have htk : l0.take (x + 1) = l0.take x ++ [l0[x]] := by
     rw [List.take_add_one, List.getElem?_eq_getElem hxl]; rfl
    obtain ⟨s, hs⟩ : ∃ s, l0[x] = s := ⟨_, rfl⟩
    rw [hs] at hcell hf hc1 hC1 htk
    have hC2 := Kd.C_below hC1 HB.out
    have HRow := Lib.hid (fun W (hb : Below wr.heap.size wr W) => cprint_row_ A1 c1 s W (Kd.C_below (Kd.C_below hC1 HB.out) hb) hc1 hf.1 hf.2)
    have hsz := rowW_size s hf.1 hf.2
    have HTK := Lib.hid htk
    clear hC1 hC2 htk hf hs
    go_wp2_with fail
    refine (HRow.out _ (Below.refl _ _)).mono ?_
    rintro e w1 ⟨rfl, hb1⟩
    have HBl1 := Lib.hid (IsB_later HBl.out hb1)
    have HB1 := Lib.hid (below_step HB.out hb1)
    have hBw1 : w.heap.size ≤ w1.heap.size := HB1.out.size
    clear hb1
    have hxx : x * 4000602 ≤ 100 * 4000602 := Nat.mul_le_mul_right _ (by omega)
    go_wp2_with fail
    refine (bwrite w.heap.size w.heap.size _ (rowW s) w1 HBl1.out (by rw [Lib.byteCells_length]; omega) hBw1).mono ?_
    rintro e w3 ⟨rfl, h3, hb3⟩
    have h3 := builder_more h3
    have H3 := Lib.hid h3
    have HB3 := Lib.hid (HB1.out.trans hb3)
    have hln : (acc ++ (rowW s).data.toList).length ≤ (x + 1) * 4000602 := by
     rw [List.length_append, ← Lib.size_eq]; omega
    have HLN := Lib.hid hln
    have hrel : bl (acc ++ (rowW s).data.toList) = printL (l0.take (x + 1)) := by
     rw [HTK.out, bl_append, HA.out, bl_data, rowW_bytes]
     simp [printL]
    have HREL := Lib.hid hrel
    clear h3 hb3 hln hrel
    go_wp2
    have hgk := HG.out
    obtain ⟨g, hgg⟩ : ∃ g, l0.length - x + 1 = g + 1 := ⟨_, rfl⟩
    rw [hgg] at hgk
    subst hgk
    go_roundg g
    case rel => exact ⟨x + 1, _, by omega, by omega, by go_num, H3, HB3, HREL, HLN.out⟩
    case measure => omega
   ·have hxe : x = l0.length := by omega
    subst hxe
    have hstr : (⟨acc.toArray⟩ : ByteArray) = printW l0 := by
     apply bytesOf_inj
     rw [bytes_mk, HA.out, printW_bytes, List.take_of_length_le (Nat.le_refl _)]
    have Hstr := Lib.hid hstr
    clear hstr
    go_wp2_with fail
    refine (bstring w.heap.size w.heap.size _ wr HBl.out hBw).mono ?_
    rintro e w5 ⟨rfl, hb5⟩
    rw [Hstr.out]
    have Hb5 := Lib.hid (HB.out.trans hb5)
    clear hb5
    go_wp2
    go_ret
    exact ⟨rfl, Hb5.out⟩
 ·cases h
end Go.Proofs.YtjmmdphkgioooaaDoor.P
end
section
namespace Go.Proofs.YtjmmdphkgioooaaDoor.P
set_option linter.unusedVariables false
open Go.RowKit Go.Proofs.YtjmmdphkgioooaaDoor.La Go.Proofs.YtjmmdphkgioooaaDoorW.PrintWords Go.Proofs.YtjmmdphkgioooaaDoorW.PrintLast Go.Proofs.YtjmmdphkgioooaaDoorW.PrintMore
/-- May a field not be? -/
def oddS (s : ByteArray) : Bool := (bad (bytesOf s)).isSome || decide (4096 < s.size)
theorem odd_bool (s : ByteArray) : oddS s = (!(badR s.size 0 (bad (bytesOf s))).2 || decide (4096 < (s.size : Int))) := by
 unfold oddS
 have e : decide (4096 < s.size) = decide (4096 < (s.size : Int)) := by rw [decide_eq_decide]; omega
 rw [e]
 cases bad (bytesOf s) <;> rfl
set_option maxHeartbeats 8000000 in
set_option maxRecDepth 100000 in
theorem may_odd (s : ByteArray) (hs : s.size ≤ 10000) (w : World) :
  Calls Tryd.prog 18 #[.string s] w fun e w' => e = .returned (.bool (oddS s)) ∧ Below w.heap.size w w' := by
 obtain ⟨K, hK⟩ := valid_ev s (by omega)
 have hK := hK K (Nat.le_refl _)
 rw [odd_bool]
 generalize badR s.size 0 (bad (bytesOf s)) = q at hK ⊢
 obtain ⟨b1, b2⟩ := q
 simp only
 cases b2 with
 | false =>
  go_enter Tryd.func18, Tryd.ntmps18
  go_wp2_with fail
  refine (utf_Valid.calls K s b1 false _ hK).mono ?_
  rintro e w1 ⟨rfl, n, rfl⟩
  go_wp2
  go_ret
  exact ⟨rfl, pw_below_drewN (Below.refl _ _) n⟩
 | true =>
  go_enter Tryd.func18, Tryd.ntmps18
  go_wp2_with fail
  refine (utf_Valid.calls K s b1 true _ hK).mono ?_
  rintro e w1 ⟨rfl, n, rfl⟩
  go_wp2
  go_ret
  exact ⟨rfl, pw_below_drewN (Below.refl _ _) n⟩
set_option maxHeartbeats 8000000 in
set_option maxRecDepth 100000 in
theorem may_find (A : Option Addr) (c : Nat) (r : List ByteArray) (w : World) (hr : Kd.C Kd.string w A r.length r) (hc : r.length ≤ c) (hN : r.length ≤ 200) (hS : ∀ s ∈ r, s.size ≤ 10000) :
  Calls Tryd.prog 31 #[.slice A r.length c, .func (.func 18) #[] #[]] w fun e w' => ∃ i : Int, e = .returned (.int .i64 i) ∧ decide (0 ≤ i) = r.any oddS ∧ Below w.heap.size w w' := by
 have HR := Lib.hid hr
 have HS := Lib.hid hS
 clear hr hS
 go_enter Tryd.func31, Tryd.ntmps31
 go_wp2_with fail
 go_loopg [5, 8] (r.length + 1) (fun g _ i wx => ∃ x : Nat, x ≤ r.length ∧ g = r.length - x + 1 ∧ i = .int .i64 x ∧ Hid ((r.take x).any oddS = false) ∧ Below w.heap.size w wx)
 case atStart => exact ⟨0, Nat.zero_le _, rfl, rfl, Lib.hid rfl, Below.refl _ _⟩
 case round =>
  obtain ⟨x, hx, hg, rfl, HA, hB⟩ := hrel
  have HG := Lib.hid hg
  clear hg
  by_cases hxl : x < r.length
  ·obtain ⟨ad, rfl, hcell⟩ := Kd.at_string HR.out (x : Int) (by omega) (by omega)
   replace hcell := (hB.cell (World.block_lt_of_cell? w _ hcell)).trans hcell
   have hrd : rdOf ByteArray.empty r (x : Int) = r[x] := by
    unfold rdOf
    rw [Int.toNat_natCast, List.getD_eq_getElem?_getD, List.getElem?_eq_getElem hxl]; rfl
   rw [hrd, Int.toNat_natCast] at hcell
   have hsz := HS.out _ (List.getElem_mem hxl)
   obtain ⟨s, hs⟩ : ∃ s, r[x] = s := ⟨_, rfl⟩
   rw [hs] at hcell hsz
   have htk : (r.take (x + 1)).any oddS = oddS s := by
    rw [List.take_add_one, List.getElem?_eq_getElem hxl, List.any_append, HA.out, hs]
    simp
   have HT := Lib.hid htk
   clear hs hrd htk
   have hO := fun W => may_odd s hsz W
   cases ho : oddS s with
   | true =>
    rw [ho] at hO
    have hany : r.any oddS = true := by
     rw [← List.take_append_drop (x + 1) r, List.any_append, HT.out, ho]; rfl
    have HO := Lib.hid hO
    have HY := Lib.hid hany
    clear hO hany ho
    go_wp2_with (first | (go_at_call 18; refine (HO.out _).mono ?_; rintro e w1 ⟨rfl, hb1⟩))
    go_ret
    exact ⟨x, rfl, by rw [HY.out]; exact decide_eq_true (by omega), below_step hB hb1⟩
   | false =>
    rw [ho] at hO
    have HO := Lib.hid hO
    have HT2 := Lib.hid (HT.out.trans ho)
    clear hO ho
    go_wp2_with (first | (go_at_call 18; refine (HO.out _).mono ?_; rintro e w1 ⟨rfl, hb1⟩))
    have hgk := HG.out
    obtain ⟨g, hgg⟩ : ∃ g, r.length - x + 1 = g + 1 := ⟨_, rfl⟩
    rw [hgg] at hgk
    subst hgk
    go_roundg g
    case measure => omega
    case rel => exact ⟨x + 1, by omega, by omega, by go_num, HT2, below_step hB hb1⟩
  ·have hxe : x = r.length := by omega
   subst hxe
   have hany := HA.out
   rw [List.take_of_length_le (Nat.le_refl _)] at hany
   have HY := Lib.hid hany
   clear hany
   go_wp2
   go_ret
   exact ⟨-1, rfl, by rw [HY.out]; rfl, hB⟩
theorem may_contains (A : Option Addr) (c : Nat) (r : List ByteArray) (w : World) (hr : Kd.C Kd.string w A r.length r) (hc : r.length ≤ c) (hN : r.length ≤ 200) (hS : ∀ s ∈ r, s.size ≤ 10000) :
  Calls Tryd.prog 20 #[.slice A r.length c, .func (.func 18) #[] #[]] w fun e w' => e = .returned (.bool (r.any oddS)) ∧ Below w.heap.size w w' := by
 have HF := Lib.hid (may_find A c r w hr hc hN hS)
 clear hr hS
 go_enter Tryd.func20, Tryd.ntmps20
 go_wp2_with fail
 refine HF.out.mono ?_
 rintro e w1 ⟨i, rfl, hi, hb⟩
 have HI := Lib.hid hi
 clear hi
 go_wp2
 go_ret
 exact ⟨by rw [← HI.out]; rfl, hb⟩
def mayGo (c : Nat) : Nat → List (List ByteArray) → Bool
 | _, [] => true
 | all, r :: t => if r.length < 1 then false else if 64 < r.length then false else if r.length ≠ c then false else if r.any oddS = true then false else if 65536 < all + (rowW r).size then false else mayGo c (all + (rowW r).size) t
def mayR (rows : List (List ByteArray)) : Bool := if 513 < rows.length then false else mayGo (rows.headD []).length 0 rows
def cprint_May.f (rows : List (List ByteArray)) : Option Bool := if fits rows then some (mayR rows) else none
set_option maxHeartbeats 8000000 in
set_option maxRecDepth 100000 in
theorem cprint_May.calls (A0 : Option Addr) (c0 : Nat) (l0 : List (List ByteArray)) (r : Bool) (w : World) (hr0 : Kd.C (Kd.slice 9 Kd.string) w A0 l0.length l0) (hc0 : l0.length ≤ c0) (h : cprint_May.f l0 = some r) :
  Calls Tryd.prog 8 #[.slice A0 l0.length c0] w fun e w' => e = .returned (.bool r) ∧ Below w.heap.size w w' := by
 unfold cprint_May.f at h
 split at h
 ·rename_i hf
  obtain rfl := Option.some.inj h
  clear h
  have hN := hf.1
  have HF := Lib.hid hf.2
  have HR := Lib.hid hr0
  have hm : mayR l0 = mayGo (l0.headD []).length 0 l0 := if_neg (by omega)
  rw [hm]
  clear hf hr0 hm
  have HM0 := Lib.hid (Eq.refl (mayGo (l0.headD []).length 0 l0))
  generalize hRes : mayGo (l0.headD []).length 0 l0 = res at HM0 ⊢
  obtain ⟨C, hC⟩ : ∃ C, (l0.headD []).length = C := ⟨_, rfl⟩
  rw [hC] at hRes
  have HRes := Lib.hid hRes
  have HC := Lib.hid hC
  clear hRes hC HM0
  go_enter Tryd.func8, Tryd.ntmps8
  go_wp2_with fail
  go_loopg [4, 12] (l0.length + 1) (fun g vall i wx => ∃ (x all : Nat), x ≤ l0.length ∧ g = l0.length - x + 1 ∧ i = .int .i64 x ∧ vall = .int .i64 all ∧ all ≤ x * 4000602 ∧ Hid (mayGo C all (l0.drop x) = res) ∧ Hid (Below w.heap.size w wx))
  case atStart => exact ⟨0, 0, Nat.zero_le _, rfl, rfl, rfl, Nat.zero_le _, HRes, Lib.hid (Below.refl _ _)⟩
  case round =>
   obtain ⟨x, all, hx, hg, rfl, rfl, hal, HM, HB⟩ := hrel
   have HG := Lib.hid hg
   clear hg
   have hBw : w.heap.size ≤ wr.heap.size := HB.out.size
   by_cases hxl : x < l0.length
   ·obtain ⟨ad, A1, c1, rfl, hcell, hc1, hC1⟩ := at_rows HR.out x hxl hxl
    obtain ⟨ad', A2, c2, hA', hcell0, hc2, hC2⟩ := at_rows HR.out 0 (by omega) (by omega)
    obtain rfl := Option.some.inj hA'
    rw [show ad.add 0 = ad from if_pos rfl] at hcell0
    replace hcell := (HB.out.cell (World.block_lt_of_cell? w _ hcell)).trans hcell
    replace hcell0 := (HB.out.cell (World.block_lt_of_cell? w _ hcell0)).trans hcell0
    have h0C : (l0[0]'(by omega)).length = C := by
     have h := HC.out
     rw [show l0.headD [] = l0[0]'(by omega) from by cases l0 with | nil => simp at hxl | cons a b => rfl] at h
     exact h
    rw [h0C] at hcell0
    have hf := HF.out _ (List.getElem_mem hxl)
    have hmm := HM.out
    rw [List.drop_eq_getElem_cons hxl] at hmm
    obtain ⟨s, hs⟩ : ∃ s, l0[x] = s := ⟨_, rfl⟩
    rw [hs] at hcell hf hc1 hC1 hmm
    have hCC := fun W (hb : Below wr.heap.size wr W) => may_contains A1 c1 s W (Kd.C_below (Kd.C_below hC1 HB.out) hb) hc1 hf.1 hf.2
    have hRow := fun W (hb : Below wr.heap.size wr W) => cprint_row_ A1 c1 s W (Kd.C_below (Kd.C_below hC1 HB.out) hb) hc1 hf.1 hf.2
    have hsz := rowW_size s hf.1 hf.2
    obtain ⟨z, hz⟩ : ∃ z, (rowW s).size = z := ⟨_, rfl⟩
    obtain ⟨o, ho⟩ : ∃ o, s.any oddS = o := ⟨_, rfl⟩
    obtain ⟨n, hn⟩ : ∃ n, s.length = n := ⟨_, rfl⟩
    rw [mayGo, hz, ho, hn] at hmm
    rw [hz] at hsz
    rw [ho, hn] at hCC
    rw [hn] at hRow hcell
    have hn1 : n ≤ 200 := by rw [← hn]; exact hf.1
    have HCC := Lib.hid hCC
    have HRow := Lib.hid hRow
    have HZ := Lib.hid hz
    have hxx : x * 4000602 ≤ 100 * 4000602 := Nat.mul_le_mul_right _ (by omega)
    have hCl : C ≤ 200 := by rw [← h0C]; exact (HF.out _ (List.getElem_mem (by omega))).1
    clear hCC hRow hz ho hn hf hs hc1 hC1 hC2 hc2 h0C HM
    by_cases g1 : n < 1
    ·rw [if_pos g1] at hmm
     subst hmm
     obtain rfl : n = 0 := by omega
     go_wp2
     go_ret
     exact ⟨rfl, by first | exact HB.out | exact pw_below_drewN HB.out _⟩
    rw [if_neg g1] at hmm
    have e1 : decide ((n : Int) < 1) = false := decide_eq_false (by omega)
    by_cases g2 : 64 < n
    ·rw [if_pos g2] at hmm
     subst hmm
     have e2 : decide (64 < (n : Int)) = true := decide_eq_true (by omega)
     go_wp2
     go_ret
     exact ⟨rfl, by first | exact HB.out | exact pw_below_drewN HB.out _⟩
    rw [if_neg g2] at hmm
    have e2 : decide (64 < (n : Int)) = false := decide_eq_false (by omega)
    by_cases g3 : n ≠ C
    ·rw [if_pos g3] at hmm
     subst hmm
     have e3 : ((n : Int) != (C : Int)) = true := bne_iff_ne.2 (by omega)
     have e4 : ((n : Int) == (C : Int)) = false := beq_eq_false_iff_ne.2 (by omega)
     go_wp2
     go_ret
     exact ⟨rfl, by first | exact HB.out | exact pw_below_drewN HB.out _⟩
    rw [if_neg g3] at hmm
    obtain rfl : n = C := by omega
    have e3 : ((n : Int) != (n : Int)) = false := bne_eq_false_iff_eq.2 rfl
    cases o with
    | true =>
     rw [if_pos rfl] at hmm
     subst hmm
     go_wp2_with fail
     refine (HCC.out _ (Below.refl _ _)).mono ?_
     rintro e w1 ⟨rfl, hb1⟩
     go_wp2
     go_ret
     exact ⟨rfl, below_step HB.out hb1⟩
    | false =>
     rw [if_neg Bool.false_ne_true] at hmm
     have HMM := Lib.hid hmm
     clear hmm
     go_wp2_with fail
     refine (HCC.out _ (Below.refl _ _)).mono ?_
     rintro e w1 ⟨rfl, hb1⟩
     go_wp2_with fail
     refine (HRow.out _ hb1).mono ?_
     rintro e w2 ⟨rfl, hb2⟩
     have HB2 := Lib.hid (below_step (below_step HB.out hb1) hb2)
     clear hb1 hb2
     have hz := HZ.out
     by_cases g5 : 65536 < all + z
     ·have hmm := HMM.out
      rw [if_pos g5] at hmm
      subst hmm
      have e5 : decide (65536 < (all : Int) + (z : Int)) = true := decide_eq_true (by omega)
      go_wp2
      go_ret
      exact ⟨rfl, HB2.out⟩
     ·have hmm := HMM.out
      rw [if_neg g5] at hmm
      have HM2 := Lib.hid hmm
      clear hmm HMM
      have e5 : decide (65536 < (all : Int) + (z : Int)) = false := decide_eq_false (by omega)
      go_wp2
      have hgk := HG.out
      obtain ⟨g, hgg⟩ : ∃ g, l0.length - x + 1 = g + 1 := ⟨_, rfl⟩
      rw [hgg] at hgk
      subst hgk
      go_roundg g
      case rel => exact ⟨x + 1, all + z, by omega, by omega, by go_num, by go_num, by omega, HM2, HB2⟩
      case measure => omega
   ·have hxe : x = l0.length := by omega
    subst hxe
    have hmm := HM.out
    rw [List.drop_eq_nil_of_le (Nat.le_refl _), mayGo] at hmm
    subst hmm
    go_wp2
    go_ret
    exact ⟨rfl, HB.out⟩
 ·cases h
end Go.Proofs.YtjmmdphkgioooaaDoor.P
end
section
namespace Go.Proofs.YtjmmdphkgioooaaDoor.La
open Go.RowKit Go.Proofs.YtjmmdphkgioooaaDoor.P Go.Proofs.YtjmmdphkgioooaaDoorW.PrintWords Go.Proofs.YtjmmdphkgioooaaDoorW.PrintLast Go.Proofs.YtjmmdphkgioooaaDoorW.PrintMore
/-- May a row be, if the first has c fields? -/
def okRow (c : Nat) (r : List ByteArray) : Bool := decide (1 ≤ r.length ∧ r.length ≤ 64 ∧ r.length = c) && !r.any oddS
theorem printL_size (l : List (List ByteArray)) : (printW l).size = (printL l).length := by rw [← size_of, printW_bytes]
end Go.Proofs.YtjmmdphkgioooaaDoor.La
end
section
namespace Go.Proofs.YtjmmdphkgioooaaDoor.La
open Go.RowKit Go.Proofs.YtjmmdphkgioooaaDoor.P Go.Proofs.YtjmmdphkgioooaaDoorW.PrintWords Go.Proofs.YtjmmdphkgioooaaDoorW.PrintLast Go.Proofs.YtjmmdphkgioooaaDoorW.PrintMore
def firstC (l : List (List ByteArray)) : Nat := (l.headD []).length
def mayB (l : List (List ByteArray)) : Bool := l.all (okRow (firstC l)) && decide ((printL l).length ≤ 65536)
end Go.Proofs.YtjmmdphkgioooaaDoor.La
end
section
namespace Go.Proofs.YtjmmdphkgioooaaDoor.La
open Go.RowKit Go.Proofs.YtjmmdphkgioooaaDoor.P Go.Proofs.YtjmmdphkgioooaaDoorW.PrintWords Go.Proofs.YtjmmdphkgioooaaDoorW.PrintLast Go.Proofs.YtjmmdphkgioooaaDoorW.PrintMore
theorem bad_dbl : ∀ (n : Nat) (s : List Int), s.length ≤ n → Bytes s → (bad (dbl s) = none ↔ bad s = none) := by
 intro n
 induction n with
 | zero =>
  intro s hs _
  obtain rfl := List.length_eq_zero_iff.1 (Nat.le_zero.1 hs)
  exact Iff.rfl
 | succ n ih =>
  intro s hs hB
  rcases Int.lt_or_le (idx s 34) 0 with h | h
  ·rw [dbl_id (idx_none h)]
  ·obtain ⟨m, _, hm, he, hu⟩ := idx_some h
   obtain ⟨u, hu'⟩ : ∃ u, s.take m = u := ⟨_, rfl⟩
   obtain ⟨v, hv'⟩ : ∃ v, s.drop (m + 1) = v := ⟨_, rfl⟩
   rw [hu', hv'] at he
   rw [hu'] at hu
   have hvl : v.length ≤ n := by rw [← hv', List.length_drop]; omega
   have hBv : Bytes v := by rw [← hv']; exact hB.drop _
   have e : dbl s = u ++ 34 :: 34 :: dbl v := by
    rw [he, dbl_append, dbl_id hu, dbl_cons, if_pos rfl]; rfl
   have hBd : Bytes (u ++ 34 :: 34 :: dbl v) := by rw [← e]; exact dbl_bytes hB
   have hBs : Bytes (u ++ 34 :: v) := by rw [← he]; exact hB
   rw [e, he, bad_mid (by omega) (by omega) hBd, bad_mid (by omega) (by omega) hBs, bad_one_none (by omega) (by omega), ih v hvl hBv]
theorem bad_field {s : List Int} (hB : Bytes s) (h : bad s = none) (al : Bool) : bad (fieldL s al) = none := by
 unfold fieldL
 split
 ·rw [bad_one_none (by omega) (by omega)]
  exact bad_app (dbl_bytes hB) ((bad_dbl _ s (Nat.le_refl _) hB).2 h) (by rw [bad_one_none (by omega) (by omega)]; exact bad_nil)
 ·exact h
theorem bad_joinC : ∀ (l : List (List Int)), (∀ x ∈ l, Bytes x) → (∀ x ∈ l, bad x = none) → bad (joinC l) = none
 | [], _, _ => bad_nil
 | [a], _, h => h a List.mem_cons_self
 | a :: b :: t, hB, h => by
  rw [joinC]
  exact bad_app (hB a List.mem_cons_self) (h a List.mem_cons_self) ((bad_one_none (by omega) (by omega) _).2 (bad_joinC (b :: t) (fun x hx => hB x (List.mem_cons_of_mem _ hx)) (fun x hx => h x (List.mem_cons_of_mem _ hx))))
theorem bad_rowL (r : List ByteArray) (h : ∀ s ∈ r, bad (bytesOf s) = none) : bad (rowL r) = none := by
 unfold rowL
 have hB : ∀ x ∈ r.map (fun s => fieldL (bytesOf s) (r.length == 1)), Bytes x := by
  intro x hx
  obtain ⟨s, _, rfl⟩ := List.mem_map.1 hx
  exact fieldL_bytes (bytes_of s) _
 exact bad_app (joinC_bytes hB) (bad_joinC _ hB (fun x hx => by
  obtain ⟨s, hs, rfl⟩ := List.mem_map.1 hx
  exact bad_field (bytes_of s) (h s hs) _)) (bad_asc (by intro b hb; simp at hb; omega))
theorem bad_printL : ∀ (l : List (List ByteArray)), (∀ r ∈ l, ∀ s ∈ r, bad (bytesOf s) = none) → bad (printL l) = none
 | [], _ => bad_nil
 | r :: t, h => by
  have e : printL (r :: t) = rowL r ++ printL t := rfl
  rw [e]
  exact bad_app (rowL_bytes r) (bad_rowL r (h r List.mem_cons_self)) (bad_printL t (fun x hx => h x (List.mem_cons_of_mem _ hx)))
/-- A row's cells. -/
def cellsR (r : List ByteArray) : List (List Int × List Int) := r.map fun s => (fieldL (bytesOf s) (r.length == 1), bytesOf s)
def lineR (r : List ByteArray) : Line := (cellsR r, [13, 10])
theorem lineR_text (r : List ByteArray) : (lineR r).text = rowL r := by
 unfold Line.text lineR cellsR rowL
 rw [List.map_map]
 rfl
theorem linesR_text (l : List (List ByteArray)) : textOf (l.map lineR) = printL l := by
 induction l with
 | nil => rfl
 | cons r t ih =>
  have e : printL (r :: t) = rowL r ++ printL t := rfl
  rw [e, ← ih, ← lineR_text]
  rfl
theorem wr_field {s : List Int} (hl : s.length ≤ 4096) (al : Bool) : Wr (fieldL s al, s) := by
 unfold fieldL
 split
 ·exact wr_quoted hl
 ·rename_i h
  refine wr_plain (fun b hb => ?_) hl
  cases ho : odd4 b with
  | false => rfl
  | true => exact absurd (.inl (List.any_eq_true.2 ⟨b, hb, ho⟩)) h
theorem odd_false {s : ByteArray} (h : oddS s = false) : bad (bytesOf s) = none ∧ s.size ≤ 4096 := by
 unfold oddS at h
 rw [Bool.or_eq_false_iff] at h
 refine ⟨?_, by have := of_decide_eq_false h.2; omega⟩
 cases hb : bad (bytesOf s) with
 | none => rfl
 | some p => rw [hb] at h; exact absurd h.1 (by simp)
theorem okRow_of {c : Nat} {r : List ByteArray} (h : okRow c r = true) : 1 ≤ r.length ∧ r.length ≤ 64 ∧ r.length = c ∧ ∀ s ∈ r, oddS s = false := by
 unfold okRow at h
 rw [Bool.and_eq_true, decide_eq_true_eq] at h
 refine ⟨h.1.1, h.1.2.1, h.1.2.2, fun s hs => ?_⟩
 have h2 := h.2
 cases ho : oddS s with
 | false => rfl
 | true => rw [List.any_eq_true.2 ⟨s, hs, ho⟩] at h2; cases h2
theorem lineR_good {c : Nat} {r : List ByteArray} (h : okRow c r = true) : (lineR r).good := by
 obtain ⟨h1, h2, _, h4⟩ := okRow_of h
 refine ⟨?_, ?_, .inr rfl, ?_⟩
 ·intro e
  have := congrArg List.length e
  rw [show (lineR r).1 = cellsR r from rfl, cellsR, List.length_map, List.length_nil] at this
  omega
 ·intro p hp
  obtain ⟨s, hs, rfl⟩ := List.mem_map.1 hp
  exact wr_field (by rw [size_of]; exact (odd_false (h4 s hs)).2) _
 ·show (cellsR r).length ≤ 64
  rw [cellsR, List.length_map]
  exact h2
theorem linesR_good {c : Nat} : ∀ (l : List (List ByteArray)), (∀ r ∈ l, okRow c r = true) → Lines (l.map lineR)
 | [], _ => trivial
 | [r], h => .inl (lineR_good (h r List.mem_cons_self))
 | r :: u :: t, h => ⟨lineR_good (h r List.mem_cons_self), linesR_good (u :: t) (fun x hx => h x (List.mem_cons_of_mem _ hx))⟩
/-- Rows that may be are read back. -/
theorem back (l : List (List ByteArray)) (hl : l.length ≤ 513) (h : mayB l = true) : readR (printW l) = (l, 0, 0, 0, 0) := by
 unfold mayB at h
 rw [Bool.and_eq_true, List.all_eq_true, decide_eq_true_eq] at h
 have hb := bad_printL l (fun r hr s hs => (odd_false ((okRow_of (h.1 r hr)).2.2.2 s hs)).1)
 have hr := read_lines (l.map lineR) (linesR_good l h.1) (by rw [linesR_text]; exact hb) (by rw [linesR_text]; exact h.2) (by rw [List.length_map]; exact hl) (printW l) (by rw [linesR_text, printW_bytes])
 rw [rowsOf_same (c := firstC l) _ [] (fun r hr => by cases hr) (fun f hf => by
  rw [List.map_map] at hf
  obtain ⟨r, hr, rfl⟩ := List.mem_map.1 hf
  show (cellsR r).length = _
  rw [cellsR, List.length_map]
  exact (okRow_of (h.1 r hr)).2.2.1)] at hr
 simp only at hr
 rw [hr]
 congr 1
 rw [List.nil_append, List.map_map, List.map_map]
 have : ((fun x : List (List Int × List Int) => x.map fun p => strOfNums p.2) ∘ Prod.fst) ∘ lineR = id := by
  funext r
  show (cellsR r).map (fun p => strOfNums p.2) = r
  rw [cellsR, List.map_map]
  have e : ((fun p : List Int × List Int => strOfNums p.2) ∘ fun s => (fieldL (bytesOf s) (r.length == 1), bytesOf s)) = id := by
   funext s
   exact strOfNums_of s
  rw [e, List.map_id]
 first
  | (rw [this, List.map_id])
  | (rw [← List.map_map, ← List.map_map, List.map_map, List.map_map, this, List.map_id])
end Go.Proofs.YtjmmdphkgioooaaDoor.La
end
section
namespace Go.Proofs.YtjmmdphkgioooaaDoor.P
open Go.RowKit Go.Proofs.YtjmmdphkgioooaaDoorW.PrintWords Go.Proofs.YtjmmdphkgioooaaDoorW.PrintLast Go.Proofs.YtjmmdphkgioooaaDoorW.PrintMore
attribute [local go_sem] max2_int min2_int max_two min_two max_three min_three max_four min_four   -- for this text's walks alone
set_option linter.unusedVariables false
set_option linter.unusedSimpArgs false
/-! ### dragomanlaw14_awake: function 7 -/
def dragomanlaw14_awake.f  : Option (Bool) := (cprint_Print.f (([(([(⟨#[97]⟩ : ByteArray), (⟨#[98, 44, 99]⟩ : ByteArray)] : List ByteArray))] : List (List ByteArray)))).bind fun t118 => (if t118.toList = ([97, 44, 34, 98, 44, 99, 34, 13, 10] : List UInt8) then ((cprint_May.f (([(([(⟨#[97]⟩ : ByteArray)] : List ByteArray))] : List (List ByteArray)))).bind fun t125 => (if t125 = true then ((cprint_Field.f (⟨#[]⟩ : ByteArray) true).bind fun t126 => (some (t126.toList == ([34, 34] : List UInt8)))) else (some false))) else (some false))
set_option maxHeartbeats 8000000 in
set_option maxRecDepth 100000 in
theorem dragomanlaw14_awake.calls  (r : Bool) (w : World) (h : dragomanlaw14_awake.f  = some r) :
  Calls Tryd.prog 7 #[] w fun e w' => e = .returned (.bool r) ∧ Below w.heap.size w w' := by
 have HB := Aside0.mk (Below.refl w.heap.size w)
 have H : ((cprint_Print.f (([(([(⟨#[97]⟩ : ByteArray), (⟨#[98, 44, 99]⟩ : ByteArray)] : List ByteArray))] : List (List ByteArray)))).bind fun t118 => (if t118.toList = ([97, 44, 34, 98, 44, 99, 34, 13, 10] : List UInt8) then ((cprint_May.f (([(([(⟨#[97]⟩ : ByteArray)] : List ByteArray))] : List (List ByteArray)))).bind fun t125 => (if t125 = true then ((cprint_Field.f (⟨#[]⟩ : ByteArray) true).bind fun t126 => (some (t126.toList == ([34, 34] : List UInt8)))) else (some false))) else (some false))) = some r := h
 clear h
 obtain ⟨y112, hy112⟩ : ∃ y_ : List ByteArray, y_ = (([(⟨#[97]⟩ : ByteArray), (⟨#[98, 44, 99]⟩ : ByteArray)] : List ByteArray)) := ⟨_, rfl⟩
 replace H : ((cprint_Print.f (([y112] : List (List ByteArray)))).bind fun t118 => (if t118.toList = ([97, 44, 34, 98, 44, 99, 34, 13, 10] : List UInt8) then ((cprint_May.f (([(([(⟨#[97]⟩ : ByteArray)] : List ByteArray))] : List (List ByteArray)))).bind fun t125 => (if t125 = true then ((cprint_Field.f (⟨#[]⟩ : ByteArray) true).bind fun t126 => (some (t126.toList == ([34, 34] : List UInt8)))) else (some false))) else (some false))) = some r := by first | (rw [hy112]; with_reducible exact H) | (have H2_ := (Option.bind_some _ _).symm.trans H; rw [hy112]; with_reducible exact H2_) | (have H2_ := (Option.bind_some _ _).symm.trans H; with_reducible exact H2_) | with_reducible exact H | (rw [hy112]; exact H) | exact H
 have Ny112 := Aside0.mk hy112
 clear hy112
 obtain ⟨y115, hy115⟩ : ∃ y_ : List (List ByteArray), y_ = (([y112] : List (List ByteArray))) := ⟨_, rfl⟩
 replace H : ((cprint_Print.f y115).bind fun t118 => (if t118.toList = ([97, 44, 34, 98, 44, 99, 34, 13, 10] : List UInt8) then ((cprint_May.f (([(([(⟨#[97]⟩ : ByteArray)] : List ByteArray))] : List (List ByteArray)))).bind fun t125 => (if t125 = true then ((cprint_Field.f (⟨#[]⟩ : ByteArray) true).bind fun t126 => (some (t126.toList == ([34, 34] : List UInt8)))) else (some false))) else (some false))) = some r := by first | (rw [hy115]; with_reducible exact H) | (have H2_ := (Option.bind_some _ _).symm.trans H; rw [hy115]; with_reducible exact H2_) | (have H2_ := (Option.bind_some _ _).symm.trans H; with_reducible exact H2_) | with_reducible exact H | (rw [hy115]; exact H) | exact H
 have Ny115 := Aside0.mk hy115
 clear hy115
 replace H := Option.bind_eq_some_iff.mp H
 obtain ⟨t118, A10, H⟩ := H
 replace H : (if t118.toList = ([97, 44, 34, 98, 44, 99, 34, 13, 10] : List UInt8) then ((cprint_May.f (([(([(⟨#[97]⟩ : ByteArray)] : List ByteArray))] : List (List ByteArray)))).bind fun t125 => (if t125 = true then ((cprint_Field.f (⟨#[]⟩ : ByteArray) true).bind fun t126 => (some (t126.toList == ([34, 34] : List UInt8)))) else (some false))) else (some false)) = some r := H
 have A1 := Aside0.mk A10
 clear A10
 by_cases c2 : t118.toList = ([97, 44, 34, 98, 44, 99, 34, 13, 10] : List UInt8)
 ·rw [if_pos c2] at H
  have c2b0 : (t118.toList == ([97, 44, 34, 98, 44, 99, 34, 13, 10] : List UInt8)) = true := beq_iff_eq.mpr c2
  have c2b1 : (t118.toList != ([97, 44, 34, 98, 44, 99, 34, 13, 10] : List UInt8)) = false := bne_eq_false_iff_eq.mpr c2
  clear c2
  obtain ⟨y119, hy119⟩ : ∃ y_ : List ByteArray, y_ = (([(⟨#[97]⟩ : ByteArray)] : List ByteArray)) := ⟨_, rfl⟩
  replace H : ((cprint_May.f (([y119] : List (List ByteArray)))).bind fun t125 => (if t125 = true then ((cprint_Field.f (⟨#[]⟩ : ByteArray) true).bind fun t126 => (some (t126.toList == ([34, 34] : List UInt8)))) else (some false))) = some r := by first | (rw [hy119]; with_reducible exact H) | (have H2_ := (Option.bind_some _ _).symm.trans H; rw [hy119]; with_reducible exact H2_) | (have H2_ := (Option.bind_some _ _).symm.trans H; with_reducible exact H2_) | with_reducible exact H | (rw [hy119]; exact H) | exact H
  have Ny119 := Aside0.mk hy119
  clear hy119
  obtain ⟨y122, hy122⟩ : ∃ y_ : List (List ByteArray), y_ = (([y119] : List (List ByteArray))) := ⟨_, rfl⟩
  replace H : ((cprint_May.f y122).bind fun t125 => (if t125 = true then ((cprint_Field.f (⟨#[]⟩ : ByteArray) true).bind fun t126 => (some (t126.toList == ([34, 34] : List UInt8)))) else (some false))) = some r := by first | (rw [hy122]; with_reducible exact H) | (have H2_ := (Option.bind_some _ _).symm.trans H; rw [hy122]; with_reducible exact H2_) | (have H2_ := (Option.bind_some _ _).symm.trans H; with_reducible exact H2_) | with_reducible exact H | (rw [hy122]; exact H) | exact H
  have Ny122 := Aside0.mk hy122
  clear hy122
  replace H := Option.bind_eq_some_iff.mp H
  obtain ⟨t125, A30, H⟩ := H
  replace H : (if t125 = true then ((cprint_Field.f (⟨#[]⟩ : ByteArray) true).bind fun t126 => (some (t126.toList == ([34, 34] : List UInt8)))) else (some false)) = some r := H
  have A3 := Aside0.mk A30
  clear A30
  by_cases c4 : t125 = true
  ·subst c4
   have H1 : ((cprint_Field.f (⟨#[]⟩ : ByteArray) true).bind fun t126 => (some (t126.toList == ([34, 34] : List UInt8)))) = some r := by rw [if_pos rfl] at H; exact H
   clear H
   have H := H1
   clear H1
   replace H := Option.bind_eq_some_iff.mp H
   obtain ⟨t126, A50, H⟩ := H
   replace H : (some (t126.toList == ([34, 34] : List UInt8))) = some r := H
   have A5 := Aside0.mk A50
   clear A50
   obtain rfl := Option.some.inj H
   go_enter Tryd.func7, Tryd.ntmps7
   go_wp2_with (first | ((with_reducible refine gate_dst (N := 1) rfl ?_); (try (refine gate_guard (by rfl) ?_; dsimp only)); refine Kd.R_lit Kd.string _ 9 ?hg (N := 1) ?hd (xs := ([(⟨#[97]⟩ : ByteArray), (⟨#[98, 44, 99]⟩ : ByteArray)] : List ByteArray)) (inner := [.string (⟨#[97]⟩ : ByteArray), .string (⟨#[98, 44, 99]⟩ : ByteArray)]) (ok := fun _ => True) (okp := fun _ => True) ?hr ?hp (fun _ hk => hk) trivial (Below.refl _ _) (Nat.le_refl _) (by simp) ?_; (case hd => rfl); (case hg => rfl); (case hr => first | (go_simp; done) | (go_simp; rfl)); (case hp => exact (Reps.one (show Kd.M Kd.string _ _ _ (⟨#[97]⟩ : ByteArray) [.string (⟨#[97]⟩ : ByteArray)] from rfl) (Reps.one (show Kd.M Kd.string _ _ _ (⟨#[98, 44, 99]⟩ : ByteArray) [.string (⟨#[98, 44, 99]⟩ : ByteArray)] from rfl) (Reps.none _ _)))); intro v113 w6 ho7 hb hg_ hnew_; clear hg_ hnew_; (first | rw [← Ny112.out] at ho7 | (simp only [Int.reduceToNat] at ho7; rw [← Ny112.out] at ho7)); have n0_ := Aside0.mk (Kd.R_lower ho7 (below_size (by repeat (first | (with_reducible first | exact HB.out | apply below_alloc | apply pw_below_drewN | apply below_drew1) | exact HB.out)))); have n1_ := Aside0.mk (below_step (by repeat (first | (with_reducible first | exact HB.out | apply below_alloc | apply pw_below_drewN | apply below_drew1) | exact HB.out)) hb); clear HB; have HO114 := n0_; have HB := n1_; clear n0_ n1_; clear hb ho7; obtain ⟨Ao8, co8, eo8⟩ := Kd.R_slice HO114.out; subst eo8) | ((with_reducible refine gate_dst (N := 2) rfl ?_); (try (refine gate_guard (by rfl) ?_; dsimp only)); refine Kd.N_lit (Kd.slice 9 Kd.string) _ 24 ?hg (N' := 2) ?hd (xs := ([y112] : List (List ByteArray))) (inner := [.slice Ao8 y112.length co8]) (ok := (fun _ => True)) (okp := (fun _ => True)) ?hr ?hp (fun _ hk => hk) ((show ∀ k_, w6.heap.size ≤ k_ → (fun _ => True) k_ from fun k_ hk => trivial) _ (Nat.le_refl _)) (Below.refl _ _) (Nat.le_refl _) (by simp) ?_; (case hd => rfl); (case hg => rfl); (case hr => first | (go_simp; done) | (go_simp; rfl)); (case hp => exact (Reps.one (show Kd.FK (Kd.slice 9 Kd.string) _ _ y112 [.slice Ao8 y112.length co8] from (Kd.FK_slice_mk (Kd.R_reads' (Kd.R_mono (ok' := (fun _ => True)) (HO114.out) (fun k_ hk => trivial))).2.1 (Kd.R_F (Kd.R_mono (ok' := (fun _ => True)) (HO114.out) (fun k_ hk => trivial))))) (Reps.none _ _))); intro v116 w9 ho10 hb hg_ hnew_; clear hg_ hnew_; (first | rw [← Ny115.out] at ho10 | (simp only [Int.reduceToNat] at ho10; rw [← Ny115.out] at ho10)); have n0_ := Aside0.mk (Kd.N_lower ho10 (below_size (by repeat (first | (with_reducible first | exact HB.out | apply below_alloc | apply pw_below_drewN | apply below_drew1) | exact HB.out)))); have n1_ := Aside0.mk (below_step (by repeat (first | (with_reducible first | exact HB.out | apply below_alloc | apply pw_below_drewN | apply below_drew1) | exact HB.out)) hb); clear HB; clear HO114; have HO117 := n0_; have HB := n1_; clear n0_ n1_; clear hb ho10; obtain ⟨Ao11, co11, eo11⟩ := Kd.N_slice HO117.out; subst eo11) | ((with_reducible refine gate_callee (f := 9) rfl ?_); refine goesL_ (some 3) rfl rfl Tryd.func9 (by kernel_rfl) rfl #[.slice Ao11 y115.length co11] rfl (by (try simp only [List.map_toArray, List.map_cons, List.map_nil]); first | done | rfl | (simp only [List.length_drop, List.length_take]; rfl)) ?_; (with_reducible refine (cprint_Print.calls _ _ y115 t118 _ ?side1 ?side2 A1.out).mono ?_); (case side1 => repeat (first | exact (Kd.N_reads' HO117.out).2.2 | (with_reducible refine Kd.C_alloc ?_ _) | (with_reducible refine Kd.C_drewN ?_ _) | (with_reducible refine Kd.C_drew ?_))); (case side2 => exact (Kd.N_reads' HO117.out).2.1); rintro e w12 ⟨rfl, hb⟩; refine ⟨_, rfl, ?_⟩; have n0_ := Aside0.mk (Kd.N_below (by (with_reducible repeat (first | apply Kd.N_alloc | apply Kd.N_drewN | apply Kd.N_drew)); exact HO117.out) hb); have n1_ := Aside0.mk (below_step (by repeat (first | (with_reducible first | exact HB.out | apply below_alloc | apply pw_below_drewN | apply below_drew1) | exact HB.out)) hb); clear HO117; clear HB; have HO117 := n0_; have HB := n1_; clear n0_ n1_; (try clear hb); (try clear hb2); (try clear hk); (try clear hi)) | ((with_reducible refine gate_dst (N := 6) rfl ?_); (try (refine gate_guard (by rfl) ?_; dsimp only)); refine Kd.R_lit Kd.string _ 9 ?hg (N := 6) ?hd (xs := ([(⟨#[97]⟩ : ByteArray)] : List ByteArray)) (inner := [.string (⟨#[97]⟩ : ByteArray)]) (ok := fun _ => True) (okp := fun _ => True) ?hr ?hp (fun _ hk => hk) trivial (Below.refl _ _) (Nat.le_refl _) (by simp) ?_; (case hd => rfl); (case hg => rfl); (case hr => first | (go_simp; done) | (go_simp; rfl)); (case hp => exact (Reps.one (show Kd.M Kd.string _ _ _ (⟨#[97]⟩ : ByteArray) [.string (⟨#[97]⟩ : ByteArray)] from rfl) (Reps.none _ _))); intro v120 w13 ho14 hb hg_ hnew_; clear hg_ hnew_; (first | rw [← Ny119.out] at ho14 | (simp only [Int.reduceToNat] at ho14; rw [← Ny119.out] at ho14)); have n0_ := Aside0.mk (Kd.N_elder' (by (with_reducible repeat (first | apply Kd.N_alloc | apply Kd.N_drewN | apply Kd.N_drew)); exact HO117.out) (Kd.R_base ho14) hb); have n1_ := Aside0.mk (Kd.R_lower ho14 (below_size (by repeat (first | (with_reducible first | exact HB.out | apply below_alloc | apply pw_below_drewN | apply below_drew1) | exact HB.out)))); have n2_ := Aside0.mk (below_step (by repeat (first | (with_reducible first | exact HB.out | apply below_alloc | apply pw_below_drewN | apply below_drew1) | exact HB.out)) hb); clear HO117; clear HB; have HO117 := n0_; have HO121 := n1_; have HB := n2_; clear n0_ n1_ n2_; clear hb ho14; obtain ⟨Ao15, co15, eo15⟩ := Kd.R_slice HO121.out; subst eo15) | ((with_reducible refine gate_dst (N := 7) rfl ?_); (try (refine gate_guard (by rfl) ?_; dsimp only)); refine Kd.N_lit (Kd.slice 9 Kd.string) _ 24 ?hg (N' := 7) ?hd (xs := ([y119] : List (List ByteArray))) (inner := [.slice Ao15 y119.length co15]) (ok := (fun k_ => some k_ ≠ (.slice Ao11 y115.length co11 : Value).ownBlock)) (okp := (fun k_ => some k_ ≠ (.slice Ao11 y115.length co11 : Value).ownBlock)) ?hr ?hp (fun _ hk => hk) ((show ∀ k_, w13.heap.size ≤ k_ → (fun k_ => some k_ ≠ (.slice Ao11 y115.length co11 : Value).ownBlock) k_ from fun k_ hk => Kd.fresh' (Kd.N_lt (by (with_reducible repeat (first | apply Kd.N_alloc | apply Kd.N_drewN | apply Kd.N_drew)); exact HO117.out)) k_ hk) _ (Nat.le_refl _)) (Below.refl _ _) (Nat.le_refl _) (by simp) ?_; (case hd => rfl); (case hg => rfl); (case hr => first | (go_simp; done) | (go_simp; rfl)); (case hp => exact (Reps.one (show Kd.FK (Kd.slice 9 Kd.string) _ _ y119 [.slice Ao15 y119.length co15] from (Kd.FK_slice_mk (Kd.R_reads' (Kd.R_mono (ok' := (fun k_ => some k_ ≠ (.slice Ao11 y115.length co11 : Value).ownBlock)) (Kd.R_apart' (HO121.out) (Kd.N_typed HO117.out) (by decide)) (fun k_ hk => hk.2))).2.1 (Kd.R_F (Kd.R_mono (ok' := (fun k_ => some k_ ≠ (.slice Ao11 y115.length co11 : Value).ownBlock)) (Kd.R_apart' (HO121.out) (Kd.N_typed HO117.out) (by decide)) (fun k_ hk => hk.2))))) (Reps.none _ _))); intro v123 w16 ho17 hb hg_ hnew_; clear hg_ hnew_; (first | rw [← Ny122.out] at ho17 | (simp only [Int.reduceToNat] at ho17; rw [← Ny122.out] at ho17)); have n0_ := Aside0.mk (Kd.N_elder' (by (with_reducible repeat (first | apply Kd.N_alloc | apply Kd.N_drewN | apply Kd.N_drew)); exact HO117.out) (Kd.N_base ho17) hb); have n1_ := Aside0.mk (Kd.N_lower ho17 (below_size (by repeat (first | (with_reducible first | exact HB.out | apply below_alloc | apply pw_below_drewN | apply below_drew1) | exact HB.out)))); have n2_ := Aside0.mk (below_step (by repeat (first | (with_reducible first | exact HB.out | apply below_alloc | apply pw_below_drewN | apply below_drew1) | exact HB.out)) hb); clear HO117; clear HB; clear HO121; have HO117 := n0_; have HO124 := n1_; have HB := n2_; clear n0_ n1_ n2_; clear hb ho17; obtain ⟨Ao18, co18, eo18⟩ := Kd.N_slice HO124.out; subst eo18) | (go_at_call 8; (with_reducible refine (cprint_May.calls _ _ y122 true _ ?side1 ?side2 A3.out).mono ?_); (case side1 => repeat (first | exact (Kd.N_reads' HO124.out).2.2 | (with_reducible refine Kd.C_alloc ?_ _) | (with_reducible refine Kd.C_drewN ?_ _) | (with_reducible refine Kd.C_drew ?_))); (case side2 => exact (Kd.N_reads' HO124.out).2.1); rintro e w19 ⟨rfl, hb⟩; have n0_ := Aside0.mk (Kd.N_below (by (with_reducible repeat (first | apply Kd.N_alloc | apply Kd.N_drewN | apply Kd.N_drew)); exact HO117.out) hb); have n1_ := Aside0.mk (Kd.N_below (by (with_reducible repeat (first | apply Kd.N_alloc | apply Kd.N_drewN | apply Kd.N_drew)); exact HO124.out) hb); have n2_ := Aside0.mk (below_step (by repeat (first | (with_reducible first | exact HB.out | apply below_alloc | apply pw_below_drewN | apply below_drew1) | exact HB.out)) hb); clear HO117; clear HO124; clear HB; have HO117 := n0_; have HO124 := n1_; have HB := n2_; clear n0_ n1_ n2_; (try clear hb); (try clear hb2); (try clear hk); (try clear hi)) | (go_at_call 10; (with_reducible refine (cprint_Field.calls (⟨#[]⟩ : ByteArray) true t126 _ A5.out).mono ?_); rintro e w20 ⟨rfl, hb⟩; have n0_ := Aside0.mk (Kd.N_below (by (with_reducible repeat (first | apply Kd.N_alloc | apply Kd.N_drewN | apply Kd.N_drew)); exact HO117.out) hb); have n1_ := Aside0.mk (Kd.N_below (by (with_reducible repeat (first | apply Kd.N_alloc | apply Kd.N_drewN | apply Kd.N_drew)); exact HO124.out) hb); have n2_ := Aside0.mk (below_step (by repeat (first | (with_reducible first | exact HB.out | apply below_alloc | apply pw_below_drewN | apply below_drew1) | exact HB.out)) hb); clear HO117; clear HO124; clear HB; have HO117 := n0_; have HO124 := n1_; have HB := n2_; clear n0_ n1_ n2_; (try clear hb); (try clear hb2); (try clear hk); (try clear hi)))
   go_ret
   exact ⟨by first | rfl | (simp [errW_none, errW_some] <;> rfl) | (simp [*, errW_none, errW_some, bne]; done) | (simp [*, errW_none, errW_some] <;> rfl), by repeat (first | (with_reducible first | exact HB.out | apply below_alloc | apply pw_below_drewN | apply below_drew1) | exact HB.out)⟩
  ·replace c4 := Bool.eq_false_iff.mpr c4
   subst c4
   have H1 : (some false) = some r := by rw [if_neg (show ¬ (false = true) by decide)] at H; exact H
   clear H
   have H := H1
   clear H1
   obtain rfl := Option.some.inj H
   go_enter Tryd.func7, Tryd.ntmps7
   go_wp2_with (first | ((with_reducible refine gate_dst (N := 1) rfl ?_); (try (refine gate_guard (by rfl) ?_; dsimp only)); refine Kd.R_lit Kd.string _ 9 ?hg (N := 1) ?hd (xs := ([(⟨#[97]⟩ : ByteArray), (⟨#[98, 44, 99]⟩ : ByteArray)] : List ByteArray)) (inner := [.string (⟨#[97]⟩ : ByteArray), .string (⟨#[98, 44, 99]⟩ : ByteArray)]) (ok := fun _ => True) (okp := fun _ => True) ?hr ?hp (fun _ hk => hk) trivial (Below.refl _ _) (Nat.le_refl _) (by simp) ?_; (case hd => rfl); (case hg => rfl); (case hr => first | (go_simp; done) | (go_simp; rfl)); (case hp => exact (Reps.one (show Kd.M Kd.string _ _ _ (⟨#[97]⟩ : ByteArray) [.string (⟨#[97]⟩ : ByteArray)] from rfl) (Reps.one (show Kd.M Kd.string _ _ _ (⟨#[98, 44, 99]⟩ : ByteArray) [.string (⟨#[98, 44, 99]⟩ : ByteArray)] from rfl) (Reps.none _ _)))); intro v113 w21 ho22 hb hg_ hnew_; clear hg_ hnew_; (first | rw [← Ny112.out] at ho22 | (simp only [Int.reduceToNat] at ho22; rw [← Ny112.out] at ho22)); have n0_ := Aside0.mk (Kd.R_lower ho22 (below_size (by repeat (first | (with_reducible first | exact HB.out | apply below_alloc | apply pw_below_drewN | apply below_drew1) | exact HB.out)))); have n1_ := Aside0.mk (below_step (by repeat (first | (with_reducible first | exact HB.out | apply below_alloc | apply pw_below_drewN | apply below_drew1) | exact HB.out)) hb); clear HB; have HO114 := n0_; have HB := n1_; clear n0_ n1_; clear hb ho22; obtain ⟨Ao23, co23, eo23⟩ := Kd.R_slice HO114.out; subst eo23) | ((with_reducible refine gate_dst (N := 2) rfl ?_); (try (refine gate_guard (by rfl) ?_; dsimp only)); refine Kd.N_lit (Kd.slice 9 Kd.string) _ 24 ?hg (N' := 2) ?hd (xs := ([y112] : List (List ByteArray))) (inner := [.slice Ao23 y112.length co23]) (ok := (fun _ => True)) (okp := (fun _ => True)) ?hr ?hp (fun _ hk => hk) ((show ∀ k_, w21.heap.size ≤ k_ → (fun _ => True) k_ from fun k_ hk => trivial) _ (Nat.le_refl _)) (Below.refl _ _) (Nat.le_refl _) (by simp) ?_; (case hd => rfl); (case hg => rfl); (case hr => first | (go_simp; done) | (go_simp; rfl)); (case hp => exact (Reps.one (show Kd.FK (Kd.slice 9 Kd.string) _ _ y112 [.slice Ao23 y112.length co23] from (Kd.FK_slice_mk (Kd.R_reads' (Kd.R_mono (ok' := (fun _ => True)) (HO114.out) (fun k_ hk => trivial))).2.1 (Kd.R_F (Kd.R_mono (ok' := (fun _ => True)) (HO114.out) (fun k_ hk => trivial))))) (Reps.none _ _))); intro v116 w24 ho25 hb hg_ hnew_; clear hg_ hnew_; (first | rw [← Ny115.out] at ho25 | (simp only [Int.reduceToNat] at ho25; rw [← Ny115.out] at ho25)); have n0_ := Aside0.mk (Kd.N_lower ho25 (below_size (by repeat (first | (with_reducible first | exact HB.out | apply below_alloc | apply pw_below_drewN | apply below_drew1) | exact HB.out)))); have n1_ := Aside0.mk (below_step (by repeat (first | (with_reducible first | exact HB.out | apply below_alloc | apply pw_below_drewN | apply below_drew1) | exact HB.out)) hb); clear HB; clear HO114; have HO117 := n0_; have HB := n1_; clear n0_ n1_; clear hb ho25; obtain ⟨Ao26, co26, eo26⟩ := Kd.N_slice HO117.out; subst eo26) | ((with_reducible refine gate_callee (f := 9) rfl ?_); refine goesL_ (some 3) rfl rfl Tryd.func9 (by kernel_rfl) rfl #[.slice Ao26 y115.length co26] rfl (by (try simp only [List.map_toArray, List.map_cons, List.map_nil]); first | done | rfl | (simp only [List.length_drop, List.length_take]; rfl)) ?_; (with_reducible refine (cprint_Print.calls _ _ y115 t118 _ ?side1 ?side2 A1.out).mono ?_); (case side1 => repeat (first | exact (Kd.N_reads' HO117.out).2.2 | (with_reducible refine Kd.C_alloc ?_ _) | (with_reducible refine Kd.C_drewN ?_ _) | (with_reducible refine Kd.C_drew ?_))); (case side2 => exact (Kd.N_reads' HO117.out).2.1); rintro e w27 ⟨rfl, hb⟩; refine ⟨_, rfl, ?_⟩; have n0_ := Aside0.mk (Kd.N_below (by (with_reducible repeat (first | apply Kd.N_alloc | apply Kd.N_drewN | apply Kd.N_drew)); exact HO117.out) hb); have n1_ := Aside0.mk (below_step (by repeat (first | (with_reducible first | exact HB.out | apply below_alloc | apply pw_below_drewN | apply below_drew1) | exact HB.out)) hb); clear HO117; clear HB; have HO117 := n0_; have HB := n1_; clear n0_ n1_; (try clear hb); (try clear hb2); (try clear hk); (try clear hi)) | ((with_reducible refine gate_dst (N := 6) rfl ?_); (try (refine gate_guard (by rfl) ?_; dsimp only)); refine Kd.R_lit Kd.string _ 9 ?hg (N := 6) ?hd (xs := ([(⟨#[97]⟩ : ByteArray)] : List ByteArray)) (inner := [.string (⟨#[97]⟩ : ByteArray)]) (ok := fun _ => True) (okp := fun _ => True) ?hr ?hp (fun _ hk => hk) trivial (Below.refl _ _) (Nat.le_refl _) (by simp) ?_; (case hd => rfl); (case hg => rfl); (case hr => first | (go_simp; done) | (go_simp; rfl)); (case hp => exact (Reps.one (show Kd.M Kd.string _ _ _ (⟨#[97]⟩ : ByteArray) [.string (⟨#[97]⟩ : ByteArray)] from rfl) (Reps.none _ _))); intro v120 w28 ho29 hb hg_ hnew_; clear hg_ hnew_; (first | rw [← Ny119.out] at ho29 | (simp only [Int.reduceToNat] at ho29; rw [← Ny119.out] at ho29)); have n0_ := Aside0.mk (Kd.N_elder' (by (with_reducible repeat (first | apply Kd.N_alloc | apply Kd.N_drewN | apply Kd.N_drew)); exact HO117.out) (Kd.R_base ho29) hb); have n1_ := Aside0.mk (Kd.R_lower ho29 (below_size (by repeat (first | (with_reducible first | exact HB.out | apply below_alloc | apply pw_below_drewN | apply below_drew1) | exact HB.out)))); have n2_ := Aside0.mk (below_step (by repeat (first | (with_reducible first | exact HB.out | apply below_alloc | apply pw_below_drewN | apply below_drew1) | exact HB.out)) hb); clear HO117; clear HB; have HO117 := n0_; have HO121 := n1_; have HB := n2_; clear n0_ n1_ n2_; clear hb ho29; obtain ⟨Ao30, co30, eo30⟩ := Kd.R_slice HO121.out; subst eo30) | ((with_reducible refine gate_dst (N := 7) rfl ?_); (try (refine gate_guard (by rfl) ?_; dsimp only)); refine Kd.N_lit (Kd.slice 9 Kd.string) _ 24 ?hg (N' := 7) ?hd (xs := ([y119] : List (List ByteArray))) (inner := [.slice Ao30 y119.length co30]) (ok := (fun k_ => some k_ ≠ (.slice Ao26 y115.length co26 : Value).ownBlock)) (okp := (fun k_ => some k_ ≠ (.slice Ao26 y115.length co26 : Value).ownBlock)) ?hr ?hp (fun _ hk => hk) ((show ∀ k_, w28.heap.size ≤ k_ → (fun k_ => some k_ ≠ (.slice Ao26 y115.length co26 : Value).ownBlock) k_ from fun k_ hk => Kd.fresh' (Kd.N_lt (by (with_reducible repeat (first | apply Kd.N_alloc | apply Kd.N_drewN | apply Kd.N_drew)); exact HO117.out)) k_ hk) _ (Nat.le_refl _)) (Below.refl _ _) (Nat.le_refl _) (by simp) ?_; (case hd => rfl); (case hg => rfl); (case hr => first | (go_simp; done) | (go_simp; rfl)); (case hp => exact (Reps.one (show Kd.FK (Kd.slice 9 Kd.string) _ _ y119 [.slice Ao30 y119.length co30] from (Kd.FK_slice_mk (Kd.R_reads' (Kd.R_mono (ok' := (fun k_ => some k_ ≠ (.slice Ao26 y115.length co26 : Value).ownBlock)) (Kd.R_apart' (HO121.out) (Kd.N_typed HO117.out) (by decide)) (fun k_ hk => hk.2))).2.1 (Kd.R_F (Kd.R_mono (ok' := (fun k_ => some k_ ≠ (.slice Ao26 y115.length co26 : Value).ownBlock)) (Kd.R_apart' (HO121.out) (Kd.N_typed HO117.out) (by decide)) (fun k_ hk => hk.2))))) (Reps.none _ _))); intro v123 w31 ho32 hb hg_ hnew_; clear hg_ hnew_; (first | rw [← Ny122.out] at ho32 | (simp only [Int.reduceToNat] at ho32; rw [← Ny122.out] at ho32)); have n0_ := Aside0.mk (Kd.N_elder' (by (with_reducible repeat (first | apply Kd.N_alloc | apply Kd.N_drewN | apply Kd.N_drew)); exact HO117.out) (Kd.N_base ho32) hb); have n1_ := Aside0.mk (Kd.N_lower ho32 (below_size (by repeat (first | (with_reducible first | exact HB.out | apply below_alloc | apply pw_below_drewN | apply below_drew1) | exact HB.out)))); have n2_ := Aside0.mk (below_step (by repeat (first | (with_reducible first | exact HB.out | apply below_alloc | apply pw_below_drewN | apply below_drew1) | exact HB.out)) hb); clear HO117; clear HB; clear HO121; have HO117 := n0_; have HO124 := n1_; have HB := n2_; clear n0_ n1_ n2_; clear hb ho32; obtain ⟨Ao33, co33, eo33⟩ := Kd.N_slice HO124.out; subst eo33) | (go_at_call 8; (with_reducible refine (cprint_May.calls _ _ y122 false _ ?side1 ?side2 A3.out).mono ?_); (case side1 => repeat (first | exact (Kd.N_reads' HO124.out).2.2 | (with_reducible refine Kd.C_alloc ?_ _) | (with_reducible refine Kd.C_drewN ?_ _) | (with_reducible refine Kd.C_drew ?_))); (case side2 => exact (Kd.N_reads' HO124.out).2.1); rintro e w34 ⟨rfl, hb⟩; have n0_ := Aside0.mk (Kd.N_below (by (with_reducible repeat (first | apply Kd.N_alloc | apply Kd.N_drewN | apply Kd.N_drew)); exact HO117.out) hb); have n1_ := Aside0.mk (Kd.N_below (by (with_reducible repeat (first | apply Kd.N_alloc | apply Kd.N_drewN | apply Kd.N_drew)); exact HO124.out) hb); have n2_ := Aside0.mk (below_step (by repeat (first | (with_reducible first | exact HB.out | apply below_alloc | apply pw_below_drewN | apply below_drew1) | exact HB.out)) hb); clear HO117; clear HO124; clear HB; have HO117 := n0_; have HO124 := n1_; have HB := n2_; clear n0_ n1_ n2_; (try clear hb); (try clear hb2); (try clear hk); (try clear hi)))
   go_ret
   exact ⟨by first | rfl | (simp [errW_none, errW_some] <;> rfl) | (simp [*, errW_none, errW_some, bne]; done) | (simp [*, errW_none, errW_some] <;> rfl), by repeat (first | (with_reducible first | exact HB.out | apply below_alloc | apply pw_below_drewN | apply below_drew1) | exact HB.out)⟩
 ·rw [if_neg c2] at H
  have c2b0 : (t118.toList == ([97, 44, 34, 98, 44, 99, 34, 13, 10] : List UInt8)) = false := beq_eq_false_iff_ne.mpr c2
  have c2b1 : (t118.toList != ([97, 44, 34, 98, 44, 99, 34, 13, 10] : List UInt8)) = true := bne_iff_ne.mpr c2
  obtain rfl := Option.some.inj H
  go_enter Tryd.func7, Tryd.ntmps7
  go_wp2_with (first | ((with_reducible refine gate_dst (N := 1) rfl ?_); (try (refine gate_guard (by rfl) ?_; dsimp only)); refine Kd.R_lit Kd.string _ 9 ?hg (N := 1) ?hd (xs := ([(⟨#[97]⟩ : ByteArray), (⟨#[98, 44, 99]⟩ : ByteArray)] : List ByteArray)) (inner := [.string (⟨#[97]⟩ : ByteArray), .string (⟨#[98, 44, 99]⟩ : ByteArray)]) (ok := fun _ => True) (okp := fun _ => True) ?hr ?hp (fun _ hk => hk) trivial (Below.refl _ _) (Nat.le_refl _) (by simp) ?_; (case hd => rfl); (case hg => rfl); (case hr => first | (go_simp; done) | (go_simp; rfl)); (case hp => exact (Reps.one (show Kd.M Kd.string _ _ _ (⟨#[97]⟩ : ByteArray) [.string (⟨#[97]⟩ : ByteArray)] from rfl) (Reps.one (show Kd.M Kd.string _ _ _ (⟨#[98, 44, 99]⟩ : ByteArray) [.string (⟨#[98, 44, 99]⟩ : ByteArray)] from rfl) (Reps.none _ _)))); intro v113 w35 ho36 hb hg_ hnew_; clear hg_ hnew_; (first | rw [← Ny112.out] at ho36 | (simp only [Int.reduceToNat] at ho36; rw [← Ny112.out] at ho36)); have n0_ := Aside0.mk (Kd.R_lower ho36 (below_size (by repeat (first | (with_reducible first | exact HB.out | apply below_alloc | apply pw_below_drewN | apply below_drew1) | exact HB.out)))); have n1_ := Aside0.mk (below_step (by repeat (first | (with_reducible first | exact HB.out | apply below_alloc | apply pw_below_drewN | apply below_drew1) | exact HB.out)) hb); clear HB; have HO114 := n0_; have HB := n1_; clear n0_ n1_; clear hb ho36; obtain ⟨Ao37, co37, eo37⟩ := Kd.R_slice HO114.out; subst eo37) | ((with_reducible refine gate_dst (N := 2) rfl ?_); (try (refine gate_guard (by rfl) ?_; dsimp only)); refine Kd.N_lit (Kd.slice 9 Kd.string) _ 24 ?hg (N' := 2) ?hd (xs := ([y112] : List (List ByteArray))) (inner := [.slice Ao37 y112.length co37]) (ok := (fun _ => True)) (okp := (fun _ => True)) ?hr ?hp (fun _ hk => hk) ((show ∀ k_, w35.heap.size ≤ k_ → (fun _ => True) k_ from fun k_ hk => trivial) _ (Nat.le_refl _)) (Below.refl _ _) (Nat.le_refl _) (by simp) ?_; (case hd => rfl); (case hg => rfl); (case hr => first | (go_simp; done) | (go_simp; rfl)); (case hp => exact (Reps.one (show Kd.FK (Kd.slice 9 Kd.string) _ _ y112 [.slice Ao37 y112.length co37] from (Kd.FK_slice_mk (Kd.R_reads' (Kd.R_mono (ok' := (fun _ => True)) (HO114.out) (fun k_ hk => trivial))).2.1 (Kd.R_F (Kd.R_mono (ok' := (fun _ => True)) (HO114.out) (fun k_ hk => trivial))))) (Reps.none _ _))); intro v116 w38 ho39 hb hg_ hnew_; clear hg_ hnew_; (first | rw [← Ny115.out] at ho39 | (simp only [Int.reduceToNat] at ho39; rw [← Ny115.out] at ho39)); have n0_ := Aside0.mk (Kd.N_lower ho39 (below_size (by repeat (first | (with_reducible first | exact HB.out | apply below_alloc | apply pw_below_drewN | apply below_drew1) | exact HB.out)))); have n1_ := Aside0.mk (below_step (by repeat (first | (with_reducible first | exact HB.out | apply below_alloc | apply pw_below_drewN | apply below_drew1) | exact HB.out)) hb); clear HB; clear HO114; have HO117 := n0_; have HB := n1_; clear n0_ n1_; clear hb ho39; obtain ⟨Ao40, co40, eo40⟩ := Kd.N_slice HO117.out; subst eo40) | ((with_reducible refine gate_callee (f := 9) rfl ?_); refine goesL_ (some 3) rfl rfl Tryd.func9 (by kernel_rfl) rfl #[.slice Ao40 y115.length co40] rfl (by (try simp only [List.map_toArray, List.map_cons, List.map_nil]); first | done | rfl | (simp only [List.length_drop, List.length_take]; rfl)) ?_; (with_reducible refine (cprint_Print.calls _ _ y115 t118 _ ?side1 ?side2 A1.out).mono ?_); (case side1 => repeat (first | exact (Kd.N_reads' HO117.out).2.2 | (with_reducible refine Kd.C_alloc ?_ _) | (with_reducible refine Kd.C_drewN ?_ _) | (with_reducible refine Kd.C_drew ?_))); (case side2 => exact (Kd.N_reads' HO117.out).2.1); rintro e w41 ⟨rfl, hb⟩; refine ⟨_, rfl, ?_⟩; have n0_ := Aside0.mk (Kd.N_below (by (with_reducible repeat (first | apply Kd.N_alloc | apply Kd.N_drewN | apply Kd.N_drew)); exact HO117.out) hb); have n1_ := Aside0.mk (below_step (by repeat (first | (with_reducible first | exact HB.out | apply below_alloc | apply pw_below_drewN | apply below_drew1) | exact HB.out)) hb); clear HO117; clear HB; have HO117 := n0_; have HB := n1_; clear n0_ n1_; (try clear hb); (try clear hb2); (try clear hk); (try clear hi)))
  go_ret
  exact ⟨by first | rfl | (simp [errW_none, errW_some] <;> rfl) | (simp [*, errW_none, errW_some, bne]; done) | (simp [*, errW_none, errW_some] <;> rfl), by repeat (first | (with_reducible first | exact HB.out | apply below_alloc | apply pw_below_drewN | apply below_drew1) | exact HB.out)⟩
end Go.Proofs.YtjmmdphkgioooaaDoor.P
end
section
namespace Go.Proofs.YtjmmdphkgioooaaDoor.Pure
open Go.RowKit Go.Proofs.YtjmmdphkgioooaaDoor.P Go.Proofs.YtjmmdphkgioooaaDoorW.PrintWords Go.Proofs.YtjmmdphkgioooaaDoorW.PrintLast
theorem awake14 : dragomanlaw14_awake.f = some true := by decide +kernel
end Go.Proofs.YtjmmdphkgioooaaDoor.Pure
end
section
namespace Go.Proofs.YtjmmdphkgioooaaDoor.Pure
open Go.RowKit Go.Proofs.YtjmmdphkgioooaaDoor.P Go.Proofs.YtjmmdphkgioooaaDoor.La Go.Proofs.YtjmmdphkgioooaaDoorW.PrintWords Go.Proofs.YtjmmdphkgioooaaDoorW.PrintLast Go.Proofs.YtjmmdphkgioooaaDoorW.PrintMore
theorem field_f (s : ByteArray) (h : s.size ≤ 10000) (al : Bool) : cprint_Field.f s al = some (fieldW s al) := if_pos h
theorem print_f {l : List (List ByteArray)} (h : fits l) : cprint_Print.f l = some (printW l) := if_pos h
end Go.Proofs.YtjmmdphkgioooaaDoor.Pure
end
section
namespace Go.Proofs.YtjmmdphkgioooaaDoor.P
set_option linter.unusedVariables false
open Go.RowKit Go.Proofs.YtjmmdphkgioooaaDoor.La Go.Proofs.YtjmmdphkgioooaaDoor.Pure Go.Proofs.YtjmmdphkgioooaaDoorW.PrintWords Go.Proofs.YtjmmdphkgioooaaDoorW.PrintLast Go.Proofs.YtjmmdphkgioooaaDoorW.PrintMore
abbrev X1 : ByteArray := ⟨#[120]⟩
def cellRow (s : ByteArray) (n : Nat) : List ByteArray := s :: List.replicate n X1
theorem cells_may (s : ByteArray) (hs : s.size ≤ 500) (hv : bad (bytesOf s) = none) (n : Nat) (hn : n ≤ 10) : mayB [cellRow s n, cellRow s n] = true := by
 have ho : ∀ x ∈ cellRow s n, oddS x = false := by
  intro x hx
  rcases List.mem_cons.1 hx with rfl | hx
  ·unfold oddS
   rw [hv, decide_eq_false (by omega)]; rfl
  ·rw [List.eq_of_mem_replicate hx]; decide +kernel
 have hany : (cellRow s n).any oddS = false := by
  rw [← Bool.not_eq_true, List.any_eq_true]
  rintro ⟨x, hx, h⟩
  rw [ho x hx] at h
  cases h
 have hlen : (cellRow s n).length = n + 1 := by simp [cellRow]
 have hok : okRow (firstC [cellRow s n, cellRow s n]) (cellRow s n) = true := by
  unfold okRow firstC
  rw [hany]
  show (decide (1 ≤ (cellRow s n).length ∧ (cellRow s n).length ≤ 64 ∧ (cellRow s n).length = (cellRow s n).length) && !false) = true
  rw [decide_eq_true (by omega)]; rfl
 have hrl : (rowL (cellRow s n)).length ≤ 11 * 1003 + 2 := by
  unfold rowL
  rw [List.length_append]
  have h1 := joinC_len ((cellRow s n).map fun x => fieldL (bytesOf x) ((cellRow s n).length == 1)) 1002 (fun x hx => by
   obtain ⟨y, hy, rfl⟩ := List.mem_map.1 hx
   have h2 := fieldL_len (bytesOf y) ((cellRow s n).length == 1)
   have h3 : (bytesOf y).length ≤ 500 := by
    rcases List.mem_cons.1 hy with rfl | hy
    ·rw [size_of]; exact hs
    ·rw [List.eq_of_mem_replicate hy]; decide
   omega)
  rw [List.length_map] at h1
  have h5 : ([13, 10] : List Int).length = 2 := rfl
  omega
 unfold mayB
 rw [Bool.and_eq_true, decide_eq_true_eq]
 refine ⟨?_, ?_⟩
 ·rw [List.all_cons, List.all_cons, hok]; rfl
 ·have e : printL [cellRow s n, cellRow s n] = rowL (cellRow s n) ++ (rowL (cellRow s n) ++ []) := rfl
  rw [e, List.length_append, List.length_append, List.length_nil]
  omega
theorem cells_fits (s : ByteArray) (hs : s.size ≤ 500) (n : Nat) (hn : n ≤ 10) : fits [cellRow s n, cellRow s n] := by
 refine ⟨by simp, fun r hr => ?_⟩
 have e : r = cellRow s n := by simpa using hr
 subst e
 refine ⟨by simp [cellRow]; omega, fun x hx => ?_⟩
 rcases List.mem_cons.1 hx with rfl | hx
 ·omega
 ·rw [List.eq_of_mem_replicate hx]; decide
/-- Needs a field no quotes? -/
def plainS (s : ByteArray) (n : Nat) : Bool := (!decide (bytesOf s = []) || decide (0 < n)) && !(bytesOf s).any odd4
theorem cells_field (s : ByteArray) (n : Nat) : ((fieldW s (decide (n = 0))).toList == s.toList) = plainS s n := by
 have e : ((fieldW s (decide (n = 0))).toList == s.toList) = decide (fieldL (bytesOf s) (decide (n = 0)) = bytesOf s) := by
  rw [Bool.eq_iff_iff, beq_iff_eq, toList_eq_iff, fieldW_bytes, decide_eq_true_eq]
 rw [e]
 unfold fieldL plainS
 by_cases hc : (bytesOf s).any odd4 = true ∨ (bytesOf s = [] ∧ decide (n = 0) = true)
 ·rw [if_pos hc]
  have : decide (34 :: (dbl (bytesOf s) ++ [34]) = bytesOf s) = false := decide_eq_false (fun h => by
   have h1 := congrArg List.length h
   rw [List.length_cons, List.length_append, List.length_singleton] at h1
   have := (dbl_len (bytesOf s)).1
   omega)
  rw [this]
  rcases hc with h | ⟨h1, h2⟩
  ·rw [h]; simp
  ·rw [decide_eq_true_eq] at h2
   rw [decide_eq_true h1, decide_eq_false (show ¬ 0 < n by omega)]; rfl
 ·rw [if_neg hc, decide_eq_true rfl]
  have h1 : (bytesOf s).any odd4 = false := by
   cases h : (bytesOf s).any odd4 with
   | true => exact absurd (.inl h) hc
   | false => rfl
  rw [h1]
  by_cases h2 : bytesOf s = []
  ·have h3 : 0 < n := by
    rcases Nat.eq_zero_or_pos n with h | h
    ·exact absurd (.inr ⟨h2, decide_eq_true h⟩) hc
    ·exact h
   rw [decide_eq_true h2, decide_eq_true h3]; rfl
  ·rw [decide_eq_false h2]; rfl
set_option maxHeartbeats 8000000 in
set_option maxRecDepth 100000 in
theorem cells_walk (s : ByteArray) (b : Int) (w : World) (hs0 : s.size ≤ 140737488355328) (hb0 : -9223372036854775808 ≤ b ∧ b < 9223372036854775808) :
  Calls Tryd.prog 6 #[.string s, .int .i64 b] w fun e w' => e = .returned (.bool true) ∧ Below w.heap.size w w' := by
 obtain ⟨K, hK⟩ := ref_valid_ev s hs0
 have hV := hK K (Nat.le_refl _)
 by_cases h500 : 500 < s.size
 ·have e1 : decide (500 < (s.size : Int)) = true := decide_eq_true (by omega)
  go_enter Tryd.func6, Tryd.ntmps6
  go_wp2_with fail
  refine (dragomanlaw14_awake.calls true _ awake14).mono ?_
  rintro e w1 ⟨rfl, hb1⟩
  go_wp2
  go_ret
  exact ⟨rfl, hb1⟩
 have e1 : decide (500 < (s.size : Int)) = false := decide_eq_false (by omega)
 cases hbad : bad (bytesOf s) with
 | some p =>
  rw [hbad] at hV
  have e2 : decide (0 ≤ rbadR 0 (some p)) = true := decide_eq_true (by simp [rbadR])
  generalize rbadR 0 (some p) = v at hV e2
  go_enter Tryd.func6, Tryd.ntmps6
  go_wp2_with fail
  refine (dragomanlaw14_awake.calls true _ awake14).mono ?_
  rintro e w1 ⟨rfl, hb1⟩
  go_wp2_with fail
  refine (dragomanref1_Valid.calls K s v _ hV).mono ?_
  rintro e w2 ⟨rfl, hb2⟩
  go_wp2
  go_ret
  exact ⟨rfl, below_step hb1 hb2⟩
 | none =>
  rw [hbad] at hV
  have hV : dragomanref1_Valid.f K s = some (-1) := hV
  by_cases hbl : b < 0
  ·have e2 : decide (b < 0) = true := decide_eq_true hbl
   go_enter Tryd.func6, Tryd.ntmps6
   go_wp2_with fail
   refine (dragomanlaw14_awake.calls true _ awake14).mono ?_
   rintro e w1 ⟨rfl, hb1⟩
   go_wp2_with fail
   refine (dragomanref1_Valid.calls K s (-1) _ hV).mono ?_
   rintro e w2 ⟨rfl, hb2⟩
   go_wp2
   go_ret
   exact ⟨rfl, below_step hb1 hb2⟩
  have e2 : decide (b < 0) = false := decide_eq_false hbl
  by_cases hbg : 10 < b
  ·have e3 : decide (10 < b) = true := decide_eq_true hbg
   go_enter Tryd.func6, Tryd.ntmps6
   go_wp2_with fail
   refine (dragomanlaw14_awake.calls true _ awake14).mono ?_
   rintro e w1 ⟨rfl, hb1⟩
   go_wp2_with fail
   refine (dragomanref1_Valid.calls K s (-1) _ hV).mono ?_
   rintro e w2 ⟨rfl, hb2⟩
   go_wp2
   go_ret
   exact ⟨rfl, below_step hb1 hb2⟩
  have e3 : decide (10 < b) = false := decide_eq_false hbg
  obtain ⟨n, rfl⟩ : ∃ n : Nat, b = (n : Int) := ⟨b.toNat, by omega⟩
  go_enter Tryd.func6, Tryd.ntmps6
  go_wp2_with fail
  refine (dragomanlaw14_awake.calls true _ awake14).mono ?_
  rintro e w1 ⟨rfl, hb1⟩
  go_wp2_with fail
  refine (dragomanref1_Valid.calls K s (-1) _ hV).mono ?_
  rintro e w2 ⟨rfl, hb2⟩
  go_wp2_with fail
  have hB2 := below_step hb1 hb2
  have hR0 : Kd.R Kd.string 9 (w2.alloc (.cells #[.string s] 9)) w.heap.size (fun _ => True) (.slice (some ⟨w2.heap.size, 0, none⟩) 1 1) (cellRow s 0) :=
   Kd.R_of_own (enc := Value.string) (h1 := fun _ => rfl) (World.ownsRow_lit (base := w.heap.size) (e := 9) (size := 1) w2 #[.string s] 1 hB2.size (by decide) rfl) (fun _ _ => trivial)
  have hB3 := below_alloc hB2 (.cells #[.string s] 9)
  have hn10 : n ≤ 10 := by omega
  have Hbad := Lib.hid hbad
  clear hK hV hb1 hb2 hB2 hbad
  go_loopg [5, 6] (n + 1) (fun g v5 v6 wx => ∃ x : Nat, x ≤ n ∧ g = n - x + 1 ∧ v6 = .int .i64 x ∧ Kd.R Kd.string 9 wx w.heap.size (fun _ => True) v5 (cellRow s x) ∧ Below w.heap.size w wx)
  case atStart => exact ⟨0, Nat.zero_le _, rfl, rfl, hR0, hB3⟩
  case round =>
   clear hR0 hB3
   obtain ⟨x, hx, hg, rfl, hL, hB⟩ := hrel
   have HG := Lib.hid hg
   clear hg
   obtain ⟨LA, LC, hlv, hlc, hC⟩ := Kd.R_reads hL
   have hln : (cellRow s x).length = x + 1 := by simp [cellRow]
   rw [hln] at hlv hlc
   subst hlv
   by_cases hxl : x < n
   ·have hBs := hB.size
    have hnx : cellRow s x ++ [X1] = cellRow s (x + 1) := by
     unfold cellRow
     rw [List.cons_append, ← List.replicate_succ']
    have HNX := Lib.hid hnx
    have HLN := Lib.hid hln
    clear hnx hln hC
    go_wp2_with (at_builtin; refine Kd.R_append Kd.string (w0 := wr) w.heap.size rfl (.tmp 36) (.tmp 37) 24 9 (.string ⟨#[]⟩) 16 rfl Tryd.underlying24 cinfoT rfl (by decide) (by omega) (.slice LA (x + 1) LC) (cellRow s x) X1 [.string X1] (fun _ => True) (fun _ => False) rfl (by first | (go_simp; done) | (go_simp; rfl)) rfl (fun _ hk => hk.elim) (fun _ _ => trivial) hL (Below.refl _ _) (by omega) (by rw [HLN.out]; omega) ?_)
    intro v1 w5 hR5 hb5 hg5 hat5
    rw [HNX.out] at hR5
    have hB5 := hB.trans hb5
    clear hb5 hg5 hat5 hL hB
    go_wp2
    have hgk := HG.out
    obtain ⟨g, hgg⟩ : ∃ g, n - x + 1 = g + 1 := ⟨_, rfl⟩
    rw [hgg] at hgk
    subst hgk
    go_roundg g
    case rel => exact ⟨x + 1, by omega, by omega, by go_num, hR5, hB5⟩
    case measure => omega
   ·obtain rfl : x = n := by omega
    obtain ⟨R, hRR⟩ : ∃ R, cellRow s x = R := ⟨_, rfl⟩
    have hfit : cprint_Print.f [cellRow s x, cellRow s x] = some (printW [cellRow s x, cellRow s x]) := print_f (cells_fits s (by omega) x hn10)
    have hmay := cells_may s (by omega) Hbad.out x hn10
    have hbk := back [cellRow s x, cellRow s x] (by simp) hmay
    have hpz : (printW [cellRow s x, cellRow s x]).size ≤ 65536 := by
     have h := hmay
     unfold mayB at h
     rw [Bool.and_eq_true, decide_eq_true_eq] at h
     rw [printL_size]
     exact h.2
    have hrd : cread_Rows.f (printW [cellRow s x, cellRow s x]) = some ([cellRow s x, cellRow s x], 0, 0, 0, 0) := by rw [rows_f _ (by omega), hbk]
    have hC2 : Kd.C (Kd.slice 9 Kd.string) (wr.alloc (.cells #[.slice LA (x + 1) LC, .slice LA (x + 1) LC] 24)) (some ⟨wr.heap.size, 0, none⟩) 2 [cellRow s x, cellRow s x] := by
     refine ⟨rfl, by decide, fun _ => ⟨_, rfl, fun j p hj => ?_⟩⟩
     have hp : p = cellRow s x ∧ j < 2 := by
      match j, hj with
      | 0, hj => exact ⟨(Option.some.inj hj).symm, by omega⟩
      | 1, hj => exact ⟨(Option.some.inj hj).symm, by omega⟩
     obtain ⟨rfl, hj2⟩ := hp
     refine ⟨[.slice LA (x + 1) LC], rfl, ⟨LA, LC, by rw [hln], by rw [hln]; exact hlc, Kd.C_below hC (below_alloc (Below.refl _ _) _)⟩, fun i u hu => ?_⟩
     match i, hu with
     | 0, hu =>
      obtain rfl := Option.some.inj hu
      have hh : (wr.alloc (.cells #[.slice LA (x + 1) LC, .slice LA (x + 1) LC] 24)).heap[wr.heap.size]? = some (.cells #[.slice LA (x + 1) LC, .slice LA (x + 1) LC] 24 (0, 0)) := heap_alloc_new wr _
      match j, hj2 with
      | 0, _ => exact (blk_cell hh 0).trans rfl
      | 1, _ => exact (blk_cell hh 1).trans rfl
    have hB4 := below_alloc hB (.cells #[.slice LA (x + 1) LC, .slice LA (x + 1) LC] 24)
    have hlen2 : ([cellRow s x, cellRow s x] : List (List ByteArray)).length = 2 := rfl
    have HC2 := Lib.hid (cprint_Print.calls (some ⟨wr.heap.size, 0, none⟩) 2 [cellRow s x, cellRow s x] _ _ hC2 (Nat.le_refl _) hfit)
    have HRd := Lib.hid hrd
    have HLN := Lib.hid hln
    clear hfit hmay hbk hrd hL hC hC2 hln hlen2 hRR R
    go_wp2_with fail
    refine HC2.out.mono ?_
    rintro e w3 ⟨rfl, hb3⟩
    have hB5 := below_step hB4 hb3
    go_wp2_with fail
    refine (cread_Rows.calls _ _ _ _ _ _ _ HRd.out).mono ?_
    rintro e w4 ⟨v4, rfl, hS4, hb4⟩
    have hB6 := below_step hB5 hb4
    clear hB hB4 hB5 hb3 hb4 HC2 HRd
    obtain ⟨A4, c4, rfl, _, _⟩ := Kd.R_reads (Kd.S_R hS4)
    obtain ⟨ad, rfl⟩ : ∃ ad, A4 = some ad := by
     obtain ⟨g, cap, h, _⟩ := Kd.S_form hS4 (by simp)
     injection h with h1 h2 h3
     exact ⟨_, h1⟩
    obtain ⟨cs0, _, hM0, hcell0⟩ := Kd.S_get hS4 [] 0 (by decide) (by simp)
    obtain ⟨vr0, rfl, hR0⟩ := hM0
    have y0 : w4.cell? ad = some vr0 := hcell0 0 vr0 rfl
    obtain ⟨cs1, _, hM1, hcell1⟩ := Kd.S_get hS4 [] 1 (by decide) (by simp)
    obtain ⟨vr1, rfl, hR1⟩ := hM1
    have y1 : w4.cell? (ad.add 1) = some vr1 := hcell1 0 vr1 rfl
    obtain ⟨VA0, VC0, rfl, _, hC0⟩ := Kd.R_reads hR0
    obtain ⟨VA1, VC1, rfl, _, hC1⟩ := Kd.R_reads hR1
    have hl0 : (([cellRow s x, cellRow s x] : List (List ByteArray)).getD (0 : Int).toNat []).length = x + 1 := HLN.out
    have hl1 : (([cellRow s x, cellRow s x] : List (List ByteArray)).getD (1 : Int).toNat []).length = x + 1 := HLN.out
    rw [hl0] at y0 hC0
    rw [hl1] at y1 hC1
    obtain ⟨ad0, rfl, z0⟩ := Kd.at_string hC0 0 (by decide) (by omega)
    obtain ⟨ad1, rfl, z1⟩ := Kd.at_string hC1 0 (by decide) (by omega)
    replace z0 : w4.cell? ad0 = some (.string s) := z0
    replace z1 : w4.cell? ad1 = some (.string s) := z1
    have la0 := World.block_lt_of_cell? w4 _ y0
    have la1 := World.block_lt_of_cell? w4 _ y1
    have lz0 := World.block_lt_of_cell? w4 _ z0
    have lz1 := World.block_lt_of_cell? w4 _ z1
    have y0' := (World.cell?_alloc_old w4 (.cells #[.int .i64 0, .int .i64 0, .int .i64 0, .int .i64 0] 30) ad (Nat.ne_of_lt la0)).trans y0
    have y1' := (World.cell?_alloc_old w4 (.cells #[.int .i64 0, .int .i64 0, .int .i64 0, .int .i64 0] 30) (ad.add 1) (Nat.ne_of_lt la1)).trans y1
    have z0' := (World.cell?_alloc_old w4 (.cells #[.int .i64 0, .int .i64 0, .int .i64 0, .int .i64 0] 30) ad0 (Nat.ne_of_lt lz0)).trans z0
    have z1' := (World.cell?_alloc_old w4 (.cells #[.int .i64 0, .int .i64 0, .int .i64 0, .int .i64 0] 30) ad1 (Nat.ne_of_lt lz1)).trans z1
    have y1a : (w4.alloc (.cells #[.int .i64 0, .int .i64 0, .int .i64 0, .int .i64 0] 30)).cell? ⟨ad.block, ad.off + 1, none⟩ = some (.slice (some ad1) (x + 1) VC1) := y1'
    have HB6 := Lib.hid (below_alloc hB6 (.cells #[.int .i64 0, .int .i64 0, .int .i64 0, .int .i64 0] 30))
    have f1 : ((x : Int) + 1 != (x : Int) + 1) = false := bne_self_eq_false _
    have HPL := Lib.hid (cells_field s x)
    have HFF := Lib.hid (field_f s (by omega) (decide (x = 0)))
    have hbx : ((x : Int) == 0) = decide (x = 0) := by rw [Bool.eq_iff_iff, beq_iff_eq, decide_eq_true_eq]; omega
    clear hS4 hcell0 hcell1 hR0 hR1 hC0 hC1 hl0 hl1 hB6 y0 y1 z0 z1 la0 la1 lz0 lz1 HLN hV e1
    obtain ⟨p0, hp0, hcase⟩ : ∃ p0, (!decide (bytesOf s = []) || decide (0 < x)) = p0 ∧ ((((s.toList == ([] : List UInt8)) = false ∧ (s.toList != ([] : List UInt8)) = true ∧ s.toList.isEmpty = false) ∧ p0 = true) ∨
      (((s.toList == ([] : List UInt8)) = true ∧ (s.toList != ([] : List UInt8)) = false ∧ s.toList.isEmpty = true) ∧ (decide (0 < (x : Int)) = true ∧ decide (0 < x) = true) ∧ p0 = true) ∨
      (((s.toList == ([] : List UInt8)) = true ∧ (s.toList != ([] : List UInt8)) = false ∧ s.toList.isEmpty = true) ∧ (decide (0 < (x : Int)) = false ∧ decide (0 < x) = false) ∧ p0 = false)) := by
     by_cases he : bytesOf s = []
     ·have hl := (toList_nil_iff s).2 he
      have h3 : (s.toList == ([] : List UInt8)) = true ∧ (s.toList != ([] : List UInt8)) = false ∧ s.toList.isEmpty = true := by rw [hl]; exact ⟨rfl, rfl, rfl⟩
      by_cases hx0 : 0 < x
      ·exact ⟨_, rfl, .inr (.inl ⟨h3, ⟨decide_eq_true (by omega), decide_eq_true hx0⟩, by rw [decide_eq_true he, decide_eq_true hx0]; rfl⟩)⟩
      ·exact ⟨_, rfl, .inr (.inr ⟨h3, ⟨decide_eq_false (by omega), decide_eq_false hx0⟩, by rw [decide_eq_true he, decide_eq_false hx0]; rfl⟩)⟩
     ·have hl : s.toList ≠ [] := fun h => he ((toList_nil_iff s).1 h)
      exact ⟨_, rfl, .inl ⟨⟨beq_eq_false_iff_ne.2 hl, bne_iff_ne.2 hl, List.isEmpty_eq_false_iff.2 hl⟩, by rw [decide_eq_false he]; rfl⟩⟩
    have HP0 := Lib.hid hp0
    clear hp0
    rcases hcase with ⟨⟨q1, q2, q3⟩, rfl⟩ | ⟨⟨q1, q2, q3⟩, ⟨q4, q5⟩, rfl⟩ | ⟨⟨q1, q2, q3⟩, ⟨q4, q5⟩, rfl⟩
    all_goals
     go_wp2_with fail
     generalize w4.alloc (.cells #[.int .i64 0, .int .i64 0, .int .i64 0, .int .i64 0] 30) = W at y0' y1' y1a z0' z1' HB6 ⊢
     clear y0' y1' y1a z0' z1'
     go_loopg [9, 10] (s.size + 1) (fun g v9 v10 wx => ∃ (j : Nat) (c : Bool), j ≤ s.size ∧ g = s.size - j + 1 ∧ v10 = .int .i64 j ∧ v9 = .bool c ∧ Hid (((!decide (bytesOf s = []) || decide (0 < x)) && !((bytesOf s).take j).any odd4) = c) ∧ Hid (Below w.heap.size w wx))
     case atStart => exact ⟨0, _, Nat.zero_le _, rfl, rfl, rfl, Lib.hid (by rw [HP0.out]; rfl), HB6⟩
     case round =>
      clear HB6
      obtain ⟨j, c, hj, hg, rfl, rfl, HCC, HB7⟩ := hrel
      have HG2 := Lib.hid hg
      clear hg
      by_cases hjl : j < s.size
      ·have hbt : (bytesOf s).drop j = bt s (j : Int) :: (bytesOf s).drop (j + 1) := drop_bt hjl
       have htk : ((bytesOf s).take (j + 1)).any odd4 = (((bytesOf s).take j).any odd4 || odd4 (bt s (j : Int))) := by
        rw [List.take_add, hbt, List.any_append]
        simp
       have hstep : ∀ c', (c && !odd4 (bt s (j : Int))) = c' → ((!decide (bytesOf s = []) || decide (0 < x)) && !((bytesOf s).take (j + 1)).any odd4) = c' := by
        intro c' h
        rw [htk, Bool.not_or, ← Bool.and_assoc, HCC.out, h]
       have HST := Lib.hid hstep
       have hxj : ∀ h : j < s.size, ((s[j]'h).toNat : Int) = bt s (j : Int) := bt_at s (j : Int)
       have h4 : ∀ b : Int, odd4 b = ((b == 44) || (b == 10) || (b == 13) || (b == 34)) := fun _ => rfl
       clear hstep htk hbt
       obtain ⟨g, hgg⟩ : ∃ g, s.size - j + 1 = g + 1 := ⟨_, rfl⟩
       have hgk := HG2.out
       rw [hgg] at hgk
       subst hgk
       cases c with
       | false =>
        go_wp2
        go_roundg g
        case measure => omega
        case rel => exact ⟨j + 1, false, by omega, by omega, by go_num, rfl, Lib.hid (HST.out _ rfl), HB7⟩
       | true =>
        by_cases k1 : bt s (j : Int) = 34
        ·have k1a : (bt s (j : Int) == 34) = true := beq_iff_eq.2 k1
         have k1b : (bt s (j : Int) != 34) = false := bne_eq_false_iff_eq.2 k1
         have ho := Lib.hid (show odd4 (bt s (j : Int)) = true by rw [k1]; rfl)
         clear k1
         go_wp2
         go_roundg g
         case measure => omega
         case rel => exact ⟨j + 1, false, by omega, by omega, by go_num, rfl, Lib.hid (HST.out _ (by rw [ho.out]; rfl)), HB7⟩
        have k1a : (bt s (j : Int) == 34) = false := beq_eq_false_iff_ne.2 k1
        have k1b : (bt s (j : Int) != 34) = true := bne_iff_ne.2 k1
        by_cases k2 : bt s (j : Int) = 44
        ·have k2a : (bt s (j : Int) == 44) = true := beq_iff_eq.2 k2
         have k2b : (bt s (j : Int) != 44) = false := bne_eq_false_iff_eq.2 k2
         have ho := Lib.hid (show odd4 (bt s (j : Int)) = true by rw [k2]; rfl)
         clear k2
         go_wp2
         go_roundg g
         case measure => omega
         case rel => exact ⟨j + 1, false, by omega, by omega, by go_num, rfl, Lib.hid (HST.out _ (by rw [ho.out]; rfl)), HB7⟩
        have k2a : (bt s (j : Int) == 44) = false := beq_eq_false_iff_ne.2 k2
        have k2b : (bt s (j : Int) != 44) = true := bne_iff_ne.2 k2
        by_cases k3 : bt s (j : Int) = 10
        ·have k3a : (bt s (j : Int) == 10) = true := beq_iff_eq.2 k3
         have k3b : (bt s (j : Int) != 10) = false := bne_eq_false_iff_eq.2 k3
         have ho := Lib.hid (show odd4 (bt s (j : Int)) = true by rw [k3]; rfl)
         clear k3
         go_wp2
         go_roundg g
         case measure => omega
         case rel => exact ⟨j + 1, false, by omega, by omega, by go_num, rfl, Lib.hid (HST.out _ (by rw [ho.out]; rfl)), HB7⟩
        have k3a : (bt s (j : Int) == 10) = false := beq_eq_false_iff_ne.2 k3
        have k3b : (bt s (j : Int) != 10) = true := bne_iff_ne.2 k3
        by_cases k4 : bt s (j : Int) = 13
        ·have k4a : (bt s (j : Int) == 13) = true := beq_iff_eq.2 k4
         have k4b : (bt s (j : Int) != 13) = false := bne_eq_false_iff_eq.2 k4
         have ho := Lib.hid (show odd4 (bt s (j : Int)) = true by rw [k4]; rfl)
         clear k4
         go_wp2
         go_roundg g
         case measure => omega
         case rel => exact ⟨j + 1, false, by omega, by omega, by go_num, rfl, Lib.hid (HST.out _ (by rw [ho.out]; rfl)), HB7⟩
        have k4a : (bt s (j : Int) == 13) = false := beq_eq_false_iff_ne.2 k4
        have k4b : (bt s (j : Int) != 13) = true := bne_iff_ne.2 k4
        have ho := Lib.hid (show odd4 (bt s (j : Int)) = false by rw [h4, k1a, k2a, k3a, k4a]; rfl)
        clear k1 k2 k3 k4
        go_wp2
        go_roundg g
        case measure => omega
        case rel => exact ⟨j + 1, true, by omega, by omega, by go_num, rfl, Lib.hid (HST.out _ (by rw [ho.out]; rfl)), HB7⟩
      ·obtain rfl : j = s.size := by omega
       have hend : ((fieldW s (decide (x = 0))).toList == s.toList) = c := by
        have h := HCC.out
        rw [List.take_of_length_le (by rw [size_of]; exact Nat.le_refl _)] at h
        rw [HPL.out, ← h]
        rfl
       have hee : (c == c) = true := beq_self_eq_true c
       clear HCC
       go_wp2_with fail
       refine (cprint_Field.calls s (decide (x = 0)) _ _ HFF.out).mono ?_
       rintro e w9 ⟨rfl, hb9⟩
       have HB9 := Lib.hid (below_step HB7.out hb9)
       clear hb9 HB7
       go_wp2
       go_ret
       exact ⟨by first | rfl | (simp; done) | (simp [hend]; done) | (rw [hend]; simp), HB9.out⟩
end Go.Proofs.YtjmmdphkgioooaaDoor.P
end
