/- The parts of this claim's proof, in one text: what each Go function answers and that its call comes to it; plain facts of lists of numbers. The lemmas in the namespaces of the words (PrintWords, PrintLast, PrintMore) come of the texts that the kit's printer lays for the seat; those that are reached. Conditions as each theorem names them. -/
import Derived.ArgAppend
import Derived.Below
import Derived.BigQuiet
import Derived.Deep.AppendLies
import Derived.Deep.CutBlock
import Derived.Deep.DeepCutAuto
import Derived.Deep.Draws
import Derived.Deep.LoopGhost
import Derived.Deep.OwnRows
import Derived.Deep.QuietTactic
import Derived.Deep.RegionHeld3
import Derived.KernelRfl
import Derived.Laws.BitsLemmas
import Derived.Laws.BytesArg
import Derived.Laws.IdiomCopy
import Derived.Laws.MakeOwn
import Derived.Laws.OwnMore
import Derived.Laws.Rows
import Derived.Laws.Slices
import Derived.Laws.StructEq
import Derived.Lib.AppendStr
import Derived.Lib.Bytealg
import Derived.Lib.Bytes
import Derived.Lib.ConvBytes
import Derived.Lib.Hide
import Derived.Maps.AppendAt
import Derived.OrdersHeld
import Derived.Outline
import Derived.OwnWalk
import Derived.RowKit
import Derived.RowKit3
import Derived.Shelf.Bits.Mul64
import Derived.Shelf.LaysM
import Derived.Shelf.Small.Strs
import Derived.Shelf.Small.Utf8
import Derived.Shelf.Strings.AsciiSet
import Derived.Shelf.Strings.Builder1
import Derived.Shelf.Strings.Builder2
import Derived.Shelf.Strings.Builder2Cap
import Derived.Shelf.Strings.BuilderF
import Derived.Shelf.Strings.BuilderK
import Derived.Shelf.Strings.Count
import Derived.Shelf.Strings.IndexAny
import Derived.Shelf.Strings.IndexAnyAll
import Derived.Shelf.Strings.LastIndex
import Derived.Shelf.Strings.Prefix
import Derived.Shelf.Strings.Repeat
import Derived.Shelf.Strings.RuneCount
import Derived.Shelf.Strings.Runes
import Derived.Shelf.Strings.Search1
import Derived.Shelf.Strings.Search2
import Derived.Shelf.Strings.Search3
import Derived.Shelf.Strings.Shaped
import Derived.Shelf.Strings.SlTrimAscii
import Derived.Shelf.Strings.Split
import Derived.Shelf.Strings.Trim
import Derived.Shelf.Unicode.Decode
import Derived.Shelf.Unicode.DecodeAny
import Derived.Shelf.Unicode.DecodeSlow
import Derived.Shelf.Utf8.RuneCount
import Derived.Tactics
import Derived.WalkKit
import Derived.WideLaws
import Derived.Test.YtoanbmggffkmgaaDoorProg
import Derived.Test.YtoanbmggffkmgaaDoorMJlexCuts1
import Derived.Test.YtoanbmggffkmgaaDoorMJlexCuts2
import Derived.Test.YtoanbmggffkmgaaDoorMJlexCuts3
section
namespace Go.Proofs.YtoanbmggffkmgaaDoor.La
open Go.RowKit Go.Proofs.YtoanbmggffkmgaaDoor.P Go.Proofs.YtoanbmggffkmgaaDoorW.PrintWords Go.Proofs.YtoanbmggffkmgaaDoorW.PrintLast Go.Proofs.YtoanbmggffkmgaaDoorW.PrintMore
/-- The letter of a short escape of JSON. -/
def shortJ (c : Int) : Option Int := if c = 34 then some 34 else if c = 92 then some 92 else if c = 98 then some 8 else if c = 102 then some 12 else if c = 110 then some 10 else if c = 114 then some 13 else if c = 116 then some 9 else if c = 47 then some 47 else none
theorem shortJ_fin : ∀ b : Fin 256, esc_short.f 3 (b.val : Int) false = some ((shortJ b.val).getD 0, (shortJ b.val).isSome) := by decide +kernel
theorem short_eq {c : Int} (h0 : 0 ≤ c) (h1 : c < 256) : esc_short.f 3 c false = some ((shortJ c).getD 0, (shortJ c).isSome) := by
 obtain ⟨n, rfl⟩ := Int.eq_ofNat_of_zero_le h0
 exact shortJ_fin ⟨n, by omega⟩
theorem shortJ_good {c x : Int} (h : shortJ c = some x) : good x := by
 unfold shortJ at h
 (repeat' split at h) <;> first | (cases h; done) | (obtain rfl := Option.some.inj h; exact good_iff.2 (by omega))
/-- What an escape of JSON says, and how many bytes it has. -/
def jesc (l : List Int) : Option (Int × Nat) :=
 if l.length ≤ 1 then none
 else if (shortJ (l.getD 1 0)).isSome = true then some ((shortJ (l.getD 1 0)).getD 0, 2)
 else if l.getD 1 0 ≠ 117 ∨ (digsAt l 2 4).isSome = false then none
 else if (digsAt l 2 4).getD 0 < 55296 ∨ (digsAt l 2 4).getD 0 ≥ 56320 then (if good ((digsAt l 2 4).getD 0) then some ((digsAt l 2 4).getD 0, 6) else none)
 else if (digsAt l 8 4).isSome = false ∨ (l.drop 6).take 2 ≠ [92, 117] ∨ (digsAt l 8 4).getD 0 < 56320 ∨ (digsAt l 8 4).getD 0 > 57343 then none
 else some (65536 + ((digsAt l 2 4).getD 0 - 55296) * 1024 + ((digsAt l 8 4).getD 0 - 56320), 12)
theorem digsAt_drop (l : List Int) {i : Nat} (hi : i ≤ l.length) (j n : Nat) : digsAt (l.drop i) j n = digsAt l (i + j) n := by
 unfold digsAt
 rw [List.length_drop, List.drop_drop]
 by_cases h : j + n ≤ l.length - i
 ·rw [if_pos h, if_pos (by omega)]
 ·by_cases h2 : i + j + n ≤ l.length
  ·omega
  ·rw [if_neg h, if_neg h2]
theorem hexI_bound {l : List Int} {x : Int} (x0 : 0 ≤ x) {v : Int} (h : hexI x l = some v) : 0 ≤ v ∧ v < (x + 1) * 16 ^ l.length := by
 induction l generalizing x with
 | nil =>
  simp only [hexI] at h
  obtain rfl := Option.some.inj h
  simp
  omega
 | cons b l ih =>
  simp only [hexI] at h
  obtain ⟨d, hd, h⟩ := Option.bind_eq_some_iff.1 h
  have hl := hexVal_lt hd
  have h2 := ih (x := x * 16 + d) (by omega) h
  refine ⟨h2.1, Int.lt_of_lt_of_le h2.2 ?_⟩
  rw [List.length_cons, Int.pow_succ, Int.mul_comm (16 ^ l.length) 16, ← Int.mul_assoc]
  exact Int.mul_le_mul_of_nonneg_right (by omega) (Int.pow_nonneg (by decide))
theorem digs4_bound (l : List Int) (i : Nat) : 0 ≤ (digsAt l i 4).getD 0 ∧ (digsAt l i 4).getD 0 < 65536 := by
 cases h : digsAt l i 4 with
 | none => simp
 | some v =>
  unfold digsAt at h
  split at h
  ·rename_i hl
   have := hexI_bound (Int.le_refl 0) h
   rw [List.length_take, List.length_drop, Nat.min_eq_left (by omega)] at this
   simpa using this
  ·cases h
end Go.Proofs.YtoanbmggffkmgaaDoor.La
namespace Go.Proofs.YtoanbmggffkmgaaDoor.P
open Go.RowKit Go.Proofs.YtoanbmggffkmgaaDoor.La Go.Proofs.YtoanbmggffkmgaaDoorW.PrintWords Go.Proofs.YtoanbmggffkmgaaDoorW.PrintLast Go.Proofs.YtoanbmggffkmgaaDoorW.PrintMore
theorem getD_drop (l : List Int) (i j : Nat) : (l.drop i).getD j 0 = l.getD (i + j) 0 := by
 simp [List.getD_eq_getElem?_getD, List.getElem?_drop]
/-- What escape leaves. -/
def EscPost (B g : Nat) (text : ByteArray) (i : Nat) (bs : List Int) (w : World) (e : Ending) (w' : World) : Prop :=
 e = .returned (.bool (jesc ((bytesOf text).drop i)).isSome) ∧
 Rdr B w' g text (match jesc ((bytesOf text).drop i) with | none => (i : Int) | some p => (i : Int) + p.2) (match jesc ((bytesOf text).drop i) with | none => bs | some p => bs ++ enc p.1) ∧ Below B w w'
set_option maxRecDepth 100000 in
set_option maxHeartbeats 8000000 in
theorem resc_short {B g : Nat} {text : ByteArray} {i : Nat} {bs : List Int} {w : World} (hR : Rdr B w g text (i : Int) bs) (hl : bs.length ≤ 140737488000000) (h1 : i < text.size) (h2 : text.size ≤ 140737488000000) (hj : i + 1 = text.size ∨ (i + 1 < text.size ∧ (shortJ (bt text (i + 1))).isSome = true)) :
  Calls Tryd.prog 39 #[.pointer (some ⟨g, 0, none⟩)] w (EscPost B g text i bs w) := by
 obtain ⟨A, c, c0, c1, c2, f1, f2, hlt, hc, hC⟩ := hR.open_
 have hlow := hR.low
 have hlen : ((bytesOf text).drop i).length = text.size - i := by rw [List.length_drop, size_of]
 rcases hj with hj | ⟨hj, hs⟩
 ·have HJ := Lib.hid (show jesc ((bytesOf text).drop i) = none from if_pos (by omega))
  have e1 : ((i : Int) + 1 == (text.size : Int)) = true := beq_iff_eq.2 (by omega)
  clear hlen hj
  go_enter Tryd.func39, Tryd.ntmps39
  go_wp2_with fail
  go_quiet (fail)
  go_wp2
  go_ret
  exact ⟨by rw [HJ.out]; rfl, by rw [HJ.out]; exact hR.drewN _, pw_below_drewN (Below.refl _ _) _⟩
 ·have e1 : ((i : Int) + 1 == (text.size : Int)) = false := beq_eq_false_iff_ne.2 (by omega)
  have hbt : bt text ((i : Int) + 1) = ((bytesOf text).drop i).getD 1 0 := by rw [bt_get, getD_drop]; congr 1
  have hbr := bt_range text ((i : Int) + 1)
  have HS := Lib.hid (show esc_short.f 3 (bt text ((i : Int) + 1)) false = some ((shortJ (bt text ((i : Int) + 1))).getD 0, true) by rw [short_eq (by omega) (by omega), hs])
  obtain ⟨x, hx⟩ := Option.isSome_iff_exists.1 hs
  have hg := shortJ_good hx
  have HJ := Lib.hid (show jesc ((bytesOf text).drop i) = some (x, 2) by unfold jesc; rw [if_neg (by omega), ← hbt, hx]; rfl)
  rw [hx] at HS
  clear hlen hs hx hbt
  have p1 := eq_true (show (0 : Int) ≤ (i : Int) + 1 by omega)
  have qi1 := eq_true (show (i : Int) + 1 < (text.size : Int) by omega)
  have q1 := eq_true (show ((i : Int) + 1).toNat < text.size by omega)
  have q2 := eq_true hj
  have hx1 : ∀ h : i + 1 < text.size, ((text[i + 1]'h).toNat : Int) = bt text ((i : Int) + 1) := fun h => bt_at text ((i : Int) + 1) (by omega)
  go_enter Tryd.func39, Tryd.ntmps39
  go_wp2_with fail
  go_quiet (fail)
  go_wp2_with fail
  go_quiet (fail)
  go_wp2_with fail
  refine (esc_short.calls 3 _ _ _ _ _ HS.out).mono ?_
  rintro e w1 ⟨rfl, n1, rfl⟩
  go_wp2_with fail
  refine (rput_good 2 hg (hR.drewN _) hl (by omega) (by omega) (by decide) (by decide)).mono ?_
  rintro e w2 ⟨rfl, hR2, hB2⟩
  clear c0 c1 c2 f1 f2
  go_wp2
  go_ret
  exact ⟨by rw [HJ.out]; rfl, by rw [HJ.out]; exact hR2, (pw_below_drewN (Below.refl _ _) _).trans hB2⟩
set_option maxRecDepth 100000 in
set_option maxHeartbeats 16000000 in
theorem resc_hex {B g : Nat} {text : ByteArray} {i : Nat} {bs : List Int} {w : World} (hR : Rdr B w g text (i : Int) bs) (hl : bs.length ≤ 140737488000000) (h2 : text.size ≤ 140737488000000) (hj : i + 1 < text.size) (hs : shortJ (bt text (i + 1)) = none) :
  Calls Tryd.prog 39 #[.pointer (some ⟨g, 0, none⟩)] w (EscPost B g text i bs w) := by
 obtain ⟨A, c, c0, c1, c2, f1, f2, hlt, hc, hC⟩ := hR.open_
 have hlow := hR.low
 have hlen : ((bytesOf text).drop i).length = text.size - i := by rw [List.length_drop, size_of]
 have e1 : ((i : Int) + 1 == (text.size : Int)) = false := beq_eq_false_iff_ne.2 (by omega)
 have hbt : bt text ((i : Int) + 1) = ((bytesOf text).drop i).getD 1 0 := by rw [bt_get, getD_drop]; congr 1
 have hbr := bt_range text ((i : Int) + 1)
 have HS := Lib.hid (show esc_short.f 3 (bt text ((i : Int) + 1)) false = some (0, false) by rw [short_eq (by omega) (by omega), hs]; rfl)
 have hd2 : digsAt ((bytesOf text).drop i) 2 4 = digsAt (bytesOf text) (i + 2) 4 := digsAt_drop _ (by rw [size_of]; omega) _ _
 have hd8 : digsAt ((bytesOf text).drop i) 8 4 = digsAt (bytesOf text) (i + 8) 4 := digsAt_drop _ (by rw [size_of]; omega) _ _
 have hJ : jesc ((bytesOf text).drop i) =
   if bt text ((i : Int) + 1) ≠ 117 ∨ (digsAt (bytesOf text) (i + 2) 4).isSome = false then none
   else if (digsAt (bytesOf text) (i + 2) 4).getD 0 < 55296 ∨ (digsAt (bytesOf text) (i + 2) 4).getD 0 ≥ 56320 then (if good ((digsAt (bytesOf text) (i + 2) 4).getD 0) then some ((digsAt (bytesOf text) (i + 2) 4).getD 0, 6) else none)
   else if (digsAt (bytesOf text) (i + 8) 4).isSome = false ∨ (((bytesOf text).drop i).drop 6).take 2 ≠ [92, 117] ∨ (digsAt (bytesOf text) (i + 8) 4).getD 0 < 56320 ∨ (digsAt (bytesOf text) (i + 8) 4).getD 0 > 57343 then none
   else some (65536 + ((digsAt (bytesOf text) (i + 2) 4).getD 0 - 55296) * 1024 + ((digsAt (bytesOf text) (i + 8) 4).getD 0 - 56320), 12) := by
  unfold jesc
  rw [if_neg (by omega), ← hbt, hs, hd2, hd8, if_neg (by decide)]
 have hx4 := digs4_bound (bytesOf text) (i + 2)
 have hy4 := digs4_bound (bytesOf text) (i + 8)
 have p1 := eq_true (show (0 : Int) ≤ (i : Int) + 1 by omega)
 have qi1 := eq_true (show (i : Int) + 1 < (text.size : Int) by omega)
 have q1 := eq_true (show ((i : Int) + 1).toNat < text.size by omega)
 have q2 := eq_true hj
 have hx1 : ∀ h : i + 1 < text.size, ((text[i + 1]'h).toNat : Int) = bt text ((i : Int) + 1) := fun h => bt_at text ((i : Int) + 1) (by omega)
 clear hlen hs hbt hd2 hd8
 have HJ := Lib.hid hJ
 clear hJ
 have HD := fun (w : World) (h : Rdr B w g text (i : Int) bs) => rdigits_at ((i : Int) + 2) 4 (i + 2) 4 (by omega) (by omega) (by decide) (by decide) h h2 (by omega)
 have HD8 := fun (w : World) (h : Rdr B w g text (i : Int) bs) => rdigits_at ((i : Int) + 2 + 4 + 2) 4 (i + 8) 4 (by omega) (by omega) (by decide) (by decide) h h2 (by omega)
 have hok2 : (digsAt (bytesOf text) (i + 8) 4).isSome = true → i + 12 ≤ text.size := by
  intro h
  unfold digsAt at h
  split at h
  ·rename_i h3; rw [size_of] at h3; omega
  ·cases h
 generalize (digsAt (bytesOf text) (i + 8) 4).isSome = ok2 at HD8 HJ hok2
 generalize (digsAt (bytesOf text) (i + 8) 4).getD 0 = y at HD8 HJ hy4
 generalize (digsAt (bytesOf text) (i + 2) 4).isSome = ok at HD HJ
 generalize (digsAt (bytesOf text) (i + 2) 4).getD 0 = x at HD HJ hx4
 by_cases hok : bt text ((i : Int) + 1) = 117 ∧ ok = true
 ·obtain ⟨k1, rfl⟩ := hok
  have HDh := Lib.hid HD
  have HD8h := Lib.hid HD8
  have e2 : (bt text ((i : Int) + 1) != 117) = false := by rw [k1]; rfl
  have HJ1 := Lib.hid (HJ.out.trans (if_neg (by rw [k1]; simp)))
  clear HJ HD k1
  by_cases hx : x < 55296 ∨ x ≥ 56320
  ·have HJ2 := Lib.hid (HJ1.out.trans (if_pos hx))
   clear HJ1 HD8 HD8h hy4
   have hx' : x < 55296 ∨ (¬ x < 55296 ∧ 56320 ≤ x) := by omega
   clear hx
   generalize bt text ((i : Int) + 1) = b at HS hbr hx1 e2
   by_cases hg : good x
   ·have HN := Lib.hid (HJ2.out.trans (if_pos hg))
    clear HJ2
    rcases hx' with g1 | ⟨g1, g2⟩
    all_goals
     go_enter Tryd.func39, Tryd.ntmps39
     go_wp2_with fail
     go_quiet (fail)
     go_wp2_with fail
     go_quiet (fail)
     go_wp2_with fail
     refine (esc_short.calls 3 _ _ _ _ _ HS.out).mono ?_
     rintro e w1 ⟨rfl, n1, rfl⟩
     go_wp2_with fail
     refine (HDh.out _ (hR.drewN _)).mono ?_
     rintro e w2 ⟨rfl, hR2, hB2⟩
     clear c0 c1 c2 f1 f2
     go_wp2_with fail
     refine (rput_good 6 hg hR2 hl (by omega) (by omega) (by decide) (by decide)).mono ?_
     rintro e w3 ⟨rfl, hR3, hB3⟩
     go_wp2
     go_ret
     exact ⟨by rw [HN.out]; rfl, by rw [HN.out]; exact hR3, ((pw_below_drewN (Below.refl _ _) _).trans hB2).trans hB3⟩
   ·have HN := Lib.hid (HJ2.out.trans (if_neg hg))
    clear HJ2
    rcases hx' with g1 | ⟨g1, g2⟩
    all_goals
     go_enter Tryd.func39, Tryd.ntmps39
     go_wp2_with fail
     go_quiet (fail)
     go_wp2_with fail
     go_quiet (fail)
     go_wp2_with fail
     refine (esc_short.calls 3 _ _ _ _ _ HS.out).mono ?_
     rintro e w1 ⟨rfl, n1, rfl⟩
     go_wp2_with fail
     refine (HDh.out _ (hR.drewN _)).mono ?_
     rintro e w2 ⟨rfl, hR2, hB2⟩
     clear c0 c1 c2 f1 f2
     go_wp2_with fail
     refine (rput_bad 6 hg hR2 hl (by omega) (by omega) (by decide) (by decide)).mono ?_
     rintro e w3 ⟨rfl, hR3, hB3⟩
     go_wp2
     go_ret
     exact ⟨by rw [HN.out]; rfl, by rw [HN.out]; exact hR3, ((pw_below_drewN (Below.refl _ _) _).trans hB2).trans hB3⟩
  ·have HJ2 := Lib.hid (HJ1.out.trans (if_neg hx))
   have g1 : ¬ x < 55296 := by omega
   have g2 : ¬ 56320 ≤ x := by omega
   clear HJ1 hx HD8
   generalize bt text ((i : Int) + 1) = b at HS hbr hx1 e2
   go_enter Tryd.func39, Tryd.ntmps39
   go_wp2_with fail
   go_quiet (fail)
   go_wp2_with fail
   go_quiet (fail)
   go_wp2_with fail
   refine (esc_short.calls 3 _ _ _ _ _ HS.out).mono ?_
   rintro e w1 ⟨rfl, n1, rfl⟩
   go_wp2_with fail
   refine (HDh.out _ (hR.drewN _)).mono ?_
   rintro e w2 ⟨rfl, hR2, hB2⟩
   obtain ⟨A9, c9, d0, d1, d2, _, _, _, _, _⟩ := hR2.open_
   clear c0 c1 c2 f1 f2
   go_wp2_with fail
   refine (HD8h.out _ hR2).mono ?_
   rintro e w3 ⟨rfl, hR3, hB3⟩
   obtain ⟨A8, c8, b0, b1, b2, _, _, _, _, _⟩ := hR3.open_
   clear d0 d1 d2
   cases ok2
   ·have HN := Lib.hid (HJ2.out.trans (if_pos (.inl rfl)))
    clear hok2
    go_wp2
    go_ret
    exact ⟨by rw [HN.out]; rfl, by rw [HN.out]; exact hR3, ((pw_below_drewN (Below.refl _ _) _).trans hB2).trans hB3⟩
   ·have h12 := hok2 rfl
    clear hok2
    have hsl : ∀ W : World, (Instr.slice 9 (.string text) (some (.int .i64 ((i : Int) + 2 + 4))) (some (.int .i64 ((i : Int) + 2 + 4 + 2))) none).run Tryd.prog W = .ok (.string (text.extract (i + 6) (i + 8))) W := by
     intro W
     have := run_slice_string (P := Tryd.prog) W 9 text .i64 .i64 ((i : Int) + 2 + 4) ((i : Int) + 2 + 4 + 2) Tryd.underlying9 (by omega) (by omega) (by omega)
     rw [this]
     rfl
    have hs2 : ((text.extract (i + 6) (i + 8)).toList = ([92, 117] : List UInt8)) ↔ (((bytesOf text).drop i).drop 6).take 2 = [92, 117] := by
     have e : bytesOf (text.extract (i + 6) (i + 8)) = (((bytesOf text).drop i).drop 6).take 2 := by
      rw [bytesOf_extract, List.drop_take, List.drop_drop, show i + 8 - (i + 6) = 2 by omega]
     rw [← e]
     have h9 := toList_eq_iff (text.extract (i + 6) (i + 8)) ⟨#[92, 117]⟩
     rw [toList_data' ⟨#[92, 117]⟩] at h9
     exact h9
    by_cases hq : (text.extract (i + 6) (i + 8)).toList = ([92, 117] : List UInt8)
    ·have hq2 := hs2.1 hq
     by_cases y1 : y < 56320
     ·have HN := Lib.hid (HJ2.out.trans (if_pos (.inr (.inr (.inl y1)))))
      clear hs2 hq2
      go_wp2
      go_ret
      exact ⟨by rw [HN.out]; rfl, by rw [HN.out]; exact hR3, ((pw_below_drewN (Below.refl _ _) _).trans hB2).trans hB3⟩
     ·by_cases y2 : 57343 < y
      ·have HN := Lib.hid (HJ2.out.trans (if_pos (.inr (.inr (.inr y2)))))
       clear hs2 hq2
       go_wp2
       go_ret
       exact ⟨by rw [HN.out]; rfl, by rw [HN.out]; exact hR3, ((pw_below_drewN (Below.refl _ _) _).trans hB2).trans hB3⟩
      ·have HN := Lib.hid (HJ2.out.trans (if_neg (by
        intro h
        rcases h with h | h | h | h
        ·cases h
        ·exact h hq2
        ·exact y1 h
        ·exact y2 h)))
       have hg : good (65536 + (x - 55296) * 1024 + (y - 56320)) := good_iff.2 (by omega)
       clear hs2 hq2
       go_wp2_with fail
       refine (rput_good 12 hg hR3 hl (by omega) (by omega) (by decide) (by decide)).mono ?_
       rintro e w4 ⟨rfl, hR4, hB4⟩
       go_wp2
       go_ret
       exact ⟨by rw [HN.out]; rfl, by rw [HN.out]; exact hR4, (((pw_below_drewN (Below.refl _ _) _).trans hB2).trans hB3).trans hB4⟩
    ·have HN := Lib.hid (HJ2.out.trans (if_pos (.inr (.inl (fun h => hq (hs2.2 h))))))
     clear hs2
     go_wp2
     go_ret
     exact ⟨by rw [HN.out]; rfl, by rw [HN.out]; exact hR3, ((pw_below_drewN (Below.refl _ _) _).trans hB2).trans hB3⟩
 ·have HN := Lib.hid (show jesc ((bytesOf text).drop i) = none by
   rw [HJ.out, if_pos]
   by_cases h : bt text ((i : Int) + 1) = 117
   ·right; cases ok
    ·rfl
    ·exact absurd ⟨h, rfl⟩ hok
   ·exact .inl h)
  have k1 : (bt text ((i : Int) + 1) != 117) = true ∨ ((bt text ((i : Int) + 1) != 117) = false ∧ ok = false) := by
   by_cases h : bt text ((i : Int) + 1) = 117
   ·right
    refine ⟨by rw [h]; rfl, ?_⟩
    cases ok
    ·rfl
    ·exact absurd ⟨h, rfl⟩ hok
   ·left; exact bne_iff_ne.2 h
  have HDh := Lib.hid HD
  clear HJ hok HD HD8 hx4 hy4
  generalize bt text ((i : Int) + 1) = b at HS hbr hx1 k1
  rcases k1 with k1 | ⟨k1, rfl⟩
  all_goals
   go_enter Tryd.func39, Tryd.ntmps39
   go_wp2_with fail
   go_quiet (fail)
   go_wp2_with fail
   go_quiet (fail)
   go_wp2_with fail
   refine (esc_short.calls 3 _ _ _ _ _ HS.out).mono ?_
   rintro e w1 ⟨rfl, n1, rfl⟩
   go_wp2_with fail
   refine (HDh.out _ (hR.drewN _)).mono ?_
   rintro e w2 ⟨rfl, hR2, hB2⟩
   clear c0 c1 c2 f1 f2
   go_wp2
   go_ret
   exact ⟨by rw [HN.out]; rfl, by rw [HN.out]; exact hR2, (pw_below_drewN (Below.refl _ _) _).trans hB2⟩
theorem resc {B g : Nat} {text : ByteArray} {i : Nat} {bs : List Int} {w : World} (hR : Rdr B w g text (i : Int) bs) (hl : bs.length ≤ 140737488000000) (h1 : i < text.size) (h2 : text.size ≤ 140737488000000) :
  Calls Tryd.prog 39 #[.pointer (some ⟨g, 0, none⟩)] w (EscPost B g text i bs w) := by
 by_cases hj : i + 1 = text.size
 ·exact resc_short hR hl h1 h2 (.inl hj)
 ·cases hs : shortJ (bt text (i + 1)) with
  | none => exact resc_hex hR hl h2 (by omega) hs
  | some x => exact resc_short hR hl h1 h2 (.inr ⟨by omega, by rw [hs]; rfl⟩)
end Go.Proofs.YtoanbmggffkmgaaDoor.P
end
section
namespace Go.Proofs.YtoanbmggffkmgaaDoor.P
open Go.RowKit Go.Proofs.YtoanbmggffkmgaaDoorW.PrintWords Go.Proofs.YtoanbmggffkmgaaDoorW.PrintLast Go.Proofs.YtoanbmggffkmgaaDoorW.PrintMore
attribute [local go_sem] max2_int min2_int max_two min_two max_three min_three max_four min_four   -- for this text's walks alone
set_option linter.unusedVariables false
set_option linter.unusedSimpArgs false
/-- A state of type 63 at block g of W; what its slices lead to came in by w0. -/
def IsS63 (w0 W : World) (g : Nat) (f0 : ByteArray) (f1 : Int) (f2 : List Int) : Prop := ∃ A2 c2, W.heap[g]? = some (.cells #[.string f0, .int .i64 f1, .slice A2 f2.length c2] 63 (0, 0)) ∧ w0.heap.size ≤ g ∧ Kd.C (Kd.int .u8) w0 A2 f2.length f2
theorem IsS63.grown {w0 W : World} {g : Nat} {f0 : ByteArray} {f1 : Int} {f2 : List Int} {W1 : World} {row : Option Nat} (h : IsS63 w0 W g f0 f1 f2) (hw : W.grownBy W1 row) (hne : some g ≠ row) : IsS63 w0 W1 g f0 f1 f2 := by
 obtain ⟨A2, c2, hb, hg, hr2⟩ := h
 exact ⟨A2, c2, blk_grown hb hw hne, hg, hr2⟩
theorem IsS63.kept {w0 W : World} {g : Nat} {f0 : ByteArray} {f1 : Int} {f2 : List Int} {W1 : World} {S : Nat → Prop} (h : IsS63 w0 W g f0 f1 f2) (hk : Kept W W1 S) (hne : ¬ S g) : IsS63 w0 W1 g f0 f1 f2 := by
 obtain ⟨A2, c2, hb, hg, hr2⟩ := h
 exact ⟨A2, c2, blk_kept hb hk hne, hg, hr2⟩
theorem IsS63.below {w0 W : World} {g : Nat} {f0 : ByteArray} {f1 : Int} {f2 : List Int} {W1 : World} (h : IsS63 w0 W g f0 f1 f2) (hw : Below W.heap.size W W1) : IsS63 w0 W1 g f0 f1 f2 := h.grown (grown_of_below hw none) (by simp)
theorem IsS63.alloc {w0 W : World} {g : Nat} {f0 : ByteArray} {f1 : Int} {f2 : List Int} (h : IsS63 w0 W g f0 f1 f2) (o : Obj) : IsS63 w0 (W.alloc o) g f0 f1 f2 := h.below (below_alloc (Below.refl _ _) o)
theorem IsS63.drewN {w0 W : World} {g : Nat} {f0 : ByteArray} {f1 : Int} {f2 : List Int} (h : IsS63 w0 W g f0 f1 f2) (m : Nat) : IsS63 w0 (W.drewN m) g f0 f1 f2 := h
theorem IsS63.drew {w0 W : World} {g : Nat} {f0 : ByteArray} {f1 : Int} {f2 : List Int} (h : IsS63 w0 W g f0 f1 f2) : IsS63 w0 W.drew g f0 f1 f2 := h
theorem IsS63.at_ {w0 W : World} {g : Nat} {f0 : ByteArray} {f1 : Int} {f2 : List Int} {w' : World} {m : Nat} (hq : W.drewN m = w') (h : IsS63 w0 W g f0 f1 f2) : IsS63 w0 w' g f0 f1 f2 := by subst hq; exact IsS63.drewN h m
theorem IsS63.apart {w0 W : World} {g : Nat} {f0 : ByteArray} {f1 : Int} {f2 : List Int} {α : Type} {d : Kd α} {e : Nat} {base : Nat} {ok : Nat → Prop} {v : Value} {xs : List α} (h : IsS63 w0 W g f0 f1 f2) (ho : d.R e W base ok v xs) (ht : ∀ q, q ∈ e :: d.E → q ≠ 63) : d.R e W base (fun k => ok k ∧ k ≠ g) v xs := by
 obtain ⟨A2, c2, hb, hg, hr2⟩ := h
 exact Kd.R_types ho hb ht
theorem IsS63.own_ne {w0 W : World} {g : Nat} {f0 : ByteArray} {f1 : Int} {f2 : List Int} {α : Type} {d : Kd α} {e : Nat} {base : Nat} {ok : Nat → Prop} {v : Value} {xs : List α} (h : IsS63 w0 W g f0 f1 f2) (ho : d.R e W base ok v xs) (ht : e ≠ 63) : some g ≠ v.ownBlock := by
 obtain ⟨A2, c2, hb, hg, hr2⟩ := h
 exact Kd.R_ne ho hb ht
end Go.Proofs.YtoanbmggffkmgaaDoor.P
end
section
namespace Go.Proofs.YtoanbmggffkmgaaDoor.La
open Go.RowKit Go.Proofs.YtoanbmggffkmgaaDoor.P Go.Proofs.YtoanbmggffkmgaaDoorW.PrintWords Go.Proofs.YtoanbmggffkmgaaDoorW.PrintLast Go.Proofs.YtoanbmggffkmgaaDoorW.PrintMore
/-- What a JSON string says from byte i on, acc being read: is it whole, its bytes, and where it ends or is wrong. -/
def jbody (L : List Int) : Nat → Nat → List Int → Bool × List Int × Nat
 | 0, i, _ => (false, [], i)
 | k + 1, i, acc =>
  if L.length ≤ i then (false, [], L.length)
  else if L.getD i 0 = 34 then (true, acc, i + 1)
  else if L.getD i 0 < 32 then (false, [], i)
  else if L.getD i 0 = 92 then (match jesc (L.drop i) with | none => (false, [], i) | some p => jbody L k (i + p.2) (acc ++ enc p.1))
  else if (tk (L.drop i)).2 > 0 then jbody L k (i + (tk (L.drop i)).2.toNat) (acc ++ enc0 (tk (L.drop i)).1)
  else (false, [], i)
theorem digsAt_len {l : List Int} {i n : Nat} (h : (digsAt l i n).isSome = true) : i + n ≤ l.length := by
 unfold digsAt at h
 split at h
 ·assumption
 ·cases h
theorem jesc_len {l : List Int} {p : Int × Nat} (h : jesc l = some p) : 2 ≤ p.2 ∧ p.2 ≤ l.length ∧ p.2 ≤ 12 := by
 unfold jesc at h
 split at h
 ·cases h
 ·rename_i h1
  split at h
  ·obtain rfl := Option.some.inj h
   exact ⟨Nat.le_refl _, by show 2 ≤ _; omega, by show 2 ≤ 12; decide⟩
  ·split at h
   ·cases h
   ·rename_i h2
    have h3 : (digsAt l 2 4).isSome = true := by
     cases hd : (digsAt l 2 4).isSome
     ·exact absurd (.inr hd) h2
     ·rfl
    have h4 := digsAt_len h3
    split at h
    ·split at h
     ·obtain rfl := Option.some.inj h
      exact ⟨by show 2 ≤ 6; decide, by show 6 ≤ _; omega, by show 6 ≤ 12; decide⟩
     ·cases h
    ·split at h
     ·cases h
     ·rename_i h5
      have h6 : (digsAt l 8 4).isSome = true := by
       cases hd : (digsAt l 8 4).isSome
       ·exact absurd (.inl hd) h5
       ·rfl
      have h7 := digsAt_len h6
      obtain rfl := Option.some.inj h
      exact ⟨by show 2 ≤ 12; decide, by show 12 ≤ _; omega, by show 12 ≤ 12; decide⟩
end Go.Proofs.YtoanbmggffkmgaaDoor.La
namespace Go.Proofs.YtoanbmggffkmgaaDoor.P
open Go.RowKit Go.Proofs.YtoanbmggffkmgaaDoor.La Go.Proofs.YtoanbmggffkmgaaDoorW.PrintWords Go.Proofs.YtoanbmggffkmgaaDoorW.PrintLast Go.Proofs.YtoanbmggffkmgaaDoorW.PrintMore
attribute [local go_sem] max2_int min2_int max_two min_two max_three min_three max_four min_four   -- for this text's walks alone
/-- esc.start. -/
theorem rstart (a0 : ByteArray) (a1 : Int) (w : World) :
  Calls Tryd.prog 37 #[.string a0, .int .i64 a1] w fun e w' => ∃ g : Nat, e = .returned (.pointer (some ⟨g, 0, none⟩)) ∧ Rdr w.heap.size w' g a0 (mn (mx a1 0) (a0.size : Int)) [] ∧ Below w.heap.size w w' := by
 have hu63 := Tryd.underlying63
 have HB := Aside0.mk (Below.refl w.heap.size w)
 obtain ⟨ji3, hji3⟩ : ∃ j_ : Int, (mx a1 0) = j_ := ⟨_, rfl⟩
 rw [hji3]
 have hji3_ : (if a1 < 0 then 0 else a1) = ji3 := hji3
 obtain ⟨ji4, hji4⟩ : ∃ j_ : Int, (mn (ji3) (a0.size : Int)) = j_ := ⟨_, rfl⟩
 rw [hji4]
 have hji4_ : (if (a0.size : Int) < (ji3) then (a0.size : Int) else (ji3)) = ji4 := hji4
 go_enter Tryd.func37, Tryd.ntmps37
 go_wp2_with (first | ((with_reducible refine gate_dst (N := 12) rfl ?_); refine box_event ?hg (N := 12) ?hd (cs := #[.string a0, .int .i64 ji4, .slice none 0 0]) (t := 63) ?hr ?_; (case hd => rfl); (case hg => rfl); (case hr => first | (go_simp; done) | (go_simp; rfl)); intro gb134 hg w5 hbox hb; have n1_ := Aside0.mk (below_step (by repeat (first | (with_reducible first | exact HB.out | apply below_alloc | apply pw_below_drewN | apply below_drew1) | exact HB.out)) hb); have n2_ := Aside0.mk (hbox); have n3_ := Aside0.mk ((by rw [hg]; exact (below_size (by repeat (first | (with_reducible first | exact HB.out | apply below_alloc | apply pw_below_drewN | apply below_drew1) | exact HB.out))) : w.heap.size ≤ gb134)); clear HB; have HB := n1_; have BK134 := n2_; have GW134 := n3_; clear n1_ n2_ n3_; clear hb hbox hg))
 go_ret
 exact ⟨_, rfl, ⟨GW134.out, _, (by (with_reducible repeat (first | refine blk_drewN ?_ _ | refine blk_drew ?_ | refine blk_alloc ?_ _)); exact BK134.out), Kd.R_nil _ _ _ _ _⟩, by repeat (first | (with_reducible first | exact HB.out | apply below_alloc | apply pw_below_drewN | apply below_drew1) | exact HB.out)⟩
theorem Rdr.moved {B : Nat} {w : World} {g : Nat} {text : ByteArray} {at_ : Int} {bs : List Int} (h : Rdr B w g text at_ bs) (at1 : Int) :
  Rdr B (w.setCell ⟨g, 1, none⟩ (.int .i64 at1)) g text at1 bs ∧ Below B w (w.setCell ⟨g, 1, none⟩ (.int .i64 at1)) := by
 obtain ⟨hB, bv, hh, hr⟩ := h
 exact ⟨⟨hB, bv, rblk_set hh 1 (.int .i64 at1), Kd.R_move hr (fun k hk => by rw [rblk_far hk])⟩, (Below.refl _ _).setCell hB _⟩
theorem take_one_drop {L : List Int} {i : Nat} (h : i < L.length) : (L.drop i).take 1 = [L.getD i 0] := by
 rw [List.drop_eq_getElem_cons h, List.getD_eq_getElem?_getD, List.getElem?_eq_getElem h]
 rfl
/-- The loop's state. -/
def UnqInv (w : World) (text : ByteArray) (g : Nat) (res : Bool × List Int × Nat) (k : Nat) (wr : World) : Prop :=
 ∃ (i : Nat) (bs : List Int), Rdr w.heap.size wr g text (i : Int) bs ∧ Below w.heap.size w wr ∧ jbody (bytesOf text) k i bs = res ∧ i ≤ text.size ∧ text.size - i < k ∧ bs.length ≤ 4 * i
def unqRes (res : Bool × List Int × Nat) : Value := .tuple #[.string (if res.1 then strOfNums res.2.1 else ⟨#[]⟩), .int .i64 (if res.1 then res.2.2 else 0), .int .i64 (if res.1 then -1 else res.2.2)]
set_option maxRecDepth 100000 in
set_option maxHeartbeats 8000000 in
theorem unq_walk (text : ByteArray) (at_ : Nat) (hs : text.size ≤ 17592186044416) (hq : (bytesOf text).getD at_ 0 = 34) (hlt : at_ < text.size) (w : World) :
  Calls Tryd.prog 16 #[.string text, .int .i64 at_] w fun e w' => e = .returned (unqRes (jbody (bytesOf text) (text.size + 1) (at_ + 1) [])) ∧ Below w.heap.size w w' := by
 generalize hres : jbody (bytesOf text) (text.size + 1) (at_ + 1) [] = res
 have HRES := Lib.hid hres
 clear hres
 have g1 : decide ((at_ : Int) < 0) = false := decide_eq_false (by omega)
 go_enter Tryd.func16, Tryd.ntmps16
 go_wp2_with fail
 refine (rstart text at_ w).mono ?_
 rintro e w1 ⟨g, rfl, hR, hB⟩
 rw [show mn (mx (at_ : Int) 0) (text.size : Int) = (at_ : Int) by unfold mn mx; (repeat' split) <;> omega] at hR
 go_wp2_with fail
 refine (rbegins ⟨#[34]⟩ hR (by omega) (by omega)).mono ?_
 rintro e w2 ⟨rfl, n2, rfl⟩
 have d1 : decide (((bytesOf text).drop (at_ : Int).toNat).take (⟨#[34]⟩ : ByteArray).size = bytesOf ⟨#[34]⟩) = true := by
  refine decide_eq_true ?_
  rw [show (at_ : Int).toNat = at_ by omega]
  exact (take_one_drop (by rw [size_of]; exact hlt)).trans (by rw [hq]; rfl)
 rw [d1]
 have hR2 := hR.drewN n2
 have hB2 := pw_below_drewN hB n2
 clear hR hB
 generalize w1.drewN n2 = w3 at hR2 hB2
 obtain ⟨A, c, c0, c1, c2, f1, f2, hlt2, hc, hC⟩ := hR2.open_
 have hlow := hR2.low
 have hM := hR2.moved ((at_ : Int) + 1)
 go_wp2_with fail
 generalize w3.setCell ⟨g, 1, none⟩ (.int .i64 ((at_ : Int) + 1)) = w4 at hM
 obtain ⟨hR4, hB4⟩ := hM
 have hB5 := hB2.trans hB4
 clear c0 c1 c2 f1 f2 hC hR2 hB2 hB4
 go_loopg [] (text.size + 1) (fun k wr => UnqInv w text g res k wr)
 case atStart => exact ⟨at_ + 1, [], hR4, hB5, HRES.out, by omega, by omega, by simp⟩
 case round =>
  clear hR4 hB5 hlow hlt2 hc d1 hq hlt HRES g1
  obtain ⟨i, bs, hR, hB, hj, hi, hk, hl⟩ := hrel
  cases gk with
  | zero => omega
  | succ k =>
   obtain ⟨A, c, c0, c1, c2, f1, f2, hlt2, hc, hC⟩ := hR.open_
   have hlow := hR.low
   unfold jbody at hj
   by_cases hlt : i < text.size
   ·rw [if_neg (by rw [size_of]; omega)] at hj
    have p1 := eq_true (show (0 : Int) ≤ (i : Int) by omega)
    have q1 := eq_true (show (i : Int) < (text.size : Int) by omega)
    have q2 := eq_true (show (i : Int).toNat < text.size by omega)
    have hx1 : ∀ h : i < text.size, ((text[i]'h).toNat : Int) = bt text (i : Int) := fun h => bt_at text (i : Int) (by omega)
    have hbt : (bytesOf text).getD i 0 = bt text (i : Int) := by rw [bt_get]; rfl
    rw [hbt] at hj
    have hbr := bt_range text (i : Int)
    generalize bt text (i : Int) = b at hj hbr hx1
    clear hbt
    have HJ := Lib.hid hj
    clear hj
    by_cases b34 : b = 34
    ·have hr := Lib.hid (HJ.out.symm.trans (if_pos b34))
     subst b34
     have kc := fun n => Kd.C_string (P := Tryd.prog) (w := wr.drewN n) (c := c) Tryd.underlying46 Tryd.underlying5 Tryd.underlying9 hC
     go_wp2
     repeat (go_quiet (fail); try go_wp2)
     go_ret3
     exact ⟨by rw [hr.out]; rfl, by first | exact hB | exact pw_below_drewN hB _⟩
    have hj := HJ.out.symm.trans (if_neg b34)
    have t1 : (b == 34) = false := beq_eq_false_iff_ne.2 b34
    by_cases b32 : b < 32
    ·have hr := Lib.hid (hj.trans (if_pos b32))
     have t2 : decide (b < 32) = true := decide_eq_true b32
     clear HJ hj
     go_wp2
     repeat (go_quiet (fail); try go_wp2)
     go_ret3
     exact ⟨by rw [hr.out]; rfl, by first | exact hB | exact pw_below_drewN hB _⟩
    replace hj := hj.trans (if_neg b32)
    have t2 : decide (b < 32) = false := decide_eq_false b32
    by_cases b92 : b = 92
    ·have hr := Lib.hid (hj.trans (if_pos b92))
     have t3 : (b == 92) = true := beq_iff_eq.2 b92
     clear HJ hj b92 c0 c1 c2 f1 f2 hC
     obtain ⟨A0, c0_, c0, c1, c2, f1, f2, -, -, -⟩ := hR.open_
     go_wp2_with fail
     refine (resc hR (by omega) hlt (by omega)).mono ?_
     rintro e w5 ⟨rfl, hR5, hB5⟩
     have hB6 := hB.trans hB5
     clear c0 c1 c2 f1 f2
     cases hje : jesc ((bytesOf text).drop i) with
     | none =>
      rw [hje] at hr hR5
      have hr2 := Lib.hid hr.out
      clear hr
      replace hR5 : Rdr w.heap.size w5 g text (i : Int) bs := hR5
      obtain ⟨A5, c5, d0, d1, d2, e1, e2, -, -, -⟩ := hR5.open_
      go_wp2
      repeat (go_quiet (fail); try go_wp2)
      go_ret3
      exact ⟨by rw [hr2.out]; rfl, by first | exact hB6 | exact pw_below_drewN hB6 _⟩
     | some p =>
      rw [hje] at hr hR5
      have hr2 := Lib.hid hr.out
      clear hr
      replace hR5 : Rdr w.heap.size w5 g text ((i : Int) + p.2) (bs ++ enc p.1) := hR5
      have hp := jesc_len hje
      rw [List.length_drop, size_of] at hp
      have he := (enc_len p.1).2
      go_wp2
      go_roundg k
      case rel => exact ⟨i + p.2, bs ++ enc p.1, by rw [Int.natCast_add]; exact hR5, hB6, hr2.out.symm, by omega, by omega, by rw [List.length_append]; omega⟩
      case measure => omega
    ·have hr := Lib.hid (hj.trans (if_neg b92))
     have t3 : (b == 92) = false := beq_eq_false_iff_ne.2 b92
     clear HJ hj c0 c1 c2 f1 f2 hC
     obtain ⟨A0, c0_, c0, c1, c2, f1, f2, -, -, -⟩ := hR.open_
     go_wp2_with fail
     refine (rletter hR (by omega) (by omega) (by omega) (by omega)).mono ?_
     rintro e w5 ⟨rfl, hR5, hB5⟩
     have hB6 := hB.trans hB5
     clear c0 c1 c2 f1 f2
     rw [show (i : Int).toNat = i by omega] at hR5
     rw [show (i : Int).toNat = i by omega]
     have hb := tk_bound ((bytesOf text).drop i) (fun x hx => bytes_of text x (List.mem_of_mem_drop hx))
     have he : (enc0 (tk ((bytesOf text).drop i)).1).length ≤ 4 := by
      unfold enc0
      split
      ·exact (enc_len _).2
      ·simp
     rw [List.length_drop, size_of] at hb
     generalize tk ((bytesOf text).drop i) = q at hR5 hr hb he
     by_cases hq : q.2 > 0
     ·have hr2 := Lib.hid (hr.out.trans (if_pos hq))
      have t4 : decide (q.2 > 0) = true := decide_eq_true hq
      clear hr
      rw [t4]
      go_wp2
      go_roundg k
      case rel => exact ⟨i + q.2.toNat, bs ++ enc0 q.1, by rw [show ((i + q.2.toNat : Nat) : Int) = (i : Int) + q.2 by omega]; exact hR5, hB6, hr2.out.symm, by omega, by omega, by rw [List.length_append]; omega⟩
      case measure => omega
     ·have hr2 := Lib.hid (hr.out.trans (if_neg hq))
      have t4 : decide (q.2 > 0) = false := decide_eq_false hq
      clear hr
      rw [t4]
      rw [show q.2 = 0 by omega] at hR5
      rw [show (i : Int) + 0 = i by omega] at hR5
      obtain ⟨A5, c5, d0, d1, d2, e1, e2, -, -, -⟩ := hR5.open_
      go_wp2
      repeat (go_quiet (fail); try go_wp2)
      go_ret3
      exact ⟨by rw [hr2.out]; rfl, by first | exact hB6 | exact pw_below_drewN hB6 _⟩
   ·obtain rfl : i = text.size := by omega
    rw [if_pos (by rw [size_of]; omega), size_of] at hj
    obtain rfl := hj
    have e1 : decide ((text.size : Int) < (text.size : Int)) = false := decide_eq_false (by omega)
    go_wp2
    repeat (go_quiet (fail); try go_wp2)
    go_ret3
    exact ⟨rfl, hB⟩
/-- It is no string at all. -/
theorem unq_not (text : ByteArray) (at_ : Int) (hs : text.size ≤ 17592186044416) (hq : at_ < 0 ∨ (text.size : Int) ≤ at_ ∨ (bytesOf text).getD at_.toNat 0 ≠ 34) (w : World) :
  Calls Tryd.prog 16 #[.string text, .int .i64 at_] w fun e w' => e = .returned (.tuple #[.string ⟨#[]⟩, .int .i64 0, .int .i64 (mn (mx at_ 0) text.size)]) ∧ Below w.heap.size w w' := by
 have m0 : 0 ≤ mn (mx at_ 0) (text.size : Int) := by unfold mn mx; (repeat' split) <;> omega
 have m1 : mn (mx at_ 0) (text.size : Int) ≤ text.size := by unfold mn mx; (repeat' split) <;> omega
 by_cases h0 : at_ < 0
 ·have g1 : decide (at_ < 0) = true := decide_eq_true h0
  go_enter Tryd.func16, Tryd.ntmps16
  go_wp2_with fail
  refine (rstart text at_ w).mono ?_
  rintro e w1 ⟨g, rfl, hR, hB⟩
  obtain ⟨A, c, c0, c1, c2, f1, f2, hlt2, hc, hC⟩ := hR.open_
  go_wp2
  repeat (go_quiet (fail); try go_wp2)
  go_ret3
  exact ⟨rfl, by first | exact hB | exact pw_below_drewN hB _⟩
 ·have hm : mn (mx at_ 0) (text.size : Int) = at_ ∨ mn (mx at_ 0) (text.size : Int) = text.size := by unfold mn mx; (repeat' split) <;> omega
  have d1 : decide (((bytesOf text).drop (mn (mx at_ 0) (text.size : Int)).toNat).take (⟨#[34]⟩ : ByteArray).size = bytesOf ⟨#[34]⟩) = false := by
   refine decide_eq_false ?_
   intro hh
   have hl := congrArg List.length hh
   rw [List.length_take, List.length_drop, size_of, size_of] at hl
   have hl' : (mn (mx at_ 0) (text.size : Int)).toNat < text.size := by
    have : (⟨#[34]⟩ : ByteArray).size = 1 := rfl
    omega
   have hh2 : [(bytesOf text).getD (mn (mx at_ 0) (text.size : Int)).toNat 0] = [34] := (take_one_drop (by rw [size_of]; exact hl')).symm.trans hh
   have h34 := (List.cons.inj hh2).1
   rcases hm with hm | hm
   ·rw [hm] at h34 m1 hl'
    rcases hq with hq | hq | hq
    ·omega
    ·omega
    ·exact hq h34
   ·omega
  have g1 : decide (at_ < 0) = false := decide_eq_false h0
  clear hm hq
  generalize hmm : mn (mx at_ 0) (text.size : Int) = m at d1 m0 m1
  go_enter Tryd.func16, Tryd.ntmps16
  go_wp2_with fail
  refine (rstart text at_ w).mono ?_
  rintro e w1 ⟨g, rfl, hR, hB⟩
  rw [hmm] at hR
  go_wp2_with fail
  refine (rbegins ⟨#[34]⟩ hR m0 m1).mono ?_
  rintro e w2 ⟨rfl, n2, rfl⟩
  rw [d1]
  have hR2 := hR.drewN n2
  have hB2 := pw_below_drewN hB n2
  clear hR hB
  generalize w1.drewN n2 = w3 at hR2 hB2
  obtain ⟨A, c, c0, c1, c2, f1, f2, hlt2, hc, hC⟩ := hR2.open_
  go_wp2
  repeat (go_quiet (fail); try go_wp2)
  go_ret3
  exact ⟨rfl, by first | exact hB2 | exact pw_below_drewN hB2 _⟩
/-- What Unquote answers. -/
def unqT (L : List Int) (i : Int) : ByteArray × Int × Int :=
 if i < 0 ∨ (L.length : Int) ≤ i ∨ L.getD i.toNat 0 ≠ 34 then (⟨#[]⟩, 0, mn (mx i 0) L.length)
 else match jbody L (L.length + 1) (i.toNat + 1) [] with
  | (true, bs, j) => (strOfNums bs, (j : Int), -1)
  | (false, _, j) => (⟨#[]⟩, 0, (j : Int))
def esc_Unquote.f (a0 : ByteArray) (a1 : Int) : Option (ByteArray × Int × Int) := if a0.size ≤ 17592186044416 then some (unqT (bytesOf a0) a1) else none
theorem esc_Unquote.calls (a0 : ByteArray) (a1 : Int) (r1 : ByteArray) (r2 : Int) (r3 : Int) (w : World) (h : esc_Unquote.f a0 a1 = some (r1, r2, r3)) :
  Calls Tryd.prog 16 #[.string a0, .int .i64 a1] w fun e w' => e = .returned (.tuple #[.string r1, .int .i64 r2, .int .i64 r3]) ∧ Below w.heap.size w w' := by
 unfold esc_Unquote.f at h
 split at h
 ·rename_i hs
  have h := Option.some.inj h
  unfold unqT at h
  rw [size_of] at h
  split at h
  ·rename_i hq
   obtain ⟨rfl, rfl, rfl⟩ := (by simpa using h : _ ∧ _ ∧ _)
   exact unq_not a0 a1 hs hq w
  ·rename_i hq
   have h0 : 0 ≤ a1 := by
    rcases Int.lt_or_le a1 0 with h | h
    ·exact absurd (.inl h) hq
    ·exact h
   have h1 : a1 < a0.size := by
    rcases Int.lt_or_le a1 a0.size with h | h
    ·exact h
    ·exact absurd (.inr (.inl h)) hq
   obtain ⟨i, rfl⟩ := Int.eq_ofNat_of_zero_le h0
   have h2 : (bytesOf a0).getD i 0 = 34 := by
    rcases Classical.em ((bytesOf a0).getD i 0 = 34) with h | h
    ·exact h
    ·exact absurd (.inr (.inr h)) hq
   refine (unq_walk a0 i hs h2 (by omega) w).mono ?_
   rintro e w' ⟨rfl, hB⟩
   refine ⟨?_, hB⟩
   rw [show (i : Int).toNat = i by omega] at h
   generalize jbody (bytesOf a0) (a0.size + 1) (i + 1) [] = q at h
   obtain ⟨b, bs, j⟩ := q
   cases b
   ·obtain ⟨rfl, rfl, rfl⟩ := (by simpa using h : _ ∧ _ ∧ _)
    rfl
   ·obtain ⟨rfl, rfl, rfl⟩ := (by simpa using h : _ ∧ _ ∧ _)
    rfl
 ·cases h
end Go.Proofs.YtoanbmggffkmgaaDoor.P
end
section
namespace Go.Proofs.YtoanbmggffkmgaaDoor.P
open Go.RowKit Go.Proofs.YtoanbmggffkmgaaDoorW.PrintWords Go.Proofs.YtoanbmggffkmgaaDoorW.PrintLast Go.Proofs.YtoanbmggffkmgaaDoorW.PrintMore
attribute [local go_sem] max2_int min2_int max_two min_two max_three min_three max_four min_four   -- for this text's walks alone
attribute [-simp] ByteArray.size_extract
set_option linter.unusedVariables false
set_option linter.unusedSimpArgs false
/-! ### jlex_word: function 33 -/
def jlex_word.j0 : Nat → Int → ByteArray → Bool → Option (Int × ByteArray × Int × Int × Int × Int)
 | 0, _, _, _ => none
 | k + 1, x1, x8, x54 => if x54 = true then ((jlex_while.f x8 (⟨#[97, 98, 99, 100, 101, 102, 103, 104, 105, 106, 107, 108, 109, 110, 111, 112, 113, 114, 115, 116, 117, 118, 119, 120, 121, 122]⟩ : ByteArray)).bind fun t211 => (if 0 ≤ t211 then (if t211 ≤ (x8.size : Int) then (if (x8.extract 0 (t211 : Int).toNat).toList = ([116, 114, 117, 101] : List UInt8) then (some (4, x8.extract 0 (t211 : Int).toNat, x1, wrap64 (x1 + ((x8.extract 0 (t211 : Int).toNat).size : Int)), 0, 0)) else (if (x8.extract 0 (t211 : Int).toNat).toList = ([102, 97, 108, 115, 101] : List UInt8) then (some (4, x8.extract 0 (t211 : Int).toNat, x1, wrap64 (x1 + ((x8.extract 0 (t211 : Int).toNat).size : Int)), 0, 0)) else (if (x8.extract 0 (t211 : Int).toNat).toList = ([110, 117, 108, 108] : List UInt8) then (some (4, x8.extract 0 (t211 : Int).toNat, x1, wrap64 (x1 + ((x8.extract 0 (t211 : Int).toNat).size : Int)), 0, 0)) else (some (0, (⟨#[]⟩ : ByteArray), 0, 0, 4, x1))))) else (none)) else (none))) else ((jlex_while.f x8 (⟨#[48, 49, 50, 51, 52, 53, 54, 55, 56, 57, 43, 45, 46, 101, 69]⟩ : ByteArray)).bind fun t212 => (if 0 ≤ t212 then (if t212 ≤ (x8.size : Int) then (if (x8.extract 0 (t212 : Int).toNat).toList = ([] : List UInt8) then (some (0, (⟨#[]⟩ : ByteArray), 0, 0, 4, x1)) else ((jlex_number.f k (x8.extract 0 (t212 : Int).toNat)).bind fun t213 => (if t213 = 0 then (some (3, x8.extract 0 (t212 : Int).toNat, x1, wrap64 (x1 + ((x8.extract 0 (t212 : Int).toNat).size : Int)), 0, 0)) else (some (0, (⟨#[]⟩ : ByteArray), 0, 0, t213, x1))))) else (none)) else (none)))
def jlex_word.f (k : Nat) (a0 : ByteArray) (a1 : Int) : Option (Int × ByteArray × Int × Int × Int × Int) := if 0 ≤ a1 then (if a1 ≤ (a0.size : Int) then (if 0 < ((a0.extract (a1 : Int).toNat a0.size).size : Int) then ((strings_IndexByte.f (⟨#[123, 125, 91, 93, 58, 44]⟩ : ByteArray) (bt (a0.extract (a1 : Int).toNat a0.size) 0)).bind fun t207 => (if t207 ≥ 0 then (if 0 ≤ 1 then (if 1 ≤ ((a0.extract (a1 : Int).toNat a0.size).size : Int) then (some (1, (a0.extract (a1 : Int).toNat a0.size).extract 0 1, a1, wrap64 (a1 + 1), 0, 0)) else (none)) else (none)) else (if (bt (a0.extract (a1 : Int).toNat a0.size) 0) = 34 then ((esc_Unquote.f a0 a1).bind fun bt208 => (if bt208.2.2 ≥ 0 then (some (0, (⟨#[]⟩ : ByteArray), 0, 0, 4, bt208.2.2)) else (if (bt208.1.size : Int) > 4096 then (some (0, (⟨#[]⟩ : ByteArray), 0, 0, 2, a1)) else (some (2, bt208.1, a1, bt208.2.1, 0, 0))))) else (if (bt (a0.extract (a1 : Int).toNat a0.size) 0) ≥ 97 then (jlex_word.j0 k a1 (a0.extract (a1 : Int).toNat a0.size) (decide ((bt (a0.extract (a1 : Int).toNat a0.size) 0) ≤ 122))) else (jlex_word.j0 k a1 (a0.extract (a1 : Int).toNat a0.size) false))))) else (none)) else (none)) else (none)
set_option maxHeartbeats 8000000 in
set_option maxRecDepth 100000 in
theorem jlex_word.calls (k : Nat) (a0 : ByteArray) (a1 : Int) (r1 : Int) (r2 : ByteArray) (r3 : Int) (r4 : Int) (r5 : Int) (r6 : Int) (w : World) (h : jlex_word.f k a0 a1 = some (r1, r2, r3, r4, r5, r6)) :
  Calls Tryd.prog 33 #[.string a0, .int .i64 a1] w fun e w' => e = .returned (.tuple #[.agg #[.int .i64 r1, .string r2, .int .i64 r3], .int .i64 r4, .int .i64 r5, .int .i64 r6]) ∧ Below w.heap.size w w' := by
 have hu30 := Tryd.underlying30
 have HB := Aside0.mk (Below.refl w.heap.size w)
 have H : (if 0 ≤ a1 then (if a1 ≤ (a0.size : Int) then (if 0 < ((a0.extract (a1 : Int).toNat a0.size).size : Int) then ((strings_IndexByte.f (⟨#[123, 125, 91, 93, 58, 44]⟩ : ByteArray) (bt (a0.extract (a1 : Int).toNat a0.size) 0)).bind fun t207 => (if t207 ≥ 0 then (if 0 ≤ 1 then (if 1 ≤ ((a0.extract (a1 : Int).toNat a0.size).size : Int) then (some (1, (a0.extract (a1 : Int).toNat a0.size).extract 0 1, a1, wrap64 (a1 + 1), 0, 0)) else (none)) else (none)) else (if (bt (a0.extract (a1 : Int).toNat a0.size) 0) = 34 then ((esc_Unquote.f a0 a1).bind fun bt208 => (if bt208.2.2 ≥ 0 then (some (0, (⟨#[]⟩ : ByteArray), 0, 0, 4, bt208.2.2)) else (if (bt208.1.size : Int) > 4096 then (some (0, (⟨#[]⟩ : ByteArray), 0, 0, 2, a1)) else (some (2, bt208.1, a1, bt208.2.1, 0, 0))))) else (if (bt (a0.extract (a1 : Int).toNat a0.size) 0) ≥ 97 then (jlex_word.j0 k a1 (a0.extract (a1 : Int).toNat a0.size) (decide ((bt (a0.extract (a1 : Int).toNat a0.size) 0) ≤ 122))) else (jlex_word.j0 k a1 (a0.extract (a1 : Int).toNat a0.size) false))))) else (none)) else (none)) else (none)) = some (r1, r2, r3, r4, r5, r6) := h
 clear h
 by_cases c3 : 0 ≤ a1
 ·rw [if_pos c3] at H
  have c3b0 := eq_true c3
  have c3b1 : decide (0 ≤ a1) = true := decide_eq_true c3
  clear c3
  by_cases c4 : a1 ≤ (a0.size : Int)
  ·rw [if_pos c4] at H
   have c4b0 := eq_true c4
   have c4b1 : decide (a1 ≤ (a0.size : Int)) = true := decide_eq_true c4
   clear c4
   by_cases c5 : 0 < ((a0.extract (a1 : Int).toNat a0.size).size : Int)
   ·rw [if_pos c5] at H
    have c5b0 : decide (0 < ((a0.extract (a1 : Int).toNat a0.size).size : Int)) = true := decide_eq_true c5
    have c5b1 : decide (0 < (a0.extract (a1 : Int).toNat a0.size).size) = true := decide_eq_true (by omega)
    clear c5
    replace H := Option.bind_eq_some_iff.mp H
    obtain ⟨t207, A70, H⟩ := H
    replace H : (if t207 ≥ 0 then (if 0 ≤ 1 then (if 1 ≤ ((a0.extract (a1 : Int).toNat a0.size).size : Int) then (some (1, (a0.extract (a1 : Int).toNat a0.size).extract 0 1, a1, wrap64 (a1 + 1), 0, 0)) else (none)) else (none)) else (if (bt (a0.extract (a1 : Int).toNat a0.size) 0) = 34 then ((esc_Unquote.f a0 a1).bind fun bt208 => (if bt208.2.2 ≥ 0 then (some (0, (⟨#[]⟩ : ByteArray), 0, 0, 4, bt208.2.2)) else (if (bt208.1.size : Int) > 4096 then (some (0, (⟨#[]⟩ : ByteArray), 0, 0, 2, a1)) else (some (2, bt208.1, a1, bt208.2.1, 0, 0))))) else (if (bt (a0.extract (a1 : Int).toNat a0.size) 0) ≥ 97 then (jlex_word.j0 k a1 (a0.extract (a1 : Int).toNat a0.size) (decide ((bt (a0.extract (a1 : Int).toNat a0.size) 0) ≤ 122))) else (jlex_word.j0 k a1 (a0.extract (a1 : Int).toNat a0.size) false)))) = some (r1, r2, r3, r4, r5, r6) := H
    have A7 := Aside0.mk A70
    clear A70
    by_cases c8 : t207 ≥ 0
    ·rw [if_pos c8] at H
     have c8b0 : decide (0 ≤ t207) = true := decide_eq_true c8
     clear c8
     by_cases c9 : 0 ≤ 1
     ·rw [if_pos c9] at H
      have c9b0 := eq_true c9
      have c9b1 : decide (0 ≤ 1) = true := decide_eq_true c9
      clear c9
      by_cases c10 : 1 ≤ ((a0.extract (a1 : Int).toNat a0.size).size : Int)
      ·rw [if_pos c10] at H
       have c10b0 := eq_true c10
       have c10b1 : decide (1 ≤ ((a0.extract (a1 : Int).toNat a0.size).size : Int)) = true := decide_eq_true c10
       clear c10
       simp only [Option.some.injEq, Prod.mk.injEq] at H
       obtain ⟨rfl, rfl, rfl, rfl, rfl, rfl⟩ := H
       go_enter Tryd.func33, Tryd.ntmps33
       go_wp2_with (first | ((with_reducible refine gate_dst (N := 4) rfl ?_); refine box_event ?hg (N := 4) ?hd (cs := #[.int .i64 0, .string (⟨#[]⟩ : ByteArray), .int .i64 0]) (t := 30) ?hr ?_; (case hd => rfl); (case hg => rfl); (case hr => first | (go_simp; done) | (go_simp; rfl)); intro gb206 hg w11 hbox hb; have n0_ := Aside0.mk (below_step (by repeat (first | (with_reducible first | exact HB.out | apply below_alloc | apply pw_below_drewN | apply below_drew1) | exact HB.out)) hb); have n1_ := Aside0.mk (hbox); have n2_ := Aside0.mk ((by rw [hg]; exact (below_size (by repeat (first | (with_reducible first | exact HB.out | apply below_alloc | apply pw_below_drewN | apply below_drew1) | exact HB.out))) : w.heap.size ≤ gb206)); have n3_ := Aside0.mk ((by rw [hg]; exact (below_size (by repeat (first | (with_reducible first | exact HB.out | apply below_alloc | apply pw_below_drewN | apply below_drew1) | exact HB.out))) : w.heap.size ≤ gb206)); clear HB; have HB := n0_; have BK206 := n1_; have GW206 := n2_; have GE206 := n3_; clear n0_ n1_ n2_ n3_; clear hb hbox hg; have p6 : 0 ≤ (0 : Int) := (by omega); have q6 : 0 < (a0.extract (a1 : Int).toNat a0.size).size := (by have : (0 : Int) < ((a0.extract (a1 : Int).toNat a0.size).size : Int) := of_decide_eq_true (by first | (with_reducible assumption) | assumption); omega); have hx6 : ∀ h : 0 < (a0.extract (a1 : Int).toNat a0.size).size, (((a0.extract (a1 : Int).toNat a0.size)[0]'h).toNat : Int) = bt (a0.extract (a1 : Int).toNat a0.size) 0 := bt_at (a0.extract (a1 : Int).toNat a0.size) 0; clear p6; have qi6 : (0 < ((a0.extract (a1 : Int).toNat a0.size).size : Int)) = True := eq_true (of_decide_eq_true (by first | (with_reducible assumption) | assumption)); replace q6 := eq_true q6) | ((with_reducible refine gate_callee (f := 56) rfl ?_); refine goesL_ (some 23) rfl rfl Tryd.func56 (by kernel_rfl) rfl #[.string (⟨#[123, 125, 91, 93, 58, 44]⟩ : ByteArray), .int .u8 (bt (a0.extract (a1 : Int).toNat a0.size) 0)] rfl (by (try simp only [List.map_toArray, List.map_cons, List.map_nil]); first | done | rfl | (simp only [List.length_drop, List.length_take]; rfl)) ?_; (with_reducible refine (strings_IndexByte.calls (⟨#[123, 125, 91, 93, 58, 44]⟩ : ByteArray) (bt (a0.extract (a1 : Int).toNat a0.size) 0) t207 _ A7.out).mono ?_); rintro e w' ⟨rfl, ⟨nd, rfl⟩⟩; refine ⟨_, rfl, ?_⟩; (try (rw [drewN_self w11]; generalize hq_ : World.drewN w11 _ = w11; have n0_ : Aside0 (w11.heap[gb206]? = some (.cells #[.int .i64 0, .string (⟨#[]⟩ : ByteArray), .int .i64 0] 30 (0, 0))) := ⟨by rw [← hq_]; exact (by (with_reducible repeat (first | refine blk_drewN ?_ _ | refine blk_drew ?_ | refine blk_alloc ?_ _)); exact BK206.out)⟩; have n1_ : Aside0 (Below w.heap.size w w11) := ⟨by rw [← hq_]; exact (by repeat (first | (with_reducible first | exact HB.out | apply below_alloc | apply pw_below_drewN | apply below_drew1 | refine below_set ?_ GE206.out) | exact HB.out))⟩; clear BK206 HB hq_; have BK206 := n0_; have HB := n1_; clear n0_ n1_)); have hcz12_0 : w11.cell? ⟨gb206, 0, none⟩ = some (.int .i64 0) := (blk_cell BK206.out 0).trans rfl; have hcz12_1 : w11.cell? ⟨gb206, 1, none⟩ = some (.string (⟨#[]⟩ : ByteArray)) := (blk_cell BK206.out 1).trans rfl; have hcz12_2 : w11.cell? ⟨gb206, 2, none⟩ = some (.int .i64 0) := (blk_cell BK206.out 2).trans rfl; have hfz12_0 := blk_frozen BK206.out 0; have hfz12_1 := blk_frozen BK206.out 1; have hfz12_2 := blk_frozen BK206.out 2))
       refine bodyPost_ret (results_list (rs := [.cell 4 30, .tmp 5, .tmp 6, .tmp 7]) rfl (by simp) (.cell gb206 30 #[.int .i64 1, .string ((a0.extract (a1 : Int).toNat a0.size).extract 0 1), .int .i64 a1] (0, 0) _ rfl (by (with_reducible repeat (first | refine blk_drewN ?_ _ | refine blk_drew ?_ | refine blk_alloc ?_ _)); refine blk_put (cs := #[.int .i64 1, .string ((a0.extract (a1 : Int).toNat a0.size).extract 0 1), .int .i64 0]) ?_ 2 _ rfl; (with_reducible repeat (first | refine blk_drewN ?_ _ | refine blk_drew ?_ | refine blk_alloc ?_ _)); refine blk_put (cs := #[.int .i64 1, .string (⟨#[]⟩ : ByteArray), .int .i64 0]) ?_ 1 _ rfl; (with_reducible repeat (first | refine blk_drewN ?_ _ | refine blk_drew ?_ | refine blk_alloc ?_ _)); refine blk_put (cs := #[.int .i64 0, .string (⟨#[]⟩ : ByteArray), .int .i64 0]) ?_ 0 _ rfl; (with_reducible repeat (first | refine blk_drewN ?_ _ | refine blk_drew ?_ | refine blk_alloc ?_ _)); exact BK206.out) Tryd.underlying30 rfl (by kernel_rfl) (.tmp (.tmp (.tmp .nil))))) rfl ?_
       exact ⟨by first | rfl | (simp [errW_none, errW_some] <;> rfl) | (simp [*, errW_none, errW_some, bne]; done) | (simp [*, errW_none, errW_some] <;> rfl), by repeat (first | (with_reducible first | exact HB.out | apply below_alloc | apply pw_below_drewN | apply below_drew1 | refine below_set ?_ GE206.out) | exact HB.out)⟩
      ·rw [if_neg c10] at H
       exact absurd H (by simp)
     ·rw [if_neg c9] at H
      exact absurd H (by simp)
    ·rw [if_neg c8] at H
     have c8b0 : decide (0 ≤ t207) = false := decide_eq_false c8
     clear c8
     by_cases c13 : (bt (a0.extract (a1 : Int).toNat a0.size) 0) = 34
     ·rw [if_pos c13] at H
      have c13b0 : ((bt (a0.extract (a1 : Int).toNat a0.size) 0) == 34) = true := beq_iff_eq.mpr c13
      have c13b1 : ((bt (a0.extract (a1 : Int).toNat a0.size) 0) != 34) = false := bne_eq_false_iff_eq.mpr c13
      clear c13
      replace H := Option.bind_eq_some_iff.mp H
      obtain ⟨⟨t208, t209, t210⟩, A140, H⟩ := H
      replace H : (if t210 ≥ 0 then (some (0, (⟨#[]⟩ : ByteArray), 0, 0, 4, t210)) else (if (t208.size : Int) > 4096 then (some (0, (⟨#[]⟩ : ByteArray), 0, 0, 2, a1)) else (some (2, t208, a1, t209, 0, 0)))) = some (r1, r2, r3, r4, r5, r6) := H
      have A14 := Aside0.mk A140
      clear A140
      by_cases c15 : t210 ≥ 0
      ·rw [if_pos c15] at H
       have c15b0 : decide (0 ≤ t210) = true := decide_eq_true c15
       clear c15
       simp only [Option.some.injEq, Prod.mk.injEq] at H
       obtain ⟨rfl, rfl, rfl, rfl, rfl, rfl⟩ := H
       go_enter Tryd.func33, Tryd.ntmps33
       go_wp2_with (first | ((with_reducible refine gate_dst (N := 4) rfl ?_); refine box_event ?hg (N := 4) ?hd (cs := #[.int .i64 0, .string (⟨#[]⟩ : ByteArray), .int .i64 0]) (t := 30) ?hr ?_; (case hd => rfl); (case hg => rfl); (case hr => first | (go_simp; done) | (go_simp; rfl)); intro gb206 hg w16 hbox hb; have n0_ := Aside0.mk (below_step (by repeat (first | (with_reducible first | exact HB.out | apply below_alloc | apply pw_below_drewN | apply below_drew1) | exact HB.out)) hb); have n1_ := Aside0.mk (hbox); have n2_ := Aside0.mk ((by rw [hg]; exact (below_size (by repeat (first | (with_reducible first | exact HB.out | apply below_alloc | apply pw_below_drewN | apply below_drew1) | exact HB.out))) : w.heap.size ≤ gb206)); have n3_ := Aside0.mk ((by rw [hg]; exact (below_size (by repeat (first | (with_reducible first | exact HB.out | apply below_alloc | apply pw_below_drewN | apply below_drew1) | exact HB.out))) : w.heap.size ≤ gb206)); clear HB; have HB := n0_; have BK206 := n1_; have GW206 := n2_; have GE206 := n3_; clear n0_ n1_ n2_ n3_; clear hb hbox hg; have p6 : 0 ≤ (0 : Int) := (by omega); have q6 : 0 < (a0.extract (a1 : Int).toNat a0.size).size := (by have : (0 : Int) < ((a0.extract (a1 : Int).toNat a0.size).size : Int) := of_decide_eq_true (by first | (with_reducible assumption) | assumption); omega); have hx6 : ∀ h : 0 < (a0.extract (a1 : Int).toNat a0.size).size, (((a0.extract (a1 : Int).toNat a0.size)[0]'h).toNat : Int) = bt (a0.extract (a1 : Int).toNat a0.size) 0 := bt_at (a0.extract (a1 : Int).toNat a0.size) 0; clear p6; have qi6 : (0 < ((a0.extract (a1 : Int).toNat a0.size).size : Int)) = True := eq_true (of_decide_eq_true (by first | (with_reducible assumption) | assumption)); replace q6 := eq_true q6) | ((with_reducible refine gate_callee (f := 56) rfl ?_); refine goesL_ (some 23) rfl rfl Tryd.func56 (by kernel_rfl) rfl #[.string (⟨#[123, 125, 91, 93, 58, 44]⟩ : ByteArray), .int .u8 (bt (a0.extract (a1 : Int).toNat a0.size) 0)] rfl (by (try simp only [List.map_toArray, List.map_cons, List.map_nil]); first | done | rfl | (simp only [List.length_drop, List.length_take]; rfl)) ?_; (with_reducible refine (strings_IndexByte.calls (⟨#[123, 125, 91, 93, 58, 44]⟩ : ByteArray) (bt (a0.extract (a1 : Int).toNat a0.size) 0) t207 _ A7.out).mono ?_); rintro e w' ⟨rfl, ⟨nd, rfl⟩⟩; refine ⟨_, rfl, ?_⟩; (try (rw [drewN_self w16]; generalize hq_ : World.drewN w16 _ = w16; have n0_ : Aside0 (w16.heap[gb206]? = some (.cells #[.int .i64 0, .string (⟨#[]⟩ : ByteArray), .int .i64 0] 30 (0, 0))) := ⟨by rw [← hq_]; exact (by (with_reducible repeat (first | refine blk_drewN ?_ _ | refine blk_drew ?_ | refine blk_alloc ?_ _)); exact BK206.out)⟩; have n1_ : Aside0 (Below w.heap.size w w16) := ⟨by rw [← hq_]; exact (by repeat (first | (with_reducible first | exact HB.out | apply below_alloc | apply pw_below_drewN | apply below_drew1 | refine below_set ?_ GE206.out) | exact HB.out))⟩; clear BK206 HB hq_; have BK206 := n0_; have HB := n1_; clear n0_ n1_))) | ((with_reducible refine gate_callee (f := 16) rfl ?_); refine goesL_ (some 37) rfl rfl Tryd.func16 (by kernel_rfl) rfl #[.string a0, .int .i64 a1] rfl (by (try simp only [List.map_toArray, List.map_cons, List.map_nil]); first | done | rfl | (simp only [List.length_drop, List.length_take]; rfl)) ?_; (with_reducible refine (esc_Unquote.calls a0 a1 t208 t209 t210 _ A14.out).mono ?_); rintro e w17 ⟨rfl, hb⟩; refine ⟨_, rfl, ?_⟩; have n0_ := Aside0.mk (blk_below (g := gb206) (o := .cells #[.int .i64 0, .string (⟨#[]⟩ : ByteArray), .int .i64 0] 30 (0, 0)) (by (with_reducible repeat (first | refine blk_drewN ?_ _ | refine blk_drew ?_ | refine blk_alloc ?_ _)); exact BK206.out) hb); have n1_ := Aside0.mk (below_step (by repeat (first | (with_reducible first | exact HB.out | apply below_alloc | apply pw_below_drewN | apply below_drew1 | refine below_set ?_ GE206.out) | exact HB.out)) hb); clear BK206; clear HB; have BK206 := n0_; have HB := n1_; clear n0_ n1_; (try clear hb); (try clear hb2); (try clear hk); (try clear hi); have hcz18_0 : w17.cell? ⟨gb206, 0, none⟩ = some (.int .i64 0) := (blk_cell BK206.out 0).trans rfl; have hcz18_1 : w17.cell? ⟨gb206, 1, none⟩ = some (.string (⟨#[]⟩ : ByteArray)) := (blk_cell BK206.out 1).trans rfl; have hcz18_2 : w17.cell? ⟨gb206, 2, none⟩ = some (.int .i64 0) := (blk_cell BK206.out 2).trans rfl; have hfz18_0 := blk_frozen BK206.out 0; have hfz18_1 := blk_frozen BK206.out 1; have hfz18_2 := blk_frozen BK206.out 2))
       refine bodyPost_ret (results_list (rs := [.cell 4 30, .tmp 5, .tmp 6, .tmp 7]) rfl (by simp) (.cell gb206 30 #[.int .i64 0, .string (⟨#[]⟩ : ByteArray), .int .i64 0] (0, 0) _ rfl (by (with_reducible repeat (first | refine blk_drewN ?_ _ | refine blk_drew ?_ | refine blk_alloc ?_ _)); refine blk_put (cs := #[.int .i64 0, .string (⟨#[]⟩ : ByteArray), .int .i64 0]) ?_ 2 _ rfl; (with_reducible repeat (first | refine blk_drewN ?_ _ | refine blk_drew ?_ | refine blk_alloc ?_ _)); refine blk_put (cs := #[.int .i64 0, .string (⟨#[]⟩ : ByteArray), .int .i64 0]) ?_ 1 _ rfl; (with_reducible repeat (first | refine blk_drewN ?_ _ | refine blk_drew ?_ | refine blk_alloc ?_ _)); refine blk_put (cs := #[.int .i64 0, .string (⟨#[]⟩ : ByteArray), .int .i64 0]) ?_ 0 _ rfl; (with_reducible repeat (first | refine blk_drewN ?_ _ | refine blk_drew ?_ | refine blk_alloc ?_ _)); exact BK206.out) Tryd.underlying30 rfl (by kernel_rfl) (.tmp (.tmp (.tmp .nil))))) rfl ?_
       exact ⟨by first | rfl | (simp [errW_none, errW_some] <;> rfl) | (simp [*, errW_none, errW_some, bne]; done) | (simp [*, errW_none, errW_some] <;> rfl), by repeat (first | (with_reducible first | exact HB.out | apply below_alloc | apply pw_below_drewN | apply below_drew1 | refine below_set ?_ GE206.out) | exact HB.out)⟩
      ·rw [if_neg c15] at H
       have c15b0 : decide (0 ≤ t210) = false := decide_eq_false c15
       clear c15
       by_cases c19 : (t208.size : Int) > 4096
       ·rw [if_pos c19] at H
        have c19b0 : decide (4096 < (t208.size : Int)) = true := decide_eq_true c19
        have c19b1 : decide (4096 < t208.size) = true := decide_eq_true (by omega)
        clear c19
        simp only [Option.some.injEq, Prod.mk.injEq] at H
        obtain ⟨rfl, rfl, rfl, rfl, rfl, rfl⟩ := H
        go_enter Tryd.func33, Tryd.ntmps33
        go_wp2_with (first | ((with_reducible refine gate_dst (N := 4) rfl ?_); refine box_event ?hg (N := 4) ?hd (cs := #[.int .i64 0, .string (⟨#[]⟩ : ByteArray), .int .i64 0]) (t := 30) ?hr ?_; (case hd => rfl); (case hg => rfl); (case hr => first | (go_simp; done) | (go_simp; rfl)); intro gb206 hg w20 hbox hb; have n0_ := Aside0.mk (below_step (by repeat (first | (with_reducible first | exact HB.out | apply below_alloc | apply pw_below_drewN | apply below_drew1) | exact HB.out)) hb); have n1_ := Aside0.mk (hbox); have n2_ := Aside0.mk ((by rw [hg]; exact (below_size (by repeat (first | (with_reducible first | exact HB.out | apply below_alloc | apply pw_below_drewN | apply below_drew1) | exact HB.out))) : w.heap.size ≤ gb206)); have n3_ := Aside0.mk ((by rw [hg]; exact (below_size (by repeat (first | (with_reducible first | exact HB.out | apply below_alloc | apply pw_below_drewN | apply below_drew1) | exact HB.out))) : w.heap.size ≤ gb206)); clear HB; have HB := n0_; have BK206 := n1_; have GW206 := n2_; have GE206 := n3_; clear n0_ n1_ n2_ n3_; clear hb hbox hg; have p6 : 0 ≤ (0 : Int) := (by omega); have q6 : 0 < (a0.extract (a1 : Int).toNat a0.size).size := (by have : (0 : Int) < ((a0.extract (a1 : Int).toNat a0.size).size : Int) := of_decide_eq_true (by first | (with_reducible assumption) | assumption); omega); have hx6 : ∀ h : 0 < (a0.extract (a1 : Int).toNat a0.size).size, (((a0.extract (a1 : Int).toNat a0.size)[0]'h).toNat : Int) = bt (a0.extract (a1 : Int).toNat a0.size) 0 := bt_at (a0.extract (a1 : Int).toNat a0.size) 0; clear p6; have qi6 : (0 < ((a0.extract (a1 : Int).toNat a0.size).size : Int)) = True := eq_true (of_decide_eq_true (by first | (with_reducible assumption) | assumption)); replace q6 := eq_true q6) | ((with_reducible refine gate_callee (f := 56) rfl ?_); refine goesL_ (some 23) rfl rfl Tryd.func56 (by kernel_rfl) rfl #[.string (⟨#[123, 125, 91, 93, 58, 44]⟩ : ByteArray), .int .u8 (bt (a0.extract (a1 : Int).toNat a0.size) 0)] rfl (by (try simp only [List.map_toArray, List.map_cons, List.map_nil]); first | done | rfl | (simp only [List.length_drop, List.length_take]; rfl)) ?_; (with_reducible refine (strings_IndexByte.calls (⟨#[123, 125, 91, 93, 58, 44]⟩ : ByteArray) (bt (a0.extract (a1 : Int).toNat a0.size) 0) t207 _ A7.out).mono ?_); rintro e w' ⟨rfl, ⟨nd, rfl⟩⟩; refine ⟨_, rfl, ?_⟩; (try (rw [drewN_self w20]; generalize hq_ : World.drewN w20 _ = w20; have n0_ : Aside0 (w20.heap[gb206]? = some (.cells #[.int .i64 0, .string (⟨#[]⟩ : ByteArray), .int .i64 0] 30 (0, 0))) := ⟨by rw [← hq_]; exact (by (with_reducible repeat (first | refine blk_drewN ?_ _ | refine blk_drew ?_ | refine blk_alloc ?_ _)); exact BK206.out)⟩; have n1_ : Aside0 (Below w.heap.size w w20) := ⟨by rw [← hq_]; exact (by repeat (first | (with_reducible first | exact HB.out | apply below_alloc | apply pw_below_drewN | apply below_drew1 | refine below_set ?_ GE206.out) | exact HB.out))⟩; clear BK206 HB hq_; have BK206 := n0_; have HB := n1_; clear n0_ n1_))) | ((with_reducible refine gate_callee (f := 16) rfl ?_); refine goesL_ (some 37) rfl rfl Tryd.func16 (by kernel_rfl) rfl #[.string a0, .int .i64 a1] rfl (by (try simp only [List.map_toArray, List.map_cons, List.map_nil]); first | done | rfl | (simp only [List.length_drop, List.length_take]; rfl)) ?_; (with_reducible refine (esc_Unquote.calls a0 a1 t208 t209 t210 _ A14.out).mono ?_); rintro e w21 ⟨rfl, hb⟩; refine ⟨_, rfl, ?_⟩; have n0_ := Aside0.mk (blk_below (g := gb206) (o := .cells #[.int .i64 0, .string (⟨#[]⟩ : ByteArray), .int .i64 0] 30 (0, 0)) (by (with_reducible repeat (first | refine blk_drewN ?_ _ | refine blk_drew ?_ | refine blk_alloc ?_ _)); exact BK206.out) hb); have n1_ := Aside0.mk (below_step (by repeat (first | (with_reducible first | exact HB.out | apply below_alloc | apply pw_below_drewN | apply below_drew1 | refine below_set ?_ GE206.out) | exact HB.out)) hb); clear BK206; clear HB; have BK206 := n0_; have HB := n1_; clear n0_ n1_; (try clear hb); (try clear hb2); (try clear hk); (try clear hi); have hcz22_0 : w21.cell? ⟨gb206, 0, none⟩ = some (.int .i64 0) := (blk_cell BK206.out 0).trans rfl; have hcz22_1 : w21.cell? ⟨gb206, 1, none⟩ = some (.string (⟨#[]⟩ : ByteArray)) := (blk_cell BK206.out 1).trans rfl; have hcz22_2 : w21.cell? ⟨gb206, 2, none⟩ = some (.int .i64 0) := (blk_cell BK206.out 2).trans rfl; have hfz22_0 := blk_frozen BK206.out 0; have hfz22_1 := blk_frozen BK206.out 1; have hfz22_2 := blk_frozen BK206.out 2))
        refine bodyPost_ret (results_list (rs := [.cell 4 30, .tmp 5, .tmp 6, .tmp 7]) rfl (by simp) (.cell gb206 30 #[.int .i64 0, .string (⟨#[]⟩ : ByteArray), .int .i64 0] (0, 0) _ rfl (by (with_reducible repeat (first | refine blk_drewN ?_ _ | refine blk_drew ?_ | refine blk_alloc ?_ _)); refine blk_put (cs := #[.int .i64 0, .string (⟨#[]⟩ : ByteArray), .int .i64 0]) ?_ 2 _ rfl; (with_reducible repeat (first | refine blk_drewN ?_ _ | refine blk_drew ?_ | refine blk_alloc ?_ _)); refine blk_put (cs := #[.int .i64 0, .string (⟨#[]⟩ : ByteArray), .int .i64 0]) ?_ 1 _ rfl; (with_reducible repeat (first | refine blk_drewN ?_ _ | refine blk_drew ?_ | refine blk_alloc ?_ _)); refine blk_put (cs := #[.int .i64 0, .string (⟨#[]⟩ : ByteArray), .int .i64 0]) ?_ 0 _ rfl; (with_reducible repeat (first | refine blk_drewN ?_ _ | refine blk_drew ?_ | refine blk_alloc ?_ _)); exact BK206.out) Tryd.underlying30 rfl (by kernel_rfl) (.tmp (.tmp (.tmp .nil))))) rfl ?_
        exact ⟨by first | rfl | (simp [errW_none, errW_some] <;> rfl) | (simp [*, errW_none, errW_some, bne]; done) | (simp [*, errW_none, errW_some] <;> rfl), by repeat (first | (with_reducible first | exact HB.out | apply below_alloc | apply pw_below_drewN | apply below_drew1 | refine below_set ?_ GE206.out) | exact HB.out)⟩
       ·rw [if_neg c19] at H
        have c19b0 : decide (4096 < (t208.size : Int)) = false := decide_eq_false c19
        have c19b1 : decide (4096 < t208.size) = false := decide_eq_false (by omega)
        clear c19
        simp only [Option.some.injEq, Prod.mk.injEq] at H
        obtain ⟨rfl, rfl, rfl, rfl, rfl, rfl⟩ := H
        go_enter Tryd.func33, Tryd.ntmps33
        go_wp2_with (first | ((with_reducible refine gate_dst (N := 4) rfl ?_); refine box_event ?hg (N := 4) ?hd (cs := #[.int .i64 0, .string (⟨#[]⟩ : ByteArray), .int .i64 0]) (t := 30) ?hr ?_; (case hd => rfl); (case hg => rfl); (case hr => first | (go_simp; done) | (go_simp; rfl)); intro gb206 hg w23 hbox hb; have n0_ := Aside0.mk (below_step (by repeat (first | (with_reducible first | exact HB.out | apply below_alloc | apply pw_below_drewN | apply below_drew1) | exact HB.out)) hb); have n1_ := Aside0.mk (hbox); have n2_ := Aside0.mk ((by rw [hg]; exact (below_size (by repeat (first | (with_reducible first | exact HB.out | apply below_alloc | apply pw_below_drewN | apply below_drew1) | exact HB.out))) : w.heap.size ≤ gb206)); have n3_ := Aside0.mk ((by rw [hg]; exact (below_size (by repeat (first | (with_reducible first | exact HB.out | apply below_alloc | apply pw_below_drewN | apply below_drew1) | exact HB.out))) : w.heap.size ≤ gb206)); clear HB; have HB := n0_; have BK206 := n1_; have GW206 := n2_; have GE206 := n3_; clear n0_ n1_ n2_ n3_; clear hb hbox hg; have p6 : 0 ≤ (0 : Int) := (by omega); have q6 : 0 < (a0.extract (a1 : Int).toNat a0.size).size := (by have : (0 : Int) < ((a0.extract (a1 : Int).toNat a0.size).size : Int) := of_decide_eq_true (by first | (with_reducible assumption) | assumption); omega); have hx6 : ∀ h : 0 < (a0.extract (a1 : Int).toNat a0.size).size, (((a0.extract (a1 : Int).toNat a0.size)[0]'h).toNat : Int) = bt (a0.extract (a1 : Int).toNat a0.size) 0 := bt_at (a0.extract (a1 : Int).toNat a0.size) 0; clear p6; have qi6 : (0 < ((a0.extract (a1 : Int).toNat a0.size).size : Int)) = True := eq_true (of_decide_eq_true (by first | (with_reducible assumption) | assumption)); replace q6 := eq_true q6) | ((with_reducible refine gate_callee (f := 56) rfl ?_); refine goesL_ (some 23) rfl rfl Tryd.func56 (by kernel_rfl) rfl #[.string (⟨#[123, 125, 91, 93, 58, 44]⟩ : ByteArray), .int .u8 (bt (a0.extract (a1 : Int).toNat a0.size) 0)] rfl (by (try simp only [List.map_toArray, List.map_cons, List.map_nil]); first | done | rfl | (simp only [List.length_drop, List.length_take]; rfl)) ?_; (with_reducible refine (strings_IndexByte.calls (⟨#[123, 125, 91, 93, 58, 44]⟩ : ByteArray) (bt (a0.extract (a1 : Int).toNat a0.size) 0) t207 _ A7.out).mono ?_); rintro e w' ⟨rfl, ⟨nd, rfl⟩⟩; refine ⟨_, rfl, ?_⟩; (try (rw [drewN_self w23]; generalize hq_ : World.drewN w23 _ = w23; have n0_ : Aside0 (w23.heap[gb206]? = some (.cells #[.int .i64 0, .string (⟨#[]⟩ : ByteArray), .int .i64 0] 30 (0, 0))) := ⟨by rw [← hq_]; exact (by (with_reducible repeat (first | refine blk_drewN ?_ _ | refine blk_drew ?_ | refine blk_alloc ?_ _)); exact BK206.out)⟩; have n1_ : Aside0 (Below w.heap.size w w23) := ⟨by rw [← hq_]; exact (by repeat (first | (with_reducible first | exact HB.out | apply below_alloc | apply pw_below_drewN | apply below_drew1 | refine below_set ?_ GE206.out) | exact HB.out))⟩; clear BK206 HB hq_; have BK206 := n0_; have HB := n1_; clear n0_ n1_))) | ((with_reducible refine gate_callee (f := 16) rfl ?_); refine goesL_ (some 37) rfl rfl Tryd.func16 (by kernel_rfl) rfl #[.string a0, .int .i64 a1] rfl (by (try simp only [List.map_toArray, List.map_cons, List.map_nil]); first | done | rfl | (simp only [List.length_drop, List.length_take]; rfl)) ?_; (with_reducible refine (esc_Unquote.calls a0 a1 t208 t209 t210 _ A14.out).mono ?_); rintro e w24 ⟨rfl, hb⟩; refine ⟨_, rfl, ?_⟩; have n0_ := Aside0.mk (blk_below (g := gb206) (o := .cells #[.int .i64 0, .string (⟨#[]⟩ : ByteArray), .int .i64 0] 30 (0, 0)) (by (with_reducible repeat (first | refine blk_drewN ?_ _ | refine blk_drew ?_ | refine blk_alloc ?_ _)); exact BK206.out) hb); have n1_ := Aside0.mk (below_step (by repeat (first | (with_reducible first | exact HB.out | apply below_alloc | apply pw_below_drewN | apply below_drew1 | refine below_set ?_ GE206.out) | exact HB.out)) hb); clear BK206; clear HB; have BK206 := n0_; have HB := n1_; clear n0_ n1_; (try clear hb); (try clear hb2); (try clear hk); (try clear hi); have hcz25_0 : w24.cell? ⟨gb206, 0, none⟩ = some (.int .i64 0) := (blk_cell BK206.out 0).trans rfl; have hcz25_1 : w24.cell? ⟨gb206, 1, none⟩ = some (.string (⟨#[]⟩ : ByteArray)) := (blk_cell BK206.out 1).trans rfl; have hcz25_2 : w24.cell? ⟨gb206, 2, none⟩ = some (.int .i64 0) := (blk_cell BK206.out 2).trans rfl; have hfz25_0 := blk_frozen BK206.out 0; have hfz25_1 := blk_frozen BK206.out 1; have hfz25_2 := blk_frozen BK206.out 2))
        refine bodyPost_ret (results_list (rs := [.cell 4 30, .tmp 5, .tmp 6, .tmp 7]) rfl (by simp) (.cell gb206 30 #[.int .i64 2, .string t208, .int .i64 a1] (0, 0) _ rfl (by (with_reducible repeat (first | refine blk_drewN ?_ _ | refine blk_drew ?_ | refine blk_alloc ?_ _)); refine blk_put (cs := #[.int .i64 2, .string t208, .int .i64 0]) ?_ 2 _ rfl; (with_reducible repeat (first | refine blk_drewN ?_ _ | refine blk_drew ?_ | refine blk_alloc ?_ _)); refine blk_put (cs := #[.int .i64 2, .string (⟨#[]⟩ : ByteArray), .int .i64 0]) ?_ 1 _ rfl; (with_reducible repeat (first | refine blk_drewN ?_ _ | refine blk_drew ?_ | refine blk_alloc ?_ _)); refine blk_put (cs := #[.int .i64 0, .string (⟨#[]⟩ : ByteArray), .int .i64 0]) ?_ 0 _ rfl; (with_reducible repeat (first | refine blk_drewN ?_ _ | refine blk_drew ?_ | refine blk_alloc ?_ _)); exact BK206.out) Tryd.underlying30 rfl (by kernel_rfl) (.tmp (.tmp (.tmp .nil))))) rfl ?_
        exact ⟨by first | rfl | (simp [errW_none, errW_some] <;> rfl) | (simp [*, errW_none, errW_some, bne]; done) | (simp [*, errW_none, errW_some] <;> rfl), by repeat (first | (with_reducible first | exact HB.out | apply below_alloc | apply pw_below_drewN | apply below_drew1 | refine below_set ?_ GE206.out) | exact HB.out)⟩
     ·rw [if_neg c13] at H
      have c13b0 : ((bt (a0.extract (a1 : Int).toNat a0.size) 0) == 34) = false := beq_eq_false_iff_ne.mpr c13
      have c13b1 : ((bt (a0.extract (a1 : Int).toNat a0.size) 0) != 34) = true := bne_iff_ne.mpr c13
      have HC26 := Aside0.mk H
      clear H
      go_enter Tryd.func33, Tryd.ntmps33
      go_upto_region 12 with (first | ((with_reducible refine gate_dst (N := 4) rfl ?_); refine box_event ?hg (N := 4) ?hd (cs := #[.int .i64 0, .string (⟨#[]⟩ : ByteArray), .int .i64 0]) (t := 30) ?hr ?_; (case hd => rfl); (case hg => rfl); (case hr => first | (go_simp; done) | (go_simp; rfl)); intro gb206 hg w27 hbox hb; have n0_ := Aside0.mk (below_step (by repeat (first | (with_reducible first | exact HB.out | apply below_alloc | apply pw_below_drewN | apply below_drew1) | exact HB.out)) hb); have n1_ := Aside0.mk (hbox); have n2_ := Aside0.mk ((by rw [hg]; exact (below_size (by repeat (first | (with_reducible first | exact HB.out | apply below_alloc | apply pw_below_drewN | apply below_drew1) | exact HB.out))) : w.heap.size ≤ gb206)); have n3_ := Aside0.mk ((by rw [hg]; exact (below_size (by repeat (first | (with_reducible first | exact HB.out | apply below_alloc | apply pw_below_drewN | apply below_drew1) | exact HB.out))) : w.heap.size ≤ gb206)); clear HB; have HB := n0_; have BK206 := n1_; have GW206 := n2_; have GE206 := n3_; clear n0_ n1_ n2_ n3_; clear hb hbox hg; have p6 : 0 ≤ (0 : Int) := (by omega); have q6 : 0 < (a0.extract (a1 : Int).toNat a0.size).size := (by have : (0 : Int) < ((a0.extract (a1 : Int).toNat a0.size).size : Int) := of_decide_eq_true (by first | (with_reducible assumption) | assumption); omega); have hx6 : ∀ h : 0 < (a0.extract (a1 : Int).toNat a0.size).size, (((a0.extract (a1 : Int).toNat a0.size)[0]'h).toNat : Int) = bt (a0.extract (a1 : Int).toNat a0.size) 0 := bt_at (a0.extract (a1 : Int).toNat a0.size) 0; clear p6; have qi6 : (0 < ((a0.extract (a1 : Int).toNat a0.size).size : Int)) = True := eq_true (of_decide_eq_true (by first | (with_reducible assumption) | assumption)); replace q6 := eq_true q6) | ((with_reducible refine gate_callee (f := 56) rfl ?_); refine goesL_ (some 23) rfl rfl Tryd.func56 (by kernel_rfl) rfl #[.string (⟨#[123, 125, 91, 93, 58, 44]⟩ : ByteArray), .int .u8 (bt (a0.extract (a1 : Int).toNat a0.size) 0)] rfl (by (try simp only [List.map_toArray, List.map_cons, List.map_nil]); first | done | rfl | (simp only [List.length_drop, List.length_take]; rfl)) ?_; (with_reducible refine (strings_IndexByte.calls (⟨#[123, 125, 91, 93, 58, 44]⟩ : ByteArray) (bt (a0.extract (a1 : Int).toNat a0.size) 0) t207 _ A7.out).mono ?_); rintro e w' ⟨rfl, ⟨nd, rfl⟩⟩; refine ⟨_, rfl, ?_⟩))
      (try simp only [Act.put, List.setIfInBounds_toArray, List.set_cons_zero, List.set_cons_succ])
      go_cut [54] (fun v54 wc => ∃ (kq : Nat) (x54_25 : Bool), v54 = .bool x54_25 ∧ Aside0 (jlex_word.j0 kq a1 (a0.extract (a1 : Int).toNat a0.size) x54_25 = some (r1, r2, r3, r4, r5, r6)) ∧ Aside0 (kq ≤ k) ∧ Aside0 (wc.heap[gb206]? = some (.cells #[.int .i64 0, .string (⟨#[]⟩ : ByteArray), .int .i64 0] 30 (0, 0))) ∧ Aside0 (Below w.heap.size w wc))
      case first =>
       have H := HC26.out
       clear HC26
       by_cases c28 : (bt (a0.extract (a1 : Int).toNat a0.size) 0) ≥ 97
       ·rw [if_pos c28] at H
        have c28b0 : decide (97 ≤ (bt (a0.extract (a1 : Int).toNat a0.size) 0)) = true := decide_eq_true c28
        clear c28
        (first | rw [c28b0] | (simp only [i64_w, i32_w]; rw [c28b0]) | skip)
        have H' := Aside0.mk H
        clear H
        go_wp2
        go_meet
        case rel => exact ⟨_, (decide ((bt (a0.extract (a1 : Int).toNat a0.size) 0) ≤ 122)), (by first | rfl | (simp; done) | (simp [*]; done)), H', ⟨by first | omega | exact Nat.le_refl _⟩, ⟨by (with_reducible repeat (first | refine blk_drewN ?_ _ | refine blk_drew ?_ | refine blk_alloc ?_ _)); exact BK206.out⟩, ⟨by repeat (first | (with_reducible first | exact HB.out | apply below_alloc | apply pw_below_drewN | apply below_drew1 | refine below_set ?_ GE206.out) | exact HB.out)⟩⟩
       ·rw [if_neg c28] at H
        have c28b0 : decide (97 ≤ (bt (a0.extract (a1 : Int).toNat a0.size) 0)) = false := decide_eq_false c28
        clear c28
        (first | rw [c28b0] | (simp only [i64_w, i32_w]; rw [c28b0]) | skip)
        have H' := Aside0.mk H
        clear H
        go_wp2
        go_meet
        case rel => exact ⟨_, (false), (by first | rfl | (simp; done) | (simp [*]; done)), H', ⟨by first | omega | exact Nat.le_refl _⟩, ⟨by (with_reducible repeat (first | refine blk_drewN ?_ _ | refine blk_drew ?_ | refine blk_alloc ?_ _)); exact BK206.out⟩, ⟨by repeat (first | (with_reducible first | exact HB.out | apply below_alloc | apply pw_below_drewN | apply below_drew1 | refine below_set ?_ GE206.out) | exact HB.out)⟩⟩
      case rest =>
       clear HC26
       try clear c1
       try clear c2
       try clear p2
       try clear c3
       try clear c3b0
       try clear c3b1
       try clear c4
       try clear c4b0
       try clear c4b1
       try clear c5
       try clear c5b0
       try clear c5b1
       try clear p6
       try clear q6
       try clear hx6
       try clear qi6
       try clear c8
       try clear c8b0
       try clear c9
       try clear c9b0
       try clear c9b1
       try clear c10
       try clear c10b0
       try clear c10b1
       try clear c13
       try clear c13b0
       try clear c13b1
       try clear c15
       try clear c15b0
       try clear c16
       try clear c19
       try clear c19b0
       try clear c19b1
       try clear c28
       try clear c28b0
       try clear hcz12_0
       try clear hcz12_1
       try clear hcz12_2
       try clear hcz18_0
       try clear hcz18_1
       try clear hcz18_2
       try clear hcz22_0
       try clear hcz22_1
       try clear hcz22_2
       try clear hcz25_0
       try clear hcz25_1
       try clear hcz25_2
       try clear hfz12_0
       try clear hfz12_1
       try clear hfz12_2
       try clear hfz18_0
       try clear hfz18_1
       try clear hfz18_2
       try clear hfz22_0
       try clear hfz22_1
       try clear hfz22_2
       try clear hfz25_0
       try clear hfz25_1
       try clear hfz25_2
       try clear p6
       try clear q6
       obtain ⟨kq, x54_25, rfl, HA, HJ25, BK206, HB⟩ := hcut
       cases kq with
       | zero => exact absurd HA.out (by simp [jlex_word.j0])
       | succ kj25 =>
        have H := HA.out
        clear HA
        simp only [jlex_word.j0] at H
        by_cases c29 : x54_25 = true
        ·subst c29
         have H1 : ((jlex_while.f (a0.extract (a1 : Int).toNat a0.size) (⟨#[97, 98, 99, 100, 101, 102, 103, 104, 105, 106, 107, 108, 109, 110, 111, 112, 113, 114, 115, 116, 117, 118, 119, 120, 121, 122]⟩ : ByteArray)).bind fun t211 => (if 0 ≤ t211 then (if t211 ≤ ((a0.extract (a1 : Int).toNat a0.size).size : Int) then (if ((a0.extract (a1 : Int).toNat a0.size).extract 0 (t211 : Int).toNat).toList = ([116, 114, 117, 101] : List UInt8) then (some (4, (a0.extract (a1 : Int).toNat a0.size).extract 0 (t211 : Int).toNat, a1, wrap64 (a1 + (((a0.extract (a1 : Int).toNat a0.size).extract 0 (t211 : Int).toNat).size : Int)), 0, 0)) else (if ((a0.extract (a1 : Int).toNat a0.size).extract 0 (t211 : Int).toNat).toList = ([102, 97, 108, 115, 101] : List UInt8) then (some (4, (a0.extract (a1 : Int).toNat a0.size).extract 0 (t211 : Int).toNat, a1, wrap64 (a1 + (((a0.extract (a1 : Int).toNat a0.size).extract 0 (t211 : Int).toNat).size : Int)), 0, 0)) else (if ((a0.extract (a1 : Int).toNat a0.size).extract 0 (t211 : Int).toNat).toList = ([110, 117, 108, 108] : List UInt8) then (some (4, (a0.extract (a1 : Int).toNat a0.size).extract 0 (t211 : Int).toNat, a1, wrap64 (a1 + (((a0.extract (a1 : Int).toNat a0.size).extract 0 (t211 : Int).toNat).size : Int)), 0, 0)) else (some (0, (⟨#[]⟩ : ByteArray), 0, 0, 4, a1))))) else (none)) else (none))) = some (r1, r2, r3, r4, r5, r6) := by rw [if_pos rfl] at H; exact H
         clear H
         have H := H1
         clear H1
         replace H := Option.bind_eq_some_iff.mp H
         obtain ⟨t211, A300, H⟩ := H
         replace H : (if 0 ≤ t211 then (if t211 ≤ ((a0.extract (a1 : Int).toNat a0.size).size : Int) then (if ((a0.extract (a1 : Int).toNat a0.size).extract 0 (t211 : Int).toNat).toList = ([116, 114, 117, 101] : List UInt8) then (some (4, (a0.extract (a1 : Int).toNat a0.size).extract 0 (t211 : Int).toNat, a1, wrap64 (a1 + (((a0.extract (a1 : Int).toNat a0.size).extract 0 (t211 : Int).toNat).size : Int)), 0, 0)) else (if ((a0.extract (a1 : Int).toNat a0.size).extract 0 (t211 : Int).toNat).toList = ([102, 97, 108, 115, 101] : List UInt8) then (some (4, (a0.extract (a1 : Int).toNat a0.size).extract 0 (t211 : Int).toNat, a1, wrap64 (a1 + (((a0.extract (a1 : Int).toNat a0.size).extract 0 (t211 : Int).toNat).size : Int)), 0, 0)) else (if ((a0.extract (a1 : Int).toNat a0.size).extract 0 (t211 : Int).toNat).toList = ([110, 117, 108, 108] : List UInt8) then (some (4, (a0.extract (a1 : Int).toNat a0.size).extract 0 (t211 : Int).toNat, a1, wrap64 (a1 + (((a0.extract (a1 : Int).toNat a0.size).extract 0 (t211 : Int).toNat).size : Int)), 0, 0)) else (some (0, (⟨#[]⟩ : ByteArray), 0, 0, 4, a1))))) else (none)) else (none)) = some (r1, r2, r3, r4, r5, r6) := H
         have A30 := Aside0.mk A300
         clear A300
         by_cases c31 : 0 ≤ t211
         ·rw [if_pos c31] at H
          have c31b0 := eq_true c31
          have c31b1 : decide (0 ≤ t211) = true := decide_eq_true c31
          clear c31
          by_cases c32 : t211 ≤ ((a0.extract (a1 : Int).toNat a0.size).size : Int)
          ·rw [if_pos c32] at H
           have c32b0 := eq_true c32
           have c32b1 : decide (t211 ≤ ((a0.extract (a1 : Int).toNat a0.size).size : Int)) = true := decide_eq_true c32
           clear c32
           by_cases c33 : ((a0.extract (a1 : Int).toNat a0.size).extract 0 (t211 : Int).toNat).toList = ([116, 114, 117, 101] : List UInt8)
           ·rw [if_pos c33] at H
            have c33b0 : (((a0.extract (a1 : Int).toNat a0.size).extract 0 (t211 : Int).toNat).toList == ([116, 114, 117, 101] : List UInt8)) = true := beq_iff_eq.mpr c33
            have c33b1 : (((a0.extract (a1 : Int).toNat a0.size).extract 0 (t211 : Int).toNat).toList != ([116, 114, 117, 101] : List UInt8)) = false := bne_eq_false_iff_eq.mpr c33
            clear c33
            simp only [Option.some.injEq, Prod.mk.injEq] at H
            obtain ⟨rfl, rfl, rfl, rfl, rfl, rfl⟩ := H
            go_wp2_with (first | ((with_reducible refine gate_callee (f := 32) rfl ?_); refine goesL_ (some 63) rfl rfl Tryd.func32 (by kernel_rfl) rfl #[.string (a0.extract (a1 : Int).toNat a0.size), .string (⟨#[97, 98, 99, 100, 101, 102, 103, 104, 105, 106, 107, 108, 109, 110, 111, 112, 113, 114, 115, 116, 117, 118, 119, 120, 121, 122]⟩ : ByteArray)] rfl (by (try simp only [List.map_toArray, List.map_cons, List.map_nil]); first | done | rfl | (simp only [List.length_drop, List.length_take]; rfl)) ?_; (with_reducible refine (jlex_while.calls (a0.extract (a1 : Int).toNat a0.size) (⟨#[97, 98, 99, 100, 101, 102, 103, 104, 105, 106, 107, 108, 109, 110, 111, 112, 113, 114, 115, 116, 117, 118, 119, 120, 121, 122]⟩ : ByteArray) t211 _ A30.out).mono ?_); rintro e w34 ⟨rfl, hb⟩; refine ⟨_, rfl, ?_⟩; have n0_ := Aside0.mk (blk_below (g := gb206) (o := .cells #[.int .i64 0, .string (⟨#[]⟩ : ByteArray), .int .i64 0] 30 (0, 0)) (by (with_reducible repeat (first | refine blk_drewN ?_ _ | refine blk_drew ?_ | refine blk_alloc ?_ _)); exact BK206.out) hb); have n1_ := Aside0.mk (below_step (by repeat (first | (with_reducible first | exact HB.out | apply below_alloc | apply pw_below_drewN | apply below_drew1 | refine below_set ?_ GE206.out) | exact HB.out)) hb); clear BK206; clear HB; have BK206 := n0_; have HB := n1_; clear n0_ n1_; (try clear hb); (try clear hb2); (try clear hk); (try clear hi); have hcz35_0 : w34.cell? ⟨gb206, 0, none⟩ = some (.int .i64 0) := (blk_cell BK206.out 0).trans rfl; have hcz35_1 : w34.cell? ⟨gb206, 1, none⟩ = some (.string (⟨#[]⟩ : ByteArray)) := (blk_cell BK206.out 1).trans rfl; have hcz35_2 : w34.cell? ⟨gb206, 2, none⟩ = some (.int .i64 0) := (blk_cell BK206.out 2).trans rfl; have hfz35_0 := blk_frozen BK206.out 0; have hfz35_1 := blk_frozen BK206.out 1; have hfz35_2 := blk_frozen BK206.out 2))
            refine bodyPost_ret (results_list (rs := [.cell 4 30, .tmp 5, .tmp 6, .tmp 7]) rfl (by simp) (.cell gb206 30 #[.int .i64 4, .string ((a0.extract (a1 : Int).toNat a0.size).extract 0 (t211 : Int).toNat), .int .i64 a1] (0, 0) _ rfl (by (with_reducible repeat (first | refine blk_drewN ?_ _ | refine blk_drew ?_ | refine blk_alloc ?_ _)); refine blk_put (cs := #[.int .i64 4, .string ((a0.extract (a1 : Int).toNat a0.size).extract 0 (t211 : Int).toNat), .int .i64 0]) ?_ 2 _ rfl; (with_reducible repeat (first | refine blk_drewN ?_ _ | refine blk_drew ?_ | refine blk_alloc ?_ _)); refine blk_put (cs := #[.int .i64 4, .string (⟨#[]⟩ : ByteArray), .int .i64 0]) ?_ 1 _ rfl; (with_reducible repeat (first | refine blk_drewN ?_ _ | refine blk_drew ?_ | refine blk_alloc ?_ _)); refine blk_put (cs := #[.int .i64 0, .string (⟨#[]⟩ : ByteArray), .int .i64 0]) ?_ 0 _ rfl; (with_reducible repeat (first | refine blk_drewN ?_ _ | refine blk_drew ?_ | refine blk_alloc ?_ _)); exact BK206.out) Tryd.underlying30 rfl (by kernel_rfl) (.tmp (.tmp (.tmp .nil))))) rfl ?_
            exact ⟨by first | rfl | (simp [errW_none, errW_some] <;> rfl) | (simp [*, errW_none, errW_some, bne]; done) | (simp [*, errW_none, errW_some] <;> rfl), by repeat (first | (with_reducible first | exact HB.out | apply below_alloc | apply pw_below_drewN | apply below_drew1 | refine below_set ?_ GE206.out) | exact HB.out)⟩
           ·rw [if_neg c33] at H
            have c33b0 : (((a0.extract (a1 : Int).toNat a0.size).extract 0 (t211 : Int).toNat).toList == ([116, 114, 117, 101] : List UInt8)) = false := beq_eq_false_iff_ne.mpr c33
            have c33b1 : (((a0.extract (a1 : Int).toNat a0.size).extract 0 (t211 : Int).toNat).toList != ([116, 114, 117, 101] : List UInt8)) = true := bne_iff_ne.mpr c33
            by_cases c36 : ((a0.extract (a1 : Int).toNat a0.size).extract 0 (t211 : Int).toNat).toList = ([102, 97, 108, 115, 101] : List UInt8)
            ·rw [if_pos c36] at H
             have c36b0 : (((a0.extract (a1 : Int).toNat a0.size).extract 0 (t211 : Int).toNat).toList == ([102, 97, 108, 115, 101] : List UInt8)) = true := beq_iff_eq.mpr c36
             have c36b1 : (((a0.extract (a1 : Int).toNat a0.size).extract 0 (t211 : Int).toNat).toList != ([102, 97, 108, 115, 101] : List UInt8)) = false := bne_eq_false_iff_eq.mpr c36
             clear c36
             simp only [Option.some.injEq, Prod.mk.injEq] at H
             obtain ⟨rfl, rfl, rfl, rfl, rfl, rfl⟩ := H
             go_wp2_with (first | ((with_reducible refine gate_callee (f := 32) rfl ?_); refine goesL_ (some 63) rfl rfl Tryd.func32 (by kernel_rfl) rfl #[.string (a0.extract (a1 : Int).toNat a0.size), .string (⟨#[97, 98, 99, 100, 101, 102, 103, 104, 105, 106, 107, 108, 109, 110, 111, 112, 113, 114, 115, 116, 117, 118, 119, 120, 121, 122]⟩ : ByteArray)] rfl (by (try simp only [List.map_toArray, List.map_cons, List.map_nil]); first | done | rfl | (simp only [List.length_drop, List.length_take]; rfl)) ?_; (with_reducible refine (jlex_while.calls (a0.extract (a1 : Int).toNat a0.size) (⟨#[97, 98, 99, 100, 101, 102, 103, 104, 105, 106, 107, 108, 109, 110, 111, 112, 113, 114, 115, 116, 117, 118, 119, 120, 121, 122]⟩ : ByteArray) t211 _ A30.out).mono ?_); rintro e w37 ⟨rfl, hb⟩; refine ⟨_, rfl, ?_⟩; have n0_ := Aside0.mk (blk_below (g := gb206) (o := .cells #[.int .i64 0, .string (⟨#[]⟩ : ByteArray), .int .i64 0] 30 (0, 0)) (by (with_reducible repeat (first | refine blk_drewN ?_ _ | refine blk_drew ?_ | refine blk_alloc ?_ _)); exact BK206.out) hb); have n1_ := Aside0.mk (below_step (by repeat (first | (with_reducible first | exact HB.out | apply below_alloc | apply pw_below_drewN | apply below_drew1 | refine below_set ?_ GE206.out) | exact HB.out)) hb); clear BK206; clear HB; have BK206 := n0_; have HB := n1_; clear n0_ n1_; (try clear hb); (try clear hb2); (try clear hk); (try clear hi); have hcz38_0 : w37.cell? ⟨gb206, 0, none⟩ = some (.int .i64 0) := (blk_cell BK206.out 0).trans rfl; have hcz38_1 : w37.cell? ⟨gb206, 1, none⟩ = some (.string (⟨#[]⟩ : ByteArray)) := (blk_cell BK206.out 1).trans rfl; have hcz38_2 : w37.cell? ⟨gb206, 2, none⟩ = some (.int .i64 0) := (blk_cell BK206.out 2).trans rfl; have hfz38_0 := blk_frozen BK206.out 0; have hfz38_1 := blk_frozen BK206.out 1; have hfz38_2 := blk_frozen BK206.out 2))
             refine bodyPost_ret (results_list (rs := [.cell 4 30, .tmp 5, .tmp 6, .tmp 7]) rfl (by simp) (.cell gb206 30 #[.int .i64 4, .string ((a0.extract (a1 : Int).toNat a0.size).extract 0 (t211 : Int).toNat), .int .i64 a1] (0, 0) _ rfl (by (with_reducible repeat (first | refine blk_drewN ?_ _ | refine blk_drew ?_ | refine blk_alloc ?_ _)); refine blk_put (cs := #[.int .i64 4, .string ((a0.extract (a1 : Int).toNat a0.size).extract 0 (t211 : Int).toNat), .int .i64 0]) ?_ 2 _ rfl; (with_reducible repeat (first | refine blk_drewN ?_ _ | refine blk_drew ?_ | refine blk_alloc ?_ _)); refine blk_put (cs := #[.int .i64 4, .string (⟨#[]⟩ : ByteArray), .int .i64 0]) ?_ 1 _ rfl; (with_reducible repeat (first | refine blk_drewN ?_ _ | refine blk_drew ?_ | refine blk_alloc ?_ _)); refine blk_put (cs := #[.int .i64 0, .string (⟨#[]⟩ : ByteArray), .int .i64 0]) ?_ 0 _ rfl; (with_reducible repeat (first | refine blk_drewN ?_ _ | refine blk_drew ?_ | refine blk_alloc ?_ _)); exact BK206.out) Tryd.underlying30 rfl (by kernel_rfl) (.tmp (.tmp (.tmp .nil))))) rfl ?_
             exact ⟨by first | rfl | (simp [errW_none, errW_some] <;> rfl) | (simp [*, errW_none, errW_some, bne]; done) | (simp [*, errW_none, errW_some] <;> rfl), by repeat (first | (with_reducible first | exact HB.out | apply below_alloc | apply pw_below_drewN | apply below_drew1 | refine below_set ?_ GE206.out) | exact HB.out)⟩
            ·rw [if_neg c36] at H
             have c36b0 : (((a0.extract (a1 : Int).toNat a0.size).extract 0 (t211 : Int).toNat).toList == ([102, 97, 108, 115, 101] : List UInt8)) = false := beq_eq_false_iff_ne.mpr c36
             have c36b1 : (((a0.extract (a1 : Int).toNat a0.size).extract 0 (t211 : Int).toNat).toList != ([102, 97, 108, 115, 101] : List UInt8)) = true := bne_iff_ne.mpr c36
             by_cases c39 : ((a0.extract (a1 : Int).toNat a0.size).extract 0 (t211 : Int).toNat).toList = ([110, 117, 108, 108] : List UInt8)
             ·rw [if_pos c39] at H
              have c39b0 : (((a0.extract (a1 : Int).toNat a0.size).extract 0 (t211 : Int).toNat).toList == ([110, 117, 108, 108] : List UInt8)) = true := beq_iff_eq.mpr c39
              have c39b1 : (((a0.extract (a1 : Int).toNat a0.size).extract 0 (t211 : Int).toNat).toList != ([110, 117, 108, 108] : List UInt8)) = false := bne_eq_false_iff_eq.mpr c39
              clear c39
              simp only [Option.some.injEq, Prod.mk.injEq] at H
              obtain ⟨rfl, rfl, rfl, rfl, rfl, rfl⟩ := H
              go_wp2_with (first | ((with_reducible refine gate_callee (f := 32) rfl ?_); refine goesL_ (some 63) rfl rfl Tryd.func32 (by kernel_rfl) rfl #[.string (a0.extract (a1 : Int).toNat a0.size), .string (⟨#[97, 98, 99, 100, 101, 102, 103, 104, 105, 106, 107, 108, 109, 110, 111, 112, 113, 114, 115, 116, 117, 118, 119, 120, 121, 122]⟩ : ByteArray)] rfl (by (try simp only [List.map_toArray, List.map_cons, List.map_nil]); first | done | rfl | (simp only [List.length_drop, List.length_take]; rfl)) ?_; (with_reducible refine (jlex_while.calls (a0.extract (a1 : Int).toNat a0.size) (⟨#[97, 98, 99, 100, 101, 102, 103, 104, 105, 106, 107, 108, 109, 110, 111, 112, 113, 114, 115, 116, 117, 118, 119, 120, 121, 122]⟩ : ByteArray) t211 _ A30.out).mono ?_); rintro e w40 ⟨rfl, hb⟩; refine ⟨_, rfl, ?_⟩; have n0_ := Aside0.mk (blk_below (g := gb206) (o := .cells #[.int .i64 0, .string (⟨#[]⟩ : ByteArray), .int .i64 0] 30 (0, 0)) (by (with_reducible repeat (first | refine blk_drewN ?_ _ | refine blk_drew ?_ | refine blk_alloc ?_ _)); exact BK206.out) hb); have n1_ := Aside0.mk (below_step (by repeat (first | (with_reducible first | exact HB.out | apply below_alloc | apply pw_below_drewN | apply below_drew1 | refine below_set ?_ GE206.out) | exact HB.out)) hb); clear BK206; clear HB; have BK206 := n0_; have HB := n1_; clear n0_ n1_; (try clear hb); (try clear hb2); (try clear hk); (try clear hi); have hcz41_0 : w40.cell? ⟨gb206, 0, none⟩ = some (.int .i64 0) := (blk_cell BK206.out 0).trans rfl; have hcz41_1 : w40.cell? ⟨gb206, 1, none⟩ = some (.string (⟨#[]⟩ : ByteArray)) := (blk_cell BK206.out 1).trans rfl; have hcz41_2 : w40.cell? ⟨gb206, 2, none⟩ = some (.int .i64 0) := (blk_cell BK206.out 2).trans rfl; have hfz41_0 := blk_frozen BK206.out 0; have hfz41_1 := blk_frozen BK206.out 1; have hfz41_2 := blk_frozen BK206.out 2))
              refine bodyPost_ret (results_list (rs := [.cell 4 30, .tmp 5, .tmp 6, .tmp 7]) rfl (by simp) (.cell gb206 30 #[.int .i64 4, .string ((a0.extract (a1 : Int).toNat a0.size).extract 0 (t211 : Int).toNat), .int .i64 a1] (0, 0) _ rfl (by (with_reducible repeat (first | refine blk_drewN ?_ _ | refine blk_drew ?_ | refine blk_alloc ?_ _)); refine blk_put (cs := #[.int .i64 4, .string ((a0.extract (a1 : Int).toNat a0.size).extract 0 (t211 : Int).toNat), .int .i64 0]) ?_ 2 _ rfl; (with_reducible repeat (first | refine blk_drewN ?_ _ | refine blk_drew ?_ | refine blk_alloc ?_ _)); refine blk_put (cs := #[.int .i64 4, .string (⟨#[]⟩ : ByteArray), .int .i64 0]) ?_ 1 _ rfl; (with_reducible repeat (first | refine blk_drewN ?_ _ | refine blk_drew ?_ | refine blk_alloc ?_ _)); refine blk_put (cs := #[.int .i64 0, .string (⟨#[]⟩ : ByteArray), .int .i64 0]) ?_ 0 _ rfl; (with_reducible repeat (first | refine blk_drewN ?_ _ | refine blk_drew ?_ | refine blk_alloc ?_ _)); exact BK206.out) Tryd.underlying30 rfl (by kernel_rfl) (.tmp (.tmp (.tmp .nil))))) rfl ?_
              exact ⟨by first | rfl | (simp [errW_none, errW_some] <;> rfl) | (simp [*, errW_none, errW_some, bne]; done) | (simp [*, errW_none, errW_some] <;> rfl), by repeat (first | (with_reducible first | exact HB.out | apply below_alloc | apply pw_below_drewN | apply below_drew1 | refine below_set ?_ GE206.out) | exact HB.out)⟩
             ·rw [if_neg c39] at H
              have c39b0 : (((a0.extract (a1 : Int).toNat a0.size).extract 0 (t211 : Int).toNat).toList == ([110, 117, 108, 108] : List UInt8)) = false := beq_eq_false_iff_ne.mpr c39
              have c39b1 : (((a0.extract (a1 : Int).toNat a0.size).extract 0 (t211 : Int).toNat).toList != ([110, 117, 108, 108] : List UInt8)) = true := bne_iff_ne.mpr c39
              simp only [Option.some.injEq, Prod.mk.injEq] at H
              obtain ⟨rfl, rfl, rfl, rfl, rfl, rfl⟩ := H
              go_wp2_with (first | ((with_reducible refine gate_callee (f := 32) rfl ?_); refine goesL_ (some 63) rfl rfl Tryd.func32 (by kernel_rfl) rfl #[.string (a0.extract (a1 : Int).toNat a0.size), .string (⟨#[97, 98, 99, 100, 101, 102, 103, 104, 105, 106, 107, 108, 109, 110, 111, 112, 113, 114, 115, 116, 117, 118, 119, 120, 121, 122]⟩ : ByteArray)] rfl (by (try simp only [List.map_toArray, List.map_cons, List.map_nil]); first | done | rfl | (simp only [List.length_drop, List.length_take]; rfl)) ?_; (with_reducible refine (jlex_while.calls (a0.extract (a1 : Int).toNat a0.size) (⟨#[97, 98, 99, 100, 101, 102, 103, 104, 105, 106, 107, 108, 109, 110, 111, 112, 113, 114, 115, 116, 117, 118, 119, 120, 121, 122]⟩ : ByteArray) t211 _ A30.out).mono ?_); rintro e w42 ⟨rfl, hb⟩; refine ⟨_, rfl, ?_⟩; have n0_ := Aside0.mk (blk_below (g := gb206) (o := .cells #[.int .i64 0, .string (⟨#[]⟩ : ByteArray), .int .i64 0] 30 (0, 0)) (by (with_reducible repeat (first | refine blk_drewN ?_ _ | refine blk_drew ?_ | refine blk_alloc ?_ _)); exact BK206.out) hb); have n1_ := Aside0.mk (below_step (by repeat (first | (with_reducible first | exact HB.out | apply below_alloc | apply pw_below_drewN | apply below_drew1 | refine below_set ?_ GE206.out) | exact HB.out)) hb); clear BK206; clear HB; have BK206 := n0_; have HB := n1_; clear n0_ n1_; (try clear hb); (try clear hb2); (try clear hk); (try clear hi); have hcz43_0 : w42.cell? ⟨gb206, 0, none⟩ = some (.int .i64 0) := (blk_cell BK206.out 0).trans rfl; have hcz43_1 : w42.cell? ⟨gb206, 1, none⟩ = some (.string (⟨#[]⟩ : ByteArray)) := (blk_cell BK206.out 1).trans rfl; have hcz43_2 : w42.cell? ⟨gb206, 2, none⟩ = some (.int .i64 0) := (blk_cell BK206.out 2).trans rfl; have hfz43_0 := blk_frozen BK206.out 0; have hfz43_1 := blk_frozen BK206.out 1; have hfz43_2 := blk_frozen BK206.out 2))
              refine bodyPost_ret (results_list (rs := [.cell 4 30, .tmp 5, .tmp 6, .tmp 7]) rfl (by simp) (.cell gb206 30 #[.int .i64 0, .string (⟨#[]⟩ : ByteArray), .int .i64 0] (0, 0) _ rfl (by (with_reducible repeat (first | refine blk_drewN ?_ _ | refine blk_drew ?_ | refine blk_alloc ?_ _)); refine blk_put (cs := #[.int .i64 0, .string (⟨#[]⟩ : ByteArray), .int .i64 0]) ?_ 2 _ rfl; (with_reducible repeat (first | refine blk_drewN ?_ _ | refine blk_drew ?_ | refine blk_alloc ?_ _)); refine blk_put (cs := #[.int .i64 0, .string (⟨#[]⟩ : ByteArray), .int .i64 0]) ?_ 1 _ rfl; (with_reducible repeat (first | refine blk_drewN ?_ _ | refine blk_drew ?_ | refine blk_alloc ?_ _)); refine blk_put (cs := #[.int .i64 0, .string (⟨#[]⟩ : ByteArray), .int .i64 0]) ?_ 0 _ rfl; (with_reducible repeat (first | refine blk_drewN ?_ _ | refine blk_drew ?_ | refine blk_alloc ?_ _)); exact BK206.out) Tryd.underlying30 rfl (by kernel_rfl) (.tmp (.tmp (.tmp .nil))))) rfl ?_
              exact ⟨by first | rfl | (simp [errW_none, errW_some] <;> rfl) | (simp [*, errW_none, errW_some, bne]; done) | (simp [*, errW_none, errW_some] <;> rfl), by repeat (first | (with_reducible first | exact HB.out | apply below_alloc | apply pw_below_drewN | apply below_drew1 | refine below_set ?_ GE206.out) | exact HB.out)⟩
          ·rw [if_neg c32] at H
           exact absurd H (by simp)
         ·rw [if_neg c31] at H
          exact absurd H (by simp)
        ·replace c29 := Bool.eq_false_iff.mpr c29
         subst c29
         have H1 : ((jlex_while.f (a0.extract (a1 : Int).toNat a0.size) (⟨#[48, 49, 50, 51, 52, 53, 54, 55, 56, 57, 43, 45, 46, 101, 69]⟩ : ByteArray)).bind fun t212 => (if 0 ≤ t212 then (if t212 ≤ ((a0.extract (a1 : Int).toNat a0.size).size : Int) then (if ((a0.extract (a1 : Int).toNat a0.size).extract 0 (t212 : Int).toNat).toList = ([] : List UInt8) then (some (0, (⟨#[]⟩ : ByteArray), 0, 0, 4, a1)) else ((jlex_number.f kj25 ((a0.extract (a1 : Int).toNat a0.size).extract 0 (t212 : Int).toNat)).bind fun t213 => (if t213 = 0 then (some (3, (a0.extract (a1 : Int).toNat a0.size).extract 0 (t212 : Int).toNat, a1, wrap64 (a1 + (((a0.extract (a1 : Int).toNat a0.size).extract 0 (t212 : Int).toNat).size : Int)), 0, 0)) else (some (0, (⟨#[]⟩ : ByteArray), 0, 0, t213, a1))))) else (none)) else (none))) = some (r1, r2, r3, r4, r5, r6) := by rw [if_neg (show ¬ (false = true) by decide)] at H; exact H
         clear H
         have H := H1
         clear H1
         replace H := Option.bind_eq_some_iff.mp H
         obtain ⟨t212, A440, H⟩ := H
         replace H : (if 0 ≤ t212 then (if t212 ≤ ((a0.extract (a1 : Int).toNat a0.size).size : Int) then (if ((a0.extract (a1 : Int).toNat a0.size).extract 0 (t212 : Int).toNat).toList = ([] : List UInt8) then (some (0, (⟨#[]⟩ : ByteArray), 0, 0, 4, a1)) else ((jlex_number.f kj25 ((a0.extract (a1 : Int).toNat a0.size).extract 0 (t212 : Int).toNat)).bind fun t213 => (if t213 = 0 then (some (3, (a0.extract (a1 : Int).toNat a0.size).extract 0 (t212 : Int).toNat, a1, wrap64 (a1 + (((a0.extract (a1 : Int).toNat a0.size).extract 0 (t212 : Int).toNat).size : Int)), 0, 0)) else (some (0, (⟨#[]⟩ : ByteArray), 0, 0, t213, a1))))) else (none)) else (none)) = some (r1, r2, r3, r4, r5, r6) := H
         have A44 := Aside0.mk A440
         clear A440
         by_cases c45 : 0 ≤ t212
         ·rw [if_pos c45] at H
          have c45b0 := eq_true c45
          have c45b1 : decide (0 ≤ t212) = true := decide_eq_true c45
          clear c45
          by_cases c46 : t212 ≤ ((a0.extract (a1 : Int).toNat a0.size).size : Int)
          ·rw [if_pos c46] at H
           have c46b0 := eq_true c46
           have c46b1 : decide (t212 ≤ ((a0.extract (a1 : Int).toNat a0.size).size : Int)) = true := decide_eq_true c46
           clear c46
           by_cases c47 : ((a0.extract (a1 : Int).toNat a0.size).extract 0 (t212 : Int).toNat).toList = ([] : List UInt8)
           ·rw [if_pos c47] at H
            have c47b0 : (((a0.extract (a1 : Int).toNat a0.size).extract 0 (t212 : Int).toNat).toList == ([] : List UInt8)) = true := beq_iff_eq.mpr c47
            have c47b1 : (((a0.extract (a1 : Int).toNat a0.size).extract 0 (t212 : Int).toNat).toList != ([] : List UInt8)) = false := bne_eq_false_iff_eq.mpr c47
            have c47b2 : ((a0.extract (a1 : Int).toNat a0.size).extract 0 (t212 : Int).toNat).toList.isEmpty = true := List.isEmpty_iff.mpr c47
            (try simp only [c47b2, Bool.not_true, Bool.not_false])
            clear c47
            simp only [Option.some.injEq, Prod.mk.injEq] at H
            obtain ⟨rfl, rfl, rfl, rfl, rfl, rfl⟩ := H
            go_wp2_with (first | ((with_reducible refine gate_callee (f := 32) rfl ?_); refine goesL_ (some 86) rfl rfl Tryd.func32 (by kernel_rfl) rfl #[.string (a0.extract (a1 : Int).toNat a0.size), .string (⟨#[48, 49, 50, 51, 52, 53, 54, 55, 56, 57, 43, 45, 46, 101, 69]⟩ : ByteArray)] rfl (by (try simp only [List.map_toArray, List.map_cons, List.map_nil]); first | done | rfl | (simp only [List.length_drop, List.length_take]; rfl)) ?_; (with_reducible refine (jlex_while.calls (a0.extract (a1 : Int).toNat a0.size) (⟨#[48, 49, 50, 51, 52, 53, 54, 55, 56, 57, 43, 45, 46, 101, 69]⟩ : ByteArray) t212 _ A44.out).mono ?_); rintro e w48 ⟨rfl, hb⟩; refine ⟨_, rfl, ?_⟩; have n0_ := Aside0.mk (blk_below (g := gb206) (o := .cells #[.int .i64 0, .string (⟨#[]⟩ : ByteArray), .int .i64 0] 30 (0, 0)) (by (with_reducible repeat (first | refine blk_drewN ?_ _ | refine blk_drew ?_ | refine blk_alloc ?_ _)); exact BK206.out) hb); have n1_ := Aside0.mk (below_step (by repeat (first | (with_reducible first | exact HB.out | apply below_alloc | apply pw_below_drewN | apply below_drew1 | refine below_set ?_ GE206.out) | exact HB.out)) hb); clear BK206; clear HB; have BK206 := n0_; have HB := n1_; clear n0_ n1_; (try clear hb); (try clear hb2); (try clear hk); (try clear hi); have hcz49_0 : w48.cell? ⟨gb206, 0, none⟩ = some (.int .i64 0) := (blk_cell BK206.out 0).trans rfl; have hcz49_1 : w48.cell? ⟨gb206, 1, none⟩ = some (.string (⟨#[]⟩ : ByteArray)) := (blk_cell BK206.out 1).trans rfl; have hcz49_2 : w48.cell? ⟨gb206, 2, none⟩ = some (.int .i64 0) := (blk_cell BK206.out 2).trans rfl; have hfz49_0 := blk_frozen BK206.out 0; have hfz49_1 := blk_frozen BK206.out 1; have hfz49_2 := blk_frozen BK206.out 2))
            refine bodyPost_ret (results_list (rs := [.cell 4 30, .tmp 5, .tmp 6, .tmp 7]) rfl (by simp) (.cell gb206 30 #[.int .i64 0, .string (⟨#[]⟩ : ByteArray), .int .i64 0] (0, 0) _ rfl (by (with_reducible repeat (first | refine blk_drewN ?_ _ | refine blk_drew ?_ | refine blk_alloc ?_ _)); refine blk_put (cs := #[.int .i64 0, .string (⟨#[]⟩ : ByteArray), .int .i64 0]) ?_ 2 _ rfl; (with_reducible repeat (first | refine blk_drewN ?_ _ | refine blk_drew ?_ | refine blk_alloc ?_ _)); refine blk_put (cs := #[.int .i64 0, .string (⟨#[]⟩ : ByteArray), .int .i64 0]) ?_ 1 _ rfl; (with_reducible repeat (first | refine blk_drewN ?_ _ | refine blk_drew ?_ | refine blk_alloc ?_ _)); refine blk_put (cs := #[.int .i64 0, .string (⟨#[]⟩ : ByteArray), .int .i64 0]) ?_ 0 _ rfl; (with_reducible repeat (first | refine blk_drewN ?_ _ | refine blk_drew ?_ | refine blk_alloc ?_ _)); exact BK206.out) Tryd.underlying30 rfl (by kernel_rfl) (.tmp (.tmp (.tmp .nil))))) rfl ?_
            exact ⟨by first | rfl | (simp [errW_none, errW_some] <;> rfl) | (simp [*, errW_none, errW_some, bne]; done) | (simp [*, errW_none, errW_some] <;> rfl), by repeat (first | (with_reducible first | exact HB.out | apply below_alloc | apply pw_below_drewN | apply below_drew1 | refine below_set ?_ GE206.out) | exact HB.out)⟩
           ·rw [if_neg c47] at H
            have c47b0 : (((a0.extract (a1 : Int).toNat a0.size).extract 0 (t212 : Int).toNat).toList == ([] : List UInt8)) = false := beq_eq_false_iff_ne.mpr c47
            have c47b1 : (((a0.extract (a1 : Int).toNat a0.size).extract 0 (t212 : Int).toNat).toList != ([] : List UInt8)) = true := bne_iff_ne.mpr c47
            have c47b2 : ((a0.extract (a1 : Int).toNat a0.size).extract 0 (t212 : Int).toNat).toList.isEmpty = false := List.isEmpty_eq_false_iff.mpr c47
            (try simp only [c47b2, Bool.not_true, Bool.not_false])
            replace H := Option.bind_eq_some_iff.mp H
            obtain ⟨t213, A500, H⟩ := H
            replace H : (if t213 = 0 then (some (3, (a0.extract (a1 : Int).toNat a0.size).extract 0 (t212 : Int).toNat, a1, wrap64 (a1 + (((a0.extract (a1 : Int).toNat a0.size).extract 0 (t212 : Int).toNat).size : Int)), 0, 0)) else (some (0, (⟨#[]⟩ : ByteArray), 0, 0, t213, a1))) = some (r1, r2, r3, r4, r5, r6) := H
            have A50 := Aside0.mk A500
            clear A500
            by_cases c51 : t213 = 0
            ·rw [if_pos c51] at H
             have c51b0 : (t213 == 0) = true := beq_iff_eq.mpr c51
             have c51b1 : (t213 != 0) = false := bne_eq_false_iff_eq.mpr c51
             clear c51
             simp only [Option.some.injEq, Prod.mk.injEq] at H
             obtain ⟨rfl, rfl, rfl, rfl, rfl, rfl⟩ := H
             go_wp2_with (first | ((with_reducible refine gate_callee (f := 32) rfl ?_); refine goesL_ (some 86) rfl rfl Tryd.func32 (by kernel_rfl) rfl #[.string (a0.extract (a1 : Int).toNat a0.size), .string (⟨#[48, 49, 50, 51, 52, 53, 54, 55, 56, 57, 43, 45, 46, 101, 69]⟩ : ByteArray)] rfl (by (try simp only [List.map_toArray, List.map_cons, List.map_nil]); first | done | rfl | (simp only [List.length_drop, List.length_take]; rfl)) ?_; (with_reducible refine (jlex_while.calls (a0.extract (a1 : Int).toNat a0.size) (⟨#[48, 49, 50, 51, 52, 53, 54, 55, 56, 57, 43, 45, 46, 101, 69]⟩ : ByteArray) t212 _ A44.out).mono ?_); rintro e w52 ⟨rfl, hb⟩; refine ⟨_, rfl, ?_⟩; have n0_ := Aside0.mk (blk_below (g := gb206) (o := .cells #[.int .i64 0, .string (⟨#[]⟩ : ByteArray), .int .i64 0] 30 (0, 0)) (by (with_reducible repeat (first | refine blk_drewN ?_ _ | refine blk_drew ?_ | refine blk_alloc ?_ _)); exact BK206.out) hb); have n1_ := Aside0.mk (below_step (by repeat (first | (with_reducible first | exact HB.out | apply below_alloc | apply pw_below_drewN | apply below_drew1 | refine below_set ?_ GE206.out) | exact HB.out)) hb); clear BK206; clear HB; have BK206 := n0_; have HB := n1_; clear n0_ n1_; (try clear hb); (try clear hb2); (try clear hk); (try clear hi)) | ((with_reducible refine gate_callee (f := 57) rfl ?_); refine goesL_ (some 93) rfl rfl Tryd.func57 (by kernel_rfl) rfl #[.string ((a0.extract (a1 : Int).toNat a0.size).extract 0 (t212 : Int).toNat)] rfl (by (try simp only [List.map_toArray, List.map_cons, List.map_nil]); first | done | rfl | (simp only [List.length_drop, List.length_take]; rfl)) ?_; (with_reducible refine (jlex_number.calls kj25 ((a0.extract (a1 : Int).toNat a0.size).extract 0 (t212 : Int).toNat) t213 _ A50.out).mono ?_); rintro e w53 ⟨rfl, hb⟩; refine ⟨_, rfl, ?_⟩; have n0_ := Aside0.mk (blk_below (g := gb206) (o := .cells #[.int .i64 0, .string (⟨#[]⟩ : ByteArray), .int .i64 0] 30 (0, 0)) (by (with_reducible repeat (first | refine blk_drewN ?_ _ | refine blk_drew ?_ | refine blk_alloc ?_ _)); exact BK206.out) hb); have n1_ := Aside0.mk (below_step (by repeat (first | (with_reducible first | exact HB.out | apply below_alloc | apply pw_below_drewN | apply below_drew1 | refine below_set ?_ GE206.out) | exact HB.out)) hb); clear BK206; clear HB; have BK206 := n0_; have HB := n1_; clear n0_ n1_; (try clear hb); (try clear hb2); (try clear hk); (try clear hi); have hcz54_0 : w53.cell? ⟨gb206, 0, none⟩ = some (.int .i64 0) := (blk_cell BK206.out 0).trans rfl; have hcz54_1 : w53.cell? ⟨gb206, 1, none⟩ = some (.string (⟨#[]⟩ : ByteArray)) := (blk_cell BK206.out 1).trans rfl; have hcz54_2 : w53.cell? ⟨gb206, 2, none⟩ = some (.int .i64 0) := (blk_cell BK206.out 2).trans rfl; have hfz54_0 := blk_frozen BK206.out 0; have hfz54_1 := blk_frozen BK206.out 1; have hfz54_2 := blk_frozen BK206.out 2))
             refine bodyPost_ret (results_list (rs := [.cell 4 30, .tmp 5, .tmp 6, .tmp 7]) rfl (by simp) (.cell gb206 30 #[.int .i64 3, .string ((a0.extract (a1 : Int).toNat a0.size).extract 0 (t212 : Int).toNat), .int .i64 a1] (0, 0) _ rfl (by (with_reducible repeat (first | refine blk_drewN ?_ _ | refine blk_drew ?_ | refine blk_alloc ?_ _)); refine blk_put (cs := #[.int .i64 3, .string ((a0.extract (a1 : Int).toNat a0.size).extract 0 (t212 : Int).toNat), .int .i64 0]) ?_ 2 _ rfl; (with_reducible repeat (first | refine blk_drewN ?_ _ | refine blk_drew ?_ | refine blk_alloc ?_ _)); refine blk_put (cs := #[.int .i64 3, .string (⟨#[]⟩ : ByteArray), .int .i64 0]) ?_ 1 _ rfl; (with_reducible repeat (first | refine blk_drewN ?_ _ | refine blk_drew ?_ | refine blk_alloc ?_ _)); refine blk_put (cs := #[.int .i64 0, .string (⟨#[]⟩ : ByteArray), .int .i64 0]) ?_ 0 _ rfl; (with_reducible repeat (first | refine blk_drewN ?_ _ | refine blk_drew ?_ | refine blk_alloc ?_ _)); exact BK206.out) Tryd.underlying30 rfl (by kernel_rfl) (.tmp (.tmp (.tmp .nil))))) rfl ?_
             exact ⟨by first | rfl | (simp [errW_none, errW_some] <;> rfl) | (simp [*, errW_none, errW_some, bne]; done) | (simp [*, errW_none, errW_some] <;> rfl), by repeat (first | (with_reducible first | exact HB.out | apply below_alloc | apply pw_below_drewN | apply below_drew1 | refine below_set ?_ GE206.out) | exact HB.out)⟩
            ·rw [if_neg c51] at H
             have c51b0 : (t213 == 0) = false := beq_eq_false_iff_ne.mpr c51
             have c51b1 : (t213 != 0) = true := bne_iff_ne.mpr c51
             simp only [Option.some.injEq, Prod.mk.injEq] at H
             obtain ⟨rfl, rfl, rfl, rfl, rfl, rfl⟩ := H
             go_wp2_with (first | ((with_reducible refine gate_callee (f := 32) rfl ?_); refine goesL_ (some 86) rfl rfl Tryd.func32 (by kernel_rfl) rfl #[.string (a0.extract (a1 : Int).toNat a0.size), .string (⟨#[48, 49, 50, 51, 52, 53, 54, 55, 56, 57, 43, 45, 46, 101, 69]⟩ : ByteArray)] rfl (by (try simp only [List.map_toArray, List.map_cons, List.map_nil]); first | done | rfl | (simp only [List.length_drop, List.length_take]; rfl)) ?_; (with_reducible refine (jlex_while.calls (a0.extract (a1 : Int).toNat a0.size) (⟨#[48, 49, 50, 51, 52, 53, 54, 55, 56, 57, 43, 45, 46, 101, 69]⟩ : ByteArray) t212 _ A44.out).mono ?_); rintro e w55 ⟨rfl, hb⟩; refine ⟨_, rfl, ?_⟩; have n0_ := Aside0.mk (blk_below (g := gb206) (o := .cells #[.int .i64 0, .string (⟨#[]⟩ : ByteArray), .int .i64 0] 30 (0, 0)) (by (with_reducible repeat (first | refine blk_drewN ?_ _ | refine blk_drew ?_ | refine blk_alloc ?_ _)); exact BK206.out) hb); have n1_ := Aside0.mk (below_step (by repeat (first | (with_reducible first | exact HB.out | apply below_alloc | apply pw_below_drewN | apply below_drew1 | refine below_set ?_ GE206.out) | exact HB.out)) hb); clear BK206; clear HB; have BK206 := n0_; have HB := n1_; clear n0_ n1_; (try clear hb); (try clear hb2); (try clear hk); (try clear hi)) | ((with_reducible refine gate_callee (f := 57) rfl ?_); refine goesL_ (some 93) rfl rfl Tryd.func57 (by kernel_rfl) rfl #[.string ((a0.extract (a1 : Int).toNat a0.size).extract 0 (t212 : Int).toNat)] rfl (by (try simp only [List.map_toArray, List.map_cons, List.map_nil]); first | done | rfl | (simp only [List.length_drop, List.length_take]; rfl)) ?_; (with_reducible refine (jlex_number.calls kj25 ((a0.extract (a1 : Int).toNat a0.size).extract 0 (t212 : Int).toNat) t213 _ A50.out).mono ?_); rintro e w56 ⟨rfl, hb⟩; refine ⟨_, rfl, ?_⟩; have n0_ := Aside0.mk (blk_below (g := gb206) (o := .cells #[.int .i64 0, .string (⟨#[]⟩ : ByteArray), .int .i64 0] 30 (0, 0)) (by (with_reducible repeat (first | refine blk_drewN ?_ _ | refine blk_drew ?_ | refine blk_alloc ?_ _)); exact BK206.out) hb); have n1_ := Aside0.mk (below_step (by repeat (first | (with_reducible first | exact HB.out | apply below_alloc | apply pw_below_drewN | apply below_drew1 | refine below_set ?_ GE206.out) | exact HB.out)) hb); clear BK206; clear HB; have BK206 := n0_; have HB := n1_; clear n0_ n1_; (try clear hb); (try clear hb2); (try clear hk); (try clear hi); have hcz57_0 : w56.cell? ⟨gb206, 0, none⟩ = some (.int .i64 0) := (blk_cell BK206.out 0).trans rfl; have hcz57_1 : w56.cell? ⟨gb206, 1, none⟩ = some (.string (⟨#[]⟩ : ByteArray)) := (blk_cell BK206.out 1).trans rfl; have hcz57_2 : w56.cell? ⟨gb206, 2, none⟩ = some (.int .i64 0) := (blk_cell BK206.out 2).trans rfl; have hfz57_0 := blk_frozen BK206.out 0; have hfz57_1 := blk_frozen BK206.out 1; have hfz57_2 := blk_frozen BK206.out 2))
             refine bodyPost_ret (results_list (rs := [.cell 4 30, .tmp 5, .tmp 6, .tmp 7]) rfl (by simp) (.cell gb206 30 #[.int .i64 0, .string (⟨#[]⟩ : ByteArray), .int .i64 0] (0, 0) _ rfl (by (with_reducible repeat (first | refine blk_drewN ?_ _ | refine blk_drew ?_ | refine blk_alloc ?_ _)); refine blk_put (cs := #[.int .i64 0, .string (⟨#[]⟩ : ByteArray), .int .i64 0]) ?_ 2 _ rfl; (with_reducible repeat (first | refine blk_drewN ?_ _ | refine blk_drew ?_ | refine blk_alloc ?_ _)); refine blk_put (cs := #[.int .i64 0, .string (⟨#[]⟩ : ByteArray), .int .i64 0]) ?_ 1 _ rfl; (with_reducible repeat (first | refine blk_drewN ?_ _ | refine blk_drew ?_ | refine blk_alloc ?_ _)); refine blk_put (cs := #[.int .i64 0, .string (⟨#[]⟩ : ByteArray), .int .i64 0]) ?_ 0 _ rfl; (with_reducible repeat (first | refine blk_drewN ?_ _ | refine blk_drew ?_ | refine blk_alloc ?_ _)); exact BK206.out) Tryd.underlying30 rfl (by kernel_rfl) (.tmp (.tmp (.tmp .nil))))) rfl ?_
             exact ⟨by first | rfl | (simp [errW_none, errW_some] <;> rfl) | (simp [*, errW_none, errW_some, bne]; done) | (simp [*, errW_none, errW_some] <;> rfl), by repeat (first | (with_reducible first | exact HB.out | apply below_alloc | apply pw_below_drewN | apply below_drew1 | refine below_set ?_ GE206.out) | exact HB.out)⟩
          ·rw [if_neg c46] at H
           exact absurd H (by simp)
         ·rw [if_neg c45] at H
          exact absurd H (by simp)
   ·rw [if_neg c5] at H
    exact absurd H (by simp)
  ·rw [if_neg c4] at H
   exact absurd H (by simp)
 ·rw [if_neg c3] at H
  exact absurd H (by simp)
end Go.Proofs.YtoanbmggffkmgaaDoor.P
end
section
namespace Go.Proofs.YtoanbmggffkmgaaDoor.P
open Go.RowKit Go.Proofs.YtoanbmggffkmgaaDoorW.PrintWords Go.Proofs.YtoanbmggffkmgaaDoorW.PrintLast Go.Proofs.YtoanbmggffkmgaaDoorW.PrintMore
attribute [local go_sem] max2_int min2_int max_two min_two max_three min_three max_four min_four   -- for this text's walks alone
attribute [-simp] ByteArray.size_extract
set_option linter.unusedVariables false
set_option linter.unusedSimpArgs false
/-! ### jlex_Cut: function 13 -/
def jlex_Cut.l0 : Nat → ByteArray → List (S30) → Int → Option ((List (S30)) × Int × Int × Int × Int)
 | 0, _, _, _ => none
 | k + 1, x0, x5, x6 => if x6 < (x0.size : Int) then ((jlex_word.f k x0 x6).bind fun bt224 => (if bt224.2.2.2.2.1 = 0 then (if x5.length < 4398046511104 then (if 0 ≤ bt224.2.2.2.1 then (if bt224.2.2.2.1 ≤ (x0.size : Int) then ((jlex_while.f (x0.extract (bt224.2.2.2.1 : Int).toNat x0.size) (⟨#[32, 9, 10, 13]⟩ : ByteArray)).bind fun t234 => (jlex_Cut.l0 k x0 (x5 ++ [(⟨bt224.1, bt224.2.1, bt224.2.2.1⟩ : S30)]) (wrap64 (bt224.2.2.2.1 + t234)))) else (none)) else (none)) else (none)) else ((place_Fault.f k x0 bt224.2.2.2.2.2 bt224.2.2.2.2.1).bind fun bt235 => (some (([] : List (S30)), bt235.1, bt235.2.1, bt235.2.2.1, bt235.2.2.2))))) else (if x5.length < 4398046511104 then (some ((x5 ++ [(⟨0, (⟨#[]⟩ : ByteArray), (x0.size : Int)⟩ : S30)]), 0, 0, 0, 0)) else (none))
def jlex_Cut.f (k : Nat) (a0 : ByteArray) : Option ((List (S30)) × Int × Int × Int × Int) := (jlex_Judge.f k a0).bind fun bt215 => (if bt215.1 = 0 then ((jlex_while.f a0 (⟨#[32, 9, 10, 13]⟩ : ByteArray)).bind fun t220 => (jlex_Cut.l0 k a0 ([] : List (S30)) t220)) else (some (([] : List (S30)), bt215.1, bt215.2.1, bt215.2.2.1, bt215.2.2.2)))
set_option maxHeartbeats 8000000 in
set_option maxRecDepth 100000 in
theorem jlex_Cut.calls (k : Nat) (a0 : ByteArray) (r1 : List (S30)) (r2 : Int) (r3 : Int) (r4 : Int) (r5 : Int) (w : World) (h : jlex_Cut.f k a0 = some (r1, r2, r3, r4, r5)) :
  Calls Tryd.prog 13 #[.string a0] w fun e w' => ∃ v0_ : Value, e = .returned (.tuple #[v0_, .agg #[.int .i64 r2, .int .i64 r3, .int .i64 r4, .int .i64 r5]]) ∧ Kd.R k30 30 w' w.heap.size (fun _ => True) v0_ r1 ∧ Below w.heap.size w w' := by
 have hu26 := Tryd.underlying26
 have hu30 := Tryd.underlying30
 have HB := Aside0.mk (Below.refl w.heap.size w)
 have H : ((jlex_Judge.f k a0).bind fun bt215 => (if bt215.1 = 0 then ((jlex_while.f a0 (⟨#[32, 9, 10, 13]⟩ : ByteArray)).bind fun t220 => (jlex_Cut.l0 k a0 ([] : List (S30)) t220)) else (some (([] : List (S30)), bt215.1, bt215.2.1, bt215.2.2.1, bt215.2.2.2)))) = some (r1, r2, r3, r4, r5) := h
 clear h
 replace H := Option.bind_eq_some_iff.mp H
 obtain ⟨⟨t215, t216, t217, t218⟩, A20, H⟩ := H
 replace H : (if t215 = 0 then ((jlex_while.f a0 (⟨#[32, 9, 10, 13]⟩ : ByteArray)).bind fun t220 => (jlex_Cut.l0 k a0 ([] : List (S30)) t220)) else (some (([] : List (S30)), t215, t216, t217, t218))) = some (r1, r2, r3, r4, r5) := H
 have A2 := Aside0.mk A20
 clear A20
 by_cases c3 : t215 = 0
 ·rw [if_pos c3] at H
  have c3b0 : (t215 == 0) = true := beq_iff_eq.mpr c3
  have c3b1 : (t215 != 0) = false := bne_eq_false_iff_eq.mpr c3
  clear c3
  replace H := Option.bind_eq_some_iff.mp H
  obtain ⟨t220, A40, H⟩ := H
  replace H : (jlex_Cut.l0 k a0 ([] : List (S30)) t220) = some (r1, r2, r3, r4, r5) := H
  have A4 := Aside0.mk A40
  clear A40
  have H' := Aside0.mk H
  clear H
  go_enter Tryd.func13, Tryd.ntmps13
  go_wp2_with (first | ((with_reducible refine gate_dst (N := 3) rfl ?_); refine box_event ?hg (N := 3) ?hd (cs := #[.int .i64 0, .int .i64 0, .int .i64 0, .int .i64 0]) (t := 26) ?hr ?_; (case hd => rfl); (case hg => rfl); (case hr => first | (go_simp; done) | (go_simp; rfl)); intro gb214 hg w5 hbox hb; have n0_ := Aside0.mk (below_step (by repeat (first | (with_reducible first | exact HB.out | apply below_alloc | apply pw_below_drewN | apply below_drew1) | exact HB.out)) hb); have n1_ := Aside0.mk (hbox); have n2_ := Aside0.mk ((by rw [hg]; exact (below_size (by repeat (first | (with_reducible first | exact HB.out | apply below_alloc | apply pw_below_drewN | apply below_drew1) | exact HB.out))) : w.heap.size ≤ gb214)); have n3_ := Aside0.mk ((by rw [hg]; exact (below_size (by repeat (first | (with_reducible first | exact HB.out | apply below_alloc | apply pw_below_drewN | apply below_drew1) | exact HB.out))) : w.heap.size ≤ gb214)); clear HB; have HB := n0_; have BK214 := n1_; have GW214 := n2_; have GE214 := n3_; clear n0_ n1_ n2_ n3_; clear hb hbox hg) | ((with_reducible refine gate_callee (f := 31) rfl ?_); refine goesL_ (some 12) rfl rfl Tryd.func31 (by kernel_rfl) rfl #[.string a0] rfl (by (try simp only [List.map_toArray, List.map_cons, List.map_nil]); first | done | rfl | (simp only [List.length_drop, List.length_take]; rfl)) ?_; (with_reducible refine (jlex_Judge.calls k a0 t215 t216 t217 t218 _ A2.out).mono ?_); rintro e w6 ⟨rfl, hb⟩; refine ⟨_, rfl, ?_⟩; have n0_ := Aside0.mk (blk_below (g := gb214) (o := .cells #[.int .i64 0, .int .i64 0, .int .i64 0, .int .i64 0] 26 (0, 0)) (by (with_reducible repeat (first | refine blk_drewN ?_ _ | refine blk_drew ?_ | refine blk_alloc ?_ _)); exact BK214.out) hb); have n1_ := Aside0.mk (below_step (by repeat (first | (with_reducible first | exact HB.out | apply below_alloc | apply pw_below_drewN | apply below_drew1 | refine below_set ?_ GE214.out) | exact HB.out)) hb); clear BK214; clear HB; have BK214 := n0_; have HB := n1_; clear n0_ n1_; (try clear hb); (try clear hb2); (try clear hk); (try clear hi)) | ((with_reducible refine gate_dst (N := 4) rfl ?_); refine box_event ?hg (N := 4) ?hd (cs := #[.int .i64 0, .int .i64 0, .int .i64 0, .int .i64 0]) (t := 26) ?hr ?_; (case hd => rfl); (case hg => rfl); (case hr => first | (go_simp; done) | (go_simp; rfl)); intro gb219 hg w7 hbox hb; have n0_ := Aside0.mk (blk_below (g := gb214) (o := .cells #[.int .i64 0, .int .i64 0, .int .i64 0, .int .i64 0] 26 (0, 0)) (by (with_reducible repeat (first | refine blk_drewN ?_ _ | refine blk_drew ?_ | refine blk_alloc ?_ _)); exact BK214.out) hb); have n1_ := Aside0.mk (below_step (by repeat (first | (with_reducible first | exact HB.out | apply below_alloc | apply pw_below_drewN | apply below_drew1 | refine below_set ?_ GE214.out) | exact HB.out)) hb); have n2_ := Aside0.mk (hbox); have n3_ := Aside0.mk ((by rw [hg]; exact (below_size (by repeat (first | (with_reducible first | exact HB.out | apply below_alloc | apply pw_below_drewN | apply below_drew1 | refine below_set ?_ GE214.out) | exact HB.out))) : w.heap.size ≤ gb219)); have n4_ := Aside0.mk ((by rw [hg]; exact (below_size (by repeat (first | (with_reducible first | exact HB.out | apply below_alloc | apply pw_below_drewN | apply below_drew1 | refine below_set ?_ GE214.out) | exact HB.out))) : w.heap.size ≤ gb219)); have n5_ := Aside0.mk ((by rw [hg]; exact Nat.ne_of_lt (blk_lt (g := gb214) (o := .cells #[.int .i64 0, .int .i64 0, .int .i64 0, .int .i64 0] 26 (0, 0)) (by (with_reducible repeat (first | refine blk_drewN ?_ _ | refine blk_drew ?_ | refine blk_alloc ?_ _)); exact BK214.out)) : gb214 ≠ gb219)); have n6_ := Aside0.mk ((by rw [hg]; exact Nat.ne_of_gt (blk_lt (g := gb214) (o := .cells #[.int .i64 0, .int .i64 0, .int .i64 0, .int .i64 0] 26 (0, 0)) (by (with_reducible repeat (first | refine blk_drewN ?_ _ | refine blk_drew ?_ | refine blk_alloc ?_ _)); exact BK214.out)) : gb219 ≠ gb214)); clear BK214; clear HB; have BK214 := n0_; have HB := n1_; have BK219 := n2_; have GW219 := n3_; have GE219 := n4_; have NB214_219 := n5_; have NB219_214 := n6_; clear n0_ n1_ n2_ n3_ n4_ n5_ n6_; clear hb hbox hg; have hnb8 := NB219_214.out; have hnc8 := NB214_219.out; have hcz9_0 : w7.cell? ⟨gb219, 0, none⟩ = some (.int .i64 0) := (blk_cell BK219.out 0).trans rfl; have hcz9_1 : w7.cell? ⟨gb219, 1, none⟩ = some (.int .i64 0) := (blk_cell BK219.out 1).trans rfl; have hcz9_2 : w7.cell? ⟨gb219, 2, none⟩ = some (.int .i64 0) := (blk_cell BK219.out 2).trans rfl; have hcz9_3 : w7.cell? ⟨gb219, 3, none⟩ = some (.int .i64 0) := (blk_cell BK219.out 3).trans rfl; have hfz9_0 := blk_frozen BK219.out 0; have hfz9_1 := blk_frozen BK219.out 1; have hfz9_2 := blk_frozen BK219.out 2; have hfz9_3 := blk_frozen BK219.out 3) | ((with_reducible refine gate_callee (f := 32) rfl ?_); refine goesL_ (some 18) rfl rfl Tryd.func32 (by kernel_rfl) rfl #[.string a0, .string (⟨#[32, 9, 10, 13]⟩ : ByteArray)] rfl (by (try simp only [List.map_toArray, List.map_cons, List.map_nil]); first | done | rfl | (simp only [List.length_drop, List.length_take]; rfl)) ?_; (with_reducible refine (jlex_while.calls a0 (⟨#[32, 9, 10, 13]⟩ : ByteArray) t220 _ A4.out).mono ?_); rintro e w10 ⟨rfl, hb⟩; refine ⟨_, rfl, ?_⟩; have n0_ := Aside0.mk (blk_below (g := gb214) (o := .cells #[.int .i64 0, .int .i64 0, .int .i64 0, .int .i64 0] 26 (0, 0)) (by (with_reducible repeat (first | refine blk_drewN ?_ _ | refine blk_drew ?_ | refine blk_alloc ?_ _)); refine blk_far ?_ NB214_219.out _; (with_reducible repeat (first | refine blk_drewN ?_ _ | refine blk_drew ?_ | refine blk_alloc ?_ _)); refine blk_far ?_ NB214_219.out _; (with_reducible repeat (first | refine blk_drewN ?_ _ | refine blk_drew ?_ | refine blk_alloc ?_ _)); refine blk_far ?_ NB214_219.out _; (with_reducible repeat (first | refine blk_drewN ?_ _ | refine blk_drew ?_ | refine blk_alloc ?_ _)); refine blk_far ?_ NB214_219.out _; (with_reducible repeat (first | refine blk_drewN ?_ _ | refine blk_drew ?_ | refine blk_alloc ?_ _)); exact BK214.out) hb); have n1_ := Aside0.mk (blk_below (g := gb219) (o := .cells #[.int .i64 t215, .int .i64 t216, .int .i64 t217, .int .i64 t218] 26 (0, 0)) (by (with_reducible repeat (first | refine blk_drewN ?_ _ | refine blk_drew ?_ | refine blk_alloc ?_ _)); refine blk_put (cs := #[.int .i64 t215, .int .i64 t216, .int .i64 t217, .int .i64 0]) ?_ 3 _ rfl; (with_reducible repeat (first | refine blk_drewN ?_ _ | refine blk_drew ?_ | refine blk_alloc ?_ _)); refine blk_put (cs := #[.int .i64 t215, .int .i64 t216, .int .i64 0, .int .i64 0]) ?_ 2 _ rfl; (with_reducible repeat (first | refine blk_drewN ?_ _ | refine blk_drew ?_ | refine blk_alloc ?_ _)); refine blk_put (cs := #[.int .i64 t215, .int .i64 0, .int .i64 0, .int .i64 0]) ?_ 1 _ rfl; (with_reducible repeat (first | refine blk_drewN ?_ _ | refine blk_drew ?_ | refine blk_alloc ?_ _)); refine blk_put (cs := #[.int .i64 0, .int .i64 0, .int .i64 0, .int .i64 0]) ?_ 0 _ rfl; (with_reducible repeat (first | refine blk_drewN ?_ _ | refine blk_drew ?_ | refine blk_alloc ?_ _)); exact BK219.out) hb); have n2_ := Aside0.mk (below_step (by repeat (first | (with_reducible first | exact HB.out | apply below_alloc | apply pw_below_drewN | apply below_drew1 | refine below_set ?_ GE214.out | refine below_set ?_ GE219.out) | exact HB.out)) hb); clear BK214; clear BK219; clear HB; have BK214 := n0_; have BK219 := n1_; have HB := n2_; clear n0_ n1_ n2_; (try clear hb); (try clear hb2); (try clear hk); (try clear hi)))
  go_loopg [5, 6] k (fun kq v5 v6 w' => ∃ (x5_1 : List (S30)) (x6_1 : Int) (x215000_1 : Int) (x215001_1 : Int) (x215002_1 : Int) (x215003_1 : Int), v6 = .int .i64 x6_1 ∧ Aside0 (jlex_Cut.l0 kq a0 x5_1 x6_1 = some (r1, r2, r3, r4, r5)) ∧ Aside0 (kq ≤ k) ∧ Aside0 (Kd.R k30 30 w' w.heap.size (fun _ => True) v5 x5_1) ∧ Aside0 (w'.heap[gb214]? = some (.cells #[.int .i64 x215000_1, .int .i64 x215001_1, .int .i64 x215002_1, .int .i64 x215003_1] 26 (0, 0))) ∧ Aside0 (w'.heap[gb219]? = some (.cells #[.int .i64 t215, .int .i64 t216, .int .i64 t217, .int .i64 t218] 26 (0, 0))) ∧ Aside0 (Below w.heap.size w w'))
  case atStart => exact ⟨(([] : List (S30))), (t220), (0), (0), (0), (0), (by first | rfl | (simp; done) | (simp [*]; done)), H', ⟨Nat.le_refl _⟩, ⟨by first | exact Kd.R_nil _ _ _ _ _ | exact Kd.N_nil _ _ _ _ _ | exact Kd.V_nil _ _ _ _ _ | exact Kd.Q_nil _ _ _ _ _ | exact Kd.S_nil _ _ _ _ _⟩, ⟨by (with_reducible repeat (first | refine blk_drewN ?_ _ | refine blk_drew ?_ | refine blk_alloc ?_ _)); exact BK214.out⟩, ⟨by (with_reducible repeat (first | refine blk_drewN ?_ _ | refine blk_drew ?_ | refine blk_alloc ?_ _)); exact BK219.out⟩, ⟨by repeat (first | (with_reducible first | exact HB.out | apply below_alloc | apply pw_below_drewN | apply below_drew1 | refine below_set ?_ GE214.out | refine below_set ?_ GE219.out) | exact HB.out)⟩⟩
  case round =>
   clear H'
   try clear c1
   try clear p2
   try clear c3
   try clear c3b0
   try clear c3b1
   try clear c8
   try clear hcz9_0
   try clear hcz9_1
   try clear hcz9_2
   try clear hcz9_3
   try clear hfz9_0
   try clear hfz9_1
   try clear hfz9_2
   try clear hfz9_3
   obtain ⟨x5_1, x6_1, x215000_1, x215001_1, x215002_1, x215003_1, rfl, HA, HK1, HO_5, BK214, BK219, HB⟩ := hrel
   cases gk with
   | zero => exact absurd HA.out (by simp [jlex_Cut.l0])
   | succ k1 =>
    have H := HA.out
    clear HA
    simp only [jlex_Cut.l0] at H
    by_cases c11 : x6_1 < (a0.size : Int)
    ·rw [if_pos c11] at H
     have c11b0 : decide (x6_1 < (a0.size : Int)) = true := decide_eq_true c11
     clear c11
     replace H := Option.bind_eq_some_iff.mp H
     obtain ⟨⟨t224, t225, t226, t227, t228, t229⟩, A120, H⟩ := H
     replace H : (if t228 = 0 then (if x5_1.length < 4398046511104 then (if 0 ≤ t227 then (if t227 ≤ (a0.size : Int) then ((jlex_while.f (a0.extract (t227 : Int).toNat a0.size) (⟨#[32, 9, 10, 13]⟩ : ByteArray)).bind fun t234 => (jlex_Cut.l0 k1 a0 (x5_1 ++ [(⟨t224, t225, t226⟩ : S30)]) (wrap64 (t227 + t234)))) else (none)) else (none)) else (none)) else ((place_Fault.f k1 a0 t229 t228).bind fun bt235 => (some (([] : List (S30)), bt235.1, bt235.2.1, bt235.2.2.1, bt235.2.2.2)))) = some (r1, r2, r3, r4, r5) := H
     have A12 := Aside0.mk A120
     clear A120
     by_cases c13 : t228 = 0
     ·rw [if_pos c13] at H
      have c13b0 : (t228 == 0) = true := beq_iff_eq.mpr c13
      have c13b1 : (t228 != 0) = false := bne_eq_false_iff_eq.mpr c13
      clear c13
      by_cases c14 : x5_1.length < 4398046511104
      ·rw [if_pos c14] at H
       have LMc14 := Aside0.mk c14
       clear c14
       obtain ⟨y231, hy231⟩ : ∃ y_ : List (S30), y_ = (x5_1 ++ [(⟨t224, t225, t226⟩ : S30)]) := ⟨_, rfl⟩
       replace H : (if 0 ≤ t227 then (if t227 ≤ (a0.size : Int) then ((jlex_while.f (a0.extract (t227 : Int).toNat a0.size) (⟨#[32, 9, 10, 13]⟩ : ByteArray)).bind fun t234 => (jlex_Cut.l0 k1 a0 y231 (wrap64 (t227 + t234)))) else (none)) else (none)) = some (r1, r2, r3, r4, r5) := by first | (rw [hy231]; with_reducible exact H) | (have H2_ := (Option.bind_some _ _).symm.trans H; rw [hy231]; with_reducible exact H2_) | (have H2_ := (Option.bind_some _ _).symm.trans H; with_reducible exact H2_) | with_reducible exact H | (rw [hy231]; exact H) | exact H
       have Ny231 := Aside0.mk hy231
       clear hy231
       by_cases c15 : 0 ≤ t227
       ·rw [if_pos c15] at H
        have c15b0 := eq_true c15
        have c15b1 : decide (0 ≤ t227) = true := decide_eq_true c15
        clear c15
        by_cases c16 : t227 ≤ (a0.size : Int)
        ·rw [if_pos c16] at H
         have c16b0 := eq_true c16
         have c16b1 : decide (t227 ≤ (a0.size : Int)) = true := decide_eq_true c16
         clear c16
         replace H := Option.bind_eq_some_iff.mp H
         obtain ⟨t234, A170, H⟩ := H
         replace H : (jlex_Cut.l0 k1 a0 y231 (wrap64 (t227 + t234))) = some (r1, r2, r3, r4, r5) := H
         have A17 := Aside0.mk A170
         clear A170
         have H' := Aside0.mk H
         clear H
         go_wp2_with (first | ((with_reducible refine gate_callee (f := 33) rfl ?_); refine goesL_ (some 26) rfl rfl Tryd.func33 (by kernel_rfl) rfl #[.string a0, .int .i64 x6_1] rfl (by (try simp only [List.map_toArray, List.map_cons, List.map_nil]); first | done | rfl | (simp only [List.length_drop, List.length_take]; rfl)) ?_; (with_reducible refine (jlex_word.calls k1 a0 x6_1 t224 t225 t226 t227 t228 t229 _ A12.out).mono ?_); rintro e w18 ⟨rfl, hb⟩; refine ⟨_, rfl, ?_⟩; have n0_ := Aside0.mk (Kd.R_below (by (with_reducible repeat (first | apply Kd.R_alloc | apply Kd.R_drewN | apply Kd.R_drew)); exact HO_5.out) hb); have n1_ := Aside0.mk (blk_below (g := gb214) (o := .cells #[.int .i64 x215000_1, .int .i64 x215001_1, .int .i64 x215002_1, .int .i64 x215003_1] 26 (0, 0)) (by (with_reducible repeat (first | refine blk_drewN ?_ _ | refine blk_drew ?_ | refine blk_alloc ?_ _)); exact BK214.out) hb); have n2_ := Aside0.mk (blk_below (g := gb219) (o := .cells #[.int .i64 t215, .int .i64 t216, .int .i64 t217, .int .i64 t218] 26 (0, 0)) (by (with_reducible repeat (first | refine blk_drewN ?_ _ | refine blk_drew ?_ | refine blk_alloc ?_ _)); exact BK219.out) hb); have n3_ := Aside0.mk (below_step (by repeat (first | (with_reducible first | exact HB.out | apply below_alloc | apply pw_below_drewN | apply below_drew1 | refine below_set ?_ GE214.out | refine below_set ?_ GE219.out) | exact HB.out)) hb); clear HO_5; clear BK214; clear BK219; clear HB; have HO_5 := n0_; have BK214 := n1_; have BK219 := n2_; have HB := n3_; clear n0_ n1_ n2_ n3_; (try clear hb); (try clear hb2); (try clear hk); (try clear hi)) | ((with_reducible refine gate_dst (N := 7) rfl ?_); refine box_event ?hg (N := 7) ?hd (cs := #[.int .i64 0, .string (⟨#[]⟩ : ByteArray), .int .i64 0]) (t := 30) ?hr ?_; (case hd => rfl); (case hg => rfl); (case hr => first | (go_simp; done) | (go_simp; rfl)); intro gb230 hg w19 hbox hb; have n0_ := Aside0.mk (Kd.R_below (Kd.R_elderB (by (with_reducible repeat (first | apply Kd.R_alloc | apply Kd.R_drewN | apply Kd.R_drew)); exact HO_5.out) gb230 (Nat.le_of_eq hg.symm)) hb); have n1_ := Aside0.mk (blk_below (g := gb214) (o := .cells #[.int .i64 x215000_1, .int .i64 x215001_1, .int .i64 x215002_1, .int .i64 x215003_1] 26 (0, 0)) (by (with_reducible repeat (first | refine blk_drewN ?_ _ | refine blk_drew ?_ | refine blk_alloc ?_ _)); exact BK214.out) hb); have n2_ := Aside0.mk (blk_below (g := gb219) (o := .cells #[.int .i64 t215, .int .i64 t216, .int .i64 t217, .int .i64 t218] 26 (0, 0)) (by (with_reducible repeat (first | refine blk_drewN ?_ _ | refine blk_drew ?_ | refine blk_alloc ?_ _)); exact BK219.out) hb); have n3_ := Aside0.mk (below_step (by repeat (first | (with_reducible first | exact HB.out | apply below_alloc | apply pw_below_drewN | apply below_drew1 | refine below_set ?_ GE214.out | refine below_set ?_ GE219.out) | exact HB.out)) hb); have n4_ := Aside0.mk (hbox); have n5_ := Aside0.mk ((by rw [hg]; exact (below_size (by repeat (first | (with_reducible first | exact HB.out | apply below_alloc | apply pw_below_drewN | apply below_drew1 | refine below_set ?_ GE214.out | refine below_set ?_ GE219.out) | exact HB.out))) : w.heap.size ≤ gb230)); have n6_ := Aside0.mk ((by rw [hg]; exact (below_size (by repeat (first | (with_reducible first | exact HB.out | apply below_alloc | apply pw_below_drewN | apply below_drew1 | refine below_set ?_ GE214.out | refine below_set ?_ GE219.out) | exact HB.out))) : w.heap.size ≤ gb230)); have n7_ := Aside0.mk ((by rw [hg]; exact Nat.ne_of_lt (blk_lt (g := gb214) (o := .cells #[.int .i64 x215000_1, .int .i64 x215001_1, .int .i64 x215002_1, .int .i64 x215003_1] 26 (0, 0)) (by (with_reducible repeat (first | refine blk_drewN ?_ _ | refine blk_drew ?_ | refine blk_alloc ?_ _)); exact BK214.out)) : gb214 ≠ gb230)); have n8_ := Aside0.mk ((by rw [hg]; exact Nat.ne_of_gt (blk_lt (g := gb214) (o := .cells #[.int .i64 x215000_1, .int .i64 x215001_1, .int .i64 x215002_1, .int .i64 x215003_1] 26 (0, 0)) (by (with_reducible repeat (first | refine blk_drewN ?_ _ | refine blk_drew ?_ | refine blk_alloc ?_ _)); exact BK214.out)) : gb230 ≠ gb214)); have n9_ := Aside0.mk ((by rw [hg]; exact Nat.ne_of_lt (blk_lt (g := gb219) (o := .cells #[.int .i64 t215, .int .i64 t216, .int .i64 t217, .int .i64 t218] 26 (0, 0)) (by (with_reducible repeat (first | refine blk_drewN ?_ _ | refine blk_drew ?_ | refine blk_alloc ?_ _)); exact BK219.out)) : gb219 ≠ gb230)); have n10_ := Aside0.mk ((by rw [hg]; exact Nat.ne_of_gt (blk_lt (g := gb219) (o := .cells #[.int .i64 t215, .int .i64 t216, .int .i64 t217, .int .i64 t218] 26 (0, 0)) (by (with_reducible repeat (first | refine blk_drewN ?_ _ | refine blk_drew ?_ | refine blk_alloc ?_ _)); exact BK219.out)) : gb230 ≠ gb219)); clear HO_5; clear BK214; clear BK219; clear HB; have HO_5 := n0_; have BK214 := n1_; have BK219 := n2_; have HB := n3_; have BK230 := n4_; have GW230 := n5_; have GE230 := n6_; have NB214_230 := n7_; have NB230_214 := n8_; have NB219_230 := n9_; have NB230_219 := n10_; clear n0_ n1_ n2_ n3_ n4_ n5_ n6_ n7_ n8_ n9_ n10_; clear hb hbox hg; have hnb20 := NB230_214.out; have hnc20 := NB214_230.out; have hnb21 := NB230_219.out; have hnc21 := NB219_230.out; have hcz22_0 : w19.cell? ⟨gb230, 0, none⟩ = some (.int .i64 0) := (blk_cell BK230.out 0).trans rfl; have hcz22_1 : w19.cell? ⟨gb230, 1, none⟩ = some (.string (⟨#[]⟩ : ByteArray)) := (blk_cell BK230.out 1).trans rfl; have hcz22_2 : w19.cell? ⟨gb230, 2, none⟩ = some (.int .i64 0) := (blk_cell BK230.out 2).trans rfl; have hfz22_0 := blk_frozen BK230.out 0; have hfz22_1 := blk_frozen BK230.out 1; have hfz22_2 := blk_frozen BK230.out 2) | ((with_reducible refine gate_builtin (b := .append) (xs := #[.tmp 37, .tmp 39]) rfl ?_); at_builtin; refine Kd.R_append k30 (w0 := w) w.heap.size rfl (.tmp 37) (.tmp 39) 23 30 (.agg #[(.int .i64 0), (.string ⟨#[]⟩), (.int .i64 0)]) 32 rfl Tryd.underlying23 info30 rfl (by decide) (by omega) u5 x5_1 (⟨t224, t225, t226⟩ : S30) [.int .i64 t224, .string t225, .int .i64 t226] (fun k_ => k_ ≠ gb230) (fun _ => False) rfl (by first | (go_simp; done) | (go_simp; rfl)) ?aP (fun _ hk => hk.elim) ?aF ?aO ?aB ?aS ?aL ?_; (case aP => exact k30_mkM _ _ _ (⟨t224, t225, t226⟩ : S30)); (case aB => exact (by repeat (first | (with_reducible first | exact HB.out | apply below_alloc | apply pw_below_drewN | apply below_drew1 | refine below_set ?_ GE214.out | refine below_set ?_ GE219.out | refine below_set ?_ GE230.out) | exact HB.out))); (case aF => exact (fun k_ hk => Kd.freshB (g := gb230) (o := .cells #[.int .i64 t224, .string t225, .int .i64 t226] 30 (0, 0)) (by (with_reducible repeat (first | refine blk_drewN ?_ _ | refine blk_drew ?_ | refine blk_alloc ?_ _)); refine blk_put (cs := #[.int .i64 t224, .string t225, .int .i64 0]) ?_ 2 _ rfl; (with_reducible repeat (first | refine blk_drewN ?_ _ | refine blk_drew ?_ | refine blk_alloc ?_ _)); refine blk_put (cs := #[.int .i64 t224, .string (⟨#[]⟩ : ByteArray), .int .i64 0]) ?_ 1 _ rfl; (with_reducible repeat (first | refine blk_drewN ?_ _ | refine blk_drew ?_ | refine blk_alloc ?_ _)); refine blk_put (cs := #[.int .i64 0, .string (⟨#[]⟩ : ByteArray), .int .i64 0]) ?_ 0 _ rfl; (with_reducible repeat (first | refine blk_drewN ?_ _ | refine blk_drew ?_ | refine blk_alloc ?_ _)); exact BK230.out) k_ hk)); (case aO => exact (by (with_reducible repeat (first | apply Kd.R_alloc | apply Kd.R_drewN | apply Kd.R_drew)); exact Kd.R_mono (Kd.R_far (p := ⟨gb230, 2, none⟩) (Kd.R_far (p := ⟨gb230, 1, none⟩) (Kd.R_far (p := ⟨gb230, 0, none⟩) (Kd.R_mono HO_5.out (fun k_ hk => (⟨hk, hk.2⟩ : _ ∧ k_ ≠ gb230))) (fun _ hk => hk.2) (.int .i64 t224)) (fun _ hk => hk.2) (.string t225)) (fun _ hk => hk.2) (.int .i64 t226)) (fun _ hk => hk.1.2))); (case aS => exact (below_size (by repeat (first | (with_reducible first | exact HB.out | apply below_alloc | apply pw_below_drewN | apply below_drew1 | refine below_set ?_ GE214.out | refine below_set ?_ GE219.out | refine below_set ?_ GE230.out) | exact HB.out)))); (case aL => have := LMc14.out; omega); intro v232 w23 ho hb hg hat; rw [← Ny231.out] at ho; have n0_ := Aside0.mk (blk_grown (g := gb214) (o := .cells #[.int .i64 x215000_1, .int .i64 x215001_1, .int .i64 x215002_1, .int .i64 x215003_1] 26 (0, 0)) (by (with_reducible repeat (first | refine blk_drewN ?_ _ | refine blk_drew ?_ | refine blk_alloc ?_ _)); refine blk_far ?_ NB214_230.out _; (with_reducible repeat (first | refine blk_drewN ?_ _ | refine blk_drew ?_ | refine blk_alloc ?_ _)); refine blk_far ?_ NB214_230.out _; (with_reducible repeat (first | refine blk_drewN ?_ _ | refine blk_drew ?_ | refine blk_alloc ?_ _)); refine blk_far ?_ NB214_230.out _; (with_reducible repeat (first | refine blk_drewN ?_ _ | refine blk_drew ?_ | refine blk_alloc ?_ _)); exact BK214.out) hg (Kd.R_ne HO_5.out BK214.out (by decide))); have n1_ := Aside0.mk (blk_grown (g := gb219) (o := .cells #[.int .i64 t215, .int .i64 t216, .int .i64 t217, .int .i64 t218] 26 (0, 0)) (by (with_reducible repeat (first | refine blk_drewN ?_ _ | refine blk_drew ?_ | refine blk_alloc ?_ _)); refine blk_far ?_ NB219_230.out _; (with_reducible repeat (first | refine blk_drewN ?_ _ | refine blk_drew ?_ | refine blk_alloc ?_ _)); refine blk_far ?_ NB219_230.out _; (with_reducible repeat (first | refine blk_drewN ?_ _ | refine blk_drew ?_ | refine blk_alloc ?_ _)); refine blk_far ?_ NB219_230.out _; (with_reducible repeat (first | refine blk_drewN ?_ _ | refine blk_drew ?_ | refine blk_alloc ?_ _)); exact BK219.out) hg (Kd.R_ne HO_5.out BK219.out (by decide))); have n2_ := Aside0.mk (blk_grown (g := gb230) (o := .cells #[.int .i64 t224, .string t225, .int .i64 t226] 30 (0, 0)) (by (with_reducible repeat (first | refine blk_drewN ?_ _ | refine blk_drew ?_ | refine blk_alloc ?_ _)); refine blk_put (cs := #[.int .i64 t224, .string t225, .int .i64 0]) ?_ 2 _ rfl; (with_reducible repeat (first | refine blk_drewN ?_ _ | refine blk_drew ?_ | refine blk_alloc ?_ _)); refine blk_put (cs := #[.int .i64 t224, .string (⟨#[]⟩ : ByteArray), .int .i64 0]) ?_ 1 _ rfl; (with_reducible repeat (first | refine blk_drewN ?_ _ | refine blk_drew ?_ | refine blk_alloc ?_ _)); refine blk_put (cs := #[.int .i64 0, .string (⟨#[]⟩ : ByteArray), .int .i64 0]) ?_ 0 _ rfl; (with_reducible repeat (first | refine blk_drewN ?_ _ | refine blk_drew ?_ | refine blk_alloc ?_ _)); exact BK230.out) hg (Kd.R_away HO_5.out (fun _ hk => hk.2))); have n3_ := Aside0.mk (hb); have n4_ := Aside0.mk (ho); clear BK214; clear BK219; clear BK230; clear HB; clear HO_5; have BK214 := n0_; have BK219 := n1_; have BK230 := n2_; have HB := n3_; have HO233 := n4_; clear n0_ n1_ n2_ n3_ n4_; clear ho hb hg hat) | ((with_reducible refine gate_callee (f := 32) rfl ?_); refine goesL_ (some 45) rfl rfl Tryd.func32 (by kernel_rfl) rfl #[.string (a0.extract (t227 : Int).toNat a0.size), .string (⟨#[32, 9, 10, 13]⟩ : ByteArray)] rfl (by (try simp only [List.map_toArray, List.map_cons, List.map_nil]); first | done | rfl | (simp only [List.length_drop, List.length_take]; rfl)) ?_; (with_reducible refine (jlex_while.calls (a0.extract (t227 : Int).toNat a0.size) (⟨#[32, 9, 10, 13]⟩ : ByteArray) t234 _ A17.out).mono ?_); rintro e w24 ⟨rfl, hb⟩; refine ⟨_, rfl, ?_⟩; have n0_ := Aside0.mk (Kd.R_below (by (with_reducible repeat (first | apply Kd.R_alloc | apply Kd.R_drewN | apply Kd.R_drew)); exact HO233.out) hb); have n1_ := Aside0.mk (blk_below (g := gb214) (o := .cells #[.int .i64 x215000_1, .int .i64 x215001_1, .int .i64 x215002_1, .int .i64 x215003_1] 26 (0, 0)) (by (with_reducible repeat (first | refine blk_drewN ?_ _ | refine blk_drew ?_ | refine blk_alloc ?_ _)); exact BK214.out) hb); have n2_ := Aside0.mk (blk_below (g := gb219) (o := .cells #[.int .i64 t215, .int .i64 t216, .int .i64 t217, .int .i64 t218] 26 (0, 0)) (by (with_reducible repeat (first | refine blk_drewN ?_ _ | refine blk_drew ?_ | refine blk_alloc ?_ _)); exact BK219.out) hb); have n3_ := Aside0.mk (blk_below (g := gb230) (o := .cells #[.int .i64 t224, .string t225, .int .i64 t226] 30 (0, 0)) (by (with_reducible repeat (first | refine blk_drewN ?_ _ | refine blk_drew ?_ | refine blk_alloc ?_ _)); exact BK230.out) hb); have n4_ := Aside0.mk (below_step (by repeat (first | (with_reducible first | exact HB.out | apply below_alloc | apply pw_below_drewN | apply below_drew1 | refine below_set ?_ GE214.out | refine below_set ?_ GE219.out | refine below_set ?_ GE230.out) | exact HB.out)) hb); clear HO233; clear BK214; clear BK219; clear BK230; clear HB; have HO233 := n0_; have BK214 := n1_; have BK219 := n2_; have BK230 := n3_; have HB := n4_; clear n0_ n1_ n2_ n3_ n4_; (try clear hb); (try clear hb2); (try clear hk); (try clear hi)))
         go_roundg k1
         case measure => have := HK1.out; omega
         case rel => exact ⟨(y231), (wrap64 (t227 + t234)), (x215000_1), (x215001_1), (x215002_1), (x215003_1), (by first | rfl | (simp; done) | (simp [*]; done)), H', ⟨by have := HK1.out; omega⟩, ⟨by (with_reducible repeat (first | apply Kd.R_alloc | apply Kd.R_drewN | apply Kd.R_drew)); exact Kd.R_mono HO233.out (fun _ hk => trivial)⟩, ⟨by (with_reducible repeat (first | refine blk_drewN ?_ _ | refine blk_drew ?_ | refine blk_alloc ?_ _)); exact BK214.out⟩, ⟨by (with_reducible repeat (first | refine blk_drewN ?_ _ | refine blk_drew ?_ | refine blk_alloc ?_ _)); exact BK219.out⟩, ⟨by repeat (first | (with_reducible first | exact HB.out | apply below_alloc | apply pw_below_drewN | apply below_drew1 | refine below_set ?_ GE214.out | refine below_set ?_ GE219.out | refine below_set ?_ GE230.out) | exact HB.out)⟩⟩
        ·rw [if_neg c16] at H
         exact absurd H (by simp)
       ·rw [if_neg c15] at H
        exact absurd H (by simp)
      ·rw [if_neg c14] at H
       exact absurd H (by simp)
     ·rw [if_neg c13] at H
      have c13b0 : (t228 == 0) = false := beq_eq_false_iff_ne.mpr c13
      have c13b1 : (t228 != 0) = true := bne_iff_ne.mpr c13
      replace H := Option.bind_eq_some_iff.mp H
      obtain ⟨⟨t235, t236, t237, t238⟩, A250, H⟩ := H
      replace H : (some (([] : List (S30)), t235, t236, t237, t238)) = some (r1, r2, r3, r4, r5) := H
      have A25 := Aside0.mk A250
      clear A250
      simp only [Option.some.injEq, Prod.mk.injEq] at H
      obtain ⟨rfl, rfl, rfl, rfl, rfl⟩ := H
      go_wp2_with (first | ((with_reducible refine gate_callee (f := 33) rfl ?_); refine goesL_ (some 26) rfl rfl Tryd.func33 (by kernel_rfl) rfl #[.string a0, .int .i64 x6_1] rfl (by (try simp only [List.map_toArray, List.map_cons, List.map_nil]); first | done | rfl | (simp only [List.length_drop, List.length_take]; rfl)) ?_; (with_reducible refine (jlex_word.calls k1 a0 x6_1 t224 t225 t226 t227 t228 t229 _ A12.out).mono ?_); rintro e w26 ⟨rfl, hb⟩; refine ⟨_, rfl, ?_⟩; have n0_ := Aside0.mk (Kd.R_below (by (with_reducible repeat (first | apply Kd.R_alloc | apply Kd.R_drewN | apply Kd.R_drew)); exact HO_5.out) hb); have n1_ := Aside0.mk (blk_below (g := gb214) (o := .cells #[.int .i64 x215000_1, .int .i64 x215001_1, .int .i64 x215002_1, .int .i64 x215003_1] 26 (0, 0)) (by (with_reducible repeat (first | refine blk_drewN ?_ _ | refine blk_drew ?_ | refine blk_alloc ?_ _)); exact BK214.out) hb); have n2_ := Aside0.mk (blk_below (g := gb219) (o := .cells #[.int .i64 t215, .int .i64 t216, .int .i64 t217, .int .i64 t218] 26 (0, 0)) (by (with_reducible repeat (first | refine blk_drewN ?_ _ | refine blk_drew ?_ | refine blk_alloc ?_ _)); exact BK219.out) hb); have n3_ := Aside0.mk (below_step (by repeat (first | (with_reducible first | exact HB.out | apply below_alloc | apply pw_below_drewN | apply below_drew1 | refine below_set ?_ GE214.out | refine below_set ?_ GE219.out) | exact HB.out)) hb); clear HO_5; clear BK214; clear BK219; clear HB; have HO_5 := n0_; have BK214 := n1_; have BK219 := n2_; have HB := n3_; clear n0_ n1_ n2_ n3_; (try clear hb); (try clear hb2); (try clear hk); (try clear hi)) | ((with_reducible refine gate_dst (N := 7) rfl ?_); refine box_event ?hg (N := 7) ?hd (cs := #[.int .i64 0, .string (⟨#[]⟩ : ByteArray), .int .i64 0]) (t := 30) ?hr ?_; (case hd => rfl); (case hg => rfl); (case hr => first | (go_simp; done) | (go_simp; rfl)); intro gb230 hg w27 hbox hb; have n0_ := Aside0.mk (Kd.R_below (Kd.R_elderB (by (with_reducible repeat (first | apply Kd.R_alloc | apply Kd.R_drewN | apply Kd.R_drew)); exact HO_5.out) gb230 (Nat.le_of_eq hg.symm)) hb); have n1_ := Aside0.mk (blk_below (g := gb214) (o := .cells #[.int .i64 x215000_1, .int .i64 x215001_1, .int .i64 x215002_1, .int .i64 x215003_1] 26 (0, 0)) (by (with_reducible repeat (first | refine blk_drewN ?_ _ | refine blk_drew ?_ | refine blk_alloc ?_ _)); exact BK214.out) hb); have n2_ := Aside0.mk (blk_below (g := gb219) (o := .cells #[.int .i64 t215, .int .i64 t216, .int .i64 t217, .int .i64 t218] 26 (0, 0)) (by (with_reducible repeat (first | refine blk_drewN ?_ _ | refine blk_drew ?_ | refine blk_alloc ?_ _)); exact BK219.out) hb); have n3_ := Aside0.mk (below_step (by repeat (first | (with_reducible first | exact HB.out | apply below_alloc | apply pw_below_drewN | apply below_drew1 | refine below_set ?_ GE214.out | refine below_set ?_ GE219.out) | exact HB.out)) hb); have n4_ := Aside0.mk (hbox); have n5_ := Aside0.mk ((by rw [hg]; exact (below_size (by repeat (first | (with_reducible first | exact HB.out | apply below_alloc | apply pw_below_drewN | apply below_drew1 | refine below_set ?_ GE214.out | refine below_set ?_ GE219.out) | exact HB.out))) : w.heap.size ≤ gb230)); have n6_ := Aside0.mk ((by rw [hg]; exact (below_size (by repeat (first | (with_reducible first | exact HB.out | apply below_alloc | apply pw_below_drewN | apply below_drew1 | refine below_set ?_ GE214.out | refine below_set ?_ GE219.out) | exact HB.out))) : w.heap.size ≤ gb230)); have n7_ := Aside0.mk ((by rw [hg]; exact Nat.ne_of_lt (blk_lt (g := gb214) (o := .cells #[.int .i64 x215000_1, .int .i64 x215001_1, .int .i64 x215002_1, .int .i64 x215003_1] 26 (0, 0)) (by (with_reducible repeat (first | refine blk_drewN ?_ _ | refine blk_drew ?_ | refine blk_alloc ?_ _)); exact BK214.out)) : gb214 ≠ gb230)); have n8_ := Aside0.mk ((by rw [hg]; exact Nat.ne_of_gt (blk_lt (g := gb214) (o := .cells #[.int .i64 x215000_1, .int .i64 x215001_1, .int .i64 x215002_1, .int .i64 x215003_1] 26 (0, 0)) (by (with_reducible repeat (first | refine blk_drewN ?_ _ | refine blk_drew ?_ | refine blk_alloc ?_ _)); exact BK214.out)) : gb230 ≠ gb214)); have n9_ := Aside0.mk ((by rw [hg]; exact Nat.ne_of_lt (blk_lt (g := gb219) (o := .cells #[.int .i64 t215, .int .i64 t216, .int .i64 t217, .int .i64 t218] 26 (0, 0)) (by (with_reducible repeat (first | refine blk_drewN ?_ _ | refine blk_drew ?_ | refine blk_alloc ?_ _)); exact BK219.out)) : gb219 ≠ gb230)); have n10_ := Aside0.mk ((by rw [hg]; exact Nat.ne_of_gt (blk_lt (g := gb219) (o := .cells #[.int .i64 t215, .int .i64 t216, .int .i64 t217, .int .i64 t218] 26 (0, 0)) (by (with_reducible repeat (first | refine blk_drewN ?_ _ | refine blk_drew ?_ | refine blk_alloc ?_ _)); exact BK219.out)) : gb230 ≠ gb219)); clear HO_5; clear BK214; clear BK219; clear HB; have HO_5 := n0_; have BK214 := n1_; have BK219 := n2_; have HB := n3_; have BK230 := n4_; have GW230 := n5_; have GE230 := n6_; have NB214_230 := n7_; have NB230_214 := n8_; have NB219_230 := n9_; have NB230_219 := n10_; clear n0_ n1_ n2_ n3_ n4_ n5_ n6_ n7_ n8_ n9_ n10_; clear hb hbox hg; have hnb28 := NB230_214.out; have hnc28 := NB214_230.out; have hnb29 := NB230_219.out; have hnc29 := NB219_230.out; have hcz30_0 : w27.cell? ⟨gb230, 0, none⟩ = some (.int .i64 0) := (blk_cell BK230.out 0).trans rfl; have hcz30_1 : w27.cell? ⟨gb230, 1, none⟩ = some (.string (⟨#[]⟩ : ByteArray)) := (blk_cell BK230.out 1).trans rfl; have hcz30_2 : w27.cell? ⟨gb230, 2, none⟩ = some (.int .i64 0) := (blk_cell BK230.out 2).trans rfl; have hfz30_0 := blk_frozen BK230.out 0; have hfz30_1 := blk_frozen BK230.out 1; have hfz30_2 := blk_frozen BK230.out 2) | ((with_reducible refine gate_callee (f := 34) rfl ?_); refine goesL_ (some 36) rfl rfl Tryd.func34 (by kernel_rfl) rfl #[.string a0, .int .i64 t229, .int .i64 t228] rfl (by (try simp only [List.map_toArray, List.map_cons, List.map_nil]); first | done | rfl | (simp only [List.length_drop, List.length_take]; rfl)) ?_; (with_reducible refine (place_Fault.calls k1 a0 t229 t228 t235 t236 t237 t238 _ A25.out).mono ?_); rintro e w31 ⟨rfl, hb⟩; refine ⟨_, rfl, ?_⟩; have n0_ := Aside0.mk (Kd.R_below (by (with_reducible repeat (first | apply Kd.R_alloc | apply Kd.R_drewN | apply Kd.R_drew)); exact (Kd.R_mono (Kd.R_far (p := ⟨gb230, 2, none⟩) (Kd.R_far (p := ⟨gb230, 1, none⟩) (Kd.R_far (p := ⟨gb230, 0, none⟩) (Kd.R_mono HO_5.out (fun k_ hk => (⟨hk, hk.2⟩ : _ ∧ k_ ≠ gb230))) (fun _ hk => hk.2) (.int .i64 t224)) (fun _ hk => hk.2) (.string t225)) (fun _ hk => hk.2) (.int .i64 t226)) (fun _ h_ => h_.1))) hb); have n1_ := Aside0.mk (blk_below (g := gb214) (o := .cells #[.int .i64 x215000_1, .int .i64 x215001_1, .int .i64 x215002_1, .int .i64 x215003_1] 26 (0, 0)) (by (with_reducible repeat (first | refine blk_drewN ?_ _ | refine blk_drew ?_ | refine blk_alloc ?_ _)); refine blk_far ?_ NB214_230.out _; (with_reducible repeat (first | refine blk_drewN ?_ _ | refine blk_drew ?_ | refine blk_alloc ?_ _)); refine blk_far ?_ NB214_230.out _; (with_reducible repeat (first | refine blk_drewN ?_ _ | refine blk_drew ?_ | refine blk_alloc ?_ _)); refine blk_far ?_ NB214_230.out _; (with_reducible repeat (first | refine blk_drewN ?_ _ | refine blk_drew ?_ | refine blk_alloc ?_ _)); exact BK214.out) hb); have n2_ := Aside0.mk (blk_below (g := gb219) (o := .cells #[.int .i64 t215, .int .i64 t216, .int .i64 t217, .int .i64 t218] 26 (0, 0)) (by (with_reducible repeat (first | refine blk_drewN ?_ _ | refine blk_drew ?_ | refine blk_alloc ?_ _)); refine blk_far ?_ NB219_230.out _; (with_reducible repeat (first | refine blk_drewN ?_ _ | refine blk_drew ?_ | refine blk_alloc ?_ _)); refine blk_far ?_ NB219_230.out _; (with_reducible repeat (first | refine blk_drewN ?_ _ | refine blk_drew ?_ | refine blk_alloc ?_ _)); refine blk_far ?_ NB219_230.out _; (with_reducible repeat (first | refine blk_drewN ?_ _ | refine blk_drew ?_ | refine blk_alloc ?_ _)); exact BK219.out) hb); have n3_ := Aside0.mk (blk_below (g := gb230) (o := .cells #[.int .i64 t224, .string t225, .int .i64 t226] 30 (0, 0)) (by (with_reducible repeat (first | refine blk_drewN ?_ _ | refine blk_drew ?_ | refine blk_alloc ?_ _)); refine blk_put (cs := #[.int .i64 t224, .string t225, .int .i64 0]) ?_ 2 _ rfl; (with_reducible repeat (first | refine blk_drewN ?_ _ | refine blk_drew ?_ | refine blk_alloc ?_ _)); refine blk_put (cs := #[.int .i64 t224, .string (⟨#[]⟩ : ByteArray), .int .i64 0]) ?_ 1 _ rfl; (with_reducible repeat (first | refine blk_drewN ?_ _ | refine blk_drew ?_ | refine blk_alloc ?_ _)); refine blk_put (cs := #[.int .i64 0, .string (⟨#[]⟩ : ByteArray), .int .i64 0]) ?_ 0 _ rfl; (with_reducible repeat (first | refine blk_drewN ?_ _ | refine blk_drew ?_ | refine blk_alloc ?_ _)); exact BK230.out) hb); have n4_ := Aside0.mk (below_step (by repeat (first | (with_reducible first | exact HB.out | apply below_alloc | apply pw_below_drewN | apply below_drew1 | refine below_set ?_ GE214.out | refine below_set ?_ GE219.out | refine below_set ?_ GE230.out) | exact HB.out)) hb); clear HO_5; clear BK214; clear BK219; clear BK230; clear HB; have HO_5 := n0_; have BK214 := n1_; have BK219 := n2_; have BK230 := n3_; have HB := n4_; clear n0_ n1_ n2_ n3_ n4_; (try clear hb); (try clear hb2); (try clear hk); (try clear hi); have hnb32 := NB214_219.out; have hnc32 := NB219_214.out; have hcz33_0 : w31.cell? ⟨gb214, 0, none⟩ = some (.int .i64 x215000_1) := (blk_cell BK214.out 0).trans rfl; have hcz33_1 : w31.cell? ⟨gb214, 1, none⟩ = some (.int .i64 x215001_1) := (blk_cell BK214.out 1).trans rfl; have hcz33_2 : w31.cell? ⟨gb214, 2, none⟩ = some (.int .i64 x215002_1) := (blk_cell BK214.out 2).trans rfl; have hcz33_3 : w31.cell? ⟨gb214, 3, none⟩ = some (.int .i64 x215003_1) := (blk_cell BK214.out 3).trans rfl; have hfz33_0 := blk_frozen BK214.out 0; have hfz33_1 := blk_frozen BK214.out 1; have hfz33_2 := blk_frozen BK214.out 2; have hfz33_3 := blk_frozen BK214.out 3))
      refine bodyPost_ret (results_tc rfl _ _ gb214 26 #[.int .i64 t235, .int .i64 t236, .int .i64 t237, .int .i64 t238] (0, 0) _ rfl (by (with_reducible repeat (first | refine blk_drewN ?_ _ | refine blk_drew ?_ | refine blk_alloc ?_ _)); refine blk_put (cs := #[.int .i64 t235, .int .i64 t236, .int .i64 t237, .int .i64 x215003_1]) ?_ 3 _ rfl; (with_reducible repeat (first | refine blk_drewN ?_ _ | refine blk_drew ?_ | refine blk_alloc ?_ _)); refine blk_put (cs := #[.int .i64 t235, .int .i64 t236, .int .i64 x215002_1, .int .i64 x215003_1]) ?_ 2 _ rfl; (with_reducible repeat (first | refine blk_drewN ?_ _ | refine blk_drew ?_ | refine blk_alloc ?_ _)); refine blk_put (cs := #[.int .i64 t235, .int .i64 x215001_1, .int .i64 x215002_1, .int .i64 x215003_1]) ?_ 1 _ rfl; (with_reducible repeat (first | refine blk_drewN ?_ _ | refine blk_drew ?_ | refine blk_alloc ?_ _)); refine blk_put (cs := #[.int .i64 x215000_1, .int .i64 x215001_1, .int .i64 x215002_1, .int .i64 x215003_1]) ?_ 0 _ rfl; (with_reducible repeat (first | refine blk_drewN ?_ _ | refine blk_drew ?_ | refine blk_alloc ?_ _)); exact BK214.out) Tryd.underlying26 rfl (by kernel_rfl)) rfl ?_
      exact ⟨_, by first | rfl | (simp [errW_none, errW_some] <;> rfl) | (simp [*, errW_none, errW_some, bne]; done) | (simp [*, errW_none, errW_some] <;> rfl), by first | exact Kd.R_nil _ _ _ _ _ | exact Kd.N_nil _ _ _ _ _ | exact Kd.V_nil _ _ _ _ _ | exact Kd.Q_nil _ _ _ _ _ | exact Kd.S_nil _ _ _ _ _, by repeat (first | (with_reducible first | exact HB.out | apply below_alloc | apply pw_below_drewN | apply below_drew1 | refine below_set ?_ GE214.out | refine below_set ?_ GE219.out | refine below_set ?_ GE230.out) | exact HB.out)⟩
    ·rw [if_neg c11] at H
     have c11b0 : decide (x6_1 < (a0.size : Int)) = false := decide_eq_false c11
     clear c11
     by_cases c34 : x5_1.length < 4398046511104
     ·rw [if_pos c34] at H
      have LMc34 := Aside0.mk c34
      clear c34
      obtain ⟨y221, hy221⟩ : ∃ y_ : List (S30), y_ = (x5_1 ++ [(⟨0, (⟨#[]⟩ : ByteArray), (a0.size : Int)⟩ : S30)]) := ⟨_, rfl⟩
      replace H : (some (y221, 0, 0, 0, 0)) = some (r1, r2, r3, r4, r5) := by first | (rw [hy221]; with_reducible exact H) | (have H2_ := (Option.bind_some _ _).symm.trans H; rw [hy221]; with_reducible exact H2_) | (have H2_ := (Option.bind_some _ _).symm.trans H; with_reducible exact H2_) | with_reducible exact H | (rw [hy221]; exact H) | exact H
      have Ny221 := Aside0.mk hy221
      clear hy221
      simp only [Option.some.injEq, Prod.mk.injEq] at H
      obtain ⟨rfl, rfl, rfl, rfl, rfl⟩ := H
      go_wp2_with (first | ((with_reducible refine gate_builtin (b := .append) (xs := #[.tmp 47, .tmp 51]) rfl ?_); at_builtin; refine Kd.R_append k30 (w0 := w) w.heap.size rfl (.tmp 47) (.tmp 51) 23 30 (.agg #[(.int .i64 0), (.string ⟨#[]⟩), (.int .i64 0)]) 32 rfl Tryd.underlying23 info30 rfl (by decide) (by omega) u5 x5_1 (⟨0, (⟨#[]⟩ : ByteArray), (a0.size : Int)⟩ : S30) [.int .i64 0, .string (⟨#[]⟩ : ByteArray), .int .i64 (a0.size : Int)] (fun _ => True) (fun _ => False) rfl rfl ?aP (fun _ hk => hk.elim) ?aF ?aO ?aB ?aS ?aL ?_; (case aP => exact k30_mkM _ _ _ (⟨0, (⟨#[]⟩ : ByteArray), (a0.size : Int)⟩ : S30)); (case aB => exact (by repeat (first | (with_reducible first | exact HB.out | apply below_alloc | apply pw_below_drewN | apply below_drew1 | refine below_set ?_ GE214.out | refine below_set ?_ GE219.out) | exact HB.out))); (case aF => exact (fun _ _ => trivial)); (case aO => exact (by (with_reducible repeat (first | apply Kd.R_alloc | apply Kd.R_drewN | apply Kd.R_drew)); exact HO_5.out)); (case aS => exact (below_size (by repeat (first | (with_reducible first | exact HB.out | apply below_alloc | apply pw_below_drewN | apply below_drew1 | refine below_set ?_ GE214.out | refine below_set ?_ GE219.out) | exact HB.out)))); (case aL => have := LMc34.out; omega); intro v222 w35 ho hb hg hat; rw [← Ny221.out] at ho; have n0_ := Aside0.mk (blk_grown (g := gb214) (o := .cells #[.int .i64 x215000_1, .int .i64 x215001_1, .int .i64 x215002_1, .int .i64 x215003_1] 26 (0, 0)) (by (with_reducible repeat (first | refine blk_drewN ?_ _ | refine blk_drew ?_ | refine blk_alloc ?_ _)); exact BK214.out) hg (Kd.R_ne HO_5.out BK214.out (by decide))); have n1_ := Aside0.mk (blk_grown (g := gb219) (o := .cells #[.int .i64 t215, .int .i64 t216, .int .i64 t217, .int .i64 t218] 26 (0, 0)) (by (with_reducible repeat (first | refine blk_drewN ?_ _ | refine blk_drew ?_ | refine blk_alloc ?_ _)); exact BK219.out) hg (Kd.R_ne HO_5.out BK219.out (by decide))); have n2_ := Aside0.mk (hb); have n3_ := Aside0.mk (ho); clear BK214; clear BK219; clear HB; clear HO_5; have BK214 := n0_; have BK219 := n1_; have HB := n2_; have HO223 := n3_; clear n0_ n1_ n2_ n3_; clear ho hb hg hat; have hnb36 := NB214_219.out; have hnc36 := NB219_214.out; have hcz37_0 : w35.cell? ⟨gb214, 0, none⟩ = some (.int .i64 x215000_1) := (blk_cell BK214.out 0).trans rfl; have hcz37_1 : w35.cell? ⟨gb214, 1, none⟩ = some (.int .i64 x215001_1) := (blk_cell BK214.out 1).trans rfl; have hcz37_2 : w35.cell? ⟨gb214, 2, none⟩ = some (.int .i64 x215002_1) := (blk_cell BK214.out 2).trans rfl; have hcz37_3 : w35.cell? ⟨gb214, 3, none⟩ = some (.int .i64 x215003_1) := (blk_cell BK214.out 3).trans rfl; have hfz37_0 := blk_frozen BK214.out 0; have hfz37_1 := blk_frozen BK214.out 1; have hfz37_2 := blk_frozen BK214.out 2; have hfz37_3 := blk_frozen BK214.out 3))
      refine bodyPost_ret (results_tc rfl _ _ gb214 26 #[.int .i64 0, .int .i64 0, .int .i64 0, .int .i64 0] (0, 0) _ rfl (by (with_reducible repeat (first | refine blk_drewN ?_ _ | refine blk_drew ?_ | refine blk_alloc ?_ _)); refine blk_put (cs := #[.int .i64 0, .int .i64 0, .int .i64 0, .int .i64 x215003_1]) ?_ 3 _ rfl; (with_reducible repeat (first | refine blk_drewN ?_ _ | refine blk_drew ?_ | refine blk_alloc ?_ _)); refine blk_put (cs := #[.int .i64 0, .int .i64 0, .int .i64 x215002_1, .int .i64 x215003_1]) ?_ 2 _ rfl; (with_reducible repeat (first | refine blk_drewN ?_ _ | refine blk_drew ?_ | refine blk_alloc ?_ _)); refine blk_put (cs := #[.int .i64 0, .int .i64 x215001_1, .int .i64 x215002_1, .int .i64 x215003_1]) ?_ 1 _ rfl; (with_reducible repeat (first | refine blk_drewN ?_ _ | refine blk_drew ?_ | refine blk_alloc ?_ _)); refine blk_put (cs := #[.int .i64 x215000_1, .int .i64 x215001_1, .int .i64 x215002_1, .int .i64 x215003_1]) ?_ 0 _ rfl; (with_reducible repeat (first | refine blk_drewN ?_ _ | refine blk_drew ?_ | refine blk_alloc ?_ _)); exact BK214.out) Tryd.underlying26 rfl (by kernel_rfl)) rfl ?_
      exact ⟨_, by first | rfl | (simp [errW_none, errW_some] <;> rfl) | (simp [*, errW_none, errW_some, bne]; done) | (simp [*, errW_none, errW_some] <;> rfl), by (with_reducible repeat (first | apply Kd.R_alloc | apply Kd.R_drewN | apply Kd.R_drew)); exact Kd.R_mono (Kd.R_far (p := ⟨gb214, 3, none⟩) (Kd.R_far (p := ⟨gb214, 2, none⟩) (Kd.R_far (p := ⟨gb214, 1, none⟩) (Kd.R_far (p := ⟨gb214, 0, none⟩) (Kd.R_types HO223.out BK214.out (by decide)) (fun _ hk => hk.2) (.int .i64 0)) (fun _ hk => hk.2) (.int .i64 0)) (fun _ hk => hk.2) (.int .i64 0)) (fun _ hk => hk.2) (.int .i64 0)) (fun _ hk => trivial), by repeat (first | (with_reducible first | exact HB.out | apply below_alloc | apply pw_below_drewN | apply below_drew1 | refine below_set ?_ GE214.out | refine below_set ?_ GE219.out) | exact HB.out)⟩
     ·rw [if_neg c34] at H
      exact absurd H (by simp)
 ·rw [if_neg c3] at H
  have c3b0 : (t215 == 0) = false := beq_eq_false_iff_ne.mpr c3
  have c3b1 : (t215 != 0) = true := bne_iff_ne.mpr c3
  simp only [Option.some.injEq, Prod.mk.injEq] at H
  obtain ⟨rfl, rfl, rfl, rfl, rfl⟩ := H
  go_enter Tryd.func13, Tryd.ntmps13
  try go_wp2_with (first | ((with_reducible refine gate_dst (N := 3) rfl ?_); refine box_event ?hg (N := 3) ?hd (cs := #[.int .i64 0, .int .i64 0, .int .i64 0, .int .i64 0]) (t := 26) ?hr ?_; (case hd => rfl); (case hg => rfl); (case hr => first | (go_simp; done) | (go_simp; rfl)); intro gb214 hg w38 hbox hb; have n0_ := Aside0.mk (below_step (by repeat (first | (with_reducible first | exact HB.out | apply below_alloc | apply pw_below_drewN | apply below_drew1) | exact HB.out)) hb); have n1_ := Aside0.mk (hbox); have n2_ := Aside0.mk ((by rw [hg]; exact (below_size (by repeat (first | (with_reducible first | exact HB.out | apply below_alloc | apply pw_below_drewN | apply below_drew1) | exact HB.out))) : w.heap.size ≤ gb214)); have n3_ := Aside0.mk ((by rw [hg]; exact (below_size (by repeat (first | (with_reducible first | exact HB.out | apply below_alloc | apply pw_below_drewN | apply below_drew1) | exact HB.out))) : w.heap.size ≤ gb214)); clear HB; have HB := n0_; have BK214 := n1_; have GW214 := n2_; have GE214 := n3_; clear n0_ n1_ n2_ n3_; clear hb hbox hg) | ((with_reducible refine gate_callee (f := 31) rfl ?_); refine goesL_ (some 12) rfl rfl Tryd.func31 (by kernel_rfl) rfl #[.string a0] rfl (by (try simp only [List.map_toArray, List.map_cons, List.map_nil]); first | done | rfl | (simp only [List.length_drop, List.length_take]; rfl)) ?_; (with_reducible refine (jlex_Judge.calls k a0 t215 t216 t217 t218 _ A2.out).mono ?_); rintro e w39 ⟨rfl, hb⟩; refine ⟨_, rfl, ?_⟩; have n0_ := Aside0.mk (blk_below (g := gb214) (o := .cells #[.int .i64 0, .int .i64 0, .int .i64 0, .int .i64 0] 26 (0, 0)) (by (with_reducible repeat (first | refine blk_drewN ?_ _ | refine blk_drew ?_ | refine blk_alloc ?_ _)); exact BK214.out) hb); have n1_ := Aside0.mk (below_step (by repeat (first | (with_reducible first | exact HB.out | apply below_alloc | apply pw_below_drewN | apply below_drew1 | refine below_set ?_ GE214.out) | exact HB.out)) hb); clear BK214; clear HB; have BK214 := n0_; have HB := n1_; clear n0_ n1_; (try clear hb); (try clear hb2); (try clear hk); (try clear hi)) | ((with_reducible refine gate_dst (N := 4) rfl ?_); refine box_event ?hg (N := 4) ?hd (cs := #[.int .i64 0, .int .i64 0, .int .i64 0, .int .i64 0]) (t := 26) ?hr ?_; (case hd => rfl); (case hg => rfl); (case hr => first | (go_simp; done) | (go_simp; rfl)); intro gb219 hg w40 hbox hb; have n0_ := Aside0.mk (blk_below (g := gb214) (o := .cells #[.int .i64 0, .int .i64 0, .int .i64 0, .int .i64 0] 26 (0, 0)) (by (with_reducible repeat (first | refine blk_drewN ?_ _ | refine blk_drew ?_ | refine blk_alloc ?_ _)); exact BK214.out) hb); have n1_ := Aside0.mk (below_step (by repeat (first | (with_reducible first | exact HB.out | apply below_alloc | apply pw_below_drewN | apply below_drew1 | refine below_set ?_ GE214.out) | exact HB.out)) hb); have n2_ := Aside0.mk (hbox); have n3_ := Aside0.mk ((by rw [hg]; exact (below_size (by repeat (first | (with_reducible first | exact HB.out | apply below_alloc | apply pw_below_drewN | apply below_drew1 | refine below_set ?_ GE214.out) | exact HB.out))) : w.heap.size ≤ gb219)); have n4_ := Aside0.mk ((by rw [hg]; exact (below_size (by repeat (first | (with_reducible first | exact HB.out | apply below_alloc | apply pw_below_drewN | apply below_drew1 | refine below_set ?_ GE214.out) | exact HB.out))) : w.heap.size ≤ gb219)); have n5_ := Aside0.mk ((by rw [hg]; exact Nat.ne_of_lt (blk_lt (g := gb214) (o := .cells #[.int .i64 0, .int .i64 0, .int .i64 0, .int .i64 0] 26 (0, 0)) (by (with_reducible repeat (first | refine blk_drewN ?_ _ | refine blk_drew ?_ | refine blk_alloc ?_ _)); exact BK214.out)) : gb214 ≠ gb219)); have n6_ := Aside0.mk ((by rw [hg]; exact Nat.ne_of_gt (blk_lt (g := gb214) (o := .cells #[.int .i64 0, .int .i64 0, .int .i64 0, .int .i64 0] 26 (0, 0)) (by (with_reducible repeat (first | refine blk_drewN ?_ _ | refine blk_drew ?_ | refine blk_alloc ?_ _)); exact BK214.out)) : gb219 ≠ gb214)); clear BK214; clear HB; have BK214 := n0_; have HB := n1_; have BK219 := n2_; have GW219 := n3_; have GE219 := n4_; have NB214_219 := n5_; have NB219_214 := n6_; clear n0_ n1_ n2_ n3_ n4_ n5_ n6_; clear hb hbox hg; have hnb41 := NB219_214.out; have hnc41 := NB214_219.out; have hcz42_0 : w40.cell? ⟨gb219, 0, none⟩ = some (.int .i64 0) := (blk_cell BK219.out 0).trans rfl; have hcz42_1 : w40.cell? ⟨gb219, 1, none⟩ = some (.int .i64 0) := (blk_cell BK219.out 1).trans rfl; have hcz42_2 : w40.cell? ⟨gb219, 2, none⟩ = some (.int .i64 0) := (blk_cell BK219.out 2).trans rfl; have hcz42_3 : w40.cell? ⟨gb219, 3, none⟩ = some (.int .i64 0) := (blk_cell BK219.out 3).trans rfl; have hfz42_0 := blk_frozen BK219.out 0; have hfz42_1 := blk_frozen BK219.out 1; have hfz42_2 := blk_frozen BK219.out 2; have hfz42_3 := blk_frozen BK219.out 3))
  have n0_ : Aside0 (((((w40.setCell ⟨gb219, 0, none⟩ (.int .i64 t215)).setCell ⟨gb219, 1, none⟩ (.int .i64 t216)).setCell ⟨gb219, 2, none⟩ (.int .i64 t217)).setCell ⟨gb219, 3, none⟩ (.int .i64 t218)).heap[gb214]? = some (.cells #[.int .i64 0, .int .i64 0, .int .i64 0, .int .i64 0] 26 (0, 0))) := ⟨by (with_reducible repeat (first | refine blk_drewN ?_ _ | refine blk_drew ?_ | refine blk_alloc ?_ _)); refine blk_far ?_ NB214_219.out _; (with_reducible repeat (first | refine blk_drewN ?_ _ | refine blk_drew ?_ | refine blk_alloc ?_ _)); refine blk_far ?_ NB214_219.out _; (with_reducible repeat (first | refine blk_drewN ?_ _ | refine blk_drew ?_ | refine blk_alloc ?_ _)); refine blk_far ?_ NB214_219.out _; (with_reducible repeat (first | refine blk_drewN ?_ _ | refine blk_drew ?_ | refine blk_alloc ?_ _)); refine blk_far ?_ NB214_219.out _; (with_reducible repeat (first | refine blk_drewN ?_ _ | refine blk_drew ?_ | refine blk_alloc ?_ _)); exact BK214.out⟩
  have n1_ : Aside0 (((((w40.setCell ⟨gb219, 0, none⟩ (.int .i64 t215)).setCell ⟨gb219, 1, none⟩ (.int .i64 t216)).setCell ⟨gb219, 2, none⟩ (.int .i64 t217)).setCell ⟨gb219, 3, none⟩ (.int .i64 t218)).heap[gb219]? = some (.cells #[.int .i64 t215, .int .i64 t216, .int .i64 t217, .int .i64 t218] 26 (0, 0))) := ⟨by (with_reducible repeat (first | refine blk_drewN ?_ _ | refine blk_drew ?_ | refine blk_alloc ?_ _)); refine blk_put (cs := #[.int .i64 t215, .int .i64 t216, .int .i64 t217, .int .i64 0]) ?_ 3 _ rfl; (with_reducible repeat (first | refine blk_drewN ?_ _ | refine blk_drew ?_ | refine blk_alloc ?_ _)); refine blk_put (cs := #[.int .i64 t215, .int .i64 t216, .int .i64 0, .int .i64 0]) ?_ 2 _ rfl; (with_reducible repeat (first | refine blk_drewN ?_ _ | refine blk_drew ?_ | refine blk_alloc ?_ _)); refine blk_put (cs := #[.int .i64 t215, .int .i64 0, .int .i64 0, .int .i64 0]) ?_ 1 _ rfl; (with_reducible repeat (first | refine blk_drewN ?_ _ | refine blk_drew ?_ | refine blk_alloc ?_ _)); refine blk_put (cs := #[.int .i64 0, .int .i64 0, .int .i64 0, .int .i64 0]) ?_ 0 _ rfl; (with_reducible repeat (first | refine blk_drewN ?_ _ | refine blk_drew ?_ | refine blk_alloc ?_ _)); exact BK219.out⟩
  have n2_ : Aside0 (Below w.heap.size w ((((w40.setCell ⟨gb219, 0, none⟩ (.int .i64 t215)).setCell ⟨gb219, 1, none⟩ (.int .i64 t216)).setCell ⟨gb219, 2, none⟩ (.int .i64 t217)).setCell ⟨gb219, 3, none⟩ (.int .i64 t218))) := ⟨by repeat (first | (with_reducible first | exact HB.out | apply below_alloc | apply pw_below_drewN | apply below_drew1 | refine below_set ?_ GE214.out | refine below_set ?_ GE219.out) | exact HB.out)⟩
  (try clear BK214)
  (try clear BK219)
  (try clear HB)
  generalize ((((w40.setCell ⟨gb219, 0, none⟩ (.int .i64 t215)).setCell ⟨gb219, 1, none⟩ (.int .i64 t216)).setCell ⟨gb219, 2, none⟩ (.int .i64 t217)).setCell ⟨gb219, 3, none⟩ (.int .i64 t218)) = w43 at n0_ n1_ n2_ ⊢
  have BK214 := n0_
  have BK219 := n1_
  have HB := n2_
  clear n0_ n1_ n2_
  have n0_ := Aside0.mk (blk_drew BK214.out)
  have n1_ := Aside0.mk (blk_drew BK219.out)
  have n2_ := Aside0.mk (below_drew1 HB.out)
  clear BK214
  clear BK219
  clear HB
  have BK214 := n0_
  have BK219 := n1_
  have HB := n2_
  clear n0_ n1_ n2_
  refine start_ (n := 3) (S := fun w' => w'.cell? ⟨gb219, 0, none⟩ = some (.int .i64 t215) ∧ w'.cell? ⟨gb219, 1, none⟩ = some (.int .i64 t216) ∧ w'.cell? ⟨gb219, 2, none⟩ = some (.int .i64 t217) ∧ w'.cell? ⟨gb219, 3, none⟩ = some (.int .i64 t218)) (ds := []) #[false, false, false] (by kernel_rfl) rfl rfl ⟨(blk_cell BK219.out 0).trans rfl, (blk_cell BK219.out 1).trans rfl, (blk_cell BK219.out 2).trans rfl, (blk_cell BK219.out 3).trans rfl⟩ (fun hHeld => ?_)
  generalize w43.drew = w44 at BK214 BK219 HB hHeld ⊢
  refine pure_ (i := 1) (N := some 2) (v := ?_) (a' := ?_) #[false, true, false] rfl rfl (by kernel_rfl) (fun _ _ _ h => h) (Or.inl ⟨by rfl, ?_⟩) ?_ ?_
  rotate_left
  ·intro w'
   go_simp
   with_reducible rfl
  rotate_left
  ·simp only [Act.put, List.setIfInBounds_toArray, List.set_cons_zero, List.set_cons_succ, i64_w, i32_w]
   rfl
  refine take_ (i := 0) (N := some 16) (v := ?_) (a' := ?_) #[true, true, false] rfl rfl (by kernel_rfl) (fun _ _ _ h => h) (Or.inl ⟨by rfl, ?_⟩) hHeld ?_ ?_
  rotate_left
  ·rintro w' ⟨s0, s1, s2, s3⟩
   go_simp
   with_reducible rfl
  rotate_left
  ·simp only [Act.put, List.setIfInBounds_toArray, List.set_cons_zero, List.set_cons_succ, i64_w, i32_w]
   rfl
  refine one_ (i := 2) (N := none) #[true, true, true] rfl rfl (by kernel_rfl) (by decide) (fun K hK => ?_)
  have hs45 : w44.cell? ⟨gb214, 0, none⟩ = some (.int .i64 0) := (blk_cell BK214.out 0).trans rfl
  have hfs45 := blk_frozen BK214.out 0
  have hns45_1 := NB219_214.out
  have hms45_1 := NB214_219.out
  have hs46 : w44.cell? ⟨gb214, 1, none⟩ = some (.int .i64 0) := (blk_cell BK214.out 1).trans rfl
  have hfs46 := blk_frozen BK214.out 1
  have hns46_1 := NB219_214.out
  have hms46_1 := NB214_219.out
  have hs47 : w44.cell? ⟨gb214, 2, none⟩ = some (.int .i64 0) := (blk_cell BK214.out 2).trans rfl
  have hfs47 := blk_frozen BK214.out 2
  have hns47_1 := NB219_214.out
  have hms47_1 := NB214_219.out
  have hs48 : w44.cell? ⟨gb214, 3, none⟩ = some (.int .i64 0) := (blk_cell BK214.out 3).trans rfl
  have hfs48 := blk_frozen BK214.out 3
  have hns48_1 := NB219_214.out
  have hms48_1 := NB214_219.out
  refine skip_ (w1 := ?_) (by rfl) rfl ?_ ?_
  rotate_left
  ·go_simp
   rfl
  refine hK.out _ _ ⟨((cell_far (p := ⟨gb214, _, none⟩) NB219_214.out _).trans (((cell_far (p := ⟨gb214, _, none⟩) NB219_214.out _).trans (((cell_far (p := ⟨gb214, _, none⟩) NB219_214.out _).trans (((cell_far (p := ⟨gb214, _, none⟩) NB219_214.out _).trans (hHeld.1)))))))), ((cell_far (p := ⟨gb214, _, none⟩) NB219_214.out _).trans (((cell_far (p := ⟨gb214, _, none⟩) NB219_214.out _).trans (((cell_far (p := ⟨gb214, _, none⟩) NB219_214.out _).trans (((cell_far (p := ⟨gb214, _, none⟩) NB219_214.out _).trans (hHeld.2.1)))))))), ((cell_far (p := ⟨gb214, _, none⟩) NB219_214.out _).trans (((cell_far (p := ⟨gb214, _, none⟩) NB219_214.out _).trans (((cell_far (p := ⟨gb214, _, none⟩) NB219_214.out _).trans (((cell_far (p := ⟨gb214, _, none⟩) NB219_214.out _).trans (hHeld.2.2.1)))))))), ((cell_far (p := ⟨gb214, _, none⟩) NB219_214.out _).trans (((cell_far (p := ⟨gb214, _, none⟩) NB219_214.out _).trans (((cell_far (p := ⟨gb214, _, none⟩) NB219_214.out _).trans (((cell_far (p := ⟨gb214, _, none⟩) NB219_214.out _).trans (hHeld.2.2.2))))))))⟩ (fun hHeld => ?_)
  clear hK K
  refine done_ (by kernel_rfl) ?_
  try go_wp2
  refine bodyPost_ret (results_tc rfl _ _ gb214 26 #[.int .i64 t215, .int .i64 t216, .int .i64 t217, .int .i64 t218] (0, 0) _ rfl (by (with_reducible repeat (first | refine blk_drewN ?_ _ | refine blk_drew ?_ | refine blk_alloc ?_ _)); refine blk_put (cs := #[.int .i64 t215, .int .i64 t216, .int .i64 t217, .int .i64 0]) ?_ 3 _ rfl; (with_reducible repeat (first | refine blk_drewN ?_ _ | refine blk_drew ?_ | refine blk_alloc ?_ _)); refine blk_put (cs := #[.int .i64 t215, .int .i64 t216, .int .i64 0, .int .i64 0]) ?_ 2 _ rfl; (with_reducible repeat (first | refine blk_drewN ?_ _ | refine blk_drew ?_ | refine blk_alloc ?_ _)); refine blk_put (cs := #[.int .i64 t215, .int .i64 0, .int .i64 0, .int .i64 0]) ?_ 1 _ rfl; (with_reducible repeat (first | refine blk_drewN ?_ _ | refine blk_drew ?_ | refine blk_alloc ?_ _)); refine blk_put (cs := #[.int .i64 0, .int .i64 0, .int .i64 0, .int .i64 0]) ?_ 0 _ rfl; (with_reducible repeat (first | refine blk_drewN ?_ _ | refine blk_drew ?_ | refine blk_alloc ?_ _)); exact BK214.out) Tryd.underlying26 rfl (by kernel_rfl)) rfl ?_
  exact ⟨_, by first | rfl | (simp [errW_none, errW_some] <;> rfl) | (simp [*, errW_none, errW_some, bne]; done) | (simp [*, errW_none, errW_some] <;> rfl), by first | exact Kd.R_nil _ _ _ _ _ | exact Kd.N_nil _ _ _ _ _ | exact Kd.V_nil _ _ _ _ _ | exact Kd.Q_nil _ _ _ _ _ | exact Kd.S_nil _ _ _ _ _, by repeat (first | (with_reducible first | exact HB.out | apply below_alloc | apply pw_below_drewN | apply below_drew1 | refine below_set ?_ GE214.out | refine below_set ?_ GE219.out) | exact HB.out)⟩
end Go.Proofs.YtoanbmggffkmgaaDoor.P
end
section
namespace Go.Proofs.YtoanbmggffkmgaaDoor.P
open Go.RowKit Go.Proofs.YtoanbmggffkmgaaDoorW.PrintWords Go.Proofs.YtoanbmggffkmgaaDoorW.PrintLast Go.Proofs.YtoanbmggffkmgaaDoorW.PrintMore
attribute [local go_sem] max2_int min2_int max_two min_two max_three min_three max_four min_four   -- for this text's walks alone
set_option linter.unusedVariables false
set_option linter.unusedSimpArgs false
/-! ### dragomanref1_digit: function 61 -/
def dragomanref1_digit.f (a0 : Int) : Option (Bool) := if a0 ≥ 48 then (some (decide (a0 ≤ 57))) else (some false)
set_option maxHeartbeats 8000000 in
set_option maxRecDepth 100000 in
theorem dragomanref1_digit.calls (a0 : Int) (r : Bool) (w : World) (h : dragomanref1_digit.f a0 = some r) :
  Calls Tryd.prog 61 #[.int .u8 a0] w fun e w' => e = .returned (.bool r) ∧ Drawn0 w w' := by
 have H : (if a0 ≥ 48 then (some (decide (a0 ≤ 57))) else (some false)) = some r := h
 clear h
 by_cases c2 : a0 ≥ 48
 ·rw [if_pos c2] at H
  have c2b0 : decide (48 ≤ a0) = true := decide_eq_true c2
  clear c2
  obtain rfl := Option.some.inj H
  go_enter Tryd.func61, Tryd.ntmps61
  go_wp2
  go_ret
  exact ⟨by first | rfl | (simp; done) | (simp [*]; done), by repeat (first | exact Drawn0.refl _ | apply Drawn0.step)⟩
 ·rw [if_neg c2] at H
  have c2b0 : decide (48 ≤ a0) = false := decide_eq_false c2
  clear c2
  obtain rfl := Option.some.inj H
  go_enter Tryd.func61, Tryd.ntmps61
  go_wp2
  go_ret
  exact ⟨by first | rfl | (simp; done) | (simp [*]; done), by repeat (first | exact Drawn0.refl _ | apply Drawn0.step)⟩
end Go.Proofs.YtoanbmggffkmgaaDoor.P
end
section
namespace Go.Proofs.YtoanbmggffkmgaaDoor.P
open Go.RowKit Go.Proofs.YtoanbmggffkmgaaDoorW.PrintWords Go.Proofs.YtoanbmggffkmgaaDoorW.PrintLast Go.Proofs.YtoanbmggffkmgaaDoorW.PrintMore
attribute [local go_sem] max2_int min2_int max_two min_two max_three min_three max_four min_four   -- for this text's walks alone
set_option linter.unusedVariables false
set_option linter.unusedSimpArgs false
/-! ### dragomanref1_run: function 60 -/
def dragomanref1_run.l0 : Nat → ByteArray → Int → Option (Int)
 | 0, _, _ => none
 | k + 1, x0, x3 => if x3 < (x0.size : Int) then (if 0 ≤ x3 then ((dragomanref1_digit.f (bt x0 x3)).bind fun t239 => (if t239 = true then (dragomanref1_run.l0 k x0 (wrap64 (x3 + 1))) else (some x3))) else (none)) else (some x3)
def dragomanref1_run.f (k : Nat) (a0 : ByteArray) : Option (Int) := dragomanref1_run.l0 k a0 0
set_option maxHeartbeats 8000000 in
set_option maxRecDepth 100000 in
theorem dragomanref1_run.calls (k : Nat) (a0 : ByteArray) (r : Int) (w : World) (h : dragomanref1_run.f k a0 = some r) :
  Calls Tryd.prog 60 #[.string a0] w fun e w' => e = .returned (.int .i64 r) ∧ Drawn0 w w' := by
 have H : (dragomanref1_run.l0 k a0 0) = some r := h
 clear h
 have H' := Aside0.mk H
 clear H
 go_enter Tryd.func60, Tryd.ntmps60
 go_wp2
 go_loopg [3] k (fun kq v3 w' => ∃ (x3_1 : Int), v3 = .int .i64 x3_1 ∧ Aside0 (dragomanref1_run.l0 kq a0 x3_1 = some r) ∧ Aside0 (kq ≤ k) ∧ Drawn0 w w')
 case atStart => exact ⟨(0), (by first | rfl | (simp; done) | (simp [*]; done)), H', ⟨Nat.le_refl _⟩, by repeat (first | exact Drawn0.refl _ | apply Drawn0.step)⟩
 case round =>
  clear H'
  obtain ⟨x3_1, rfl, HA, HK1, ⟨m1, rfl⟩⟩ := hrel
  cases gk with
  | zero => exact absurd HA.out (by simp [dragomanref1_run.l0])
  | succ k1 =>
   have H := HA.out
   clear HA
   simp only [dragomanref1_run.l0] at H
   by_cases c2 : x3_1 < (a0.size : Int)
   ·rw [if_pos c2] at H
    have c2b0 : decide (x3_1 < (a0.size : Int)) = true := decide_eq_true c2
    clear c2
    by_cases c3 : 0 ≤ x3_1
    ·rw [if_pos c3] at H
     have c3b0 : decide (0 ≤ x3_1) = true := decide_eq_true c3
     clear c3
     replace H := Option.bind_eq_some_iff.mp H
     obtain ⟨t239, A50, H⟩ := H
     replace H : (if t239 = true then (dragomanref1_run.l0 k1 a0 (wrap64 (x3_1 + 1))) else (some x3_1)) = some r := H
     have A5 := Aside0.mk A50
     clear A50
     by_cases c6 : t239 = true
     ·subst c6
      have H1 : (dragomanref1_run.l0 k1 a0 (wrap64 (x3_1 + 1))) = some r := by rw [if_pos rfl] at H; exact H
      clear H
      have H := H1
      clear H1
      have H' := Aside0.mk H
      clear H
      have p4 : 0 ≤ (x3_1 : Int) := of_decide_eq_true (by first | (with_reducible assumption) | assumption)
      have q4 : x3_1 < (a0.size : Int) := of_decide_eq_true (by first | (with_reducible assumption) | assumption)
      have hx4 := bt_at a0 x3_1
      replace p4 := eq_true p4
      replace q4 := eq_true q4
      go_wp2_with (first | (go_at_call 61; (with_reducible refine (dragomanref1_digit.calls (bt a0 x3_1) true _ A5.out).mono ?_); rintro e w' ⟨rfl, ⟨nd, rfl⟩⟩))
      go_roundg k1
      case measure => have := HK1.out; omega
      case rel => exact ⟨(wrap64 (x3_1 + 1)), (by first | rfl | (simp; done) | (simp [*]; done)), H', ⟨by have := HK1.out; omega⟩, by repeat (first | exact Drawn0.refl _ | apply Drawn0.step)⟩
     ·replace c6 := Bool.eq_false_iff.mpr c6
      subst c6
      have H1 : (some x3_1) = some r := by rw [if_neg (show ¬ (false = true) by decide)] at H; exact H
      clear H
      have H := H1
      clear H1
      obtain rfl := Option.some.inj H
      have p4 : 0 ≤ (x3_1 : Int) := of_decide_eq_true (by first | (with_reducible assumption) | assumption)
      have q4 : x3_1 < (a0.size : Int) := of_decide_eq_true (by first | (with_reducible assumption) | assumption)
      have hx4 := bt_at a0 x3_1
      replace p4 := eq_true p4
      replace q4 := eq_true q4
      go_wp2_with (first | (go_at_call 61; (with_reducible refine (dragomanref1_digit.calls (bt a0 x3_1) false _ A5.out).mono ?_); rintro e w' ⟨rfl, ⟨nd, rfl⟩⟩))
      go_ret
      exact ⟨by first | rfl | (simp; done) | (simp [*]; done), by repeat (first | exact Drawn0.refl _ | apply Drawn0.step)⟩
    ·rw [if_neg c3] at H
     exact absurd H (by simp)
   ·rw [if_neg c2] at H
    have c2b0 : decide (x3_1 < (a0.size : Int)) = false := decide_eq_false c2
    clear c2
    obtain rfl := Option.some.inj H
    go_wp2
    go_ret
    exact ⟨by first | rfl | (simp; done) | (simp [*]; done), by repeat (first | exact Drawn0.refl _ | apply Drawn0.step)⟩
end Go.Proofs.YtoanbmggffkmgaaDoor.P
end
section
namespace Go.Proofs.YtoanbmggffkmgaaDoor.P
open Go.RowKit Go.Proofs.YtoanbmggffkmgaaDoorW.PrintWords Go.Proofs.YtoanbmggffkmgaaDoorW.PrintLast Go.Proofs.YtoanbmggffkmgaaDoorW.PrintMore
attribute [local go_sem] max2_int min2_int max_two min_two max_three min_three max_four min_four   -- for this text's walks alone
attribute [-simp] ByteArray.size_extract
theorem pxdragomanref1parts_empty (l : List UInt8) : l.isEmpty = !(l != []) := by cases l <;> rfl
set_option linter.unusedVariables false
set_option linter.unusedSimpArgs false
/-! ### dragomanref1_parts: function 35 -/
mutual
def dragomanref1_parts.j0 : Nat → ByteArray → Bool → Option (Bool × ByteArray × ByteArray × ByteArray × Bool)
 | 0, _, _ => none
 | k + 1, x0, x7 => if x7 = true then (if 1 ≤ (x0.size : Int) then (dragomanref1_parts.j1 k (x0.extract 1 x0.size) x7) else (none)) else (dragomanref1_parts.j1 k x0 x7)
def dragomanref1_parts.j1 : Nat → ByteArray → Bool → Option (Bool × ByteArray × ByteArray × ByteArray × Bool)
 | 0, _, _ => none
 | k + 1, x0, x7 => (dragomanref1_run.f k x0).bind fun t240 => (if 0 ≤ t240 then (if t240 ≤ (x0.size : Int) then (if (x0.extract 0 (t240 : Int).toNat).toList = ([] : List UInt8) then (dragomanref1_parts.j2 k (x0.extract (t240 : Int).toNat x0.size) x7 (x0.extract 0 (t240 : Int).toNat) true) else (if ((x0.extract 0 (t240 : Int).toNat).size : Int) > 1 then (if 0 < ((x0.extract 0 (t240 : Int).toNat).size : Int) then (dragomanref1_parts.j2 k (x0.extract (t240 : Int).toNat x0.size) x7 (x0.extract 0 (t240 : Int).toNat) ((bt (x0.extract 0 (t240 : Int).toNat) 0) == 48)) else (none)) else (dragomanref1_parts.j2 k (x0.extract (t240 : Int).toNat x0.size) x7 (x0.extract 0 (t240 : Int).toNat) false))) else (none)) else (none))
def dragomanref1_parts.j2 : Nat → ByteArray → Bool → ByteArray → Bool → Option (Bool × ByteArray × ByteArray × ByteArray × Bool)
 | 0, _, _, _, _ => none
 | k + 1, x0, x7, x9, x42 => if x42 = true then (some (false, (⟨#[]⟩ : ByteArray), (⟨#[]⟩ : ByteArray), (⟨#[]⟩ : ByteArray), false)) else (if x0.toList = ([] : List UInt8) then (dragomanref1_parts.j3 k x0 x7 x9 (⟨#[]⟩ : ByteArray) false) else (if 0 < (x0.size : Int) then (dragomanref1_parts.j3 k x0 x7 x9 (⟨#[]⟩ : ByteArray) ((bt x0 0) == 46)) else (none)))
def dragomanref1_parts.j3 : Nat → ByteArray → Bool → ByteArray → ByteArray → Bool → Option (Bool × ByteArray × ByteArray × ByteArray × Bool)
 | 0, _, _, _, _, _ => none
 | k + 1, x0, x7, x9, x10, x49 => if x49 = true then (if 1 ≤ (x0.size : Int) then ((dragomanref1_run.f k (x0.extract 1 x0.size)).bind fun t241 => (if 1 ≤ (wrap64 (1 + t241)) then (if (wrap64 (1 + t241)) ≤ (x0.size : Int) then (if 0 ≤ (wrap64 (1 + t241)) then (if (x0.extract 1 ((wrap64 (1 + t241)) : Int).toNat).toList = ([] : List UInt8) then (some (false, (⟨#[]⟩ : ByteArray), (⟨#[]⟩ : ByteArray), (⟨#[]⟩ : ByteArray), false)) else (dragomanref1_parts.j4 k (x0.extract ((wrap64 (1 + t241)) : Int).toNat x0.size) x7 x9 (x0.extract 1 ((wrap64 (1 + t241)) : Int).toNat))) else (none)) else (none)) else (none))) else (none)) else (dragomanref1_parts.j4 k x0 x7 x9 x10)
def dragomanref1_parts.j4 : Nat → ByteArray → Bool → ByteArray → ByteArray → Option (Bool × ByteArray × ByteArray × ByteArray × Bool)
 | 0, _, _, _, _ => none
 | k + 1, x0, x7, x9, x10 => if x0.toList = ([] : List UInt8) then (some (x7, x9, x10, (⟨#[]⟩ : ByteArray), true)) else (if 0 < (x0.size : Int) then (if (bt x0 0) = 101 then (dragomanref1_parts.j5 k x0 x7 x9 x10 false) else (dragomanref1_parts.j5 k x0 x7 x9 x10 ((bt x0 0) != 69))) else (none))
def dragomanref1_parts.j5 : Nat → ByteArray → Bool → ByteArray → ByteArray → Bool → Option (Bool × ByteArray × ByteArray × ByteArray × Bool)
 | 0, _, _, _, _, _ => none
 | k + 1, x0, x7, x9, x10, x75 => if x75 = true then (some (false, (⟨#[]⟩ : ByteArray), (⟨#[]⟩ : ByteArray), (⟨#[]⟩ : ByteArray), false)) else (if 1 ≤ (x0.size : Int) then (if (x0.extract 1 x0.size).toList = ([] : List UInt8) then (dragomanref1_parts.j6 k x7 x9 x10 (x0.extract 1 x0.size) (x0.extract 1 x0.size) false) else (if 0 < ((x0.extract 1 x0.size).size : Int) then (if (bt (x0.extract 1 x0.size) 0) = 43 then (dragomanref1_parts.j6 k x7 x9 x10 (x0.extract 1 x0.size) (x0.extract 1 x0.size) true) else (dragomanref1_parts.j6 k x7 x9 x10 (x0.extract 1 x0.size) (x0.extract 1 x0.size) ((bt (x0.extract 1 x0.size) 0) == 45))) else (none))) else (none))
def dragomanref1_parts.j6 : Nat → Bool → ByteArray → ByteArray → ByteArray → ByteArray → Bool → Option (Bool × ByteArray × ByteArray × ByteArray × Bool)
 | 0, _, _, _, _, _, _ => none
 | k + 1, x7, x9, x10, x11, x12, x90 => if x90 = true then (if 1 ≤ (x12.size : Int) then (if (x12.extract 1 x12.size).toList = ([] : List UInt8) then (some (false, (⟨#[]⟩ : ByteArray), (⟨#[]⟩ : ByteArray), (⟨#[]⟩ : ByteArray), false)) else ((dragomanref1_run.f k (x12.extract 1 x12.size)).bind fun t242 => (if t242 = ((x12.extract 1 x12.size).size : Int) then (some (x7, x9, x10, x11, true)) else (some (false, (⟨#[]⟩ : ByteArray), (⟨#[]⟩ : ByteArray), (⟨#[]⟩ : ByteArray), false))))) else (none)) else (if x12.toList = ([] : List UInt8) then (some (false, (⟨#[]⟩ : ByteArray), (⟨#[]⟩ : ByteArray), (⟨#[]⟩ : ByteArray), false)) else ((dragomanref1_run.f k x12).bind fun t243 => (if t243 = (x12.size : Int) then (some (x7, x9, x10, x11, true)) else (some (false, (⟨#[]⟩ : ByteArray), (⟨#[]⟩ : ByteArray), (⟨#[]⟩ : ByteArray), false)))))
end
def dragomanref1_parts.f (k : Nat) (a0 : ByteArray) : Option (Bool × ByteArray × ByteArray × ByteArray × Bool) := if a0.toList = ([] : List UInt8) then (dragomanref1_parts.j0 k a0 false) else (if 0 < (a0.size : Int) then (dragomanref1_parts.j0 k a0 ((bt a0 0) == 45)) else (none))
set_option maxHeartbeats 8000000 in
set_option maxRecDepth 100000 in
theorem dragomanref1_parts.calls (k : Nat) (a0 : ByteArray) (r1 : Bool) (r2 : ByteArray) (r3 : ByteArray) (r4 : ByteArray) (r5 : Bool) (w : World) (h : dragomanref1_parts.f k a0 = some (r1, r2, r3, r4, r5)) :
  Calls Tryd.prog 35 #[.string a0] w fun e w' => e = .returned (.tuple #[.bool r1, .string r2, .string r3, .string r4, .bool r5]) ∧ Drawn0 w w' := by
 have H : (if a0.toList = ([] : List UInt8) then (dragomanref1_parts.j0 k a0 false) else (if 0 < (a0.size : Int) then (dragomanref1_parts.j0 k a0 ((bt a0 0) == 45)) else (none))) = some (r1, r2, r3, r4, r5) := h
 clear h
 have HC2 := Aside0.mk H
 clear H
 go_enter Tryd.func35, Tryd.ntmps35
 go_upto_region 1 with (fail)
 go_cut [7] (fun v7 wc => ∃ (kq : Nat) (x7_1 : Bool), v7 = .bool x7_1 ∧ Aside0 (dragomanref1_parts.j0 kq a0 x7_1 = some (r1, r2, r3, r4, r5)) ∧ Aside0 (kq ≤ k) ∧ Drawn0 w wc)
 case first =>
  have H := HC2.out
  clear HC2
  by_cases c3 : a0.toList = ([] : List UInt8)
  ·rw [if_pos c3] at H
   have c3b0 : (a0.toList == ([] : List UInt8)) = true := beq_iff_eq.mpr c3
   have c3b1 : (a0.toList != ([] : List UInt8)) = false := bne_eq_false_iff_eq.mpr c3
   have c3b2 : a0.toList.isEmpty = true := List.isEmpty_iff.mpr c3
   (try simp only [c3b2, Bool.not_true, Bool.not_false])
   clear c3
   (first | rw [c3b0] | (simp only [i64_w, i32_w]; rw [c3b0]) | skip)
   have H' := Aside0.mk H
   clear H
   go_wp2
   go_meet
   case rel => exact ⟨_, (false), (by first | rfl | (simp; done) | (simp [*]; done)), H', ⟨by first | omega | exact Nat.le_refl _⟩, by repeat (first | exact Drawn0.refl _ | apply Drawn0.step)⟩
  ·rw [if_neg c3] at H
   have c3b0 : (a0.toList == ([] : List UInt8)) = false := beq_eq_false_iff_ne.mpr c3
   have c3b1 : (a0.toList != ([] : List UInt8)) = true := bne_iff_ne.mpr c3
   have c3b2 : a0.toList.isEmpty = false := List.isEmpty_eq_false_iff.mpr c3
   (try simp only [c3b2, Bool.not_true, Bool.not_false])
   (first | rw [c3b0] | (simp only [i64_w, i32_w]; rw [c3b0]) | skip)
   by_cases c4 : 0 < (a0.size : Int)
   ·rw [if_pos c4] at H
    have c4b0 : decide (0 < (a0.size : Int)) = true := decide_eq_true c4
    have c4b1 : decide (0 < a0.size) = true := decide_eq_true (by omega)
    clear c4
    have H' := Aside0.mk H
    clear H
    have p5 : 0 ≤ (0 : Int) := (by omega)
    have q5 : 0 < a0.size := (by have : (0 : Int) < (a0.size : Int) := of_decide_eq_true (by first | (with_reducible assumption) | assumption); omega)
    have hx5 : ∀ h : 0 < a0.size, ((a0[0]'h).toNat : Int) = bt a0 0 := bt_at a0 0
    clear p5
    have qi5 : (0 < (a0.size : Int)) = True := eq_true (of_decide_eq_true (by first | (with_reducible assumption) | assumption))
    replace q5 := eq_true q5
    go_wp2
    go_meet
    case rel => exact ⟨_, (((bt a0 0) == 45)), (by first | rfl | (simp; done) | (simp [*]; done)), H', ⟨by first | omega | exact Nat.le_refl _⟩, by repeat (first | exact Drawn0.refl _ | apply Drawn0.step)⟩
   ·rw [if_neg c4] at H
    exact absurd H (by simp)
 case rest =>
  clear HC2
  try clear p2
  try clear c3
  try clear c3b0
  try clear c3b1
  try clear c4
  try clear c4b0
  try clear c4b1
  try clear p5
  try clear q5
  try clear hx5
  try clear qi5
  try clear p5
  try clear q5
  obtain ⟨kq, x7_1, rfl, HA, HJ1, ⟨mc1, rfl⟩⟩ := hcut
  cases kq with
  | zero => exact absurd HA.out (by simp [dragomanref1_parts.j0])
  | succ kj1 =>
   have H := HA.out
   clear HA
   simp only [dragomanref1_parts.j0] at H
   have HC6 := Aside0.mk H
   clear H
   go_upto_if 20 with (fail)
   go_cut [0] (fun v0 wc => ∃ (kq : Nat) (x0_5 : ByteArray), v0 = .string x0_5 ∧ Aside0 (dragomanref1_parts.j1 kq x0_5 x7_1 = some (r1, r2, r3, r4, r5)) ∧ Aside0 (kq ≤ kj1) ∧ Drawn0 w wc)
   case first =>
    have H := HC6.out
    clear HC6
    by_cases c7 : x7_1 = true
    ·subst c7
     have H1 : (if 1 ≤ (a0.size : Int) then (dragomanref1_parts.j1 kj1 (a0.extract 1 a0.size) true) else (none)) = some (r1, r2, r3, r4, r5) := by rw [if_pos rfl] at H; exact H
     clear H
     have H := H1
     clear H1
     by_cases c8 : 1 ≤ (a0.size : Int)
     ·rw [if_pos c8] at H
      have c8b0 := eq_true c8
      have c8b1 : decide (1 ≤ (a0.size : Int)) = true := decide_eq_true c8
      clear c8
      have H' := Aside0.mk H
      clear H
      go_wp2
      go_meet
      case rel => exact ⟨_, (a0.extract 1 a0.size), (by first | rfl | (simp; done) | (simp [*]; done)), H', ⟨by have := HJ1.out; first | omega | exact Nat.le_refl _⟩, by repeat (first | exact Drawn0.refl _ | apply Drawn0.step)⟩
     ·rw [if_neg c8] at H
      exact absurd H (by simp)
    ·replace c7 := Bool.eq_false_iff.mpr c7
     subst c7
     have H1 : (dragomanref1_parts.j1 kj1 a0 false) = some (r1, r2, r3, r4, r5) := by rw [if_neg (show ¬ (false = true) by decide)] at H; exact H
     clear H
     have H := H1
     clear H1
     have H' := Aside0.mk H
     clear H
     go_wp2
     go_meet
     case rel => exact ⟨_, (a0), (by first | rfl | (simp; done) | (simp [*]; done)), H', ⟨by have := HJ1.out; first | omega | exact Nat.le_refl _⟩, by repeat (first | exact Drawn0.refl _ | apply Drawn0.step)⟩
   case rest =>
    clear HC6
    try clear c1
    try clear p2
    try clear c3
    try clear c3b0
    try clear c3b1
    try clear c4
    try clear c4b0
    try clear c4b1
    try clear p5
    try clear q5
    try clear hx5
    try clear qi5
    try clear c7
    try clear c8
    try clear c8b0
    try clear c8b1
    try clear p2
    try clear p5
    try clear q5
    obtain ⟨kq, x0_5, rfl, HA, HJ5, ⟨mc5, rfl⟩⟩ := hcut
    cases kq with
    | zero => exact absurd HA.out (by simp [dragomanref1_parts.j1])
    | succ kj5 =>
     have H := HA.out
     clear HA
     simp only [dragomanref1_parts.j1] at H
     replace H := Option.bind_eq_some_iff.mp H
     obtain ⟨t240, A90, H⟩ := H
     replace H : (if 0 ≤ t240 then (if t240 ≤ (x0_5.size : Int) then (if (x0_5.extract 0 (t240 : Int).toNat).toList = ([] : List UInt8) then (dragomanref1_parts.j2 kj5 (x0_5.extract (t240 : Int).toNat x0_5.size) x7_1 (x0_5.extract 0 (t240 : Int).toNat) true) else (if ((x0_5.extract 0 (t240 : Int).toNat).size : Int) > 1 then (if 0 < ((x0_5.extract 0 (t240 : Int).toNat).size : Int) then (dragomanref1_parts.j2 kj5 (x0_5.extract (t240 : Int).toNat x0_5.size) x7_1 (x0_5.extract 0 (t240 : Int).toNat) ((bt (x0_5.extract 0 (t240 : Int).toNat) 0) == 48)) else (none)) else (dragomanref1_parts.j2 kj5 (x0_5.extract (t240 : Int).toNat x0_5.size) x7_1 (x0_5.extract 0 (t240 : Int).toNat) false))) else (none)) else (none)) = some (r1, r2, r3, r4, r5) := H
     have A9 := Aside0.mk A90
     clear A90
     by_cases c10 : 0 ≤ t240
     ·rw [if_pos c10] at H
      have c10b0 := eq_true c10
      have c10b1 : decide (0 ≤ t240) = true := decide_eq_true c10
      clear c10
      by_cases c11 : t240 ≤ (x0_5.size : Int)
      ·rw [if_pos c11] at H
       have c11b0 := eq_true c11
       have c11b1 : decide (t240 ≤ (x0_5.size : Int)) = true := decide_eq_true c11
       clear c11
       have c12b0 := eq_true (of_decide_eq_true (by first | (with_reducible assumption) | assumption) : 0 ≤ t240)
       have c13b0 := eq_true (of_decide_eq_true (by first | (with_reducible assumption) | assumption) : t240 ≤ (x0_5.size : Int))
       have HC14 := Aside0.mk H
       clear H
       go_upto_region 7 with (first | ((with_reducible refine gate_callee (f := 60) rfl ?_); refine goesL_ (some 24) rfl rfl Tryd.func60 (by kernel_rfl) rfl #[.string x0_5] rfl (by (try simp only [List.map_toArray, List.map_cons, List.map_nil]); first | done | rfl | (simp only [List.length_drop, List.length_take]; rfl)) ?_; (with_reducible refine (dragomanref1_run.calls kj5 x0_5 t240 _ A9.out).mono ?_); rintro e w' ⟨rfl, ⟨nd, rfl⟩⟩; refine ⟨_, rfl, ?_⟩))
       (try simp only [Act.put, List.setIfInBounds_toArray, List.set_cons_zero, List.set_cons_succ])
       go_cut [42] (fun v42 wc => ∃ (kq : Nat) (x42_13 : Bool), v42 = .bool x42_13 ∧ Aside0 (dragomanref1_parts.j2 kq (x0_5.extract (t240 : Int).toNat x0_5.size) x7_1 (x0_5.extract 0 (t240 : Int).toNat) x42_13 = some (r1, r2, r3, r4, r5)) ∧ Aside0 (kq ≤ kj5) ∧ Drawn0 w wc)
       case first =>
        have H := HC14.out
        clear HC14
        by_cases c15 : (x0_5.extract 0 (t240 : Int).toNat).toList = ([] : List UInt8)
        ·rw [if_pos c15] at H
         have c15b0 : ((x0_5.extract 0 (t240 : Int).toNat).toList == ([] : List UInt8)) = true := beq_iff_eq.mpr c15
         have c15b1 : ((x0_5.extract 0 (t240 : Int).toNat).toList != ([] : List UInt8)) = false := bne_eq_false_iff_eq.mpr c15
         have c15b2 : (x0_5.extract 0 (t240 : Int).toNat).toList.isEmpty = true := List.isEmpty_iff.mpr c15
         (try simp only [c15b2, Bool.not_true, Bool.not_false])
         clear c15
         (first | rw [c15b0] | (simp only [i64_w, i32_w]; rw [c15b0]) | skip)
         have H' := Aside0.mk H
         clear H
         go_wp2
         go_meet
         case rel => exact ⟨_, (true), (by first | rfl | (simp; done) | (simp [*]; done)), H', ⟨by have := HJ1.out; have := HJ5.out; first | omega | exact Nat.le_refl _⟩, by repeat (first | exact Drawn0.refl _ | apply Drawn0.step)⟩
        ·rw [if_neg c15] at H
         have c15b0 : ((x0_5.extract 0 (t240 : Int).toNat).toList == ([] : List UInt8)) = false := beq_eq_false_iff_ne.mpr c15
         have c15b1 : ((x0_5.extract 0 (t240 : Int).toNat).toList != ([] : List UInt8)) = true := bne_iff_ne.mpr c15
         have c15b2 : (x0_5.extract 0 (t240 : Int).toNat).toList.isEmpty = false := List.isEmpty_eq_false_iff.mpr c15
         (try simp only [c15b2, Bool.not_true, Bool.not_false])
         (first | rw [c15b0] | (simp only [i64_w, i32_w]; rw [c15b0]) | skip)
         by_cases c16 : ((x0_5.extract 0 (t240 : Int).toNat).size : Int) > 1
         ·rw [if_pos c16] at H
          have c16b0 : decide (1 < ((x0_5.extract 0 (t240 : Int).toNat).size : Int)) = true := decide_eq_true c16
          have c16b1 : decide (1 < (x0_5.extract 0 (t240 : Int).toNat).size) = true := decide_eq_true (by omega)
          clear c16
          by_cases c17 : 0 < ((x0_5.extract 0 (t240 : Int).toNat).size : Int)
          ·rw [if_pos c17] at H
           have c17b0 : decide (0 < ((x0_5.extract 0 (t240 : Int).toNat).size : Int)) = true := decide_eq_true c17
           have c17b1 : decide (0 < (x0_5.extract 0 (t240 : Int).toNat).size) = true := decide_eq_true (by omega)
           clear c17
           have H' := Aside0.mk H
           clear H
           have p18 : 0 ≤ (0 : Int) := (by omega)
           have q18 : 0 < (x0_5.extract 0 (t240 : Int).toNat).size := (by have : (0 : Int) < ((x0_5.extract 0 (t240 : Int).toNat).size : Int) := of_decide_eq_true (by first | (with_reducible assumption) | assumption); omega)
           have hx18 : ∀ h : 0 < (x0_5.extract 0 (t240 : Int).toNat).size, (((x0_5.extract 0 (t240 : Int).toNat)[0]'h).toNat : Int) = bt (x0_5.extract 0 (t240 : Int).toNat) 0 := bt_at (x0_5.extract 0 (t240 : Int).toNat) 0
           clear p18
           have qi18 : (0 < ((x0_5.extract 0 (t240 : Int).toNat).size : Int)) = True := eq_true (of_decide_eq_true (by first | (with_reducible assumption) | assumption))
           replace q18 := eq_true q18
           go_wp2
           go_meet
           case rel => exact ⟨_, (((bt (x0_5.extract 0 (t240 : Int).toNat) 0) == 48)), (by first | rfl | (simp; done) | (simp [*]; done)), H', ⟨by have := HJ1.out; have := HJ5.out; first | omega | exact Nat.le_refl _⟩, by repeat (first | exact Drawn0.refl _ | apply Drawn0.step)⟩
          ·rw [if_neg c17] at H
           exact absurd H (by simp)
         ·rw [if_neg c16] at H
          have c16b0 : decide (1 < ((x0_5.extract 0 (t240 : Int).toNat).size : Int)) = false := decide_eq_false c16
          have c16b1 : decide (1 < (x0_5.extract 0 (t240 : Int).toNat).size) = false := decide_eq_false (by omega)
          clear c16
          have H' := Aside0.mk H
          clear H
          go_wp2
          go_meet
          case rel => exact ⟨_, (false), (by first | rfl | (simp; done) | (simp [*]; done)), H', ⟨by have := HJ1.out; have := HJ5.out; first | omega | exact Nat.le_refl _⟩, by repeat (first | exact Drawn0.refl _ | apply Drawn0.step)⟩
       case rest =>
        clear HC14
        try clear c1
        try clear p1
        try clear q1
        try clear hx1
        try clear qi1
        try clear p2
        try clear c3
        try clear c3b0
        try clear c3b1
        try clear c4
        try clear c4b0
        try clear c4b1
        try clear c5
        try clear p5
        try clear q5
        try clear hx5
        try clear qi5
        try clear c6
        try clear c7
        try clear c8
        try clear c8b0
        try clear c8b1
        try clear c10
        try clear c10b0
        try clear c10b1
        try clear c11
        try clear c11b0
        try clear c11b1
        try clear c12
        try clear c12b0
        try clear c13
        try clear c13b0
        try clear c15
        try clear c15b0
        try clear c15b1
        try clear c16
        try clear c16b0
        try clear c16b1
        try clear c17
        try clear c17b0
        try clear c17b1
        try clear p18
        try clear q18
        try clear hx18
        try clear qi18
        try clear p18
        try clear p2
        try clear p5
        try clear q18
        try clear q5
        obtain ⟨kq, x42_13, rfl, HA, HJ13, ⟨mc13, rfl⟩⟩ := hcut
        cases kq with
        | zero => exact absurd HA.out (by simp [dragomanref1_parts.j2])
        | succ kj13 =>
         have H := HA.out
         clear HA
         simp only [dragomanref1_parts.j2] at H
         by_cases c19 : x42_13 = true
         ·subst c19
          have H1 : (some (false, (⟨#[]⟩ : ByteArray), (⟨#[]⟩ : ByteArray), (⟨#[]⟩ : ByteArray), false)) = some (r1, r2, r3, r4, r5) := by rw [if_pos rfl] at H; exact H
          clear H
          have H := H1
          clear H1
          simp only [Option.some.injEq, Prod.mk.injEq] at H
          obtain ⟨rfl, rfl, rfl, rfl, rfl⟩ := H
          go_wp2
          refine bodyPost_ret (results_list (rs := [.tmp 2, .tmp 3, .tmp 4, .tmp 5, .tmp 6]) rfl (by simp) (.tmp (.tmp (.tmp (.tmp (.tmp .nil)))))) rfl ?_
          exact ⟨by first | rfl | (simp only [bne, Bool.not_not]; done) | (rw [pxdragomanref1parts_empty]; done) | (simp; exact pxdragomanref1parts_empty _) | (simp; done) | (simp [*]; done), by repeat (first | exact Drawn0.refl _ | apply Drawn0.step)⟩
         ·replace c19 := Bool.eq_false_iff.mpr c19
          subst c19
          have H1 : (if (x0_5.extract (t240 : Int).toNat x0_5.size).toList = ([] : List UInt8) then (dragomanref1_parts.j3 kj13 (x0_5.extract (t240 : Int).toNat x0_5.size) x7_1 (x0_5.extract 0 (t240 : Int).toNat) (⟨#[]⟩ : ByteArray) false) else (if 0 < ((x0_5.extract (t240 : Int).toNat x0_5.size).size : Int) then (dragomanref1_parts.j3 kj13 (x0_5.extract (t240 : Int).toNat x0_5.size) x7_1 (x0_5.extract 0 (t240 : Int).toNat) (⟨#[]⟩ : ByteArray) ((bt (x0_5.extract (t240 : Int).toNat x0_5.size) 0) == 46)) else (none))) = some (r1, r2, r3, r4, r5) := by rw [if_neg (show ¬ (false = true) by decide)] at H; exact H
          clear H
          have H := H1
          clear H1
          have HC20 := Aside0.mk H
          clear H
          go_upto_region 10 with (fail)
          go_cut [49] (fun v49 wc => ∃ (kq : Nat) (x49_19 : Bool), v49 = .bool x49_19 ∧ Aside0 (dragomanref1_parts.j3 kq (x0_5.extract (t240 : Int).toNat x0_5.size) x7_1 (x0_5.extract 0 (t240 : Int).toNat) (⟨#[]⟩ : ByteArray) x49_19 = some (r1, r2, r3, r4, r5)) ∧ Aside0 (kq ≤ kj13) ∧ Drawn0 w wc)
          case first =>
           have H := HC20.out
           clear HC20
           by_cases c21 : (x0_5.extract (t240 : Int).toNat x0_5.size).toList = ([] : List UInt8)
           ·rw [if_pos c21] at H
            have c21b0 : ((x0_5.extract (t240 : Int).toNat x0_5.size).toList == ([] : List UInt8)) = true := beq_iff_eq.mpr c21
            have c21b1 : ((x0_5.extract (t240 : Int).toNat x0_5.size).toList != ([] : List UInt8)) = false := bne_eq_false_iff_eq.mpr c21
            have c21b2 : (x0_5.extract (t240 : Int).toNat x0_5.size).toList.isEmpty = true := List.isEmpty_iff.mpr c21
            (try simp only [c21b2, Bool.not_true, Bool.not_false])
            clear c21
            (first | rw [c21b0] | (simp only [i64_w, i32_w]; rw [c21b0]) | skip)
            have H' := Aside0.mk H
            clear H
            go_wp2
            go_meet
            case rel => exact ⟨_, (false), (by first | rfl | (simp; done) | (simp [*]; done)), H', ⟨by have := HJ1.out; have := HJ5.out; have := HJ13.out; first | omega | exact Nat.le_refl _⟩, by repeat (first | exact Drawn0.refl _ | apply Drawn0.step)⟩
           ·rw [if_neg c21] at H
            have c21b0 : ((x0_5.extract (t240 : Int).toNat x0_5.size).toList == ([] : List UInt8)) = false := beq_eq_false_iff_ne.mpr c21
            have c21b1 : ((x0_5.extract (t240 : Int).toNat x0_5.size).toList != ([] : List UInt8)) = true := bne_iff_ne.mpr c21
            have c21b2 : (x0_5.extract (t240 : Int).toNat x0_5.size).toList.isEmpty = false := List.isEmpty_eq_false_iff.mpr c21
            (try simp only [c21b2, Bool.not_true, Bool.not_false])
            (first | rw [c21b0] | (simp only [i64_w, i32_w]; rw [c21b0]) | skip)
            by_cases c22 : 0 < ((x0_5.extract (t240 : Int).toNat x0_5.size).size : Int)
            ·rw [if_pos c22] at H
             have c22b0 : decide (0 < ((x0_5.extract (t240 : Int).toNat x0_5.size).size : Int)) = true := decide_eq_true c22
             have c22b1 : decide (0 < (x0_5.extract (t240 : Int).toNat x0_5.size).size) = true := decide_eq_true (by omega)
             clear c22
             have H' := Aside0.mk H
             clear H
             have p23 : 0 ≤ (0 : Int) := (by omega)
             have q23 : 0 < (x0_5.extract (t240 : Int).toNat x0_5.size).size := (by have : (0 : Int) < ((x0_5.extract (t240 : Int).toNat x0_5.size).size : Int) := of_decide_eq_true (by first | (with_reducible assumption) | assumption); omega)
             have hx23 : ∀ h : 0 < (x0_5.extract (t240 : Int).toNat x0_5.size).size, (((x0_5.extract (t240 : Int).toNat x0_5.size)[0]'h).toNat : Int) = bt (x0_5.extract (t240 : Int).toNat x0_5.size) 0 := bt_at (x0_5.extract (t240 : Int).toNat x0_5.size) 0
             clear p23
             have qi23 : (0 < ((x0_5.extract (t240 : Int).toNat x0_5.size).size : Int)) = True := eq_true (of_decide_eq_true (by first | (with_reducible assumption) | assumption))
             replace q23 := eq_true q23
             go_wp2
             go_meet
             case rel => exact ⟨_, (((bt (x0_5.extract (t240 : Int).toNat x0_5.size) 0) == 46)), (by first | rfl | (simp; done) | (simp [*]; done)), H', ⟨by have := HJ1.out; have := HJ5.out; have := HJ13.out; first | omega | exact Nat.le_refl _⟩, by repeat (first | exact Drawn0.refl _ | apply Drawn0.step)⟩
            ·rw [if_neg c22] at H
             exact absurd H (by simp)
          case rest =>
           clear HC20
           try clear c1
           try clear p1
           try clear q1
           try clear hx1
           try clear qi1
           try clear c2
           try clear p2
           try clear q2
           try clear hx2
           try clear qi2
           try clear c3
           try clear c3b0
           try clear c3b1
           try clear c4
           try clear c4b0
           try clear c4b1
           try clear c5
           try clear p5
           try clear q5
           try clear hx5
           try clear qi5
           try clear c6
           try clear c7
           try clear c8
           try clear c8b0
           try clear c8b1
           try clear c10
           try clear c10b0
           try clear c10b1
           try clear c11
           try clear c11b0
           try clear c11b1
           try clear c12
           try clear c12b0
           try clear c13
           try clear c13b0
           try clear c15
           try clear c15b0
           try clear c15b1
           try clear c16
           try clear c16b0
           try clear c16b1
           try clear c17
           try clear c17b0
           try clear c17b1
           try clear p18
           try clear q18
           try clear hx18
           try clear qi18
           try clear c19
           try clear c21
           try clear c21b0
           try clear c21b1
           try clear c22
           try clear c22b0
           try clear c22b1
           try clear p23
           try clear q23
           try clear hx23
           try clear qi23
           try clear p1
           try clear p18
           try clear p2
           try clear p23
           try clear p5
           try clear q1
           try clear q18
           try clear q23
           try clear q5
           obtain ⟨kq, x49_19, rfl, HA, HJ19, ⟨mc19, rfl⟩⟩ := hcut
           cases kq with
           | zero => exact absurd HA.out (by simp [dragomanref1_parts.j3])
           | succ kj19 =>
            have H := HA.out
            clear HA
            simp only [dragomanref1_parts.j3] at H
            have HC24 := Aside0.mk H
            clear H
            go_upto_if 49 with (fail)
            go_cut [0, 10] (fun v0 v10 wc => ∃ (kq : Nat) (x0_23 : ByteArray) (x10_23 : ByteArray), v0 = .string x0_23 ∧ v10 = .string x10_23 ∧ Aside0 (dragomanref1_parts.j4 kq x0_23 x7_1 (x0_5.extract 0 (t240 : Int).toNat) x10_23 = some (r1, r2, r3, r4, r5)) ∧ Aside0 (kq ≤ kj19) ∧ Drawn0 w wc)
            case first =>
             have H := HC24.out
             clear HC24
             by_cases c25 : x49_19 = true
             ·subst c25
              have H1 : (if 1 ≤ ((x0_5.extract (t240 : Int).toNat x0_5.size).size : Int) then ((dragomanref1_run.f kj19 ((x0_5.extract (t240 : Int).toNat x0_5.size).extract 1 (x0_5.extract (t240 : Int).toNat x0_5.size).size)).bind fun t241 => (if 1 ≤ (wrap64 (1 + t241)) then (if (wrap64 (1 + t241)) ≤ ((x0_5.extract (t240 : Int).toNat x0_5.size).size : Int) then (if 0 ≤ (wrap64 (1 + t241)) then (if ((x0_5.extract (t240 : Int).toNat x0_5.size).extract 1 ((wrap64 (1 + t241)) : Int).toNat).toList = ([] : List UInt8) then (some (false, (⟨#[]⟩ : ByteArray), (⟨#[]⟩ : ByteArray), (⟨#[]⟩ : ByteArray), false)) else (dragomanref1_parts.j4 kj19 ((x0_5.extract (t240 : Int).toNat x0_5.size).extract ((wrap64 (1 + t241)) : Int).toNat (x0_5.extract (t240 : Int).toNat x0_5.size).size) x7_1 (x0_5.extract 0 (t240 : Int).toNat) ((x0_5.extract (t240 : Int).toNat x0_5.size).extract 1 ((wrap64 (1 + t241)) : Int).toNat))) else (none)) else (none)) else (none))) else (none)) = some (r1, r2, r3, r4, r5) := by rw [if_pos rfl] at H; exact H
              clear H
              have H := H1
              clear H1
              by_cases c26 : 1 ≤ ((x0_5.extract (t240 : Int).toNat x0_5.size).size : Int)
              ·rw [if_pos c26] at H
               have c26b0 := eq_true c26
               have c26b1 : decide (1 ≤ ((x0_5.extract (t240 : Int).toNat x0_5.size).size : Int)) = true := decide_eq_true c26
               clear c26
               replace H := Option.bind_eq_some_iff.mp H
               obtain ⟨t241, A270, H⟩ := H
               replace H : (if 1 ≤ (wrap64 (1 + t241)) then (if (wrap64 (1 + t241)) ≤ ((x0_5.extract (t240 : Int).toNat x0_5.size).size : Int) then (if 0 ≤ (wrap64 (1 + t241)) then (if ((x0_5.extract (t240 : Int).toNat x0_5.size).extract 1 ((wrap64 (1 + t241)) : Int).toNat).toList = ([] : List UInt8) then (some (false, (⟨#[]⟩ : ByteArray), (⟨#[]⟩ : ByteArray), (⟨#[]⟩ : ByteArray), false)) else (dragomanref1_parts.j4 kj19 ((x0_5.extract (t240 : Int).toNat x0_5.size).extract ((wrap64 (1 + t241)) : Int).toNat (x0_5.extract (t240 : Int).toNat x0_5.size).size) x7_1 (x0_5.extract 0 (t240 : Int).toNat) ((x0_5.extract (t240 : Int).toNat x0_5.size).extract 1 ((wrap64 (1 + t241)) : Int).toNat))) else (none)) else (none)) else (none)) = some (r1, r2, r3, r4, r5) := H
               have A27 := Aside0.mk A270
               clear A270
               by_cases c28 : 1 ≤ (wrap64 (1 + t241))
               ·rw [if_pos c28] at H
                have c28b0 := eq_true c28
                have c28b1 : decide (1 ≤ (wrap64 (1 + t241))) = true := decide_eq_true c28
                by_cases c29 : (wrap64 (1 + t241)) ≤ ((x0_5.extract (t240 : Int).toNat x0_5.size).size : Int)
                ·rw [if_pos c29] at H
                 have c29b0 := eq_true c29
                 have c29b1 : decide ((wrap64 (1 + t241)) ≤ ((x0_5.extract (t240 : Int).toNat x0_5.size).size : Int)) = true := decide_eq_true c29
                 obtain ⟨ji30, hji30⟩ : ∃ j_ : Int, (wrap64 (1 + t241)) = j_ := ⟨_, rfl⟩
                 replace H : (if 0 ≤ (ji30) then (if ((x0_5.extract (t240 : Int).toNat x0_5.size).extract 1 ((ji30) : Int).toNat).toList = ([] : List UInt8) then (some (false, (⟨#[]⟩ : ByteArray), (⟨#[]⟩ : ByteArray), (⟨#[]⟩ : ByteArray), false)) else (dragomanref1_parts.j4 kj19 ((x0_5.extract (t240 : Int).toNat x0_5.size).extract ((ji30) : Int).toNat (x0_5.extract (t240 : Int).toNat x0_5.size).size) x7_1 (x0_5.extract 0 (t240 : Int).toNat) ((x0_5.extract (t240 : Int).toNat x0_5.size).extract 1 ((ji30) : Int).toNat))) else (none)) = some (r1, r2, r3, r4, r5) := by first | (rw [hji30] at H; exact H) | (simp only [hji30] at H ⊢; exact H)
                 (try rw [hji30] at c28b0)
                 (try rw [hji30] at c28b1)
                 (try rw [hji30] at c28)
                 (try rw [hji30] at c29b0)
                 (try rw [hji30] at c29b1)
                 (try rw [hji30] at c29)
                 (try rw [hji30] at A27)
                 have hji30w : (IntKind.i64.wrap (1 + t241)) = ji30 := (i64_w _).trans hji30
                 by_cases c31 : 0 ≤ (ji30)
                 ·rw [if_pos c31] at H
                  have c31b0 := eq_true c31
                  have c31b1 : decide (0 ≤ (ji30)) = true := decide_eq_true c31
                  clear c31
                  have c32b0 := eq_true (of_decide_eq_true (by first | (with_reducible assumption) | assumption) : (ji30) ≤ ((x0_5.extract (t240 : Int).toNat x0_5.size).size : Int))
                  by_cases c33 : ((x0_5.extract (t240 : Int).toNat x0_5.size).extract 1 ((ji30) : Int).toNat).toList = ([] : List UInt8)
                  ·rw [if_pos c33] at H
                   have c33b0 : (((x0_5.extract (t240 : Int).toNat x0_5.size).extract 1 ((ji30) : Int).toNat).toList == ([] : List UInt8)) = true := beq_iff_eq.mpr c33
                   have c33b1 : (((x0_5.extract (t240 : Int).toNat x0_5.size).extract 1 ((ji30) : Int).toNat).toList != ([] : List UInt8)) = false := bne_eq_false_iff_eq.mpr c33
                   have c33b2 : ((x0_5.extract (t240 : Int).toNat x0_5.size).extract 1 ((ji30) : Int).toNat).toList.isEmpty = true := List.isEmpty_iff.mpr c33
                   (try simp only [c33b2, Bool.not_true, Bool.not_false])
                   clear c33
                   (first | rw [c33b0] | (simp only [i64_w, i32_w]; rw [c33b0]) | skip)
                   simp only [Option.some.injEq, Prod.mk.injEq] at H
                   obtain ⟨rfl, rfl, rfl, rfl, rfl⟩ := H
                   go_wp2_with (first | ((with_reducible refine gate_callee (f := 60) rfl ?_); refine goesL_ (some 52) rfl rfl Tryd.func60 (by kernel_rfl) rfl #[.string ((x0_5.extract (t240 : Int).toNat x0_5.size).extract 1 (x0_5.extract (t240 : Int).toNat x0_5.size).size)] rfl (by (try simp only [List.map_toArray, List.map_cons, List.map_nil]); first | done | rfl | (simp only [List.length_drop, List.length_take]; rfl)) ?_; (with_reducible refine (dragomanref1_run.calls kj19 ((x0_5.extract (t240 : Int).toNat x0_5.size).extract 1 (x0_5.extract (t240 : Int).toNat x0_5.size).size) t241 _ A27.out).mono ?_); rintro e w' ⟨rfl, ⟨nd, rfl⟩⟩; refine ⟨_, rfl, ?_⟩))
                   refine bodyPost_ret (results_list (rs := [.tmp 2, .tmp 3, .tmp 4, .tmp 5, .tmp 6]) rfl (by simp) (.tmp (.tmp (.tmp (.tmp (.tmp .nil)))))) rfl ?_
                   exact ⟨by first | rfl | (simp only [bne, Bool.not_not]; done) | (rw [pxdragomanref1parts_empty]; done) | (simp; exact pxdragomanref1parts_empty _) | (simp; done) | (simp only [← hji30] <;> (first | rfl | simp)) | (simp [*]; done), by repeat (first | exact Drawn0.refl _ | apply Drawn0.step)⟩
                  ·rw [if_neg c33] at H
                   have c33b0 : (((x0_5.extract (t240 : Int).toNat x0_5.size).extract 1 ((ji30) : Int).toNat).toList == ([] : List UInt8)) = false := beq_eq_false_iff_ne.mpr c33
                   have c33b1 : (((x0_5.extract (t240 : Int).toNat x0_5.size).extract 1 ((ji30) : Int).toNat).toList != ([] : List UInt8)) = true := bne_iff_ne.mpr c33
                   have c33b2 : ((x0_5.extract (t240 : Int).toNat x0_5.size).extract 1 ((ji30) : Int).toNat).toList.isEmpty = false := List.isEmpty_eq_false_iff.mpr c33
                   (try simp only [c33b2, Bool.not_true, Bool.not_false])
                   (first | rw [c33b0] | (simp only [i64_w, i32_w]; rw [c33b0]) | skip)
                   have H' := Aside0.mk H
                   clear H
                   go_wp2_with (first | ((with_reducible refine gate_callee (f := 60) rfl ?_); refine goesL_ (some 52) rfl rfl Tryd.func60 (by kernel_rfl) rfl #[.string ((x0_5.extract (t240 : Int).toNat x0_5.size).extract 1 (x0_5.extract (t240 : Int).toNat x0_5.size).size)] rfl (by (try simp only [List.map_toArray, List.map_cons, List.map_nil]); first | done | rfl | (simp only [List.length_drop, List.length_take]; rfl)) ?_; (with_reducible refine (dragomanref1_run.calls kj19 ((x0_5.extract (t240 : Int).toNat x0_5.size).extract 1 (x0_5.extract (t240 : Int).toNat x0_5.size).size) t241 _ A27.out).mono ?_); rintro e w' ⟨rfl, ⟨nd, rfl⟩⟩; refine ⟨_, rfl, ?_⟩))
                   go_meet
                   case rel => exact ⟨_, ((x0_5.extract (t240 : Int).toNat x0_5.size).extract ((ji30) : Int).toNat (x0_5.extract (t240 : Int).toNat x0_5.size).size), ((x0_5.extract (t240 : Int).toNat x0_5.size).extract 1 ((ji30) : Int).toNat), (by first | rfl | (simp; done) | (simp only [← hji30] <;> (first | rfl | simp)) | (simp [*]; done)), (by first | rfl | (simp; done) | (simp only [← hji30] <;> (first | rfl | simp)) | (simp [*]; done)), H', ⟨by have := HJ1.out; have := HJ5.out; have := HJ13.out; have := HJ19.out; first | omega | exact Nat.le_refl _⟩, by repeat (first | exact Drawn0.refl _ | apply Drawn0.step)⟩
                 ·rw [if_neg c31] at H
                  exact absurd H (by simp)
                ·rw [if_neg c29] at H
                 exact absurd H (by simp)
               ·rw [if_neg c28] at H
                exact absurd H (by simp)
              ·rw [if_neg c26] at H
               exact absurd H (by simp)
             ·replace c25 := Bool.eq_false_iff.mpr c25
              subst c25
              have H1 : (dragomanref1_parts.j4 kj19 (x0_5.extract (t240 : Int).toNat x0_5.size) x7_1 (x0_5.extract 0 (t240 : Int).toNat) (⟨#[]⟩ : ByteArray)) = some (r1, r2, r3, r4, r5) := by rw [if_neg (show ¬ (false = true) by decide)] at H; exact H
              clear H
              have H := H1
              clear H1
              have H' := Aside0.mk H
              clear H
              go_wp2
              go_meet
              case rel => exact ⟨_, ((x0_5.extract (t240 : Int).toNat x0_5.size)), ((⟨#[]⟩ : ByteArray)), (by first | rfl | (simp; done) | (simp [*]; done)), (by first | rfl | (simp; done) | (simp [*]; done)), H', ⟨by have := HJ1.out; have := HJ5.out; have := HJ13.out; have := HJ19.out; first | omega | exact Nat.le_refl _⟩, by repeat (first | exact Drawn0.refl _ | apply Drawn0.step)⟩
            case rest =>
             clear HC24
             try clear c1
             try clear p1
             try clear q1
             try clear hx1
             try clear qi1
             try clear c2
             try clear p2
             try clear q2
             try clear hx2
             try clear qi2
             try clear c3
             try clear c3b0
             try clear c3b1
             try clear c4
             try clear c4b0
             try clear c4b1
             try clear c5
             try clear p5
             try clear q5
             try clear hx5
             try clear qi5
             try clear c6
             try clear p6
             try clear c7
             try clear c8
             try clear c8b0
             try clear c8b1
             try clear c10
             try clear c10b0
             try clear c10b1
             try clear c11
             try clear c11b0
             try clear c11b1
             try clear c12
             try clear c12b0
             try clear c13
             try clear c13b0
             try clear c15
             try clear c15b0
             try clear c15b1
             try clear c16
             try clear c16b0
             try clear c16b1
             try clear c17
             try clear c17b0
             try clear c17b1
             try clear p18
             try clear q18
             try clear hx18
             try clear qi18
             try clear c19
             try clear c21
             try clear c21b0
             try clear c21b1
             try clear c22
             try clear c22b0
             try clear c22b1
             try clear p23
             try clear q23
             try clear hx23
             try clear qi23
             try clear c25
             try clear c26
             try clear c26b0
             try clear c26b1
             try clear c28
             try clear c28b0
             try clear c28b1
             try clear c29
             try clear c29b0
             try clear c29b1
             try clear c31
             try clear c31b0
             try clear c31b1
             try clear c32
             try clear c32b0
             try clear c33
             try clear c33b0
             try clear c33b1
             try clear p1
             try clear p18
             try clear p2
             try clear p23
             try clear p5
             try clear q1
             try clear q18
             try clear q2
             try clear q23
             try clear q5
             obtain ⟨kq, x0_23, x10_23, rfl, rfl, HA, HJ23, ⟨mc23, rfl⟩⟩ := hcut
             cases kq with
             | zero => exact absurd HA.out (by simp [dragomanref1_parts.j4])
             | succ kj23 =>
              have H := HA.out
              clear HA
              simp only [dragomanref1_parts.j4] at H
              by_cases c34 : x0_23.toList = ([] : List UInt8)
              ·rw [if_pos c34] at H
               have c34b0 : (x0_23.toList == ([] : List UInt8)) = true := beq_iff_eq.mpr c34
               have c34b1 : (x0_23.toList != ([] : List UInt8)) = false := bne_eq_false_iff_eq.mpr c34
               have c34b2 : x0_23.toList.isEmpty = true := List.isEmpty_iff.mpr c34
               (try simp only [c34b2, Bool.not_true, Bool.not_false])
               clear c34
               simp only [Option.some.injEq, Prod.mk.injEq] at H
               obtain ⟨rfl, rfl, rfl, rfl, rfl⟩ := H
               go_wp2
               refine bodyPost_ret (results_list (rs := [.tmp 2, .tmp 3, .tmp 4, .tmp 5, .tmp 6]) rfl (by simp) (.tmp (.tmp (.tmp (.tmp (.tmp .nil)))))) rfl ?_
               exact ⟨by first | rfl | (simp only [bne, Bool.not_not]; done) | (rw [pxdragomanref1parts_empty]; done) | (simp; exact pxdragomanref1parts_empty _) | (simp; done) | (simp [*]; done), by repeat (first | exact Drawn0.refl _ | apply Drawn0.step)⟩
              ·rw [if_neg c34] at H
               have c34b0 : (x0_23.toList == ([] : List UInt8)) = false := beq_eq_false_iff_ne.mpr c34
               have c34b1 : (x0_23.toList != ([] : List UInt8)) = true := bne_iff_ne.mpr c34
               have c34b2 : x0_23.toList.isEmpty = false := List.isEmpty_eq_false_iff.mpr c34
               (try simp only [c34b2, Bool.not_true, Bool.not_false])
               have HC35 := Aside0.mk H
               clear H
               go_upto_region 18 with (fail)
               go_cut [75] (fun v75 wc => ∃ (kq : Nat) (x75_34 : Bool), v75 = .bool x75_34 ∧ Aside0 (dragomanref1_parts.j5 kq x0_23 x7_1 (x0_5.extract 0 (t240 : Int).toNat) x10_23 x75_34 = some (r1, r2, r3, r4, r5)) ∧ Aside0 (kq ≤ kj23) ∧ Drawn0 w wc)
               case first =>
                have H := HC35.out
                clear HC35
                by_cases c36 : 0 < (x0_23.size : Int)
                ·rw [if_pos c36] at H
                 have c36b0 : decide (0 < (x0_23.size : Int)) = true := decide_eq_true c36
                 have c36b1 : decide (0 < x0_23.size) = true := decide_eq_true (by omega)
                 clear c36
                 (first | rw [c36b0] | (simp only [i64_w, i32_w]; rw [c36b0]) | skip)
                 by_cases c38 : (bt x0_23 0) = 101
                 ·rw [if_pos c38] at H
                  have c38b0 : ((bt x0_23 0) == 101) = true := beq_iff_eq.mpr c38
                  have c38b1 : ((bt x0_23 0) != 101) = false := bne_eq_false_iff_eq.mpr c38
                  clear c38
                  have H' := Aside0.mk H
                  clear H
                  have p37 : 0 ≤ (0 : Int) := (by omega)
                  have q37 : 0 < x0_23.size := (by have : (0 : Int) < (x0_23.size : Int) := of_decide_eq_true (by first | (with_reducible assumption) | assumption); omega)
                  have hx37 : ∀ h : 0 < x0_23.size, ((x0_23[0]'h).toNat : Int) = bt x0_23 0 := bt_at x0_23 0
                  clear p37
                  have qi37 : (0 < (x0_23.size : Int)) = True := eq_true (of_decide_eq_true (by first | (with_reducible assumption) | assumption))
                  replace q37 := eq_true q37
                  go_wp2
                  go_meet
                  case rel => exact ⟨_, (false), (by first | rfl | (simp; done) | (simp [*]; done)), H', ⟨by have := HJ1.out; have := HJ5.out; have := HJ13.out; have := HJ19.out; have := HJ23.out; first | omega | exact Nat.le_refl _⟩, by repeat (first | exact Drawn0.refl _ | apply Drawn0.step)⟩
                 ·rw [if_neg c38] at H
                  have c38b0 : ((bt x0_23 0) == 101) = false := beq_eq_false_iff_ne.mpr c38
                  have c38b1 : ((bt x0_23 0) != 101) = true := bne_iff_ne.mpr c38
                  have H' := Aside0.mk H
                  clear H
                  have p37 : 0 ≤ (0 : Int) := (by omega)
                  have q37 : 0 < x0_23.size := (by have : (0 : Int) < (x0_23.size : Int) := of_decide_eq_true (by first | (with_reducible assumption) | assumption); omega)
                  have hx37 : ∀ h : 0 < x0_23.size, ((x0_23[0]'h).toNat : Int) = bt x0_23 0 := bt_at x0_23 0
                  clear p37
                  have qi37 : (0 < (x0_23.size : Int)) = True := eq_true (of_decide_eq_true (by first | (with_reducible assumption) | assumption))
                  replace q37 := eq_true q37
                  have p39 : 0 ≤ (0 : Int) := (by omega)
                  have q39 : 0 < x0_23.size := (by have : (0 : Int) < (x0_23.size : Int) := of_decide_eq_true (by first | (with_reducible assumption) | assumption); omega)
                  have hx39 : ∀ h : 0 < x0_23.size, ((x0_23[0]'h).toNat : Int) = bt x0_23 0 := bt_at x0_23 0
                  clear p39
                  have qi39 : (0 < (x0_23.size : Int)) = True := eq_true (of_decide_eq_true (by first | (with_reducible assumption) | assumption))
                  replace q39 := eq_true q39
                  go_wp2
                  go_meet
                  case rel => exact ⟨_, (((bt x0_23 0) != 69)), (by first | rfl | (simp; done) | (simp [*]; done)), H', ⟨by have := HJ1.out; have := HJ5.out; have := HJ13.out; have := HJ19.out; have := HJ23.out; first | omega | exact Nat.le_refl _⟩, by repeat (first | exact Drawn0.refl _ | apply Drawn0.step)⟩
                ·rw [if_neg c36] at H
                 exact absurd H (by simp)
               case rest =>
                clear HC35
                try clear c1
                try clear p1
                try clear q1
                try clear hx1
                try clear qi1
                try clear c2
                try clear p2
                try clear q2
                try clear hx2
                try clear qi2
                try clear c3
                try clear c3b0
                try clear c3b1
                try clear p3
                try clear q3
                try clear hx3
                try clear qi3
                try clear c4
                try clear c4b0
                try clear c4b1
                try clear c5
                try clear p5
                try clear q5
                try clear hx5
                try clear qi5
                try clear c6
                try clear p6
                try clear c7
                try clear c8
                try clear c8b0
                try clear c8b1
                try clear c10
                try clear c10b0
                try clear c10b1
                try clear c11
                try clear c11b0
                try clear c11b1
                try clear c12
                try clear c12b0
                try clear c13
                try clear c13b0
                try clear c15
                try clear c15b0
                try clear c15b1
                try clear c16
                try clear c16b0
                try clear c16b1
                try clear c17
                try clear c17b0
                try clear c17b1
                try clear p18
                try clear q18
                try clear hx18
                try clear qi18
                try clear c19
                try clear c21
                try clear c21b0
                try clear c21b1
                try clear c22
                try clear c22b0
                try clear c22b1
                try clear c23
                try clear p23
                try clear q23
                try clear hx23
                try clear qi23
                try clear c25
                try clear c26
                try clear c26b0
                try clear c26b1
                try clear c28
                try clear c28b0
                try clear c28b1
                try clear c29
                try clear c29b0
                try clear c29b1
                try clear c31
                try clear c31b0
                try clear c31b1
                try clear c32
                try clear c32b0
                try clear c33
                try clear c33b0
                try clear c33b1
                try clear c34
                try clear c34b0
                try clear c34b1
                try clear c36
                try clear c36b0
                try clear c36b1
                try clear p37
                try clear q37
                try clear hx37
                try clear qi37
                try clear c38
                try clear c38b0
                try clear c38b1
                try clear p39
                try clear q39
                try clear hx39
                try clear qi39
                try clear p1
                try clear p18
                try clear p2
                try clear p23
                try clear p37
                try clear p39
                try clear p5
                try clear p6
                try clear q1
                try clear q18
                try clear q2
                try clear q23
                try clear q37
                try clear q39
                try clear q5
                obtain ⟨kq, x75_34, rfl, HA, HJ34, ⟨mc34, rfl⟩⟩ := hcut
                cases kq with
                | zero => exact absurd HA.out (by simp [dragomanref1_parts.j5])
                | succ kj34 =>
                 have H := HA.out
                 clear HA
                 simp only [dragomanref1_parts.j5] at H
                 by_cases c40 : x75_34 = true
                 ·subst c40
                  have H1 : (some (false, (⟨#[]⟩ : ByteArray), (⟨#[]⟩ : ByteArray), (⟨#[]⟩ : ByteArray), false)) = some (r1, r2, r3, r4, r5) := by rw [if_pos rfl] at H; exact H
                  clear H
                  have H := H1
                  clear H1
                  simp only [Option.some.injEq, Prod.mk.injEq] at H
                  obtain ⟨rfl, rfl, rfl, rfl, rfl⟩ := H
                  go_wp2
                  refine bodyPost_ret (results_list (rs := [.tmp 2, .tmp 3, .tmp 4, .tmp 5, .tmp 6]) rfl (by simp) (.tmp (.tmp (.tmp (.tmp (.tmp .nil)))))) rfl ?_
                  exact ⟨by first | rfl | (simp only [bne, Bool.not_not]; done) | (rw [pxdragomanref1parts_empty]; done) | (simp; exact pxdragomanref1parts_empty _) | (simp; done) | (simp [*]; done), by repeat (first | exact Drawn0.refl _ | apply Drawn0.step)⟩
                 ·replace c40 := Bool.eq_false_iff.mpr c40
                  subst c40
                  have H1 : (if 1 ≤ (x0_23.size : Int) then (if (x0_23.extract 1 x0_23.size).toList = ([] : List UInt8) then (dragomanref1_parts.j6 kj34 x7_1 (x0_5.extract 0 (t240 : Int).toNat) x10_23 (x0_23.extract 1 x0_23.size) (x0_23.extract 1 x0_23.size) false) else (if 0 < ((x0_23.extract 1 x0_23.size).size : Int) then (if (bt (x0_23.extract 1 x0_23.size) 0) = 43 then (dragomanref1_parts.j6 kj34 x7_1 (x0_5.extract 0 (t240 : Int).toNat) x10_23 (x0_23.extract 1 x0_23.size) (x0_23.extract 1 x0_23.size) true) else (dragomanref1_parts.j6 kj34 x7_1 (x0_5.extract 0 (t240 : Int).toNat) x10_23 (x0_23.extract 1 x0_23.size) (x0_23.extract 1 x0_23.size) ((bt (x0_23.extract 1 x0_23.size) 0) == 45))) else (none))) else (none)) = some (r1, r2, r3, r4, r5) := by rw [if_neg (show ¬ (false = true) by decide)] at H; exact H
                  clear H
                  have H := H1
                  clear H1
                  by_cases c41 : 1 ≤ (x0_23.size : Int)
                  ·rw [if_pos c41] at H
                   have c41b0 := eq_true c41
                   have c41b1 : decide (1 ≤ (x0_23.size : Int)) = true := decide_eq_true c41
                   clear c41
                   have HC42 := Aside0.mk H
                   clear H
                   go_upto_region 22 with (fail)
                   go_cut [90] (fun v90 wc => ∃ (kq : Nat) (x90_41 : Bool), v90 = .bool x90_41 ∧ Aside0 (dragomanref1_parts.j6 kq x7_1 (x0_5.extract 0 (t240 : Int).toNat) x10_23 (x0_23.extract 1 x0_23.size) (x0_23.extract 1 x0_23.size) x90_41 = some (r1, r2, r3, r4, r5)) ∧ Aside0 (kq ≤ kj34) ∧ Drawn0 w wc)
                   case first =>
                    have H := HC42.out
                    clear HC42
                    by_cases c43 : (x0_23.extract 1 x0_23.size).toList = ([] : List UInt8)
                    ·rw [if_pos c43] at H
                     have c43b0 : ((x0_23.extract 1 x0_23.size).toList == ([] : List UInt8)) = true := beq_iff_eq.mpr c43
                     have c43b1 : ((x0_23.extract 1 x0_23.size).toList != ([] : List UInt8)) = false := bne_eq_false_iff_eq.mpr c43
                     have c43b2 : (x0_23.extract 1 x0_23.size).toList.isEmpty = true := List.isEmpty_iff.mpr c43
                     (try simp only [c43b2, Bool.not_true, Bool.not_false])
                     clear c43
                     (first | rw [c43b0] | (simp only [i64_w, i32_w]; rw [c43b0]) | skip)
                     have H' := Aside0.mk H
                     clear H
                     go_wp2
                     go_meet
                     case rel => exact ⟨_, (false), (by first | rfl | (simp; done) | (simp [*]; done)), H', ⟨by have := HJ1.out; have := HJ5.out; have := HJ13.out; have := HJ19.out; have := HJ23.out; have := HJ34.out; first | omega | exact Nat.le_refl _⟩, by repeat (first | exact Drawn0.refl _ | apply Drawn0.step)⟩
                    ·rw [if_neg c43] at H
                     have c43b0 : ((x0_23.extract 1 x0_23.size).toList == ([] : List UInt8)) = false := beq_eq_false_iff_ne.mpr c43
                     have c43b1 : ((x0_23.extract 1 x0_23.size).toList != ([] : List UInt8)) = true := bne_iff_ne.mpr c43
                     have c43b2 : (x0_23.extract 1 x0_23.size).toList.isEmpty = false := List.isEmpty_eq_false_iff.mpr c43
                     (try simp only [c43b2, Bool.not_true, Bool.not_false])
                     (first | rw [c43b0] | (simp only [i64_w, i32_w]; rw [c43b0]) | skip)
                     by_cases c44 : 0 < ((x0_23.extract 1 x0_23.size).size : Int)
                     ·rw [if_pos c44] at H
                      have c44b0 : decide (0 < ((x0_23.extract 1 x0_23.size).size : Int)) = true := decide_eq_true c44
                      have c44b1 : decide (0 < (x0_23.extract 1 x0_23.size).size) = true := decide_eq_true (by omega)
                      clear c44
                      by_cases c46 : (bt (x0_23.extract 1 x0_23.size) 0) = 43
                      ·rw [if_pos c46] at H
                       have c46b0 : ((bt (x0_23.extract 1 x0_23.size) 0) == 43) = true := beq_iff_eq.mpr c46
                       have c46b1 : ((bt (x0_23.extract 1 x0_23.size) 0) != 43) = false := bne_eq_false_iff_eq.mpr c46
                       clear c46
                       have H' := Aside0.mk H
                       clear H
                       have p45 : 0 ≤ (0 : Int) := (by omega)
                       have q45 : 0 < (x0_23.extract 1 x0_23.size).size := (by have : (0 : Int) < ((x0_23.extract 1 x0_23.size).size : Int) := of_decide_eq_true (by first | (with_reducible assumption) | assumption); omega)
                       have hx45 : ∀ h : 0 < (x0_23.extract 1 x0_23.size).size, (((x0_23.extract 1 x0_23.size)[0]'h).toNat : Int) = bt (x0_23.extract 1 x0_23.size) 0 := bt_at (x0_23.extract 1 x0_23.size) 0
                       clear p45
                       have qi45 : (0 < ((x0_23.extract 1 x0_23.size).size : Int)) = True := eq_true (of_decide_eq_true (by first | (with_reducible assumption) | assumption))
                       replace q45 := eq_true q45
                       go_wp2
                       go_meet
                       case rel => exact ⟨_, (true), (by first | rfl | (simp; done) | (simp [*]; done)), H', ⟨by have := HJ1.out; have := HJ5.out; have := HJ13.out; have := HJ19.out; have := HJ23.out; have := HJ34.out; first | omega | exact Nat.le_refl _⟩, by repeat (first | exact Drawn0.refl _ | apply Drawn0.step)⟩
                      ·rw [if_neg c46] at H
                       have c46b0 : ((bt (x0_23.extract 1 x0_23.size) 0) == 43) = false := beq_eq_false_iff_ne.mpr c46
                       have c46b1 : ((bt (x0_23.extract 1 x0_23.size) 0) != 43) = true := bne_iff_ne.mpr c46
                       have H' := Aside0.mk H
                       clear H
                       have p45 : 0 ≤ (0 : Int) := (by omega)
                       have q45 : 0 < (x0_23.extract 1 x0_23.size).size := (by have : (0 : Int) < ((x0_23.extract 1 x0_23.size).size : Int) := of_decide_eq_true (by first | (with_reducible assumption) | assumption); omega)
                       have hx45 : ∀ h : 0 < (x0_23.extract 1 x0_23.size).size, (((x0_23.extract 1 x0_23.size)[0]'h).toNat : Int) = bt (x0_23.extract 1 x0_23.size) 0 := bt_at (x0_23.extract 1 x0_23.size) 0
                       clear p45
                       have qi45 : (0 < ((x0_23.extract 1 x0_23.size).size : Int)) = True := eq_true (of_decide_eq_true (by first | (with_reducible assumption) | assumption))
                       replace q45 := eq_true q45
                       have p47 : 0 ≤ (0 : Int) := (by omega)
                       have q47 : 0 < (x0_23.extract 1 x0_23.size).size := (by have : (0 : Int) < ((x0_23.extract 1 x0_23.size).size : Int) := of_decide_eq_true (by first | (with_reducible assumption) | assumption); omega)
                       have hx47 : ∀ h : 0 < (x0_23.extract 1 x0_23.size).size, (((x0_23.extract 1 x0_23.size)[0]'h).toNat : Int) = bt (x0_23.extract 1 x0_23.size) 0 := bt_at (x0_23.extract 1 x0_23.size) 0
                       clear p47
                       have qi47 : (0 < ((x0_23.extract 1 x0_23.size).size : Int)) = True := eq_true (of_decide_eq_true (by first | (with_reducible assumption) | assumption))
                       replace q47 := eq_true q47
                       go_wp2
                       go_meet
                       case rel => exact ⟨_, (((bt (x0_23.extract 1 x0_23.size) 0) == 45)), (by first | rfl | (simp; done) | (simp [*]; done)), H', ⟨by have := HJ1.out; have := HJ5.out; have := HJ13.out; have := HJ19.out; have := HJ23.out; have := HJ34.out; first | omega | exact Nat.le_refl _⟩, by repeat (first | exact Drawn0.refl _ | apply Drawn0.step)⟩
                     ·rw [if_neg c44] at H
                      exact absurd H (by simp)
                   case rest =>
                    clear HC42
                    try clear c1
                    try clear p1
                    try clear q1
                    try clear hx1
                    try clear qi1
                    try clear c2
                    try clear p2
                    try clear q2
                    try clear hx2
                    try clear qi2
                    try clear c3
                    try clear c3b0
                    try clear c3b1
                    try clear p3
                    try clear q3
                    try clear hx3
                    try clear qi3
                    try clear c4
                    try clear c4b0
                    try clear c4b1
                    try clear p4
                    try clear q4
                    try clear hx4
                    try clear qi4
                    try clear c5
                    try clear p5
                    try clear q5
                    try clear hx5
                    try clear qi5
                    try clear c6
                    try clear p6
                    try clear c7
                    try clear c8
                    try clear c8b0
                    try clear c8b1
                    try clear c10
                    try clear c10b0
                    try clear c10b1
                    try clear c11
                    try clear c11b0
                    try clear c11b1
                    try clear c12
                    try clear c12b0
                    try clear c13
                    try clear c13b0
                    try clear c15
                    try clear c15b0
                    try clear c15b1
                    try clear c16
                    try clear c16b0
                    try clear c16b1
                    try clear c17
                    try clear c17b0
                    try clear c17b1
                    try clear p18
                    try clear q18
                    try clear hx18
                    try clear qi18
                    try clear c19
                    try clear c21
                    try clear c21b0
                    try clear c21b1
                    try clear c22
                    try clear c22b0
                    try clear c22b1
                    try clear c23
                    try clear p23
                    try clear q23
                    try clear hx23
                    try clear qi23
                    try clear c25
                    try clear c26
                    try clear c26b0
                    try clear c26b1
                    try clear c28
                    try clear c28b0
                    try clear c28b1
                    try clear c29
                    try clear c29b0
                    try clear c29b1
                    try clear c31
                    try clear c31b0
                    try clear c31b1
                    try clear c32
                    try clear c32b0
                    try clear c33
                    try clear c33b0
                    try clear c33b1
                    try clear c34
                    try clear c34b0
                    try clear c34b1
                    try clear c36
                    try clear c36b0
                    try clear c36b1
                    try clear p37
                    try clear q37
                    try clear hx37
                    try clear qi37
                    try clear c38
                    try clear c38b0
                    try clear c38b1
                    try clear p39
                    try clear q39
                    try clear hx39
                    try clear qi39
                    try clear c40
                    try clear c41
                    try clear c41b0
                    try clear c41b1
                    try clear c43
                    try clear c43b0
                    try clear c43b1
                    try clear c44
                    try clear c44b0
                    try clear c44b1
                    try clear p45
                    try clear q45
                    try clear hx45
                    try clear qi45
                    try clear c46
                    try clear c46b0
                    try clear c46b1
                    try clear p47
                    try clear q47
                    try clear hx47
                    try clear qi47
                    try clear p1
                    try clear p18
                    try clear p2
                    try clear p23
                    try clear p3
                    try clear p37
                    try clear p39
                    try clear p45
                    try clear p47
                    try clear p5
                    try clear p6
                    try clear q1
                    try clear q18
                    try clear q2
                    try clear q23
                    try clear q3
                    try clear q37
                    try clear q39
                    try clear q45
                    try clear q47
                    try clear q5
                    obtain ⟨kq, x90_41, rfl, HA, HJ41, ⟨mc41, rfl⟩⟩ := hcut
                    cases kq with
                    | zero => exact absurd HA.out (by simp [dragomanref1_parts.j6])
                    | succ kj41 =>
                     have H := HA.out
                     clear HA
                     simp only [dragomanref1_parts.j6] at H
                     by_cases c48 : x90_41 = true
                     ·subst c48
                      have H1 : (if 1 ≤ ((x0_23.extract 1 x0_23.size).size : Int) then (if ((x0_23.extract 1 x0_23.size).extract 1 (x0_23.extract 1 x0_23.size).size).toList = ([] : List UInt8) then (some (false, (⟨#[]⟩ : ByteArray), (⟨#[]⟩ : ByteArray), (⟨#[]⟩ : ByteArray), false)) else ((dragomanref1_run.f kj41 ((x0_23.extract 1 x0_23.size).extract 1 (x0_23.extract 1 x0_23.size).size)).bind fun t242 => (if t242 = (((x0_23.extract 1 x0_23.size).extract 1 (x0_23.extract 1 x0_23.size).size).size : Int) then (some (x7_1, (x0_5.extract 0 (t240 : Int).toNat), x10_23, (x0_23.extract 1 x0_23.size), true)) else (some (false, (⟨#[]⟩ : ByteArray), (⟨#[]⟩ : ByteArray), (⟨#[]⟩ : ByteArray), false))))) else (none)) = some (r1, r2, r3, r4, r5) := by rw [if_pos rfl] at H; exact H
                      clear H
                      have H := H1
                      clear H1
                      by_cases c49 : 1 ≤ ((x0_23.extract 1 x0_23.size).size : Int)
                      ·rw [if_pos c49] at H
                       have c49b0 := eq_true c49
                       have c49b1 : decide (1 ≤ ((x0_23.extract 1 x0_23.size).size : Int)) = true := decide_eq_true c49
                       clear c49
                       by_cases c50 : ((x0_23.extract 1 x0_23.size).extract 1 (x0_23.extract 1 x0_23.size).size).toList = ([] : List UInt8)
                       ·rw [if_pos c50] at H
                        have c50b0 : (((x0_23.extract 1 x0_23.size).extract 1 (x0_23.extract 1 x0_23.size).size).toList == ([] : List UInt8)) = true := beq_iff_eq.mpr c50
                        have c50b1 : (((x0_23.extract 1 x0_23.size).extract 1 (x0_23.extract 1 x0_23.size).size).toList != ([] : List UInt8)) = false := bne_eq_false_iff_eq.mpr c50
                        have c50b2 : ((x0_23.extract 1 x0_23.size).extract 1 (x0_23.extract 1 x0_23.size).size).toList.isEmpty = true := List.isEmpty_iff.mpr c50
                        (try simp only [c50b2, Bool.not_true, Bool.not_false])
                        clear c50
                        simp only [Option.some.injEq, Prod.mk.injEq] at H
                        obtain ⟨rfl, rfl, rfl, rfl, rfl⟩ := H
                        go_wp2
                        refine bodyPost_ret (results_list (rs := [.tmp 2, .tmp 3, .tmp 4, .tmp 5, .tmp 6]) rfl (by simp) (.tmp (.tmp (.tmp (.tmp (.tmp .nil)))))) rfl ?_
                        exact ⟨by first | rfl | (simp only [bne, Bool.not_not]; done) | (rw [pxdragomanref1parts_empty]; done) | (simp; exact pxdragomanref1parts_empty _) | (simp; done) | (simp [*]; done), by repeat (first | exact Drawn0.refl _ | apply Drawn0.step)⟩
                       ·rw [if_neg c50] at H
                        have c50b0 : (((x0_23.extract 1 x0_23.size).extract 1 (x0_23.extract 1 x0_23.size).size).toList == ([] : List UInt8)) = false := beq_eq_false_iff_ne.mpr c50
                        have c50b1 : (((x0_23.extract 1 x0_23.size).extract 1 (x0_23.extract 1 x0_23.size).size).toList != ([] : List UInt8)) = true := bne_iff_ne.mpr c50
                        have c50b2 : ((x0_23.extract 1 x0_23.size).extract 1 (x0_23.extract 1 x0_23.size).size).toList.isEmpty = false := List.isEmpty_eq_false_iff.mpr c50
                        (try simp only [c50b2, Bool.not_true, Bool.not_false])
                        replace H := Option.bind_eq_some_iff.mp H
                        obtain ⟨t242, A510, H⟩ := H
                        replace H : (if t242 = (((x0_23.extract 1 x0_23.size).extract 1 (x0_23.extract 1 x0_23.size).size).size : Int) then (some (x7_1, (x0_5.extract 0 (t240 : Int).toNat), x10_23, (x0_23.extract 1 x0_23.size), true)) else (some (false, (⟨#[]⟩ : ByteArray), (⟨#[]⟩ : ByteArray), (⟨#[]⟩ : ByteArray), false))) = some (r1, r2, r3, r4, r5) := H
                        have A51 := Aside0.mk A510
                        clear A510
                        by_cases c52 : t242 = (((x0_23.extract 1 x0_23.size).extract 1 (x0_23.extract 1 x0_23.size).size).size : Int)
                        ·rw [if_pos c52] at H
                         have c52b0 : (t242 == (((x0_23.extract 1 x0_23.size).extract 1 (x0_23.extract 1 x0_23.size).size).size : Int)) = true := beq_iff_eq.mpr c52
                         have c52b1 : (t242 != (((x0_23.extract 1 x0_23.size).extract 1 (x0_23.extract 1 x0_23.size).size).size : Int)) = false := bne_eq_false_iff_eq.mpr c52
                         clear c52
                         simp only [Option.some.injEq, Prod.mk.injEq] at H
                         obtain ⟨rfl, rfl, rfl, rfl, rfl⟩ := H
                         go_wp2_with (first | (go_at_call 60; (with_reducible refine (dragomanref1_run.calls kj41 ((x0_23.extract 1 x0_23.size).extract 1 (x0_23.extract 1 x0_23.size).size) t242 _ A51.out).mono ?_); rintro e w' ⟨rfl, ⟨nd, rfl⟩⟩))
                         refine bodyPost_ret (results_list (rs := [.tmp 2, .tmp 3, .tmp 4, .tmp 5, .tmp 6]) rfl (by simp) (.tmp (.tmp (.tmp (.tmp (.tmp .nil)))))) rfl ?_
                         exact ⟨by first | rfl | (simp only [bne, Bool.not_not]; done) | (rw [pxdragomanref1parts_empty]; done) | (simp; exact pxdragomanref1parts_empty _) | (simp; done) | (simp [*]; done), by repeat (first | exact Drawn0.refl _ | apply Drawn0.step)⟩
                        ·rw [if_neg c52] at H
                         have c52b0 : (t242 == (((x0_23.extract 1 x0_23.size).extract 1 (x0_23.extract 1 x0_23.size).size).size : Int)) = false := beq_eq_false_iff_ne.mpr c52
                         have c52b1 : (t242 != (((x0_23.extract 1 x0_23.size).extract 1 (x0_23.extract 1 x0_23.size).size).size : Int)) = true := bne_iff_ne.mpr c52
                         simp only [Option.some.injEq, Prod.mk.injEq] at H
                         obtain ⟨rfl, rfl, rfl, rfl, rfl⟩ := H
                         go_wp2_with (first | (go_at_call 60; (with_reducible refine (dragomanref1_run.calls kj41 ((x0_23.extract 1 x0_23.size).extract 1 (x0_23.extract 1 x0_23.size).size) t242 _ A51.out).mono ?_); rintro e w' ⟨rfl, ⟨nd, rfl⟩⟩))
                         refine bodyPost_ret (results_list (rs := [.tmp 2, .tmp 3, .tmp 4, .tmp 5, .tmp 6]) rfl (by simp) (.tmp (.tmp (.tmp (.tmp (.tmp .nil)))))) rfl ?_
                         exact ⟨by first | rfl | (simp only [bne, Bool.not_not]; done) | (rw [pxdragomanref1parts_empty]; done) | (simp; exact pxdragomanref1parts_empty _) | (simp; done) | (simp [*]; done), by repeat (first | exact Drawn0.refl _ | apply Drawn0.step)⟩
                      ·rw [if_neg c49] at H
                       exact absurd H (by simp)
                     ·replace c48 := Bool.eq_false_iff.mpr c48
                      subst c48
                      have H1 : (if (x0_23.extract 1 x0_23.size).toList = ([] : List UInt8) then (some (false, (⟨#[]⟩ : ByteArray), (⟨#[]⟩ : ByteArray), (⟨#[]⟩ : ByteArray), false)) else ((dragomanref1_run.f kj41 (x0_23.extract 1 x0_23.size)).bind fun t243 => (if t243 = ((x0_23.extract 1 x0_23.size).size : Int) then (some (x7_1, (x0_5.extract 0 (t240 : Int).toNat), x10_23, (x0_23.extract 1 x0_23.size), true)) else (some (false, (⟨#[]⟩ : ByteArray), (⟨#[]⟩ : ByteArray), (⟨#[]⟩ : ByteArray), false))))) = some (r1, r2, r3, r4, r5) := by rw [if_neg (show ¬ (false = true) by decide)] at H; exact H
                      clear H
                      have H := H1
                      clear H1
                      by_cases c53 : (x0_23.extract 1 x0_23.size).toList = ([] : List UInt8)
                      ·rw [if_pos c53] at H
                       have c53b0 : ((x0_23.extract 1 x0_23.size).toList == ([] : List UInt8)) = true := beq_iff_eq.mpr c53
                       have c53b1 : ((x0_23.extract 1 x0_23.size).toList != ([] : List UInt8)) = false := bne_eq_false_iff_eq.mpr c53
                       have c53b2 : (x0_23.extract 1 x0_23.size).toList.isEmpty = true := List.isEmpty_iff.mpr c53
                       (try simp only [c53b2, Bool.not_true, Bool.not_false])
                       clear c53
                       simp only [Option.some.injEq, Prod.mk.injEq] at H
                       obtain ⟨rfl, rfl, rfl, rfl, rfl⟩ := H
                       go_wp2
                       refine bodyPost_ret (results_list (rs := [.tmp 2, .tmp 3, .tmp 4, .tmp 5, .tmp 6]) rfl (by simp) (.tmp (.tmp (.tmp (.tmp (.tmp .nil)))))) rfl ?_
                       exact ⟨by first | rfl | (simp only [bne, Bool.not_not]; done) | (rw [pxdragomanref1parts_empty]; done) | (simp; exact pxdragomanref1parts_empty _) | (simp; done) | (simp [*]; done), by repeat (first | exact Drawn0.refl _ | apply Drawn0.step)⟩
                      ·rw [if_neg c53] at H
                       have c53b0 : ((x0_23.extract 1 x0_23.size).toList == ([] : List UInt8)) = false := beq_eq_false_iff_ne.mpr c53
                       have c53b1 : ((x0_23.extract 1 x0_23.size).toList != ([] : List UInt8)) = true := bne_iff_ne.mpr c53
                       have c53b2 : (x0_23.extract 1 x0_23.size).toList.isEmpty = false := List.isEmpty_eq_false_iff.mpr c53
                       (try simp only [c53b2, Bool.not_true, Bool.not_false])
                       replace H := Option.bind_eq_some_iff.mp H
                       obtain ⟨t243, A540, H⟩ := H
                       replace H : (if t243 = ((x0_23.extract 1 x0_23.size).size : Int) then (some (x7_1, (x0_5.extract 0 (t240 : Int).toNat), x10_23, (x0_23.extract 1 x0_23.size), true)) else (some (false, (⟨#[]⟩ : ByteArray), (⟨#[]⟩ : ByteArray), (⟨#[]⟩ : ByteArray), false))) = some (r1, r2, r3, r4, r5) := H
                       have A54 := Aside0.mk A540
                       clear A540
                       by_cases c55 : t243 = ((x0_23.extract 1 x0_23.size).size : Int)
                       ·rw [if_pos c55] at H
                        have c55b0 : (t243 == ((x0_23.extract 1 x0_23.size).size : Int)) = true := beq_iff_eq.mpr c55
                        have c55b1 : (t243 != ((x0_23.extract 1 x0_23.size).size : Int)) = false := bne_eq_false_iff_eq.mpr c55
                        clear c55
                        simp only [Option.some.injEq, Prod.mk.injEq] at H
                        obtain ⟨rfl, rfl, rfl, rfl, rfl⟩ := H
                        go_wp2_with (first | (go_at_call 60; (with_reducible refine (dragomanref1_run.calls kj41 (x0_23.extract 1 x0_23.size) t243 _ A54.out).mono ?_); rintro e w' ⟨rfl, ⟨nd, rfl⟩⟩))
                        refine bodyPost_ret (results_list (rs := [.tmp 2, .tmp 3, .tmp 4, .tmp 5, .tmp 6]) rfl (by simp) (.tmp (.tmp (.tmp (.tmp (.tmp .nil)))))) rfl ?_
                        exact ⟨by first | rfl | (simp only [bne, Bool.not_not]; done) | (rw [pxdragomanref1parts_empty]; done) | (simp; exact pxdragomanref1parts_empty _) | (simp; done) | (simp [*]; done), by repeat (first | exact Drawn0.refl _ | apply Drawn0.step)⟩
                       ·rw [if_neg c55] at H
                        have c55b0 : (t243 == ((x0_23.extract 1 x0_23.size).size : Int)) = false := beq_eq_false_iff_ne.mpr c55
                        have c55b1 : (t243 != ((x0_23.extract 1 x0_23.size).size : Int)) = true := bne_iff_ne.mpr c55
                        simp only [Option.some.injEq, Prod.mk.injEq] at H
                        obtain ⟨rfl, rfl, rfl, rfl, rfl⟩ := H
                        go_wp2_with (first | (go_at_call 60; (with_reducible refine (dragomanref1_run.calls kj41 (x0_23.extract 1 x0_23.size) t243 _ A54.out).mono ?_); rintro e w' ⟨rfl, ⟨nd, rfl⟩⟩))
                        refine bodyPost_ret (results_list (rs := [.tmp 2, .tmp 3, .tmp 4, .tmp 5, .tmp 6]) rfl (by simp) (.tmp (.tmp (.tmp (.tmp (.tmp .nil)))))) rfl ?_
                        exact ⟨by first | rfl | (simp only [bne, Bool.not_not]; done) | (rw [pxdragomanref1parts_empty]; done) | (simp; exact pxdragomanref1parts_empty _) | (simp; done) | (simp [*]; done), by repeat (first | exact Drawn0.refl _ | apply Drawn0.step)⟩
                  ·rw [if_neg c41] at H
                   exact absurd H (by simp)
      ·rw [if_neg c11] at H
       exact absurd H (by simp)
     ·rw [if_neg c10] at H
      exact absurd H (by simp)
end Go.Proofs.YtoanbmggffkmgaaDoor.P
end
