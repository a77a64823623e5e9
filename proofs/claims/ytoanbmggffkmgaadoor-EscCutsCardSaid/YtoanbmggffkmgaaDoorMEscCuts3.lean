/- The parts of this claim's proof, in one text: what each Go function answers and that its call comes to it; plain facts of lists of numbers. Conditions as each theorem names them. -/
import Derived.ArgAppend
import Derived.Below
import Derived.BigQuiet
import Derived.Deep.AppendLies
import Derived.Deep.CutBlock
import Derived.Deep.DeepCutAuto
import Derived.Deep.Draws
import Derived.Deep.LoopGhost
import Derived.Deep.OwnRows
import Derived.Deep.QuietTactic
import Derived.Deep.RegionHeld3
import Derived.KernelRfl
import Derived.Laws.BitsLemmas
import Derived.Laws.BytesArg
import Derived.Laws.IdiomCopy
import Derived.Laws.MakeOwn
import Derived.Laws.OwnMore
import Derived.Laws.Rows
import Derived.Laws.Slices
import Derived.Lib.AppendStr
import Derived.Lib.Bytealg
import Derived.Lib.Bytes
import Derived.Lib.ConvBytes
import Derived.Lib.Hide
import Derived.Maps.AppendAt
import Derived.OrdersHeld
import Derived.Outline
import Derived.OwnWalk
import Derived.RowKit
import Derived.RowKit3
import Derived.Shelf.Bits.Mul64
import Derived.Shelf.LaysM
import Derived.Shelf.Small.Strs
import Derived.Shelf.Small.Utf8
import Derived.Shelf.Strings.AsciiSet
import Derived.Shelf.Strings.Builder1
import Derived.Shelf.Strings.Builder2
import Derived.Shelf.Strings.BuilderF
import Derived.Shelf.Strings.Count
import Derived.Shelf.Strings.IndexAny
import Derived.Shelf.Strings.IndexAnyAll
import Derived.Shelf.Strings.Prefix
import Derived.Shelf.Strings.Repeat
import Derived.Shelf.Strings.RuneCount
import Derived.Shelf.Strings.Runes
import Derived.Shelf.Strings.Search1
import Derived.Shelf.Strings.Search2
import Derived.Shelf.Strings.Search3
import Derived.Shelf.Strings.Shaped
import Derived.Shelf.Strings.SlTrimAscii
import Derived.Shelf.Strings.Split
import Derived.Shelf.Strings.Trim
import Derived.Shelf.Unicode.Decode
import Derived.Shelf.Unicode.DecodeAny
import Derived.Shelf.Unicode.DecodeLast
import Derived.Shelf.Unicode.DecodeSlow
import Derived.Shelf.Utf8.RuneCount
import Derived.Tactics
import Derived.WalkKit
import Derived.WideLaws
import Derived.Test.YtoanbmggffkmgaaDoorProg
import Derived.Test.YtoanbmggffkmgaaDoorWApart
import Derived.Test.YtoanbmggffkmgaaDoorWArr
import Derived.Test.YtoanbmggffkmgaaDoorWAt
import Derived.Test.YtoanbmggffkmgaaDoorWEqStruct
import Derived.Test.YtoanbmggffkmgaaDoorWFoot
import Derived.Test.YtoanbmggffkmgaaDoorWFootNe
import Derived.Test.YtoanbmggffkmgaaDoorWFour
import Derived.Test.YtoanbmggffkmgaaDoorWGuard
import Derived.Test.YtoanbmggffkmgaaDoorWInv
import Derived.Test.YtoanbmggffkmgaaDoorWInvWords
import Derived.Test.YtoanbmggffkmgaaDoorWKept
import Derived.Test.YtoanbmggffkmgaaDoorWLast
import Derived.Test.YtoanbmggffkmgaaDoorWMake0
import Derived.Test.YtoanbmggffkmgaaDoorWMore
import Derived.Test.YtoanbmggffkmgaaDoorWN
import Derived.Test.YtoanbmggffkmgaaDoorWNEv
import Derived.Test.YtoanbmggffkmgaaDoorWQPut
import Derived.Test.YtoanbmggffkmgaaDoorWRepsOne
import Derived.Test.YtoanbmggffkmgaaDoorWShare
import Derived.Test.YtoanbmggffkmgaaDoorWTab
import Derived.Test.YtoanbmggffkmgaaDoorWWords
import Derived.Test.YtoanbmggffkmgaaDoorWZeros
import Derived.Test.YtoanbmggffkmgaaDoorMEscCuts1
import Derived.Test.YtoanbmggffkmgaaDoorMEscCuts2
section
namespace Go.Proofs.YtoanbmggffkmgaaDoor.La
open Go.RowKit Go.Proofs.YtoanbmggffkmgaaDoor.P Go.Proofs.YtoanbmggffkmgaaDoorW.PrintWords Go.Proofs.YtoanbmggffkmgaaDoorW.PrintLast
theorem getD_drop (L : List Int) (i : Nat) : L.getD i 0 = (L.drop i).getD 0 0 := by simp [List.getD_eq_getElem?_getD, List.getElem?_drop]
theorem drop_pos {L : List Int} {i : Nat} {b : Int} {t : List Int} (h : L.drop i = b :: t) : i < L.length := by
  have := congrArg List.length h
  rw [List.length_drop, List.length_cons] at this
  omega
theorem drop_getD {L : List Int} {i : Nat} {b : Int} {t : List Int} (h : L.drop i = b :: t) : L.getD i 0 = b := by rw [getD_drop, h]; rfl
theorem sevn_short {r c : Int} (h : sevn r = some c) : shortJ c = some r ∧ shortT c = some r := by
  unfold sevn at h
  (repeat' split at h) <;> first | (cases h; done) | (have := Option.some.inj h; subst this; subst_vars; decide)
theorem hexVal_fin : ∀ v : Fin 16, hexVal (hxd (v.val : Int)) = some (v.val : Int) := by decide
theorem hexVal_hxd {v : Int} (h0 : 0 ≤ v) (h1 : v < 16) : hexVal (hxd v) = some v := by
  obtain ⟨n, rfl⟩ := Int.eq_ofNat_of_zero_le h0
  exact hexVal_fin ⟨n, by omega⟩
theorem enc_head (r : Int) : ∃ b m, enc r = b :: m ∧ ((r < 128 ∧ b = r ∧ m = []) ∨ (128 ≤ r ∧ (good r → 128 ≤ b))) := by
  unfold enc good
  split
  · exact ⟨r, [], rfl, .inl ⟨by omega, rfl, rfl⟩⟩
  · split
    · exact ⟨_, _, rfl, .inr ⟨by omega, fun _ => by omega⟩⟩
    · split
      · exact ⟨_, _, rfl, .inr ⟨by omega, fun _ => by omega⟩⟩
      · exact ⟨_, _, rfl, .inr ⟨by omega, fun _ => by omega⟩⟩
/-- The three ways in which a letter is written. -/
theorem qlet_cases (last : Bool) {r : Int} (hg : good r) : (∃ c, sevn r = some c ∧ qlet last r = [92, c]) ∨
    (r < 128 ∧ qlet last r = [92, 117, 48, 48, hxd (r / 16), hxd (r % 16)]) ∨
    (qlet last r = enc r ∧ ¬ ctrl last r ∧ ∃ b m, enc r = b :: m ∧ 32 ≤ b ∧ b ≠ 34 ∧ b ≠ 92 ∧ (b = 127 → last = false) ∧ (m ≠ [] → 128 ≤ r)) := by
  have hq : qlet last r = match sevn r with
    | some c => [92, c]
    | none => if ctrl last r then [92, 117, 48, 48, hxd (r / 16), hxd (r % 16)] else enc r := rfl
  cases hs : sevn r with
  | some c => rw [hs] at hq; exact .inl ⟨c, rfl, hq⟩
  | none =>
    rw [hs] at hq
    simp only at hq
    by_cases hc : ctrl last r
    · rw [if_pos hc] at hq
      exact .inr (.inl ⟨by unfold ctrl at hc; omega, hq⟩)
    · rw [if_neg hc] at hq
      refine .inr (.inr ⟨hq, hc, ?_⟩)
      obtain ⟨b, m, he, h⟩ := enc_head r
      have n1 : r ≠ 34 := fun e => by subst e; cases hs
      have n2 : r ≠ 92 := fun e => by subst e; cases hs
      unfold ctrl at hc
      refine ⟨b, m, he, ?_⟩
      rcases h with ⟨h1, rfl, rfl⟩ | ⟨h1, h2⟩
      · refine ⟨by omega, n1, n2, fun e => ?_, fun e => absurd rfl e⟩
        cases last with
        | false => rfl
        | true => exact absurd (.inr ⟨e, rfl⟩) hc
      · have := h2 hg
        exact ⟨by omega, by omega, by omega, fun e => by omega, fun _ => h1⟩
theorem hex_ctrl {r : Int} (h0 : 0 ≤ r) (h1 : r < 128) : hexI 0 [48, 48, hxd (r / 16), hxd (r % 16)] = some r := by
  have a := hexVal_hxd (v := r / 16) (by omega) (by omega)
  have b := hexVal_hxd (v := r % 16) (by omega) (by omega)
  have z : hexVal 48 = some 0 := rfl
  simp only [hexI, a, b, z, Option.bind_some]
  congr 1
  omega
theorem digs_ctrl {r : Int} (h0 : 0 ≤ r) (h1 : r < 128) (t : List Int) : digsAt (92 :: 117 :: 48 :: 48 :: hxd (r / 16) :: hxd (r % 16) :: t) 2 4 = some r := by
  unfold digsAt
  rw [if_pos (by simp only [List.length_cons]; omega)]
  exact hex_ctrl h0 h1
theorem jesc_sevn {r c : Int} (h : sevn r = some c) (t : List Int) : jesc (92 :: c :: t) = some (r, 2) := by
  have hs := (sevn_short h).1
  unfold jesc
  rw [if_neg (by simp), show (92 :: c :: t).getD 1 0 = c from rfl, hs, if_pos (show (some r).isSome = true from rfl)]
  rfl
theorem jesc_ctrl {r : Int} (h0 : 0 ≤ r) (h1 : r < 128) (t : List Int) : jesc (92 :: 117 :: 48 :: 48 :: hxd (r / 16) :: hxd (r % 16) :: t) = some (r, 6) := by
  have hd := digs_ctrl h0 h1 t
  unfold jesc
  rw [if_neg (by simp), show (92 :: 117 :: 48 :: 48 :: hxd (r / 16) :: hxd (r % 16) :: t).getD 1 0 = 117 from rfl, if_neg (by decide), hd, if_neg (by show ¬ ((117 : Int) ≠ 117 ∨ true = false); decide), Option.getD_some, if_pos (by omega), if_pos (by unfold good; omega)]
theorem tesc_sevn {r c : Int} (h : sevn r = some c) (t : List Int) : tesc false (92 :: c :: t) = some (enc r, 2) := by
  have hs := (sevn_short h).2
  unfold tesc
  rw [if_neg (by simp)]
  unfold tesc0
  rw [if_neg (by simp), show (92 :: c :: t).getD 1 0 = c from rfl, hs, if_pos (show (some r).isSome = true from rfl)]
  rfl
theorem tesc_ctrl {r : Int} (h0 : 0 ≤ r) (h1 : r < 128) (t : List Int) : tesc false (92 :: 117 :: 48 :: 48 :: hxd (r / 16) :: hxd (r % 16) :: t) = some (enc r, 6) := by
  have hd := digs_ctrl h0 h1 t
  unfold tesc
  rw [if_neg (by simp)]
  unfold tesc0
  rw [if_neg (by simp), show (92 :: 117 :: 48 :: 48 :: hxd (r / 16) :: hxd (r % 16) :: t).getD 1 0 = 117 from rfl, if_neg (by decide), if_pos rfl]
  unfold tdig
  rw [hd, Option.bind_some, if_pos (by unfold good; omega)]
/-- JSON: a letter that was written is read. -/
theorem jstep {L : List Int} {k i : Nat} {acc : List Int} {r : Int} (last : Bool) (hg : good r) {t : List Int} (h : L.drop i = qlet last r ++ t) : jbody L (k + 1) i acc = jbody L k (i + (qlet last r).length) (acc ++ enc r) := by
  rcases qlet_cases last hg with ⟨c, hs, hq⟩ | ⟨h1, hq⟩ | ⟨hq, _, b, m, he, b1, b2, b3, _⟩
  · rw [hq] at h ⊢
    rw [jbody, if_neg (by have := drop_pos h; omega), drop_getD h, if_neg (by decide), if_neg (by decide), if_pos rfl, h, show [92, c] ++ t = 92 :: c :: t from rfl, jesc_sevn hs]
    rfl
  · rw [hq] at h ⊢
    rw [jbody, if_neg (by have := drop_pos h; omega), drop_getD h, if_neg (by decide), if_neg (by decide), if_pos rfl, h, show [92, 117, 48, 48, hxd (r / 16), hxd (r % 16)] ++ t = 92 :: 117 :: 48 :: 48 :: hxd (r / 16) :: hxd (r % 16) :: t from rfl, jesc_ctrl hg.1 h1]
    rfl
  · rw [hq] at h ⊢
    have h' := h
    rw [he, List.cons_append] at h'
    have hl := enc_len r
    rw [jbody, if_neg (by have := drop_pos h'; omega), drop_getD h', if_neg b2, if_neg (by omega), if_neg b3, h, tk_enc hg, if_pos (by show (0 : Int) < ((enc r).length : Int); omega), enc0_good hg, Int.toNat_natCast]
theorem tend_no {b : Int} {t : List Int} (h : b ≠ 34) : tend false 34 (b :: t) = none := by
  unfold tend
  rw [if_neg (by decide), if_pos]
  simp only [lead, if_neg h]
/-- TOML: a letter that was written is read. -/
theorem tstep {L : List Int} {k i : Nat} {acc : List Int} {r : Int} (hg : good r) {t : List Int} (h : L.drop i = qlet true r ++ t) : tbody L 34 false (k + 1) i acc = tbody L 34 false k (i + (qlet true r).length) (acc ++ enc r) := by
  rcases qlet_cases true hg with ⟨c, hs, hq⟩ | ⟨h1, hq⟩ | ⟨hq, _, b, m, he, b1, b2, b3, b4, _⟩
  · rw [hq] at h ⊢
    rw [show [92, c] ++ t = 92 :: c :: t from rfl] at h
    rw [tbody, if_neg (by have := drop_pos h; omega), h, tend_no (by decide)]
    simp only
    rw [titem, if_pos ⟨rfl, rfl⟩, tesc_sevn hs]
    rfl
  · rw [hq] at h ⊢
    rw [show [92, 117, 48, 48, hxd (r / 16), hxd (r % 16)] ++ t = 92 :: 117 :: 48 :: 48 :: hxd (r / 16) :: hxd (r % 16) :: t from rfl] at h
    rw [tbody, if_neg (by have := drop_pos h; omega), h, tend_no (by decide)]
    simp only
    rw [titem, if_pos ⟨rfl, rfl⟩, tesc_ctrl hg.1 h1]
    rfl
  · rw [hq] at h ⊢
    have h' := h
    rw [he, List.cons_append] at h'
    have hl := enc_len r
    have e0 : (enc r ++ t).getD 0 0 = b := by rw [he]; rfl
    have hi : titem false 34 (enc r ++ t) = some (enc r, (enc r).length) := by
      have n127 : b ≠ 127 := fun e => by have := b4 e; cases this
      rw [titem, if_neg (by rw [e0]; omega), tplain, e0, if_neg (by simp; omega), if_neg (by omega), tk_enc hg, if_pos (by show (0 : Int) < ((enc r).length : Int); omega), enc0_good hg, Int.toNat_natCast]
    have hn : tend false 34 (enc r ++ t) = none := by rw [he, List.cons_append, tend_no b2]
    rw [tbody, if_neg (by have := drop_pos h'; omega), h, hn]
    simp only
    rw [hi]
theorem qbody_enc (last : Bool) {r : Int} (hg : good r) (m : List Int) : qbody last (enc r ++ m) = qlet last r ++ qbody last m := by
  have hn : (tk (enc r ++ m)).2 ≠ 0 := tk_letter_ne hg m
  rw [qbody_step (by simp [enc_ne]), stp_enc hg, List.drop_left]
  unfold hdl
  rw [if_neg hn, tk_enc hg]
theorem drop_next {L a b : List Int} {i : Nat} (h : L.drop i = a ++ b) : L.drop (i + a.length) = b := by
  rw [← List.drop_drop, h, List.drop_left]
theorem jesc_where {l : List Int} {p : Int × Nat} (h : jesc l = some p) : p.2 ≤ l.length := (jesc_len h).2.1
theorem jwhere (L : List Int) (hL : Bytes L) (k : Nat) : ∀ (i : Nat) (acc : List Int), i ≤ L.length → (jbody L k i acc).2.2 ≤ L.length := by
  induction k with
  | zero => intro i acc hi; exact hi
  | succ k ih =>
    intro i acc hi
    unfold jbody
    split
    · exact Nat.le_refl _
    · split
      · show i + 1 ≤ _; omega
      · split
        · exact hi
        · split
          · split
            · exact hi
            · rename_i p hp
              have := jesc_where hp
              rw [List.length_drop] at this
              exact ih _ _ (by omega)
          · split
            · have := tk_bound (L.drop i) (bytes_drop' hL i)
              rw [List.length_drop] at this
              exact ih _ _ (by omega)
            · exact hi
theorem twhere (L : List Int) (hL : Bytes L) (q : Int) (lines : Bool) (k : Nat) : ∀ (i : Nat) (acc : List Int), i ≤ L.length → (tbody L q lines k i acc).2.2 ≤ L.length := by
  induction k with
  | zero => intro i acc hi; exact hi
  | succ k ih =>
    intro i acc hi
    unfold tbody
    split
    · exact Nat.le_refl _
    · split
      · rename_i p hp
        have := tend_len hp
        rw [List.length_drop] at this
        show i + p.2 ≤ _
        omega
      · split
        · exact hi
        · rename_i p hp
          have := titem_len (bytes_drop' hL i) (by rw [List.length_drop]; omega) hp
          rw [List.length_drop] at this
          exact ih _ _ (by omega)
theorem jesc_cut {r : Int} {m : Nat} (hm : m < 6) : jesc ([92, 117, 48, 48, hxd (r / 16), hxd (r % 16)].take m) = none := by
  have : m = 0 ∨ m = 1 ∨ m = 2 ∨ m = 3 ∨ m = 4 ∨ m = 5 := by omega
  rcases this with rfl | rfl | rfl | rfl | rfl | rfl <;> rfl
theorem tesc_cut {r : Int} {m : Nat} (hm : m < 6) : tesc false ([92, 117, 48, 48, hxd (r / 16), hxd (r % 16)].take m) = none := by
  have : m = 0 ∨ m = 1 ∨ m = 2 ∨ m = 3 ∨ m = 4 ∨ m = 5 := by omega
  rcases this with rfl | rfl | rfl | rfl | rfl | rfl <;> rfl
theorem drop_len {L : List Int} {i : Nat} (h : L.drop i = []) : L.length ≤ i := by
  have := congrArg List.length h
  rw [List.length_drop, List.length_nil] at this
  omega
/-- JSON: a letter that was cut is none. -/
theorem jhalf {L : List Int} {i : Nat} {acc : List Int} {r : Int} (last : Bool) (hg : good r) {m : Nat} (hm : m < (qlet last r).length) (h : L.drop i = (qlet last r).take m) (k : Nat) : (jbody L k i acc).1 = false := by
  cases k with
  | zero => rfl
  | succ k =>
    cases m with
    | zero =>
      have := drop_len (h.trans (List.take_zero ..))
      rw [jbody, if_pos this]
    | succ m =>
      rcases qlet_cases last hg with ⟨c, hs, hq⟩ | ⟨h1, hq⟩ | ⟨hq, _, b, u, he, b1, b2, b3, _, b5⟩
      · rw [hq] at h hm
        simp only [List.length_cons, List.length_nil] at hm
        obtain rfl : m = 0 := by omega
        have h' : L.drop i = [92] := h
        rw [jbody, if_neg (by have := drop_pos h'; omega), drop_getD h', if_neg (by decide), if_neg (by decide), if_pos rfl, h', show jesc [92] = none from rfl]
      · rw [hq] at h hm
        have hc := jesc_cut (r := r) (m := m + 1) (by simpa using hm)
        have h' : L.drop i = 92 :: [117, 48, 48, hxd (r / 16), hxd (r % 16)].take m := h
        rw [jbody, if_neg (by have := drop_pos h'; omega), drop_getD h', if_neg (by decide), if_neg (by decide), if_pos rfl, h, hc]
      · rw [hq] at h hm
        have hc := tk_cut hg hm
        have h' : L.drop i = b :: u.take m := by rw [h, he]; rfl
        rw [jbody, if_neg (by have := drop_pos h'; omega), drop_getD h', if_neg b2, if_neg (by omega), if_neg b3, h, hc, if_neg (by decide)]
theorem thalf {L : List Int} {i : Nat} {acc : List Int} {r : Int} (hg : good r) {m : Nat} (hm : m < (qlet true r).length) (h : L.drop i = (qlet true r).take m) (k : Nat) : (tbody L 34 false k i acc).1 = false := by
  cases k with
  | zero => rfl
  | succ k =>
    cases m with
    | zero =>
      have := drop_len (h.trans (List.take_zero ..))
      rw [tbody, if_pos this]
    | succ m =>
      rcases qlet_cases true hg with ⟨c, hs, hq⟩ | ⟨h1, hq⟩ | ⟨hq, _, b, u, he, b1, b2, b3, b4, b5⟩
      · rw [hq] at h hm
        simp only [List.length_cons, List.length_nil] at hm
        obtain rfl : m = 0 := by omega
        have h' : L.drop i = [92] := h
        rw [tbody, if_neg (by have := drop_pos h'; omega), h', tend_no (by decide), show titem false 34 [92] = none from rfl]
      · rw [hq] at h hm
        have hc := tesc_cut (r := r) (m := m + 1) (by simpa using hm)
        have h' : L.drop i = 92 :: [117, 48, 48, hxd (r / 16), hxd (r % 16)].take m := h
        have hc' : tesc false (92 :: [117, 48, 48, hxd (r / 16), hxd (r % 16)].take m) = none := hc
        have hi : titem false 34 (92 :: [117, 48, 48, hxd (r / 16), hxd (r % 16)].take m) = none := by rw [titem, if_pos ⟨rfl, rfl⟩, hc']
        rw [tbody, if_neg (by have := drop_pos h'; omega), h', tend_no (by decide), hi]
      · rw [hq] at h hm
        have hc := tk_cut hg hm
        have h2 : (enc r).take (m + 1) = b :: u.take m := by rw [he]; rfl
        have h' : L.drop i = b :: u.take m := by rw [h, h2]
        rw [h2] at hc
        have n127 : b ≠ 127 := fun e => by have := b4 e; cases this
        have hi : titem false 34 (b :: u.take m) = none := by
          rw [titem, if_neg (by show ¬ (b = 92 ∧ _); omega), tplain, show (b :: u.take m).getD 0 0 = b from rfl, if_neg (by simp; omega), if_neg (by omega), hc, if_neg (by decide)]
        rw [tbody, if_neg (by have := drop_pos h'; omega), h', tend_no b2, hi]
theorem jcut (last : Bool) (l : List Int) (hl : Bytes l) (hb : bad l = none) : ∀ (L : List Int) (i m : Nat) (acc : List Int) (k : Nat), m ≤ (qbody last l).length → L.drop i = (qbody last l).take m → (jbody L k i acc).1 = false := by
  refine text_induction (P := fun l => ∀ (L : List Int) (i m : Nat) (acc : List Int) (k : Nat), m ≤ (qbody last l).length → L.drop i = (qbody last l).take m → (jbody L k i acc).1 = false) ?_ ?_ l hl hb
  · intro L i m acc k _ h
    rw [qbody_nil, List.take_nil] at h
    cases k with
    | zero => rfl
    | succ k => rw [jbody, if_pos (drop_len h)]
  · intro r n hg _ _ ih L i m acc k hm h
    rw [qbody_enc last hg] at h hm
    rw [List.length_append] at hm
    by_cases hc : m < (qlet last r).length
    · rw [List.take_append_of_le_length (by omega)] at h
      exact jhalf last hg hc h k
    · cases k with
      | zero => rfl
      | succ k =>
        rw [List.take_append, List.take_of_length_le (by omega)] at h
        rw [jstep last hg h]
        exact ih L _ (m - (qlet last r).length) _ k (by omega) (drop_next h)
theorem tcut (l : List Int) (hl : Bytes l) (hb : bad l = none) : ∀ (L : List Int) (i m : Nat) (acc : List Int) (k : Nat), m ≤ (qbody true l).length → L.drop i = (qbody true l).take m → (tbody L 34 false k i acc).1 = false := by
  refine text_induction (P := fun l => ∀ (L : List Int) (i m : Nat) (acc : List Int) (k : Nat), m ≤ (qbody true l).length → L.drop i = (qbody true l).take m → (tbody L 34 false k i acc).1 = false) ?_ ?_ l hl hb
  · intro L i m acc k _ h
    rw [qbody_nil, List.take_nil] at h
    cases k with
    | zero => rfl
    | succ k => rw [tbody, if_pos (drop_len h)]
  · intro r n hg _ _ ih L i m acc k hm h
    rw [qbody_enc true hg] at h hm
    rw [List.length_append] at hm
    by_cases hc : m < (qlet true r).length
    · rw [List.take_append_of_le_length (by omega)] at h
      exact thalf hg hc h k
    · cases k with
      | zero => rfl
      | succ k =>
        rw [List.take_append, List.take_of_length_le (by omega)] at h
        rw [tstep hg h]
        exact ih L _ (m - (qlet true r).length) _ k (by omega) (drop_next h)
/-- What is written begins with no quote, its own aside. -/
theorem qbody_first {l : List Int} (hl : Bytes l) (h : l ≠ []) (last : Bool) : ∃ b t, qbody last l = b :: t ∧ b ≠ 34 := by
  rw [qbody_step h]
  rcases qlet_cases last (hdl_good hl) with ⟨c, _, hq⟩ | ⟨_, hq⟩ | ⟨hq, _, b, m, he, _, b2, _⟩
  · rw [hq]; exact ⟨92, _, rfl, by decide⟩
  · rw [hq]; exact ⟨92, _, rfl, by decide⟩
  · rw [hq, he]; exact ⟨b, _, rfl, b2⟩
end Go.Proofs.YtoanbmggffkmgaaDoor.La
end
section
namespace Go.Proofs.YtoanbmggffkmgaaDoor.Pure
open Go.RowKit Go.Proofs.YtoanbmggffkmgaaDoor.P Go.Proofs.YtoanbmggffkmgaaDoor.La Go.Proofs.YtoanbmggffkmgaaDoorW.PrintWords Go.Proofs.YtoanbmggffkmgaaDoorW.PrintLast
theorem quoteL_len (last : Bool) (l : List Int) : (quoteL last l).length = (qbody last l).length + 2 := by simp [quoteL]
theorem cut_drop (last : Bool) (l : List Int) {m : Nat} (hm : m < (qbody last l).length + 1) : ((quoteL last l).take (m + 1)).drop 1 = (qbody last l).take m := by
  show (qbody last l ++ [34]).take m = _
  exact List.take_append_of_le_length (by omega)
theorem cut_bytes (last : Bool) {l : List Int} (hl : Bytes l) (m : Nat) : Bytes ((quoteL last l).take m) := fun x hx => quoteL_bytes last l hl x (List.mem_of_mem_take hx)
theorem unq_cut {t : ByteArray} {l : List Int} (hl : Bytes l) (hb : bad l = none) (hs : l.length ≤ 1000) {m : Nat} (hm : m < (quoteL false l).length) (ht : bytesOf t = (quoteL false l).take m) :
    ∃ a b c, esc_Unquote.f t 0 = some (a, b, c) ∧ 0 ≤ c ∧ c ≤ m := by
  have hql := qbody_len false l
  rw [quoteL_len] at hm
  have hlen : ((quoteL false l).take m).length = m := by rw [List.length_take, quoteL_len]; omega
  have hsz : t.size = m := by rw [← size_of, ht, hlen]
  unfold esc_Unquote.f
  rw [if_pos (by omega), ht]
  unfold unqT
  rw [hlen]
  cases m with
  | zero => exact ⟨_, _, _, by rw [if_pos (by omega)], by decide, by decide⟩
  | succ m =>
    rw [if_neg (by show ¬ ((0 : Int) < 0 ∨ ((m + 1 : Nat) : Int) ≤ 0 ∨ (34 : Int) ≠ 34); omega)]
    have hc := jcut false l hl hb ((quoteL false l).take (m + 1)) 1 m [] (m + 1 + 1) (by omega) (cut_drop false l (by omega))
    have hw := jwhere ((quoteL false l).take (m + 1)) (cut_bytes false hl _) (m + 1 + 1) 1 [] (by omega)
    rw [hlen] at hw
    rw [show (0 : Int).toNat + 1 = 1 from rfl]
    generalize jbody ((quoteL false l).take (m + 1)) (m + 1 + 1) 1 [] = x at hc hw
    obtain ⟨x1, x2, x3⟩ := x
    simp only at hc hw
    subst hc
    exact ⟨_, _, _, rfl, by omega, by omega⟩
theorem tdom_one {L : List Int} (h1 : L.getD 0 0 = 34) (h2 : L.getD 1 0 ≠ 34 ∨ L.length = 1) : tdom L 0 := by
  refine .inr (.inr (.inl ⟨h1, ?_⟩))
  rw [List.drop_zero]
  cases L with
  | nil => simp [lead]
  | cons a t =>
    cases t with
    | nil => simp only [lead]; split <;> omega
    | cons b r =>
      have hb : b ≠ 34 := by
        rcases h2 with h2 | h2
        · exact h2
        · simp at h2
      simp only [lead, if_neg hb]
      split <;> omega
theorem tunq_cut {t : ByteArray} {l : List Int} (hl : Bytes l) (hb : bad l = none) (hs : l.length ≤ 1000) {m : Nat} (hm : m < (quoteL true l).length) (ht : bytesOf t = (quoteL true l).take m) :
    ∃ a b c, esc_TUnquote.f t 0 = some (a, b, c) ∧ 0 ≤ c ∧ c ≤ m := by
  have hql := qbody_len true l
  rw [quoteL_len] at hm
  have hlen : ((quoteL true l).take m).length = m := by rw [List.length_take, quoteL_len]; omega
  have hsz : t.size = m := by rw [← size_of, ht, hlen]
  cases m with
  | zero =>
    refine ⟨⟨#[]⟩, 0, 0, ?_, by decide, by decide⟩
    unfold esc_TUnquote.f tunqT
    have h0 : bytesOf t = [] := by rw [ht, List.take_zero]
    rw [if_pos ⟨by decide, by omega, .inl (by rw [h0]; decide)⟩, h0, if_pos (by decide)]
    rfl
  | succ m =>
    have g0 : ((quoteL true l).take (m + 1)).getD 0 0 = 34 := rfl
    have g1 : ((quoteL true l).take (m + 1)).getD 1 0 ≠ 34 ∨ ((quoteL true l).take (m + 1)).length = 1 := by
      cases m with
      | zero => exact .inr hlen
      | succ m =>
        by_cases h : l = []
        · subst h
          rw [qbody_nil] at hm
          simp only [List.length_nil] at hm
          omega
        · obtain ⟨b, u, hq, hb⟩ := qbody_first hl h true
          left
          have : quoteL true l = 34 :: b :: (u ++ [34]) := by unfold quoteL; rw [hq]; rfl
          rw [this]
          exact hb
    have hd := tdom_one g0 g1
    have hld : ¬ 3 ≤ lead 34 (((quoteL true l).take (m + 1)).drop 0) := by
      rw [List.drop_zero]
      intro e
      have e2 := (lead_take 34 ((quoteL true l).take (m + 1)) 2).2 (by omega)
      rcases g1 with g1 | g1
      · apply g1
        have := congrArg (fun x => x.getD 1 0) e2
        simpa [List.getD_eq_getElem?_getD] using this
      · have := lead_le 34 ((quoteL true l).take (m + 1))
        omega
    unfold esc_TUnquote.f
    rw [if_pos ⟨by decide, by omega, by rw [ht]; exact hd⟩, ht, Int.toNat_zero]
    unfold tunqT
    rw [hlen, if_neg (by rw [g0]; omega)]
    have hst : tstr ((quoteL true l).take (m + 1)) 0 = tbody ((quoteL true l).take (m + 1)) 34 false (m + 1 + 1) 1 [] := by
      unfold tstr
      rw [g0, if_neg hld, hlen]
    have hc := tcut l hl hb ((quoteL true l).take (m + 1)) 1 m [] (m + 1 + 1) (by omega) (cut_drop true l (by omega))
    have hw := twhere ((quoteL true l).take (m + 1)) (cut_bytes true hl _) 34 false (m + 1 + 1) 1 [] (by omega)
    rw [hlen] at hw
    rw [hst]
    generalize tbody ((quoteL true l).take (m + 1)) 34 false (m + 1 + 1) 1 [] = x at hc hw
    obtain ⟨x1, x2, x3⟩ := x
    simp only at hc hw
    subst hc
    exact ⟨_, _, _, rfl, by simp, by simp; omega⟩
theorem cuts_j2 (l : List Int) (hl : Bytes l) (hb : bad l = none) (hs : l.length ≤ 200) (n : Int) (h0 : 0 ≤ n) : Ev (fun k => dragomanlaw6_EscCuts.j2 k n (strOfNums (quoteL true l)) false) true := by
  have hbt := quoteL_bytes true l hl
  have hsz := size_strOfNums hbt
  have hql := qbody_len true l
  have hqq := quoteL_len true l
  by_cases h : n ≥ ((strOfNums (quoteL true l)).size : Int)
  · refine Ev.step (fun k => by rw [dragomanlaw6_EscCuts.j2, if_neg (by decide), if_pos h]) (Ev.now _)
  · obtain ⟨a, b, c, hu, c0, c1⟩ := tunq_cut (t := (strOfNums (quoteL true l)).extract 0 n.toNat) hl hb (by omega) (m := n.toNat) (by omega) (by rw [bytesOf_take, strOfNums_bytes hbt])
    by_cases h2 : n = 2
    · by_cases h3 : bt (strOfNums (quoteL true l)) 1 = 34
      · refine Ev.step (fun k => by rw [dragomanlaw6_EscCuts.j2, if_neg (by decide), if_neg h, if_pos h2, if_pos (by omega), if_pos h3]) (Ev.now _)
      · refine Ev.step (fun k => by rw [dragomanlaw6_EscCuts.j2, if_neg (by decide), if_neg h, if_pos h2, if_pos (by omega), if_neg h3, if_pos h0, if_pos (by omega), hu, Option.bind_some, if_pos c0, decide_eq_true (by show c ≤ n; omega)]) (Ev.now _)
    · refine Ev.step (fun k => by rw [dragomanlaw6_EscCuts.j2, if_neg (by decide), if_neg h, if_neg h2, if_pos h0, if_pos (by omega), hu, Option.bind_some, if_pos c0, decide_eq_true (by show c ≤ n; omega)]) (Ev.now _)
theorem cuts_j1 (l : List Int) (hl : Bytes l) (hb : bad l = none) (hs : l.length ≤ 200) (n : Int) (h0 : 0 ≤ n) (h1 : n < ((strOfNums (quoteL false l)).size : Int)) : Ev (fun k => dragomanlaw6_EscCuts.j1 k n (strOfNums (quoteL false l)) (strOfNums (quoteL true l)) false) true := by
  have hbt := quoteL_bytes false l hl
  have hsz := size_strOfNums hbt
  have hql := qbody_len false l
  have hqq := quoteL_len false l
  obtain ⟨a, b, c, hu, c0, c1⟩ := unq_cut (t := (strOfNums (quoteL false l)).extract 0 n.toNat) hl hb (by omega) (m := n.toNat) (by omega) (by rw [bytesOf_take, strOfNums_bytes hbt])
  refine Ev.step (fun k => by rw [dragomanlaw6_EscCuts.j1, if_neg (by decide), if_pos h0, if_pos (by omega), hu, Option.bind_some, if_neg (by show ¬ c < 0; omega), decide_eq_false (by show ¬ c > n; omega)]) ?_
  exact cuts_j2 l hl hb hs n h0
theorem EscCuts : dragomanlaw6_EscCuts.Pure := by
  intro s n hs hn
  refine Ev.rounds ?_
  refine Ev.congr (fun k => by rw [dragomanlaw6_EscCuts.f, show dragomanlaw6_awake.f = some true from rfl, Option.bind_some, if_pos rfl]) ?_
  by_cases h2 : (s.size : Int) > 200
  · simp only [if_pos h2]
    exact Ev.step (fun k => by rw [dragomanlaw6_EscCuts.j0, if_pos rfl]) (Ev.now _)
  simp only [if_neg h2]
  refine Ev.bind (ref_valid_ev s (by omega)) ?_
  cases hb : bad (bytesOf s) with
  | some p =>
    have : rbadR 0 (some p) ≥ 0 := by simp only [rbadR]; omega
    rw [decide_eq_true this]
    exact Ev.step (fun k => by rw [dragomanlaw6_EscCuts.j0, if_pos rfl]) (Ev.now _)
  | none =>
    rw [show decide (rbadR 0 none ≥ 0) = false from rfl]
    refine Ev.step (fun k => by rw [dragomanlaw6_EscCuts.j0, if_neg (by decide)]) ?_
    refine Ev.bind (Quote_ev s (by omega)) ?_
    refine Ev.bind (TQuote_ev s (by omega)) ?_
    by_cases h0 : n < 0
    · simp only [if_pos h0]
      exact Ev.step (fun k => by rw [dragomanlaw6_EscCuts.j1, if_pos rfl]) (Ev.now _)
    · simp only [if_neg h0]
      by_cases h1 : n ≥ ((strOfNums (quoteL false (bytesOf s))).size : Int)
      · rw [decide_eq_true h1]
        exact Ev.step (fun k => by rw [dragomanlaw6_EscCuts.j1, if_pos rfl]) (Ev.now _)
      · rw [decide_eq_false h1]
        exact cuts_j1 (bytesOf s) (bytes_of s) hb (by rw [size_of]; omega) n (by omega) (by omega)
end Go.Proofs.YtoanbmggffkmgaaDoor.Pure
end
