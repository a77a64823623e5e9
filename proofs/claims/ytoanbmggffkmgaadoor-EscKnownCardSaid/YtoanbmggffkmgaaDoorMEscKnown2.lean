/- The parts of this claim's proof, in one text: what each Go function answers and that its call comes to it; plain facts of lists of numbers. Conditions as each theorem names them. -/
import Derived.ArgAppend
import Derived.Below
import Derived.BigQuiet
import Derived.Deep.AppendLies
import Derived.Deep.CutBlock
import Derived.Deep.DeepCutAuto
import Derived.Deep.Draws
import Derived.Deep.LoopGhost
import Derived.Deep.OwnRows
import Derived.Deep.QuietTactic
import Derived.Deep.RegionHeld3
import Derived.KernelRfl
import Derived.Laws.BitsLemmas
import Derived.Laws.BytesArg
import Derived.Laws.IdiomCopy
import Derived.Laws.MakeOwn
import Derived.Laws.OwnMore
import Derived.Laws.Rows
import Derived.Laws.Slices
import Derived.Lib.AppendStr
import Derived.Lib.Bytealg
import Derived.Lib.Bytes
import Derived.Lib.ConvBytes
import Derived.Lib.Hide
import Derived.Maps.AppendAt
import Derived.OrdersHeld
import Derived.Outline
import Derived.OwnWalk
import Derived.RowKit
import Derived.RowKit3
import Derived.Shelf.Bits.Mul64
import Derived.Shelf.LaysM
import Derived.Shelf.Small.Strs
import Derived.Shelf.Small.Utf8
import Derived.Shelf.Strings.AsciiSet
import Derived.Shelf.Strings.Builder1
import Derived.Shelf.Strings.Builder2
import Derived.Shelf.Strings.BuilderF
import Derived.Shelf.Strings.Count
import Derived.Shelf.Strings.IndexAny
import Derived.Shelf.Strings.IndexAnyAll
import Derived.Shelf.Strings.Prefix
import Derived.Shelf.Strings.Repeat
import Derived.Shelf.Strings.RuneCount
import Derived.Shelf.Strings.Runes
import Derived.Shelf.Strings.Search1
import Derived.Shelf.Strings.Search2
import Derived.Shelf.Strings.Search3
import Derived.Shelf.Strings.Shaped
import Derived.Shelf.Strings.SlTrimAscii
import Derived.Shelf.Strings.Split
import Derived.Shelf.Strings.Trim
import Derived.Shelf.Unicode.Decode
import Derived.Shelf.Unicode.DecodeAny
import Derived.Shelf.Unicode.DecodeLast
import Derived.Shelf.Unicode.DecodeSlow
import Derived.Shelf.Utf8.RuneCount
import Derived.Tactics
import Derived.WalkKit
import Derived.WideLaws
import Derived.Test.YtoanbmggffkmgaaDoorProg
import Derived.Test.YtoanbmggffkmgaaDoorWApart
import Derived.Test.YtoanbmggffkmgaaDoorWArr
import Derived.Test.YtoanbmggffkmgaaDoorWAt
import Derived.Test.YtoanbmggffkmgaaDoorWEqStruct
import Derived.Test.YtoanbmggffkmgaaDoorWFoot
import Derived.Test.YtoanbmggffkmgaaDoorWFootNe
import Derived.Test.YtoanbmggffkmgaaDoorWFour
import Derived.Test.YtoanbmggffkmgaaDoorWGuard
import Derived.Test.YtoanbmggffkmgaaDoorWInv
import Derived.Test.YtoanbmggffkmgaaDoorWInvWords
import Derived.Test.YtoanbmggffkmgaaDoorWKept
import Derived.Test.YtoanbmggffkmgaaDoorWLast
import Derived.Test.YtoanbmggffkmgaaDoorWMake0
import Derived.Test.YtoanbmggffkmgaaDoorWMore
import Derived.Test.YtoanbmggffkmgaaDoorWN
import Derived.Test.YtoanbmggffkmgaaDoorWNEv
import Derived.Test.YtoanbmggffkmgaaDoorWQPut
import Derived.Test.YtoanbmggffkmgaaDoorWRepsOne
import Derived.Test.YtoanbmggffkmgaaDoorWShare
import Derived.Test.YtoanbmggffkmgaaDoorWTab
import Derived.Test.YtoanbmggffkmgaaDoorWWords
import Derived.Test.YtoanbmggffkmgaaDoorWZeros
import Derived.Test.YtoanbmggffkmgaaDoorMEscKnown1
section
namespace Go.Proofs.YtoanbmggffkmgaaDoor.La
open Go.RowKit Go.Proofs.YtoanbmggffkmgaaDoor.P Go.Proofs.YtoanbmggffkmgaaDoorW.PrintWords Go.Proofs.YtoanbmggffkmgaaDoorW.PrintLast Go.Proofs.YtoanbmggffkmgaaDoorW.PrintMore
/-- What stands at a place of a TOML string, its end aside: what it says, and how many bytes it has. -/
def titem (lines : Bool) (q : Int) (l : List Int) : Option (List Int × Nat) := if l.getD 0 0 = 92 ∧ q = 34 then tesc lines l else tplain lines l
/-- What a TOML string says from byte i on, acc being read: is it whole, its bytes, and where it ends or is wrong. -/
def tbody (L : List Int) (q : Int) (lines : Bool) : Nat → Nat → List Int → Bool × List Int × Nat
  | 0, i, _ => (false, [], i)
  | k + 1, i, acc =>
    if L.length ≤ i then (false, [], L.length)
    else match tend lines q (L.drop i) with
      | some p => (true, acc ++ p.1, i + p.2)
      | none => match titem lines q (L.drop i) with
        | none => (false, [], i)
        | some p => tbody L q lines k (i + p.2) (acc ++ p.1)
/-- A line's end behind three quotes. -/
def tskip (l : List Int) : Nat := if l.take 2 = [13, 10] then 2 else if l.take 1 = [10] then 1 else 0
/-- What a TOML string says. -/
def tstr (L : List Int) (i : Nat) : Bool × List Int × Nat :=
  if 3 ≤ lead (L.getD i 0) (L.drop i) then tbody L (L.getD i 0) true (L.length + 1) (i + 3 + tskip (L.drop (i + 3))) []
  else tbody L (L.getD i 0) false (L.length + 1) (i + 1) []
theorem tfold_len {l : List Int} {n : Nat} (hl : 0 < l.length) (h : tfold l = some n) : 1 ≤ n ∧ n ≤ l.length := by
  unfold tfold at h
  split at h
  · obtain rfl := Option.some.inj h
    have := (List.dropWhile_suffix (inSet [32, 9, 10, 13]) (l := l.drop 1)).length_le
    rw [List.length_drop] at this
    unfold trimL
    omega
  · cases h
theorem tdig_len {l : List Int} {n : Nat} {p : List Int × Nat} (h : tdig l n = some p) : p.2 = 2 + n ∧ 2 + n ≤ l.length ∧ p.1.length ≤ 4 := by
  unfold tdig at h
  obtain ⟨x, hx, h⟩ := Option.bind_eq_some_iff.1 h
  have hd := digsAt_len (l := l) (i := 2) (n := n) (by rw [hx]; rfl)
  split at h
  · obtain rfl := Option.some.inj h
    exact ⟨rfl, hd, (enc_len x).2⟩
  · cases h
theorem tesc_len {lines : Bool} {l : List Int} {p : List Int × Nat} (hl : 0 < l.length) (h : tesc lines l = some p) : 1 ≤ p.2 ∧ p.2 ≤ l.length ∧ p.1.length ≤ 4 := by
  unfold tesc at h
  split at h
  · rename_i hf
    obtain ⟨n, hn⟩ := Option.isSome_iff_exists.1 hf.2
    obtain rfl := Option.some.inj h
    have := tfold_len hl hn
    rw [hn]
    exact ⟨this.1, this.2, by simp⟩
  · unfold tesc0 at h
    split at h
    · cases h
    · split at h
      · obtain rfl := Option.some.inj h
        exact ⟨by show 1 ≤ 2; omega, by show 2 ≤ _; omega, (enc_len _).2⟩
      · split at h
        · have := tdig_len h; omega
        · split at h
          · have := tdig_len h; omega
          · cases h
theorem enc0_len (r : Int) : (enc0 r).length ≤ 4 := by
  unfold enc0
  split
  · exact (enc_len r).2
  · simp
theorem tplain_len {lines : Bool} {l : List Int} {p : List Int × Nat} (hb : Bytes l) (hl : 0 < l.length) (h : tplain lines l = some p) : 1 ≤ p.2 ∧ p.2 ≤ l.length ∧ p.1.length ≤ 4 := by
  unfold tplain at h
  split at h
  · rename_i hc
    split at h
    · rename_i h13
      obtain rfl := Option.some.inj h
      have h2 : l.take 2 = [13, 10] := by
        rcases hc with ⟨_, h | h⟩ | h
        · omega
        · exact h
        · omega
      have := congrArg List.length h2
      rw [List.length_take] at this
      exact ⟨by show 1 ≤ 2; omega, by show 2 ≤ _; simp at this; omega, by simp⟩
    · obtain rfl := Option.some.inj h
      exact ⟨Nat.le_refl _, hl, by simp⟩
  · split at h
    · cases h
    · split at h
      · obtain rfl := Option.some.inj h
        have hbd := tk_bound l hb
        exact ⟨by show 1 ≤ (tk l).2.toNat; omega, by show (tk l).2.toNat ≤ _; omega, enc0_len _⟩
      · cases h
end Go.Proofs.YtoanbmggffkmgaaDoor.La
namespace Go.Proofs.YtoanbmggffkmgaaDoor.P
open Go.RowKit Go.Proofs.YtoanbmggffkmgaaDoor.La Go.Proofs.YtoanbmggffkmgaaDoorW.PrintWords Go.Proofs.YtoanbmggffkmgaaDoorW.PrintLast Go.Proofs.YtoanbmggffkmgaaDoorW.PrintMore
theorem rended {B g : Nat} {text : ByteArray} {i : Nat} {bs : List Int} {w : World} (lines : Bool) (q : UInt8) (hR : Rdr B w g text (i : Int) bs) (hl : bs.length ≤ 140737480000000) (h1 : i < text.size) (h2 : text.size ≤ 140737488000000) :
    Calls Tryd.prog 42 #[.pointer (some ⟨g, 0, none⟩), .string (one q), .bool lines] w (EndPost B g text i bs w (tend lines (q.toNat : Int) ((bytesOf text).drop i))) := by
  cases lines
  · exact rended_plain q hR h1 h2
  · exact rended_lines q hR hl h1 h2
/-- The loop's state. -/
def TInv (w : World) (text : ByteArray) (g : Nat) (F : Nat → Nat → List Int → Bool × List Int × Nat) (res : Bool × List Int × Nat) (k : Nat) (wr : World) : Prop :=
  ∃ (i : Nat) (bs : List Int), Rdr w.heap.size wr g text (i : Int) bs ∧ Below w.heap.size w wr ∧ F k i bs = res ∧ i ≤ text.size ∧ text.size - i < k ∧ bs.length ≤ 4 * i
set_option maxRecDepth 100000 in
set_option maxHeartbeats 64000000 in
theorem tunq_A (text : ByteArray) (at_ : Nat) (q : UInt8) (b34 : Bool) (hq34 : b34 = decide ((q.toNat : Int) = 34)) (hs : text.size ≤ 17592186044416) (hq : (bytesOf text).getD at_ 0 = (q.toNat : Int)) (_hqq : (q.toNat : Int) = 34 ∨ (q.toNat : Int) = 39) (hlt : at_ < text.size) (hq34' : (q.toNat : Int) = 34) (hln : ¬ 3 ≤ lead (q.toNat : Int) ((bytesOf text).drop at_)) (w : World) :
    Calls Tryd.prog 17 #[.string text, .int .i64 at_] w fun e w' => e = .returned (unqRes (tstr (bytesOf text) at_)) ∧ Below w.heap.size w w' := by
  generalize hres : tstr (bytesOf text) at_ = res
  have g1 : decide ((at_ : Int) < 0) = false := decide_eq_false (by omega)
  have htk1 : ∀ c : Int, ((bytesOf text).drop at_).take 1 = [c] ↔ (q.toNat : Int) = c := by
    intro c
    rw [take_one_drop (by rw [size_of]; exact hlt), hq]
    constructor
    · intro h; exact (List.cons.inj h).1
    · intro h; rw [h]
  have dA : decide (((bytesOf text).drop at_).take (⟨#[34]⟩ : ByteArray).size = bytesOf ⟨#[34]⟩) = b34 := by rw [hq34, decide_eq_decide]; exact htk1 34
  have dB : b34 = false → decide (((bytesOf text).drop at_).take (⟨#[39]⟩ : ByteArray).size = bytesOf ⟨#[39]⟩) = true := by
    intro h
    rw [decide_eq_true_eq]
    refine (htk1 39).2 ?_
    rw [hq34, decide_eq_false_iff_not] at h
    omega
  have hquote : text.extract at_ (at_ + 1) = one q := by
    apply bytesOf_inj
    rw [bytesOf_extract, List.drop_take, show at_ + 1 - at_ = 1 by omega, (htk1 _).2 rfl]
    rfl
  have hq1 : ((one q).toList == ([34] : List UInt8)) = b34 := by
    rw [hq34, Bool.eq_iff_iff, beq_iff_eq, decide_eq_true_eq]
    have := toList_eq_iff (one q) ⟨#[34]⟩
    rw [toList_data' ⟨#[34]⟩] at this
    rw [this, one_bytes]
    constructor
    · intro h; exact (List.cons.inj h).1
    · intro h; rw [h]; rfl
  obtain ⟨lines, hlines⟩ : ∃ lines, lines = decide (3 ≤ lead (q.toNat : Int) ((bytesOf text).drop at_)) := ⟨_, rfl⟩
  have d3 : decide (((bytesOf text).drop at_).take (⟨#[q, q, q]⟩ : ByteArray).size = bytesOf (⟨#[q, q, q]⟩ : ByteArray)) = lines := by
    rw [hlines, rep_bytes3, decide_eq_decide]
    exact lead_take _ _ 3
  have hT : tstr (bytesOf text) at_ = if lines = true then tbody (bytesOf text) (q.toNat : Int) true (text.size + 1) (at_ + 3 + tskip ((bytesOf text).drop (at_ + 3))) [] else tbody (bytesOf text) (q.toNat : Int) false (text.size + 1) (at_ + 1) [] := by
    unfold tstr
    rw [hq, hlines, size_of]
    simp only [decide_eq_true_eq]
  have hl3 : lines = true → at_ + 3 ≤ text.size := by
    intro h
    rw [hlines, decide_eq_true_eq] at h
    have := lead_le (q.toNat : Int) ((bytesOf text).drop at_)
    rw [List.length_drop, size_of] at this
    omega
  rw [hT] at hres
  have hLN : lines = false := by rw [hlines]; exact decide_eq_false hln
  clear hT htk1 hlines
  have HRES := Lib.hid hres
  clear hres
  have p0 := eq_true (show (0 : Int) ≤ (at_ : Int) by omega)
  have p1 := eq_true (show (at_ : Int) ≤ (at_ : Int) + 1 by omega)
  have p2 := eq_true (show (at_ : Int) + 1 ≤ (text.size : Int) by omega)
  go_enter Tryd.func17, Tryd.ntmps17
  go_wp2_with fail
  refine (rstart text at_ w).mono ?_
  rintro e w1 ⟨g, rfl, hR, hB⟩
  rw [show mn (mx (at_ : Int) 0) (text.size : Int) = (at_ : Int) by unfold mn mx; (repeat' split) <;> omega] at hR
  go_wp2_with fail
  refine (rbegins ⟨#[34]⟩ hR (by omega) (by omega)).mono ?_
  rintro e w2 ⟨rfl, n2, rfl⟩
  rw [show (at_ : Int).toNat = at_ by omega, dA]
  replace hR := hR.drewN n2
  replace hB := pw_below_drewN hB n2
  generalize w1.drewN n2 = w1 at hR hB
  have H34 : (q.toNat : Int) = 34 := hq34'
  obtain rfl : b34 = true := by rw [hq34, decide_eq_true hq34']
  clear dB dA hq34
  subst hLN
  have hsl : ∀ W : World, (Instr.slice 9 (.string text) (some (.int .i64 (at_ : Int))) (some (.int .i64 ((at_ : Int) + 1))) none).run Tryd.prog W = .ok (.string (one q)) W := by
    intro W
    have := run_slice_string (P := Tryd.prog) W 9 text .i64 .i64 (at_ : Int) ((at_ : Int) + 1) Tryd.underlying9 (by omega) (by omega) (by omega)
    rw [this, ← hquote]
    rfl
  go_wp2_with fail
  refine (repeat3 q _).mono ?_
  rintro e w2 ⟨rfl, hb2⟩
  replace hR := hR.below hb2
  have hlw := hB.size
  replace hB := hB.trans (hb2.mono hlw)
  clear hb2 hlw hsl hquote
  generalize w2 = w1 at hR hB
  go_wp2_with fail
  refine (rbegins ⟨#[q, q, q]⟩ hR (by omega) (by omega)).mono ?_
  rintro e w2 ⟨rfl, n2, rfl⟩
  rw [show (at_ : Int).toNat = at_ by omega, d3]
  replace hR := hR.drewN n2
  replace hB := pw_below_drewN hB n2
  generalize w1.drewN n2 = w1 at hR hB
  have HRES0 := HRES.out
  clear HRES
  rw [if_neg (by decide)] at HRES0
  obtain ⟨F, hF⟩ : ∃ F, F = tbody (bytesOf text) (q.toNat : Int) false := ⟨_, rfl⟩
  rw [← hF] at HRES0
  have HRES := Lib.hid HRES0
  clear HRES0
  obtain ⟨A, c, c0, c1, c2, f1, f2, hlt2, hc, hC⟩ := hR.open_
  have hlow := hR.low
  have hM := hR.moved ((at_ : Int) + 1)
  go_wp2_with fail
  generalize w1.setCell ⟨g, 1, none⟩ (.int .i64 ((at_ : Int) + 1)) = w4 at hM
  clear c0 c1 c2 f1 f2 hC hR
  obtain ⟨hR, hB4⟩ := hM
  replace hB := hB.trans hB4
  clear hB4
  generalize w4 = w1 at hR hB
  rw [show (at_ : Int) + 1 = ((at_ + 1 : Nat) : Int) by omega] at hR
  go_loopg [] (text.size + 1) (fun k wr => TInv w text g F res k wr)
  case atStart => exact ⟨_, [], hR, hB, HRES.out, by omega, by omega, by simp⟩
  case round =>
    clear hR hB HRES hl3 d3
    obtain ⟨i, bs, hR, hB, hj, hi, hk, hl⟩ := hrel
    cases gk with
    | zero => omega
    | succ k =>
      have hlow := hR.low
      obtain ⟨A, c, c0, c1, c2, f1, f2, hlt2, hc, hC⟩ := hR.open_
      rw [hF, tbody, ← hF] at hj
      by_cases hlt : i < text.size
      · rw [if_neg (by rw [size_of]; omega)] at hj
        have hdl : ((bytesOf text).drop i).length = text.size - i := by rw [List.length_drop, size_of]
        have e1 : decide ((i : Int) < (text.size : Int)) = true := decide_eq_true (by omega)
        go_wp2_with fail
        refine (rended _ q hR (by omega) hlt (by omega)).mono ?_
        rintro e w5 ⟨rfl, hR5, hB5⟩
        have hB6 := hB.trans hB5
        clear c0 c1 c2 f1 f2 hC hB hB5
        cases htend : tend false (q.toNat : Int) ((bytesOf text).drop i) with
        | some p =>
          rw [htend] at hj hR5
          have hr := Lib.hid hj
          clear hj
          replace hR5 : Rdr w.heap.size w5 g text ((i : Int) + p.2) (bs ++ p.1) := hR5
          obtain ⟨A5, c5, d0, d1, d2, e1', e2, _, _, hC5⟩ := hR5.open_
          have kc := fun n => Kd.C_string (P := Tryd.prog) (w := w5.drewN n) (c := c5) Tryd.underlying46 Tryd.underlying5 Tryd.underlying9 hC5
          have kc0 := Kd.C_string (P := Tryd.prog) (w := w5) (c := c5) Tryd.underlying46 Tryd.underlying5 Tryd.underlying9 hC5
          rw [List.length_append] at kc0 d2
          simp only [List.length_append] at kc
          go_wp2
          repeat (go_quiet (fail); try go_wp2)
          go_ret3
          exact ⟨by rw [← hr.out]; first | rfl | (unfold unqRes; simp), by first | exact hB6 | exact pw_below_drewN hB6 _⟩
        | none =>
          rw [htend] at hj hR5
          replace hR5 : Rdr w.heap.size w5 g text (i : Int) bs := hR5
          have hlow5 := hR5.low
          obtain ⟨A5, c5, d0, d1, d2, e1', e2, hlt5, _, hC5⟩ := hR5.open_
          have p1 := eq_true (show (0 : Int) ≤ (i : Int) by omega)
          have q1 := eq_true (show (i : Int) < (text.size : Int) by omega)
          have q2 := eq_true (show (i : Int).toNat < text.size by omega)
          have q3 := eq_true hlt
          have hx1 : ∀ h : i < text.size, ((text[i]'h).toNat : Int) = bt text (i : Int) := fun h => bt_at text (i : Int) (by omega)
          have hbt : ((bytesOf text).drop i).getD 0 0 = bt text (i : Int) := by
            rw [bt_get]
            simp [List.getD_eq_getElem?_getD, List.getElem?_drop]
          unfold titem at hj
          rw [hbt] at hj
          have hpl := fun p h => tplain_len (lines := false) (p := p) ((bytes_of text).drop i) (by omega) h
          have htl := fun p h => tesc_len (lines := false) (l := (bytesOf text).drop i) (p := p) (by omega) h
          rw [hdl] at hpl htl
          clear hbt hdl htend
          generalize bt text (i : Int) = b at hj hx1
          have HJ := Lib.hid hj
          clear hj
          have HPL := Lib.hid hpl
          have HTL := Lib.hid htl
          clear hpl htl
          by_cases h92 : b = 92
          · have HJ := Lib.hid (show _ from (by have h := HJ.out; rw [if_pos (show b = 92 ∧ (q.toNat : Int) = 34 from ⟨h92, H34⟩)] at h; exact h))
            have t92 : (b == 92) = true := beq_iff_eq.2 h92
            clear h92
            go_wp2_with fail
            refine (rtesc false hR5 (by omega) hlt (by omega)).mono ?_
            rintro e w7 ⟨rfl, hR7, hB7⟩
            have hB8 := hB6.trans hB7
            clear d0 d1 d2 e1' e2 hC5 hR5 hB6 hB7
            cases hp : tesc false ((bytesOf text).drop i) with
            | none =>
              rw [hp] at hR7 HJ
              have hr := Lib.hid HJ.out
              clear HJ
              replace hR7 : Rdr w.heap.size w7 g text (i : Int) bs := hR7
              obtain ⟨A7, c7, m0, m1, m2, m3, m4, _, _, _⟩ := hR7.open_
              go_wp2
              repeat (go_quiet (fail); try go_wp2)
              go_ret3
              exact ⟨by rw [← hr.out]; rfl, by first | exact hB8 | exact pw_below_drewN hB8 _⟩
            | some pp =>
              rw [hp] at hR7 HJ
              have hr := Lib.hid HJ.out
              clear HJ
              have hR8 : Rdr w.heap.size w7 g text ((i : Int) + pp.2) (bs ++ pp.1) := hR7
              have hpp := HTL.out pp hp
              clear HPL HTL hp hR7
              go_wp2
              go_roundg k
              case rel => exact ⟨i + pp.2, bs ++ pp.1, by rw [Int.natCast_add]; exact hR8, hB8, hr.out, by omega, by omega, by rw [List.length_append]; omega⟩
              case measure => omega
          · have HJ := Lib.hid (show _ from (by have h := HJ.out; rw [if_neg (show ¬ (b = 92 ∧ (q.toNat : Int) = 34) from fun h => h92 h.1)] at h; exact h))
            have t92 : (b == 92) = false := beq_eq_false_iff_ne.2 h92
            clear h92
            go_wp2_with fail
            refine (rplain false hR5 (by omega) hlt (by omega)).mono ?_
            rintro e w7 ⟨rfl, hR7, hB7⟩
            have hB8 := hB6.trans hB7
            clear d0 d1 d2 e1' e2 hC5 hR5 hB6 hB7
            cases hp : tplain false ((bytesOf text).drop i) with
            | none =>
              rw [hp] at hR7 HJ
              have hr := Lib.hid HJ.out
              clear HJ
              obtain ⟨bs7, hR7⟩ := hR7
              obtain ⟨A7, c7, m0, m1, m2, m3, m4, _, _, _⟩ := hR7.open_
              go_wp2
              repeat (go_quiet (fail); try go_wp2)
              go_ret3
              exact ⟨by rw [← hr.out]; rfl, by first | exact hB8 | exact pw_below_drewN hB8 _⟩
            | some pp =>
              rw [hp] at hR7 HJ
              have hr := Lib.hid HJ.out
              clear HJ
              have hR8 : Rdr w.heap.size w7 g text ((i : Int) + pp.2) (bs ++ pp.1) := hR7
              have hpp := HPL.out pp hp
              clear HPL HTL hp hR7
              go_wp2
              go_roundg k
              case rel => exact ⟨i + pp.2, bs ++ pp.1, by rw [Int.natCast_add]; exact hR8, hB8, hr.out, by omega, by omega, by rw [List.length_append]; omega⟩
              case measure => omega
      · obtain rfl : i = text.size := by omega
        rw [if_pos (by rw [size_of]; omega), size_of] at hj
        obtain rfl := hj
        have e1 : decide ((text.size : Int) < (text.size : Int)) = false := decide_eq_false (by omega)
        go_wp2
        repeat (go_quiet (fail); try go_wp2)
        go_ret3
        exact ⟨rfl, hB⟩
set_option maxRecDepth 100000 in
set_option maxHeartbeats 64000000 in
theorem tunq_B (text : ByteArray) (at_ : Nat) (q : UInt8) (b34 : Bool) (hq34 : b34 = decide ((q.toNat : Int) = 34)) (hs : text.size ≤ 17592186044416) (hq : (bytesOf text).getD at_ 0 = (q.toNat : Int)) (_hqq : (q.toNat : Int) = 34 ∨ (q.toNat : Int) = 39) (hlt : at_ < text.size) (hq34' : (q.toNat : Int) = 34) (hln : 3 ≤ lead (q.toNat : Int) ((bytesOf text).drop at_)) (hcr : ¬ ((bytesOf text).drop (at_ + 3)).take 2 = [13, 10]) (hcn : ¬ ((bytesOf text).drop (at_ + 3)).take 1 = [10]) (w : World) :
    Calls Tryd.prog 17 #[.string text, .int .i64 at_] w fun e w' => e = .returned (unqRes (tstr (bytesOf text) at_)) ∧ Below w.heap.size w w' := by
  generalize hres : tstr (bytesOf text) at_ = res
  have g1 : decide ((at_ : Int) < 0) = false := decide_eq_false (by omega)
  have htk1 : ∀ c : Int, ((bytesOf text).drop at_).take 1 = [c] ↔ (q.toNat : Int) = c := by
    intro c
    rw [take_one_drop (by rw [size_of]; exact hlt), hq]
    constructor
    · intro h; exact (List.cons.inj h).1
    · intro h; rw [h]
  have dA : decide (((bytesOf text).drop at_).take (⟨#[34]⟩ : ByteArray).size = bytesOf ⟨#[34]⟩) = b34 := by rw [hq34, decide_eq_decide]; exact htk1 34
  have dB : b34 = false → decide (((bytesOf text).drop at_).take (⟨#[39]⟩ : ByteArray).size = bytesOf ⟨#[39]⟩) = true := by
    intro h
    rw [decide_eq_true_eq]
    refine (htk1 39).2 ?_
    rw [hq34, decide_eq_false_iff_not] at h
    omega
  have hquote : text.extract at_ (at_ + 1) = one q := by
    apply bytesOf_inj
    rw [bytesOf_extract, List.drop_take, show at_ + 1 - at_ = 1 by omega, (htk1 _).2 rfl]
    rfl
  have hq1 : ((one q).toList == ([34] : List UInt8)) = b34 := by
    rw [hq34, Bool.eq_iff_iff, beq_iff_eq, decide_eq_true_eq]
    have := toList_eq_iff (one q) ⟨#[34]⟩
    rw [toList_data' ⟨#[34]⟩] at this
    rw [this, one_bytes]
    constructor
    · intro h; exact (List.cons.inj h).1
    · intro h; rw [h]; rfl
  obtain ⟨lines, hlines⟩ : ∃ lines, lines = decide (3 ≤ lead (q.toNat : Int) ((bytesOf text).drop at_)) := ⟨_, rfl⟩
  have d3 : decide (((bytesOf text).drop at_).take (⟨#[q, q, q]⟩ : ByteArray).size = bytesOf (⟨#[q, q, q]⟩ : ByteArray)) = lines := by
    rw [hlines, rep_bytes3, decide_eq_decide]
    exact lead_take _ _ 3
  have hT : tstr (bytesOf text) at_ = if lines = true then tbody (bytesOf text) (q.toNat : Int) true (text.size + 1) (at_ + 3 + tskip ((bytesOf text).drop (at_ + 3))) [] else tbody (bytesOf text) (q.toNat : Int) false (text.size + 1) (at_ + 1) [] := by
    unfold tstr
    rw [hq, hlines, size_of]
    simp only [decide_eq_true_eq]
  have hl3 : lines = true → at_ + 3 ≤ text.size := by
    intro h
    rw [hlines, decide_eq_true_eq] at h
    have := lead_le (q.toNat : Int) ((bytesOf text).drop at_)
    rw [List.length_drop, size_of] at this
    omega
  rw [hT] at hres
  have hLN : lines = true := by rw [hlines]; exact decide_eq_true hln
  clear hT htk1 hlines
  have HRES := Lib.hid hres
  clear hres
  have p0 := eq_true (show (0 : Int) ≤ (at_ : Int) by omega)
  have p1 := eq_true (show (at_ : Int) ≤ (at_ : Int) + 1 by omega)
  have p2 := eq_true (show (at_ : Int) + 1 ≤ (text.size : Int) by omega)
  go_enter Tryd.func17, Tryd.ntmps17
  go_wp2_with fail
  refine (rstart text at_ w).mono ?_
  rintro e w1 ⟨g, rfl, hR, hB⟩
  rw [show mn (mx (at_ : Int) 0) (text.size : Int) = (at_ : Int) by unfold mn mx; (repeat' split) <;> omega] at hR
  go_wp2_with fail
  refine (rbegins ⟨#[34]⟩ hR (by omega) (by omega)).mono ?_
  rintro e w2 ⟨rfl, n2, rfl⟩
  rw [show (at_ : Int).toNat = at_ by omega, dA]
  replace hR := hR.drewN n2
  replace hB := pw_below_drewN hB n2
  generalize w1.drewN n2 = w1 at hR hB
  have H34 : (q.toNat : Int) = 34 := hq34'
  obtain rfl : b34 = true := by rw [hq34, decide_eq_true hq34']
  clear dB dA hq34
  subst hLN
  have hsl : ∀ W : World, (Instr.slice 9 (.string text) (some (.int .i64 (at_ : Int))) (some (.int .i64 ((at_ : Int) + 1))) none).run Tryd.prog W = .ok (.string (one q)) W := by
    intro W
    have := run_slice_string (P := Tryd.prog) W 9 text .i64 .i64 (at_ : Int) ((at_ : Int) + 1) Tryd.underlying9 (by omega) (by omega) (by omega)
    rw [this, ← hquote]
    rfl
  go_wp2_with fail
  refine (repeat3 q _).mono ?_
  rintro e w2 ⟨rfl, hb2⟩
  replace hR := hR.below hb2
  have hlw := hB.size
  replace hB := hB.trans (hb2.mono hlw)
  clear hb2 hlw hsl hquote
  generalize w2 = w1 at hR hB
  go_wp2_with fail
  refine (rbegins ⟨#[q, q, q]⟩ hR (by omega) (by omega)).mono ?_
  rintro e w2 ⟨rfl, n2, rfl⟩
  rw [show (at_ : Int).toNat = at_ by omega, d3]
  replace hR := hR.drewN n2
  replace hB := pw_below_drewN hB n2
  generalize w1.drewN n2 = w1 at hR hB
  have HRES0 := HRES.out
  clear HRES
  rw [if_pos trivial] at HRES0
  have hl4 := hl3 trivial
  obtain ⟨F, hF⟩ : ∃ F, F = tbody (bytesOf text) (q.toNat : Int) true := ⟨_, rfl⟩
  rw [← hF] at HRES0
  have HRES := Lib.hid HRES0
  clear HRES0
  obtain ⟨A, c, c0, c1, c2, f1, f2, hlt2, hc, hC⟩ := hR.open_
  have hlow := hR.low
  have hM := hR.moved ((at_ : Int) + 1)
  go_wp2_with fail
  generalize w1.setCell ⟨g, 1, none⟩ (.int .i64 ((at_ : Int) + 1)) = w4 at hM
  clear c0 c1 c2 f1 f2 hC hR
  obtain ⟨hR, hB4⟩ := hM
  replace hB := hB.trans hB4
  clear hB4
  generalize w4 = w1 at hR hB
  obtain ⟨A, c, c0, c1, c2, f1, f2, hlt2, hc, hC⟩ := hR.open_
  have hlow := hR.low
  have hM := hR.moved ((at_ : Int) + 1 + 2)
  go_wp2_with fail
  generalize w1.setCell ⟨g, 1, none⟩ (.int .i64 ((at_ : Int) + 1 + 2)) = w4 at hM
  clear c0 c1 c2 f1 f2 hC hR
  obtain ⟨hR, hB4⟩ := hM
  replace hB := hB.trans hB4
  clear hB4
  generalize w4 = w1 at hR hB
  rw [show (at_ : Int) + 1 + 2 = ((at_ + 3 : Nat) : Int) by omega] at hR
  unfold tskip at HRES
  have dc : decide (((bytesOf text).drop (at_ + 3)).take (⟨#[13, 10]⟩ : ByteArray).size = bytesOf ⟨#[13, 10]⟩) = false := decide_eq_false hcr
  rw [if_neg hcr] at HRES
  go_wp2_with fail
  refine (rbegins ⟨#[13, 10]⟩ hR (by omega) (by omega)).mono ?_
  rintro e w2 ⟨rfl, n2, rfl⟩
  rw [show (((at_ + 3 : Nat) : Int)).toNat = at_ + 3 by omega, dc]
  replace hR := hR.drewN n2
  replace hB := pw_below_drewN hB n2
  generalize w1.drewN n2 = w1 at hR hB
  have dn : decide (((bytesOf text).drop (at_ + 3)).take (⟨#[10]⟩ : ByteArray).size = bytesOf ⟨#[10]⟩) = false := decide_eq_false hcn
  rw [if_neg hcn] at HRES
  go_wp2_with fail
  refine (rbegins ⟨#[10]⟩ hR (by omega) (by omega)).mono ?_
  rintro e w2 ⟨rfl, n2, rfl⟩
  rw [show (((at_ + 3 : Nat) : Int)).toNat = at_ + 3 by omega, dn]
  replace hR := hR.drewN n2
  replace hB := pw_below_drewN hB n2
  generalize w1.drewN n2 = w1 at hR hB
  go_wp2_with fail
  go_loopg [] (text.size + 1) (fun k wr => TInv w text g F res k wr)
  case atStart => exact ⟨_, [], hR, hB, HRES.out, by omega, by omega, by simp⟩
  case round =>
    clear hR hB HRES hl3 d3
    obtain ⟨i, bs, hR, hB, hj, hi, hk, hl⟩ := hrel
    cases gk with
    | zero => omega
    | succ k =>
      have hlow := hR.low
      obtain ⟨A, c, c0, c1, c2, f1, f2, hlt2, hc, hC⟩ := hR.open_
      rw [hF, tbody, ← hF] at hj
      by_cases hlt : i < text.size
      · rw [if_neg (by rw [size_of]; omega)] at hj
        have hdl : ((bytesOf text).drop i).length = text.size - i := by rw [List.length_drop, size_of]
        have e1 : decide ((i : Int) < (text.size : Int)) = true := decide_eq_true (by omega)
        go_wp2_with fail
        refine (rended _ q hR (by omega) hlt (by omega)).mono ?_
        rintro e w5 ⟨rfl, hR5, hB5⟩
        have hB6 := hB.trans hB5
        clear c0 c1 c2 f1 f2 hC hB hB5
        cases htend : tend true (q.toNat : Int) ((bytesOf text).drop i) with
        | some p =>
          rw [htend] at hj hR5
          have hr := Lib.hid hj
          clear hj
          replace hR5 : Rdr w.heap.size w5 g text ((i : Int) + p.2) (bs ++ p.1) := hR5
          obtain ⟨A5, c5, d0, d1, d2, e1', e2, _, _, hC5⟩ := hR5.open_
          have kc := fun n => Kd.C_string (P := Tryd.prog) (w := w5.drewN n) (c := c5) Tryd.underlying46 Tryd.underlying5 Tryd.underlying9 hC5
          have kc0 := Kd.C_string (P := Tryd.prog) (w := w5) (c := c5) Tryd.underlying46 Tryd.underlying5 Tryd.underlying9 hC5
          rw [List.length_append] at kc0 d2
          simp only [List.length_append] at kc
          go_wp2
          repeat (go_quiet (fail); try go_wp2)
          go_ret3
          exact ⟨by rw [← hr.out]; first | rfl | (unfold unqRes; simp), by first | exact hB6 | exact pw_below_drewN hB6 _⟩
        | none =>
          rw [htend] at hj hR5
          replace hR5 : Rdr w.heap.size w5 g text (i : Int) bs := hR5
          have hlow5 := hR5.low
          obtain ⟨A5, c5, d0, d1, d2, e1', e2, hlt5, _, hC5⟩ := hR5.open_
          have p1 := eq_true (show (0 : Int) ≤ (i : Int) by omega)
          have q1 := eq_true (show (i : Int) < (text.size : Int) by omega)
          have q2 := eq_true (show (i : Int).toNat < text.size by omega)
          have q3 := eq_true hlt
          have hx1 : ∀ h : i < text.size, ((text[i]'h).toNat : Int) = bt text (i : Int) := fun h => bt_at text (i : Int) (by omega)
          have hbt : ((bytesOf text).drop i).getD 0 0 = bt text (i : Int) := by
            rw [bt_get]
            simp [List.getD_eq_getElem?_getD, List.getElem?_drop]
          unfold titem at hj
          rw [hbt] at hj
          have hpl := fun p h => tplain_len (lines := true) (p := p) ((bytes_of text).drop i) (by omega) h
          have htl := fun p h => tesc_len (lines := true) (l := (bytesOf text).drop i) (p := p) (by omega) h
          rw [hdl] at hpl htl
          clear hbt hdl htend
          generalize bt text (i : Int) = b at hj hx1
          have HJ := Lib.hid hj
          clear hj
          have HPL := Lib.hid hpl
          have HTL := Lib.hid htl
          clear hpl htl
          by_cases h92 : b = 92
          · have HJ := Lib.hid (show _ from (by have h := HJ.out; rw [if_pos (show b = 92 ∧ (q.toNat : Int) = 34 from ⟨h92, H34⟩)] at h; exact h))
            have t92 : (b == 92) = true := beq_iff_eq.2 h92
            clear h92
            go_wp2_with fail
            refine (rtesc true hR5 (by omega) hlt (by omega)).mono ?_
            rintro e w7 ⟨rfl, hR7, hB7⟩
            have hB8 := hB6.trans hB7
            clear d0 d1 d2 e1' e2 hC5 hR5 hB6 hB7
            cases hp : tesc true ((bytesOf text).drop i) with
            | none =>
              rw [hp] at hR7 HJ
              have hr := Lib.hid HJ.out
              clear HJ
              replace hR7 : Rdr w.heap.size w7 g text (i : Int) bs := hR7
              obtain ⟨A7, c7, m0, m1, m2, m3, m4, _, _, _⟩ := hR7.open_
              go_wp2
              repeat (go_quiet (fail); try go_wp2)
              go_ret3
              exact ⟨by rw [← hr.out]; rfl, by first | exact hB8 | exact pw_below_drewN hB8 _⟩
            | some pp =>
              rw [hp] at hR7 HJ
              have hr := Lib.hid HJ.out
              clear HJ
              have hR8 : Rdr w.heap.size w7 g text ((i : Int) + pp.2) (bs ++ pp.1) := hR7
              have hpp := HTL.out pp hp
              clear HPL HTL hp hR7
              go_wp2
              go_roundg k
              case rel => exact ⟨i + pp.2, bs ++ pp.1, by rw [Int.natCast_add]; exact hR8, hB8, hr.out, by omega, by omega, by rw [List.length_append]; omega⟩
              case measure => omega
          · have HJ := Lib.hid (show _ from (by have h := HJ.out; rw [if_neg (show ¬ (b = 92 ∧ (q.toNat : Int) = 34) from fun h => h92 h.1)] at h; exact h))
            have t92 : (b == 92) = false := beq_eq_false_iff_ne.2 h92
            clear h92
            go_wp2_with fail
            refine (rplain true hR5 (by omega) hlt (by omega)).mono ?_
            rintro e w7 ⟨rfl, hR7, hB7⟩
            have hB8 := hB6.trans hB7
            clear d0 d1 d2 e1' e2 hC5 hR5 hB6 hB7
            cases hp : tplain true ((bytesOf text).drop i) with
            | none =>
              rw [hp] at hR7 HJ
              have hr := Lib.hid HJ.out
              clear HJ
              obtain ⟨bs7, hR7⟩ := hR7
              obtain ⟨A7, c7, m0, m1, m2, m3, m4, _, _, _⟩ := hR7.open_
              go_wp2
              repeat (go_quiet (fail); try go_wp2)
              go_ret3
              exact ⟨by rw [← hr.out]; rfl, by first | exact hB8 | exact pw_below_drewN hB8 _⟩
            | some pp =>
              rw [hp] at hR7 HJ
              have hr := Lib.hid HJ.out
              clear HJ
              have hR8 : Rdr w.heap.size w7 g text ((i : Int) + pp.2) (bs ++ pp.1) := hR7
              have hpp := HPL.out pp hp
              clear HPL HTL hp hR7
              go_wp2
              go_roundg k
              case rel => exact ⟨i + pp.2, bs ++ pp.1, by rw [Int.natCast_add]; exact hR8, hB8, hr.out, by omega, by omega, by rw [List.length_append]; omega⟩
              case measure => omega
      · obtain rfl : i = text.size := by omega
        rw [if_pos (by rw [size_of]; omega), size_of] at hj
        obtain rfl := hj
        have e1 : decide ((text.size : Int) < (text.size : Int)) = false := decide_eq_false (by omega)
        go_wp2
        repeat (go_quiet (fail); try go_wp2)
        go_ret3
        exact ⟨rfl, hB⟩
set_option maxRecDepth 100000 in
set_option maxHeartbeats 64000000 in
theorem tunq_C (text : ByteArray) (at_ : Nat) (q : UInt8) (b34 : Bool) (hq34 : b34 = decide ((q.toNat : Int) = 34)) (hs : text.size ≤ 17592186044416) (hq : (bytesOf text).getD at_ 0 = (q.toNat : Int)) (_hqq : (q.toNat : Int) = 34 ∨ (q.toNat : Int) = 39) (hlt : at_ < text.size) (hq34' : ¬ (q.toNat : Int) = 34) (hln : 3 ≤ lead (q.toNat : Int) ((bytesOf text).drop at_)) (hcr : ¬ ((bytesOf text).drop (at_ + 3)).take 2 = [13, 10]) (hcn : ((bytesOf text).drop (at_ + 3)).take 1 = [10]) (w : World) :
    Calls Tryd.prog 17 #[.string text, .int .i64 at_] w fun e w' => e = .returned (unqRes (tstr (bytesOf text) at_)) ∧ Below w.heap.size w w' := by
  generalize hres : tstr (bytesOf text) at_ = res
  have g1 : decide ((at_ : Int) < 0) = false := decide_eq_false (by omega)
  have htk1 : ∀ c : Int, ((bytesOf text).drop at_).take 1 = [c] ↔ (q.toNat : Int) = c := by
    intro c
    rw [take_one_drop (by rw [size_of]; exact hlt), hq]
    constructor
    · intro h; exact (List.cons.inj h).1
    · intro h; rw [h]
  have dA : decide (((bytesOf text).drop at_).take (⟨#[34]⟩ : ByteArray).size = bytesOf ⟨#[34]⟩) = b34 := by rw [hq34, decide_eq_decide]; exact htk1 34
  have dB : b34 = false → decide (((bytesOf text).drop at_).take (⟨#[39]⟩ : ByteArray).size = bytesOf ⟨#[39]⟩) = true := by
    intro h
    rw [decide_eq_true_eq]
    refine (htk1 39).2 ?_
    rw [hq34, decide_eq_false_iff_not] at h
    omega
  have hquote : text.extract at_ (at_ + 1) = one q := by
    apply bytesOf_inj
    rw [bytesOf_extract, List.drop_take, show at_ + 1 - at_ = 1 by omega, (htk1 _).2 rfl]
    rfl
  have hq1 : ((one q).toList == ([34] : List UInt8)) = b34 := by
    rw [hq34, Bool.eq_iff_iff, beq_iff_eq, decide_eq_true_eq]
    have := toList_eq_iff (one q) ⟨#[34]⟩
    rw [toList_data' ⟨#[34]⟩] at this
    rw [this, one_bytes]
    constructor
    · intro h; exact (List.cons.inj h).1
    · intro h; rw [h]; rfl
  obtain ⟨lines, hlines⟩ : ∃ lines, lines = decide (3 ≤ lead (q.toNat : Int) ((bytesOf text).drop at_)) := ⟨_, rfl⟩
  have d3 : decide (((bytesOf text).drop at_).take (⟨#[q, q, q]⟩ : ByteArray).size = bytesOf (⟨#[q, q, q]⟩ : ByteArray)) = lines := by
    rw [hlines, rep_bytes3, decide_eq_decide]
    exact lead_take _ _ 3
  have hT : tstr (bytesOf text) at_ = if lines = true then tbody (bytesOf text) (q.toNat : Int) true (text.size + 1) (at_ + 3 + tskip ((bytesOf text).drop (at_ + 3))) [] else tbody (bytesOf text) (q.toNat : Int) false (text.size + 1) (at_ + 1) [] := by
    unfold tstr
    rw [hq, hlines, size_of]
    simp only [decide_eq_true_eq]
  have hl3 : lines = true → at_ + 3 ≤ text.size := by
    intro h
    rw [hlines, decide_eq_true_eq] at h
    have := lead_le (q.toNat : Int) ((bytesOf text).drop at_)
    rw [List.length_drop, size_of] at this
    omega
  rw [hT] at hres
  have hLN : lines = true := by rw [hlines]; exact decide_eq_true hln
  clear hT htk1 hlines
  have HRES := Lib.hid hres
  clear hres
  have p0 := eq_true (show (0 : Int) ≤ (at_ : Int) by omega)
  have p1 := eq_true (show (at_ : Int) ≤ (at_ : Int) + 1 by omega)
  have p2 := eq_true (show (at_ : Int) + 1 ≤ (text.size : Int) by omega)
  go_enter Tryd.func17, Tryd.ntmps17
  go_wp2_with fail
  refine (rstart text at_ w).mono ?_
  rintro e w1 ⟨g, rfl, hR, hB⟩
  rw [show mn (mx (at_ : Int) 0) (text.size : Int) = (at_ : Int) by unfold mn mx; (repeat' split) <;> omega] at hR
  go_wp2_with fail
  refine (rbegins ⟨#[34]⟩ hR (by omega) (by omega)).mono ?_
  rintro e w2 ⟨rfl, n2, rfl⟩
  rw [show (at_ : Int).toNat = at_ by omega, dA]
  replace hR := hR.drewN n2
  replace hB := pw_below_drewN hB n2
  generalize w1.drewN n2 = w1 at hR hB
  have H34 : ¬ (q.toNat : Int) = 34 := hq34'
  obtain rfl : b34 = false := by rw [hq34, decide_eq_false hq34']
  have dB' := dB rfl
  clear dB dA hq34
  go_wp2_with fail
  refine (rbegins ⟨#[39]⟩ hR (by omega) (by omega)).mono ?_
  rintro e w2 ⟨rfl, n2, rfl⟩
  rw [show (at_ : Int).toNat = at_ by omega, dB']
  replace hR := hR.drewN n2
  replace hB := pw_below_drewN hB n2
  generalize w1.drewN n2 = w1 at hR hB
  clear dB'
  subst hLN
  have hsl : ∀ W : World, (Instr.slice 9 (.string text) (some (.int .i64 (at_ : Int))) (some (.int .i64 ((at_ : Int) + 1))) none).run Tryd.prog W = .ok (.string (one q)) W := by
    intro W
    have := run_slice_string (P := Tryd.prog) W 9 text .i64 .i64 (at_ : Int) ((at_ : Int) + 1) Tryd.underlying9 (by omega) (by omega) (by omega)
    rw [this, ← hquote]
    rfl
  go_wp2_with fail
  refine (repeat3 q _).mono ?_
  rintro e w2 ⟨rfl, hb2⟩
  replace hR := hR.below hb2
  have hlw := hB.size
  replace hB := hB.trans (hb2.mono hlw)
  clear hb2 hlw hsl hquote
  generalize w2 = w1 at hR hB
  go_wp2_with fail
  refine (rbegins ⟨#[q, q, q]⟩ hR (by omega) (by omega)).mono ?_
  rintro e w2 ⟨rfl, n2, rfl⟩
  rw [show (at_ : Int).toNat = at_ by omega, d3]
  replace hR := hR.drewN n2
  replace hB := pw_below_drewN hB n2
  generalize w1.drewN n2 = w1 at hR hB
  have HRES0 := HRES.out
  clear HRES
  rw [if_pos trivial] at HRES0
  have hl4 := hl3 trivial
  obtain ⟨F, hF⟩ : ∃ F, F = tbody (bytesOf text) (q.toNat : Int) true := ⟨_, rfl⟩
  rw [← hF] at HRES0
  have HRES := Lib.hid HRES0
  clear HRES0
  obtain ⟨A, c, c0, c1, c2, f1, f2, hlt2, hc, hC⟩ := hR.open_
  have hlow := hR.low
  have hM := hR.moved ((at_ : Int) + 1)
  go_wp2_with fail
  generalize w1.setCell ⟨g, 1, none⟩ (.int .i64 ((at_ : Int) + 1)) = w4 at hM
  clear c0 c1 c2 f1 f2 hC hR
  obtain ⟨hR, hB4⟩ := hM
  replace hB := hB.trans hB4
  clear hB4
  generalize w4 = w1 at hR hB
  obtain ⟨A, c, c0, c1, c2, f1, f2, hlt2, hc, hC⟩ := hR.open_
  have hlow := hR.low
  have hM := hR.moved ((at_ : Int) + 1 + 2)
  go_wp2_with fail
  generalize w1.setCell ⟨g, 1, none⟩ (.int .i64 ((at_ : Int) + 1 + 2)) = w4 at hM
  clear c0 c1 c2 f1 f2 hC hR
  obtain ⟨hR, hB4⟩ := hM
  replace hB := hB.trans hB4
  clear hB4
  generalize w4 = w1 at hR hB
  rw [show (at_ : Int) + 1 + 2 = ((at_ + 3 : Nat) : Int) by omega] at hR
  unfold tskip at HRES
  have dc : decide (((bytesOf text).drop (at_ + 3)).take (⟨#[13, 10]⟩ : ByteArray).size = bytesOf ⟨#[13, 10]⟩) = false := decide_eq_false hcr
  rw [if_neg hcr] at HRES
  go_wp2_with fail
  refine (rbegins ⟨#[13, 10]⟩ hR (by omega) (by omega)).mono ?_
  rintro e w2 ⟨rfl, n2, rfl⟩
  rw [show (((at_ + 3 : Nat) : Int)).toNat = at_ + 3 by omega, dc]
  replace hR := hR.drewN n2
  replace hB := pw_below_drewN hB n2
  generalize w1.drewN n2 = w1 at hR hB
  have dn : decide (((bytesOf text).drop (at_ + 3)).take (⟨#[10]⟩ : ByteArray).size = bytesOf ⟨#[10]⟩) = true := decide_eq_true hcn
  have hlen2 : at_ + 4 ≤ text.size := by
    have := congrArg List.length hcn
    rw [List.length_take, List.length_drop, size_of] at this
    simp at this
    omega
  rw [if_pos hcn] at HRES
  go_wp2_with fail
  refine (rbegins ⟨#[10]⟩ hR (by omega) (by omega)).mono ?_
  rintro e w2 ⟨rfl, n2, rfl⟩
  rw [show (((at_ + 3 : Nat) : Int)).toNat = at_ + 3 by omega, dn]
  replace hR := hR.drewN n2
  replace hB := pw_below_drewN hB n2
  generalize w1.drewN n2 = w1 at hR hB
  obtain ⟨A, c, c0, c1, c2, f1, f2, hlt2, hc, hC⟩ := hR.open_
  have hlow := hR.low
  have hM := hR.moved ((at_ : Int) + 3 + 1)
  go_wp2_with fail
  generalize w1.setCell ⟨g, 1, none⟩ (.int .i64 ((at_ : Int) + 3 + 1)) = w4 at hM
  clear c0 c1 c2 f1 f2 hC hR
  obtain ⟨hR, hB4⟩ := hM
  replace hB := hB.trans hB4
  clear hB4
  generalize w4 = w1 at hR hB
  rw [show (at_ : Int) + 3 + 1 = ((at_ + 3 + 1 : Nat) : Int) by omega] at hR
  go_loopg [] (text.size + 1) (fun k wr => TInv w text g F res k wr)
  case atStart => exact ⟨_, [], hR, hB, HRES.out, by omega, by omega, by simp⟩
  case round =>
    clear hR hB HRES hl3 d3
    obtain ⟨i, bs, hR, hB, hj, hi, hk, hl⟩ := hrel
    cases gk with
    | zero => omega
    | succ k =>
      have hlow := hR.low
      obtain ⟨A, c, c0, c1, c2, f1, f2, hlt2, hc, hC⟩ := hR.open_
      rw [hF, tbody, ← hF] at hj
      by_cases hlt : i < text.size
      · rw [if_neg (by rw [size_of]; omega)] at hj
        have hdl : ((bytesOf text).drop i).length = text.size - i := by rw [List.length_drop, size_of]
        have e1 : decide ((i : Int) < (text.size : Int)) = true := decide_eq_true (by omega)
        go_wp2_with fail
        refine (rended _ q hR (by omega) hlt (by omega)).mono ?_
        rintro e w5 ⟨rfl, hR5, hB5⟩
        have hB6 := hB.trans hB5
        clear c0 c1 c2 f1 f2 hC hB hB5
        cases htend : tend true (q.toNat : Int) ((bytesOf text).drop i) with
        | some p =>
          rw [htend] at hj hR5
          have hr := Lib.hid hj
          clear hj
          replace hR5 : Rdr w.heap.size w5 g text ((i : Int) + p.2) (bs ++ p.1) := hR5
          obtain ⟨A5, c5, d0, d1, d2, e1', e2, _, _, hC5⟩ := hR5.open_
          have kc := fun n => Kd.C_string (P := Tryd.prog) (w := w5.drewN n) (c := c5) Tryd.underlying46 Tryd.underlying5 Tryd.underlying9 hC5
          have kc0 := Kd.C_string (P := Tryd.prog) (w := w5) (c := c5) Tryd.underlying46 Tryd.underlying5 Tryd.underlying9 hC5
          rw [List.length_append] at kc0 d2
          simp only [List.length_append] at kc
          go_wp2
          repeat (go_quiet (fail); try go_wp2)
          go_ret3
          exact ⟨by rw [← hr.out]; first | rfl | (unfold unqRes; simp), by first | exact hB6 | exact pw_below_drewN hB6 _⟩
        | none =>
          rw [htend] at hj hR5
          replace hR5 : Rdr w.heap.size w5 g text (i : Int) bs := hR5
          have hlow5 := hR5.low
          obtain ⟨A5, c5, d0, d1, d2, e1', e2, hlt5, _, hC5⟩ := hR5.open_
          have p1 := eq_true (show (0 : Int) ≤ (i : Int) by omega)
          have q1 := eq_true (show (i : Int) < (text.size : Int) by omega)
          have q2 := eq_true (show (i : Int).toNat < text.size by omega)
          have q3 := eq_true hlt
          have hx1 : ∀ h : i < text.size, ((text[i]'h).toNat : Int) = bt text (i : Int) := fun h => bt_at text (i : Int) (by omega)
          have hbt : ((bytesOf text).drop i).getD 0 0 = bt text (i : Int) := by
            rw [bt_get]
            simp [List.getD_eq_getElem?_getD, List.getElem?_drop]
          unfold titem at hj
          rw [hbt] at hj
          have hpl := fun p h => tplain_len (lines := true) (p := p) ((bytes_of text).drop i) (by omega) h
          have htl := fun p h => tesc_len (lines := true) (l := (bytesOf text).drop i) (p := p) (by omega) h
          rw [hdl] at hpl htl
          clear hbt hdl htend
          generalize bt text (i : Int) = b at hj hx1
          have HJ := Lib.hid hj
          clear hj
          have HPL := Lib.hid hpl
          have HTL := Lib.hid htl
          clear hpl htl
          by_cases h92 : b = 92
          · have t92 : (b == 92) = true := beq_iff_eq.2 h92
            clear h92
            have HJ := Lib.hid (show _ from (by have h := HJ.out; rw [if_neg (show ¬ (b = 92 ∧ (q.toNat : Int) = 34) from fun h => H34 h.2)] at h; exact h))
            go_wp2_with fail
            refine (rplain true hR5 (by omega) hlt (by omega)).mono ?_
            rintro e w7 ⟨rfl, hR7, hB7⟩
            have hB8 := hB6.trans hB7
            clear d0 d1 d2 e1' e2 hC5 hR5 hB6 hB7
            cases hp : tplain true ((bytesOf text).drop i) with
            | none =>
              rw [hp] at hR7 HJ
              have hr := Lib.hid HJ.out
              clear HJ
              obtain ⟨bs7, hR7⟩ := hR7
              obtain ⟨A7, c7, m0, m1, m2, m3, m4, _, _, _⟩ := hR7.open_
              go_wp2
              repeat (go_quiet (fail); try go_wp2)
              go_ret3
              exact ⟨by rw [← hr.out]; rfl, by first | exact hB8 | exact pw_below_drewN hB8 _⟩
            | some pp =>
              rw [hp] at hR7 HJ
              have hr := Lib.hid HJ.out
              clear HJ
              have hR8 : Rdr w.heap.size w7 g text ((i : Int) + pp.2) (bs ++ pp.1) := hR7
              have hpp := HPL.out pp hp
              clear HPL HTL hp hR7
              go_wp2
              go_roundg k
              case rel => exact ⟨i + pp.2, bs ++ pp.1, by rw [Int.natCast_add]; exact hR8, hB8, hr.out, by omega, by omega, by rw [List.length_append]; omega⟩
              case measure => omega
          · have t92 : (b == 92) = false := beq_eq_false_iff_ne.2 h92
            clear h92
            have HJ := Lib.hid (show _ from (by have h := HJ.out; rw [if_neg (show ¬ (b = 92 ∧ (q.toNat : Int) = 34) from fun h => H34 h.2)] at h; exact h))
            go_wp2_with fail
            refine (rplain true hR5 (by omega) hlt (by omega)).mono ?_
            rintro e w7 ⟨rfl, hR7, hB7⟩
            have hB8 := hB6.trans hB7
            clear d0 d1 d2 e1' e2 hC5 hR5 hB6 hB7
            cases hp : tplain true ((bytesOf text).drop i) with
            | none =>
              rw [hp] at hR7 HJ
              have hr := Lib.hid HJ.out
              clear HJ
              obtain ⟨bs7, hR7⟩ := hR7
              obtain ⟨A7, c7, m0, m1, m2, m3, m4, _, _, _⟩ := hR7.open_
              go_wp2
              repeat (go_quiet (fail); try go_wp2)
              go_ret3
              exact ⟨by rw [← hr.out]; rfl, by first | exact hB8 | exact pw_below_drewN hB8 _⟩
            | some pp =>
              rw [hp] at hR7 HJ
              have hr := Lib.hid HJ.out
              clear HJ
              have hR8 : Rdr w.heap.size w7 g text ((i : Int) + pp.2) (bs ++ pp.1) := hR7
              have hpp := HPL.out pp hp
              clear HPL HTL hp hR7
              go_wp2
              go_roundg k
              case rel => exact ⟨i + pp.2, bs ++ pp.1, by rw [Int.natCast_add]; exact hR8, hB8, hr.out, by omega, by omega, by rw [List.length_append]; omega⟩
              case measure => omega
      · obtain rfl : i = text.size := by omega
        rw [if_pos (by rw [size_of]; omega), size_of] at hj
        obtain rfl := hj
        have e1 : decide ((text.size : Int) < (text.size : Int)) = false := decide_eq_false (by omega)
        go_wp2
        repeat (go_quiet (fail); try go_wp2)
        go_ret3
        exact ⟨rfl, hB⟩
set_option maxRecDepth 100000 in
set_option maxHeartbeats 8000000 in
/-- It is no string at all. -/
theorem tunq_not (text : ByteArray) (at_ : Nat) (hq : text.size ≤ at_ ∨ ((bytesOf text).getD at_ 0 ≠ 34 ∧ (bytesOf text).getD at_ 0 ≠ 39)) (w : World) :
    Calls Tryd.prog 17 #[.string text, .int .i64 at_] w fun e w' => e = .returned (.tuple #[.string ⟨#[]⟩, .int .i64 0, .int .i64 ((min at_ text.size : Nat) : Int)]) ∧ Below w.heap.size w w' := by
  have g1 : decide ((at_ : Int) < 0) = false := decide_eq_false (by omega)
  have hm : mn (mx (at_ : Int) 0) (text.size : Int) = ((min at_ text.size : Nat) : Int) := by unfold mn mx; (repeat' split) <;> omega
  have hne : ∀ c : Int, (c = 34 ∨ c = 39) → ((bytesOf text).drop (min at_ text.size)).take 1 ≠ [c] := by
    intro c hc h
    by_cases hlt : at_ < text.size
    · rw [show min at_ text.size = at_ by omega, take_one_drop (by rw [size_of]; exact hlt)] at h
      have h' := (List.cons.inj h).1
      rcases hq with hq | ⟨q1, q2⟩
      · omega
      · rcases hc with rfl | rfl
        · exact q1 h'
        · exact q2 h'
    · rw [show min at_ text.size = text.size by omega, List.drop_eq_nil_of_le (by rw [size_of]; omega)] at h
      cases h
  have dA : decide (((bytesOf text).drop (min at_ text.size)).take (⟨#[34]⟩ : ByteArray).size = bytesOf ⟨#[34]⟩) = false := decide_eq_false (hne 34 (.inl rfl))
  have dB : decide (((bytesOf text).drop (min at_ text.size)).take (⟨#[39]⟩ : ByteArray).size = bytesOf ⟨#[39]⟩) = false := decide_eq_false (hne 39 (.inr rfl))
  have hml : min at_ text.size ≤ text.size := by omega
  clear hne hq
  generalize min at_ text.size = m at hm dA dB hml
  go_enter Tryd.func17, Tryd.ntmps17
  go_wp2_with fail
  refine (rstart text at_ w).mono ?_
  rintro e w1 ⟨g, rfl, hR, hB⟩
  rw [hm] at hR
  go_wp2_with fail
  refine (rbegins ⟨#[34]⟩ hR (by omega) (by omega)).mono ?_
  rintro e w2 ⟨rfl, n2, rfl⟩
  rw [show (m : Int).toNat = m by omega, dA]
  replace hR := hR.drewN n2
  replace hB := pw_below_drewN hB n2
  generalize w1.drewN n2 = w1 at hR hB
  go_wp2_with fail
  refine (rbegins ⟨#[39]⟩ hR (by omega) (by omega)).mono ?_
  rintro e w2 ⟨rfl, n3, rfl⟩
  rw [show (m : Int).toNat = m by omega, dB]
  replace hR := hR.drewN n3
  replace hB := pw_below_drewN hB n3
  generalize w1.drewN n3 = w1 at hR hB
  obtain ⟨A, c, c0, c1, c2, f1, f2, hlt2, hc, hC⟩ := hR.open_
  go_wp2
  repeat (go_quiet (fail); try go_wp2)
  go_ret3
  exact ⟨rfl, by first | exact hB | exact pw_below_drewN hB _⟩
/-- The strings that this claim's proof speaks of. -/
def tdom (L : List Int) (i : Nat) : Prop := L.length ≤ i ∨ (L.getD i 0 ≠ 34 ∧ L.getD i 0 ≠ 39) ∨ (L.getD i 0 = 34 ∧ ¬ 3 ≤ lead 34 (L.drop i)) ∨
  (L.getD i 0 = 34 ∧ 3 ≤ lead 34 (L.drop i) ∧ ¬ (L.drop (i + 3)).take 2 = [13, 10] ∧ ¬ (L.drop (i + 3)).take 1 = [10]) ∨
  (L.getD i 0 = 39 ∧ 3 ≤ lead 39 (L.drop i) ∧ ¬ (L.drop (i + 3)).take 2 = [13, 10] ∧ (L.drop (i + 3)).take 1 = [10])
instance (L : List Int) (i : Nat) : Decidable (tdom L i) := by unfold tdom; infer_instance
/-- What TUnquote answers. -/
def tunqT (L : List Int) (i : Nat) : ByteArray × Int × Int :=
  if L.length ≤ i ∨ (L.getD i 0 ≠ 34 ∧ L.getD i 0 ≠ 39) then (⟨#[]⟩, 0, ((min i L.length : Nat) : Int))
  else (if (tstr L i).1 then strOfNums (tstr L i).2.1 else ⟨#[]⟩, (if (tstr L i).1 then ((tstr L i).2.2 : Int) else 0), (if (tstr L i).1 then -1 else ((tstr L i).2.2 : Int)))
def esc_TUnquote.f (a0 : ByteArray) (a1 : Int) : Option (ByteArray × Int × Int) := if 0 ≤ a1 ∧ a0.size ≤ 17592186044416 ∧ tdom (bytesOf a0) a1.toNat then some (tunqT (bytesOf a0) a1.toNat) else none
theorem esc_TUnquote.calls (a0 : ByteArray) (a1 : Int) (r1 : ByteArray) (r2 : Int) (r3 : Int) (w : World) (h : esc_TUnquote.f a0 a1 = some (r1, r2, r3)) :
    Calls Tryd.prog 17 #[.string a0, .int .i64 a1] w fun e w' => e = .returned (.tuple #[.string r1, .int .i64 r2, .int .i64 r3]) ∧ Below w.heap.size w w' := by
  unfold esc_TUnquote.f at h
  split at h
  · rename_i hc
    obtain ⟨h0, hs, hd⟩ := hc
    obtain ⟨i, rfl⟩ := Int.eq_ofNat_of_zero_le h0
    rw [Int.toNat_natCast] at hd h
    have h := Option.some.inj h
    unfold tunqT at h
    split at h
    · rename_i hq
      obtain ⟨e1, h⟩ := Prod.mk.inj h
      obtain ⟨e2, e3⟩ := Prod.mk.inj h
      subst e1
      subst e2
      subst e3
      rw [size_of] at hq ⊢
      exact tunq_not a0 i hq w
    · rename_i hq
      obtain ⟨e1, h⟩ := Prod.mk.inj h
      obtain ⟨e2, e3⟩ := Prod.mk.inj h
      subst e1
      subst e2
      subst e3
      have hlt : i < a0.size := by
        rcases Nat.lt_or_ge i a0.size with h | h
        · exact h
        · exact absurd (.inl (by rw [size_of]; exact h)) hq
      have hq2 : (bytesOf a0).getD i 0 = 34 ∨ (bytesOf a0).getD i 0 = 39 := by
        rcases Classical.em ((bytesOf a0).getD i 0 = 34) with h | h
        · exact .inl h
        · rcases Classical.em ((bytesOf a0).getD i 0 = 39) with h' | h'
          · exact .inr h'
          · exact absurd (.inr ⟨h, h'⟩) hq
      rcases hd with hd | hd | ⟨d1, d2⟩ | ⟨d1, d2, d3, d4⟩ | ⟨d1, d2, d3, d4⟩
      · exact absurd (.inl hd) hq
      · exact absurd (.inr hd) hq
      · exact tunq_A a0 i 34 true (by decide) hs d1 (.inl rfl) hlt rfl d2 w
      · exact tunq_B a0 i 34 true (by decide) hs d1 (.inl rfl) hlt rfl d2 d3 d4 w
      · exact tunq_C a0 i 39 false (by decide) hs d1 (.inr rfl) hlt (by decide) d2 d3 d4 w
  · cases h
end Go.Proofs.YtoanbmggffkmgaaDoor.P
end
section
namespace Go.Proofs.YtoanbmggffkmgaaDoor.P
open Go.RowKit Go.Proofs.YtoanbmggffkmgaaDoorW.PrintWords Go.Proofs.YtoanbmggffkmgaaDoorW.PrintLast Go.Proofs.YtoanbmggffkmgaaDoorW.PrintMore
attribute [local go_sem] max2_int min2_int max_two min_two max_three min_three max_four min_four   -- for this text's walks alone
set_option linter.unusedVariables false
set_option linter.unusedSimpArgs false
/-! ### esc_quote: function 45 -/
mutual
def esc_quote.l0 : Nat → ByteArray → Bool → List Int → Option (ByteArray)
  | 0, _, _, _ => none
  | k + 1, x0, x1, x5 => if x0.toList = ([] : List UInt8) then (if x5.length < 140737488355328 then (some (strOfNums (x5 ++ [34]))) else (none)) else ((utf_Take.f k x0).bind fun bt478 => (if bt478.2 = 0 then (esc_quote.j1 k x0 x1 x5 65533 1) else (esc_quote.j1 k x0 x1 x5 bt478.1 bt478.2)))
def esc_quote.j1 : Nat → ByteArray → Bool → List Int → Int → Int → Option (ByteArray)
  | 0, _, _, _, _, _ => none
  | k + 1, x0, x1, x5, x6, x7 => if 0 ≤ x7 then (if x7 ≤ (x0.size : Int) then ((strings_IndexByte.f (⟨#[34, 92, 8, 12, 10, 13, 9]⟩ : ByteArray) ((mn x6 255) % 256)).bind fun t480 => (if x6 < 256 then (esc_quote.j2 k (x0.extract (x7 : Int).toNat x0.size) x1 x5 x6 t480 (decide (t480 ≥ 0))) else (esc_quote.j2 k (x0.extract (x7 : Int).toNat x0.size) x1 x5 x6 t480 false))) else (none)) else (none)
def esc_quote.j2 : Nat → ByteArray → Bool → List Int → Int → Int → Bool → Option (ByteArray)
  | 0, _, _, _, _, _, _ => none
  | k + 1, x0, x1, x5, x6, x8, x29 => if x29 = true then (if 0 ≤ x8 then (if x8 < 7 then ((some (([92, bt (⟨#[34, 92, 98, 102, 110, 114, 116]⟩ : ByteArray) x8] : List Int) : List Int)).bind fun y481 => (if x5.length + y481.length < 140737488355328 then (esc_quote.l0 k x0 x1 (x5 ++ y481)) else (none))) else (none)) else (none)) else (if x6 < 32 then (if 0 ≤ (x6 / 16) then (if (x6 / 16) < 16 then (if 0 ≤ (Go.bits .and .i64 x6 15) then (if (Go.bits .and .i64 x6 15) < 16 then ((some (([92, 117, 48, 48, bt (⟨#[48, 49, 50, 51, 52, 53, 54, 55, 56, 57, 97, 98, 99, 100, 101, 102]⟩ : ByteArray) (x6 / 16), bt (⟨#[48, 49, 50, 51, 52, 53, 54, 55, 56, 57, 97, 98, 99, 100, 101, 102]⟩ : ByteArray) (Go.bits .and .i64 x6 15)] : List Int) : List Int)).bind fun y487 => (if x5.length + y487.length < 140737488355328 then (esc_quote.l0 k x0 x1 (x5 ++ y487)) else (none))) else (none)) else (none)) else (none)) else (none)) else (if x6 = 127 then (if x1 = true then (if 0 ≤ (x6 / 16) then (if (x6 / 16) < 16 then (if 0 ≤ (Go.bits .and .i64 x6 15) then (if (Go.bits .and .i64 x6 15) < 16 then ((some (([92, 117, 48, 48, bt (⟨#[48, 49, 50, 51, 52, 53, 54, 55, 56, 57, 97, 98, 99, 100, 101, 102]⟩ : ByteArray) (x6 / 16), bt (⟨#[48, 49, 50, 51, 52, 53, 54, 55, 56, 57, 97, 98, 99, 100, 101, 102]⟩ : ByteArray) (Go.bits .and .i64 x6 15)] : List Int) : List Int)).bind fun y493 => (if x5.length + y493.length < 140737488355328 then (esc_quote.l0 k x0 x1 (x5 ++ y493)) else (none))) else (none)) else (none)) else (none)) else (none)) else ((utf_Put.f x5 x6).bind fun t499 => (esc_quote.l0 k x0 x1 t499))) else ((utf_Put.f x5 x6).bind fun t502 => (esc_quote.l0 k x0 x1 t502))))
end
def esc_quote.f (k : Nat) (a0 : ByteArray) (a1 : Bool) : Option (ByteArray) := esc_quote.l0 k a0 a1 (([34] : List Int))
def esc_quote.T12 : Bool × List (List Nat × List Nat) := (true, [([], []), ([], []), ([1], [1]), ([2], [2]), ([], []), ([4], [4]), ([5], [5]), ([3, 6], [3, 6]), ([0, 7], [0, 7]), ([8, 8, 0, 1, 2, 3, 4, 5, 6, 7, 8], [0, 8])])
def esc_quote.B12 : List Nat := [0, 0, 2, 6, 0, 16, 48, 126, 255, 511]
theorem esc_quote.tab12 : rtab .any (opsOf Tryd.f45 12) = esc_quote.T12 := by kernel_rfl
theorem esc_quote.bits12 : waitsOk esc_quote.T12.2 esc_quote.B12 = true := by kernel_rfl
set_option maxHeartbeats 8000000 in
set_option maxRecDepth 100000 in
theorem esc_quote.calls (k : Nat) (a0 : ByteArray) (a1 : Bool) (r : ByteArray) (w : World) (h : esc_quote.f k a0 a1 = some r) :
    Calls Tryd.prog 45 #[.string a0, .bool a1] w fun e w' => e = .returned (.string r) ∧ Below w.heap.size w w' := by
  have HB := Aside0.mk (Below.refl w.heap.size w)
  have H : (esc_quote.l0 k a0 a1 (([34] : List Int))) = some r := h
  clear h
  obtain ⟨y472, hy472⟩ : ∃ y_ : List Int, y_ = (([34] : List Int)) := ⟨_, rfl⟩
  replace H : (esc_quote.l0 k a0 a1 y472) = some r := by first | (rw [hy472]; with_reducible exact H) | (have H2_ := (Option.bind_some _ _).symm.trans H; rw [hy472]; with_reducible exact H2_) | (have H2_ := (Option.bind_some _ _).symm.trans H; with_reducible exact H2_) | with_reducible exact H | (rw [hy472]; exact H) | exact H
  have Ny472 := Aside0.mk hy472
  clear hy472
  have H' := Aside0.mk H
  clear H
  go_enter Tryd.func45, Tryd.ntmps45
  go_wp2_with (first | ((with_reducible refine gate_dst (N := 9) rfl ?_); refine Kd.R_lit (Kd.int .u8) _ 5 ?hg (N := 9) ?hd (xs := ([34] : List Int)) (inner := [.int .u8 34]) (ok := fun _ => True) (okp := fun _ => True) ?hr ?hp (fun _ hk => hk) trivial (Below.refl _ _) (Nat.le_refl _) (by simp) ?_; (case hd => rfl); (case hg => rfl); (case hr => first | (go_simp; done) | (go_simp; rfl)); (case hp => exact (Reps.one (show Kd.M (Kd.int .u8) _ _ _ 34 [.int .u8 34] from rfl) (Reps.none _ _))); intro v473 w3 ho4 hb hg_ hnew_; clear hg_ hnew_; (first | rw [← Ny472.out] at ho4 | (simp only [Int.reduceToNat] at ho4; rw [← Ny472.out] at ho4)); have n0_ := Aside0.mk (Kd.R_lower ho4 (below_size (by repeat (first | (with_reducible first | exact HB.out | apply below_alloc | apply pw_below_drewN | apply below_drew1) | exact HB.out)))); have n1_ := Aside0.mk (below_step (by repeat (first | (with_reducible first | exact HB.out | apply below_alloc | apply pw_below_drewN | apply below_drew1) | exact HB.out)) hb); clear HB; have HO474 := n0_; have HB := n1_; clear n0_ n1_; clear hb ho4))
  go_loopg [0, 5] k (fun kq v0 v5 w' => ∃ (x0_1 : ByteArray) (x5_1 : List Int), v0 = .string x0_1 ∧ Aside0 (esc_quote.l0 kq x0_1 a1 x5_1 = some r) ∧ Aside0 (kq ≤ k) ∧ Aside0 (Kd.R (Kd.int .u8) 5 w' w.heap.size (fun _ => True) v5 x5_1) ∧ Aside0 (Below w.heap.size w w'))
  case atStart => exact ⟨(a0), (y472), (by first | rfl | (simp; done) | (simp [*]; done)), H', ⟨Nat.le_refl _⟩, ⟨by (with_reducible repeat (first | apply Kd.R_alloc | apply Kd.R_drewN | apply Kd.R_drew)); exact HO474.out⟩, ⟨by repeat (first | (with_reducible first | exact HB.out | apply below_alloc | apply pw_below_drewN | apply below_drew1) | exact HB.out)⟩⟩
  case round =>
    clear H'
    try clear p2
    try clear c4
    obtain ⟨x0_1, x5_1, rfl, HA, HK1, HO_5, HB⟩ := hrel
    cases gk with
    | zero => exact absurd HA.out (by simp [esc_quote.l0])
    | succ k1 =>
      have H := HA.out
      clear HA
      simp only [esc_quote.l0] at H
      by_cases c5 : x0_1.toList = ([] : List UInt8)
      · rw [if_pos c5] at H
        have c5b0 : (x0_1.toList == ([] : List UInt8)) = true := beq_iff_eq.mpr c5
        have c5b1 : (x0_1.toList != ([] : List UInt8)) = false := bne_eq_false_iff_eq.mpr c5
        have c5b2 : x0_1.toList.isEmpty = true := List.isEmpty_iff.mpr c5
        (try simp only [c5b2, Bool.not_true, Bool.not_false])
        clear c5
        by_cases c6 : x5_1.length < 140737488355328
        · rw [if_pos c6] at H
          have LMc6 := Aside0.mk c6
          clear c6
          obtain ⟨y475, hy475⟩ : ∃ y_ : List Int, y_ = (x5_1 ++ [34]) := ⟨_, rfl⟩
          replace H : (some (strOfNums y475)) = some r := by first | (rw [hy475]; with_reducible exact H) | (have H2_ := (Option.bind_some _ _).symm.trans H; rw [hy475]; with_reducible exact H2_) | (have H2_ := (Option.bind_some _ _).symm.trans H; with_reducible exact H2_) | with_reducible exact H | (rw [hy475]; exact H) | exact H
          have Ny475 := Aside0.mk hy475
          clear hy475
          obtain rfl := Option.some.inj H
          go_wp2_with (first | ((with_reducible refine gate_builtin (b := .append) (xs := #[.tmp 60, .tmp 61]) rfl ?_); at_builtin; refine Kd.R_append (Kd.int .u8) (w0 := w) w.heap.size rfl (.tmp 60) (.tmp 61) 46 5 (.int .u8 0) 1 rfl Tryd.underlying46 info5 rfl (by decide) (by omega) u5 x5_1 34 [.int .u8 34] (fun _ => True) (fun _ => False) rfl rfl ?aP (fun _ hk => hk.elim) ?aF ?aO ?aB ?aS ?aL ?_; (case aP => exact rfl); (case aB => exact (by repeat (first | (with_reducible first | exact HB.out | apply below_alloc | apply pw_below_drewN | apply below_drew1) | exact HB.out))); (case aF => exact (fun _ _ => trivial)); (case aO => exact (by (with_reducible repeat (first | apply Kd.R_alloc | apply Kd.R_drewN | apply Kd.R_drew)); exact HO_5.out)); (case aS => exact (below_size (by repeat (first | (with_reducible first | exact HB.out | apply below_alloc | apply pw_below_drewN | apply below_drew1) | exact HB.out)))); (case aL => have := LMc6.out; omega); intro v476 w7 ho hb hg hat; rw [← Ny475.out] at ho; have n0_ := Aside0.mk (hb); have n1_ := Aside0.mk (ho); clear HB; clear HO_5; have HB := n0_; have HO477 := n1_; clear n0_ n1_; clear ho hb hg hat; have hcv8 := own_string (P := Tryd.prog) Tryd.underlying46 Tryd.underlying5 Tryd.underlying9 (Kd.own_of_R HO477.out)))
          go_ret
          exact ⟨by first | rfl | (simp [errW_none, errW_some] <;> rfl) | (simp [*, errW_none, errW_some, bne]; done) | (simp [*, errW_none, errW_some] <;> rfl), by repeat (first | (with_reducible first | exact HB.out | apply below_alloc | apply pw_below_drewN | apply below_drew1) | exact HB.out)⟩
        · rw [if_neg c6] at H
          exact absurd H (by simp)
      · rw [if_neg c5] at H
        have c5b0 : (x0_1.toList == ([] : List UInt8)) = false := beq_eq_false_iff_ne.mpr c5
        have c5b1 : (x0_1.toList != ([] : List UInt8)) = true := bne_iff_ne.mpr c5
        have c5b2 : x0_1.toList.isEmpty = false := List.isEmpty_eq_false_iff.mpr c5
        (try simp only [c5b2, Bool.not_true, Bool.not_false])
        replace H := Option.bind_eq_some_iff.mp H
        obtain ⟨⟨t478, t479⟩, A90, H⟩ := H
        replace H : (if t479 = 0 then (esc_quote.j1 k1 x0_1 a1 x5_1 65533 1) else (esc_quote.j1 k1 x0_1 a1 x5_1 t478 t479)) = some r := H
        have A9 := Aside0.mk A90
        clear A90
        have HC10 := Aside0.mk H
        clear H
        go_upto_if 18 with (first | ((with_reducible refine gate_callee (f := 66) rfl ?_); refine goesL_ (some 14) rfl rfl Tryd.func66 (by kernel_rfl) rfl #[.string x0_1] rfl (by (try simp only [List.map_toArray, List.map_cons, List.map_nil]); first | done | rfl | (simp only [List.length_drop, List.length_take]; rfl)) ?_; (with_reducible refine (utf_Take.calls k1 x0_1 t478 t479 _ A9.out).mono ?_); rintro e w' ⟨rfl, ⟨nd, rfl⟩⟩; refine ⟨_, rfl, ?_⟩))
        (try simp only [Act.put, List.setIfInBounds_toArray, List.set_cons_zero, List.set_cons_succ])
        go_cut [6, 7] (fun v6 v7 wc => ∃ (kq : Nat) (x6_9 : Int) (x7_9 : Int), v6 = .int .i64 x6_9 ∧ v7 = .int .i64 x7_9 ∧ Aside0 (esc_quote.j1 kq x0_1 a1 x5_1 x6_9 x7_9 = some r) ∧ Aside0 (kq ≤ k1) ∧ Aside0 (Kd.R (Kd.int .u8) 5 wc w.heap.size (fun _ => True) u5 x5_1) ∧ Aside0 (Below w.heap.size w wc))
        case first =>
          have H := HC10.out
          clear HC10
          by_cases c11 : t479 = 0
          · rw [if_pos c11] at H
            have c11b0 : (t479 == 0) = true := beq_iff_eq.mpr c11
            have c11b1 : (t479 != 0) = false := bne_eq_false_iff_eq.mpr c11
            clear c11
            (first | rw [c11b0] | (simp only [i64_w, i32_w]; rw [c11b0]) | skip)
            have H' := Aside0.mk H
            clear H
            go_wp2
            go_meet
            case rel => exact ⟨_, (65533), (1), (by first | rfl | (simp; done) | (simp [*]; done)), (by first | rfl | (simp; done) | (simp [*]; done)), H', ⟨by have := HK1.out; first | omega | exact Nat.le_refl _⟩, ⟨by (with_reducible repeat (first | apply Kd.R_alloc | apply Kd.R_drewN | apply Kd.R_drew)); exact HO_5.out⟩, ⟨by repeat (first | (with_reducible first | exact HB.out | apply below_alloc | apply pw_below_drewN | apply below_drew1) | exact HB.out)⟩⟩
          · rw [if_neg c11] at H
            have c11b0 : (t479 == 0) = false := beq_eq_false_iff_ne.mpr c11
            have c11b1 : (t479 != 0) = true := bne_iff_ne.mpr c11
            (first | rw [c11b0] | (simp only [i64_w, i32_w]; rw [c11b0]) | skip)
            have H' := Aside0.mk H
            clear H
            go_wp2
            go_meet
            case rel => exact ⟨_, (t478), (t479), (by first | rfl | (simp; done) | (simp [*]; done)), (by first | rfl | (simp; done) | (simp [*]; done)), H', ⟨by have := HK1.out; first | omega | exact Nat.le_refl _⟩, ⟨by (with_reducible repeat (first | apply Kd.R_alloc | apply Kd.R_drewN | apply Kd.R_drew)); exact HO_5.out⟩, ⟨by repeat (first | (with_reducible first | exact HB.out | apply below_alloc | apply pw_below_drewN | apply below_drew1) | exact HB.out)⟩⟩
        case rest =>
          clear HC10
          try clear c1
          try clear p2
          try clear c4
          try clear c5
          try clear c5b0
          try clear c5b1
          try clear c6
          try clear hcv8
          try clear c11
          try clear c11b0
          try clear c11b1
          try clear p2
          obtain ⟨kq, x6_9, x7_9, rfl, rfl, HA, HJ9, HO_5, HB⟩ := hcut
          cases kq with
          | zero => exact absurd HA.out (by simp [esc_quote.j1])
          | succ kj9 =>
            have H := HA.out
            clear HA
            simp only [esc_quote.j1] at H
            by_cases c12 : 0 ≤ x7_9
            · rw [if_pos c12] at H
              have c12b0 := eq_true c12
              have c12b1 : decide (0 ≤ x7_9) = true := decide_eq_true c12
              clear c12
              by_cases c13 : x7_9 ≤ (x0_1.size : Int)
              · rw [if_pos c13] at H
                have c13b0 := eq_true c13
                have c13b1 : decide (x7_9 ≤ (x0_1.size : Int)) = true := decide_eq_true c13
                clear c13
                obtain ⟨ji14, hji14⟩ : ∃ j_ : Int, (mn x6_9 255) = j_ := ⟨_, rfl⟩
                replace H : ((strings_IndexByte.f (⟨#[34, 92, 8, 12, 10, 13, 9]⟩ : ByteArray) ((ji14) % 256)).bind fun t480 => (if x6_9 < 256 then (esc_quote.j2 kj9 (x0_1.extract (x7_9 : Int).toNat x0_1.size) a1 x5_1 x6_9 t480 (decide (t480 ≥ 0))) else (esc_quote.j2 kj9 (x0_1.extract (x7_9 : Int).toNat x0_1.size) a1 x5_1 x6_9 t480 false))) = some r := by first | (rw [hji14] at H; exact H) | (simp only [hji14] at H ⊢; exact H)
                have hji14_ : (if 255 < x6_9 then 255 else x6_9) = ji14 := hji14
                replace H := Option.bind_eq_some_iff.mp H
                obtain ⟨t480, A150, H⟩ := H
                replace H : (if x6_9 < 256 then (esc_quote.j2 kj9 (x0_1.extract (x7_9 : Int).toNat x0_1.size) a1 x5_1 x6_9 t480 (decide (t480 ≥ 0))) else (esc_quote.j2 kj9 (x0_1.extract (x7_9 : Int).toNat x0_1.size) a1 x5_1 x6_9 t480 false)) = some r := H
                have A15 := Aside0.mk A150
                clear A150
                have HC16 := Aside0.mk H
                clear H
                go_upto_region 9 with (first | ((with_reducible refine gate_callee (f := 56) rfl ?_); refine goesL_ (some 25) rfl rfl Tryd.func56 (by kernel_rfl) rfl #[.string (⟨#[34, 92, 8, 12, 10, 13, 9]⟩ : ByteArray), .int .u8 ((ji14) % 256)] rfl (by (try simp only [List.map_toArray, List.map_cons, List.map_nil]); first | done | (simp only [hji14]; rfl) | rfl | (simp only [List.length_drop, List.length_take]; rfl)) ?_; (with_reducible refine (strings_IndexByte.calls (⟨#[34, 92, 8, 12, 10, 13, 9]⟩ : ByteArray) ((ji14) % 256) t480 _ A15.out).mono ?_); rintro e w' ⟨rfl, ⟨nd, rfl⟩⟩; refine ⟨_, rfl, ?_⟩))
                (try simp only [Act.put, List.setIfInBounds_toArray, List.set_cons_zero, List.set_cons_succ])
                go_cut [29] (fun v29 wc => ∃ (kq : Nat) (x29_15 : Bool), v29 = .bool x29_15 ∧ Aside0 (esc_quote.j2 kq (x0_1.extract (x7_9 : Int).toNat x0_1.size) a1 x5_1 x6_9 t480 x29_15 = some r) ∧ Aside0 (kq ≤ kj9) ∧ Aside0 (Kd.R (Kd.int .u8) 5 wc w.heap.size (fun _ => True) u5 x5_1) ∧ Aside0 (Below w.heap.size w wc))
                case first =>
                  have H := HC16.out
                  clear HC16
                  by_cases c17 : x6_9 < 256
                  · rw [if_pos c17] at H
                    have c17b0 : decide (x6_9 < 256) = true := decide_eq_true c17
                    clear c17
                    (first | rw [c17b0] | (simp only [i64_w, i32_w]; rw [c17b0]) | skip)
                    have H' := Aside0.mk H
                    clear H
                    go_wp2
                    go_meet
                    case rel => exact ⟨_, (decide (t480 ≥ 0)), (by first | rfl | (simp; done) | (simp [*]; done)), H', ⟨by have := HK1.out; have := HJ9.out; first | omega | exact Nat.le_refl _⟩, ⟨by (with_reducible repeat (first | apply Kd.R_alloc | apply Kd.R_drewN | apply Kd.R_drew)); exact HO_5.out⟩, ⟨by repeat (first | (with_reducible first | exact HB.out | apply below_alloc | apply pw_below_drewN | apply below_drew1) | exact HB.out)⟩⟩
                  · rw [if_neg c17] at H
                    have c17b0 : decide (x6_9 < 256) = false := decide_eq_false c17
                    clear c17
                    (first | rw [c17b0] | (simp only [i64_w, i32_w]; rw [c17b0]) | skip)
                    have H' := Aside0.mk H
                    clear H
                    go_wp2
                    go_meet
                    case rel => exact ⟨_, (false), (by first | rfl | (simp; done) | (simp [*]; done)), H', ⟨by have := HK1.out; have := HJ9.out; first | omega | exact Nat.le_refl _⟩, ⟨by (with_reducible repeat (first | apply Kd.R_alloc | apply Kd.R_drewN | apply Kd.R_drew)); exact HO_5.out⟩, ⟨by repeat (first | (with_reducible first | exact HB.out | apply below_alloc | apply pw_below_drewN | apply below_drew1) | exact HB.out)⟩⟩
                case rest =>
                  clear HC16
                  try clear c1
                  try clear p2
                  try clear c4
                  try clear c5
                  try clear c5b0
                  try clear c5b1
                  try clear c6
                  try clear hcv8
                  try clear c11
                  try clear c11b0
                  try clear c11b1
                  try clear c12
                  try clear c12b0
                  try clear c12b1
                  try clear c13
                  try clear c13b0
                  try clear c13b1
                  try clear c17
                  try clear c17b0
                  try clear p2
                  obtain ⟨kq, x29_15, rfl, HA, HJ15, HO_5, HB⟩ := hcut
                  cases kq with
                  | zero => exact absurd HA.out (by simp [esc_quote.j2])
                  | succ kj15 =>
                    have H := HA.out
                    clear HA
                    simp only [esc_quote.j2] at H
                    by_cases c18 : x29_15 = true
                    · subst c18
                      have H1 : (if 0 ≤ t480 then (if t480 < 7 then ((some (([92, bt (⟨#[34, 92, 98, 102, 110, 114, 116]⟩ : ByteArray) t480] : List Int) : List Int)).bind fun y481 => (if x5_1.length + y481.length < 140737488355328 then (esc_quote.l0 kj15 (x0_1.extract (x7_9 : Int).toNat x0_1.size) a1 (x5_1 ++ y481)) else (none))) else (none)) else (none)) = some r := by rw [if_pos rfl] at H; exact H
                      clear H
                      have H := H1
                      clear H1
                      by_cases c19 : 0 ≤ t480
                      · rw [if_pos c19] at H
                        have c19b0 : decide (0 ≤ t480) = true := decide_eq_true c19
                        clear c19
                        by_cases c20 : t480 < 7
                        · rw [if_pos c20] at H
                          have c20b0 : decide (t480 < 7) = true := decide_eq_true c20
                          clear c20
                          obtain ⟨y481, hy481⟩ : ∃ y_ : List Int, y_ = (([92, bt (⟨#[34, 92, 98, 102, 110, 114, 116]⟩ : ByteArray) t480] : List Int)) := ⟨_, rfl⟩
                          replace H : (if x5_1.length + y481.length < 140737488355328 then (esc_quote.l0 kj15 (x0_1.extract (x7_9 : Int).toNat x0_1.size) a1 (x5_1 ++ y481)) else (none)) = some r := by first | (rw [hy481]; with_reducible exact H) | (have H2_ := (Option.bind_some _ _).symm.trans H; rw [hy481]; with_reducible exact H2_) | (have H2_ := (Option.bind_some _ _).symm.trans H; with_reducible exact H2_) | with_reducible exact H | (rw [hy481]; exact H) | exact H
                          have Ny481 := Aside0.mk hy481
                          clear hy481
                          by_cases c22 : x5_1.length + y481.length < 140737488355328
                          · rw [if_pos c22] at H
                            have LMc22 := Aside0.mk c22
                            clear c22
                            obtain ⟨y484, hy484⟩ : ∃ y_ : List Int, y_ = (x5_1 ++ y481) := ⟨_, rfl⟩
                            replace H : (esc_quote.l0 kj15 (x0_1.extract (x7_9 : Int).toNat x0_1.size) a1 y484) = some r := by first | (rw [hy484]; with_reducible exact H) | (have H2_ := (Option.bind_some _ _).symm.trans H; rw [hy484]; with_reducible exact H2_) | (have H2_ := (Option.bind_some _ _).symm.trans H; with_reducible exact H2_) | with_reducible exact H | (rw [hy484]; exact H) | exact H
                            have Ny484 := Aside0.mk hy484
                            clear hy484
                            have H' := Aside0.mk H
                            clear H
                            have p21 : 0 ≤ (t480 : Int) := of_decide_eq_true (by first | (with_reducible assumption) | assumption)
                            have q21 : t480 < (7 : Int) := of_decide_eq_true (by first | (with_reducible assumption) | assumption)
                            have hx21 := bt_at (⟨#[34, 92, 98, 102, 110, 114, 116]⟩ : ByteArray) t480
                            replace p21 := eq_true p21
                            replace q21 := eq_true q21
                            go_wp2_with (first | ((with_reducible refine gate_dst (N := 39) rfl ?_); refine Kd.R_lit (Kd.int .u8) _ 5 ?hg (N := 39) ?hd (xs := ([92, bt (⟨#[34, 92, 98, 102, 110, 114, 116]⟩ : ByteArray) t480] : List Int)) (inner := [.int .u8 92, .int .u8 (bt (⟨#[34, 92, 98, 102, 110, 114, 116]⟩ : ByteArray) t480)]) (ok := fun _ => True) (okp := fun _ => True) ?hr ?hp (fun _ hk => hk) trivial (Below.refl _ _) (Nat.le_refl _) (by simp) ?_; (case hd => rfl); (case hg => rfl); (case hr => first | (go_simp; done) | (go_simp; rfl)); (case hp => exact (Reps.one (show Kd.M (Kd.int .u8) _ _ _ 92 [.int .u8 92] from rfl) (Reps.one (show Kd.M (Kd.int .u8) _ _ _ (bt (⟨#[34, 92, 98, 102, 110, 114, 116]⟩ : ByteArray) t480) [.int .u8 (bt (⟨#[34, 92, 98, 102, 110, 114, 116]⟩ : ByteArray) t480)] from rfl) (Reps.none _ _)))); intro v482 w23 ho24 hb hg_ hnew_; clear hg_ hnew_; (first | rw [← Ny481.out] at ho24 | (simp only [Int.reduceToNat] at ho24; rw [← Ny481.out] at ho24)); have n0_ := Aside0.mk (Kd.R_elder' (by (with_reducible repeat (first | apply Kd.R_alloc | apply Kd.R_drewN | apply Kd.R_drew)); exact HO_5.out) (Kd.R_base ho24) hb); have n1_ := Aside0.mk (Kd.R_lower (Kd.R_new' ho24 (Kd.R_lt (by (with_reducible repeat (first | apply Kd.R_alloc | apply Kd.R_drewN | apply Kd.R_drew)); exact HO_5.out))) (below_size (by repeat (first | (with_reducible first | exact HB.out | apply below_alloc | apply pw_below_drewN | apply below_drew1) | exact HB.out)))); have n2_ := Aside0.mk (below_step (by repeat (first | (with_reducible first | exact HB.out | apply below_alloc | apply pw_below_drewN | apply below_drew1) | exact HB.out)) hb); clear HO_5; clear HB; have HO_5 := n0_; have HO483 := n1_; have HB := n2_; clear n0_ n1_ n2_; clear hb ho24; obtain ⟨Ao26, co26, eo26⟩ := Kd.R_slice HO483.out; subst eo26) | ((with_reducible refine gate_builtin (b := .append) (xs := #[.tmp 36, .tmp 39]) rfl ?_); at_builtin; refine Kd.R_append_rows (Kd.int .u8) (w0 := w) w.heap.size rfl (.tmp 36) (.tmp 39) 46 5 (.int .u8 0) 1 rfl Tryd.underlying46 info5 rfl (by decide) (by omega) u5 x5_1 y481 _ _ _ (fun k_ => some k_ ≠ (.slice Ao26 y481.length co26 : Value).ownBlock) (fun _ => False) rfl rfl ?aO ?aR (fun _ _ h => h) (fun _ h => h.elim) ?aF ?aB ?aS ?aL ?_; (case aR => repeat (first | exact (Kd.R_reads' HO483.out).2.2 | (with_reducible refine Kd.C_alloc ?_ _) | (with_reducible refine Kd.C_drewN ?_ _) | (with_reducible refine Kd.C_drew ?_))); (case aB => exact (by repeat (first | (with_reducible first | exact HB.out | apply below_alloc | apply pw_below_drewN | apply below_drew1) | exact HB.out))); (case aF => exact (fun k_ hk => Kd.fresh' (Kd.R_lt (by (with_reducible repeat (first | apply Kd.R_alloc | apply Kd.R_drewN | apply Kd.R_drew)); exact HO483.out)) k_ hk)); (case aO => exact (by (with_reducible repeat (first | apply Kd.R_alloc | apply Kd.R_drewN | apply Kd.R_drew)); exact Kd.R_mono HO_5.out (fun _ hk => hk.2))); (case aS => exact (below_size (by repeat (first | (with_reducible first | exact HB.out | apply below_alloc | apply pw_below_drewN | apply below_drew1) | exact HB.out)))); (case aL => have := LMc22.out; omega); intro v485 w25 ho hb hg hat; rw [← Ny484.out] at ho; have n0_ := Aside0.mk (Kd.R_after (ok := (fun _ => True)) (by (with_reducible repeat (first | apply Kd.R_alloc | apply Kd.R_drewN | apply Kd.R_drew)); exact HO483.out) hg hat); have n1_ := Aside0.mk (hb); have n2_ := Aside0.mk (ho); clear HO483; clear HB; clear HO_5; have HO483 := n0_; have HB := n1_; have HO486 := n2_; clear n0_ n1_ n2_; clear ho hb hg hat))
                            go_roundg kj15
                            case measure => have := HK1.out; have := HJ9.out; have := HJ15.out; omega
                            case rel => exact ⟨((x0_1.extract (x7_9 : Int).toNat x0_1.size)), (y484), (by first | rfl | (simp; done) | (simp [*]; done)), H', ⟨by have := HK1.out; have := HJ9.out; have := HJ15.out; omega⟩, ⟨by (with_reducible repeat (first | apply Kd.R_alloc | apply Kd.R_drewN | apply Kd.R_drew)); exact Kd.R_mono HO486.out (fun _ hk => trivial)⟩, ⟨by repeat (first | (with_reducible first | exact HB.out | apply below_alloc | apply pw_below_drewN | apply below_drew1) | exact HB.out)⟩⟩
                          · rw [if_neg c22] at H
                            exact absurd H (by simp)
                        · rw [if_neg c20] at H
                          exact absurd H (by simp)
                      · rw [if_neg c19] at H
                        exact absurd H (by simp)
                    · replace c18 := Bool.eq_false_iff.mpr c18
                      subst c18
                      have H1 : (if x6_9 < 32 then (if 0 ≤ (x6_9 / 16) then (if (x6_9 / 16) < 16 then (if 0 ≤ (Go.bits .and .i64 x6_9 15) then (if (Go.bits .and .i64 x6_9 15) < 16 then ((some (([92, 117, 48, 48, bt (⟨#[48, 49, 50, 51, 52, 53, 54, 55, 56, 57, 97, 98, 99, 100, 101, 102]⟩ : ByteArray) (x6_9 / 16), bt (⟨#[48, 49, 50, 51, 52, 53, 54, 55, 56, 57, 97, 98, 99, 100, 101, 102]⟩ : ByteArray) (Go.bits .and .i64 x6_9 15)] : List Int) : List Int)).bind fun y487 => (if x5_1.length + y487.length < 140737488355328 then (esc_quote.l0 kj15 (x0_1.extract (x7_9 : Int).toNat x0_1.size) a1 (x5_1 ++ y487)) else (none))) else (none)) else (none)) else (none)) else (none)) else (if x6_9 = 127 then (if a1 = true then (if 0 ≤ (x6_9 / 16) then (if (x6_9 / 16) < 16 then (if 0 ≤ (Go.bits .and .i64 x6_9 15) then (if (Go.bits .and .i64 x6_9 15) < 16 then ((some (([92, 117, 48, 48, bt (⟨#[48, 49, 50, 51, 52, 53, 54, 55, 56, 57, 97, 98, 99, 100, 101, 102]⟩ : ByteArray) (x6_9 / 16), bt (⟨#[48, 49, 50, 51, 52, 53, 54, 55, 56, 57, 97, 98, 99, 100, 101, 102]⟩ : ByteArray) (Go.bits .and .i64 x6_9 15)] : List Int) : List Int)).bind fun y493 => (if x5_1.length + y493.length < 140737488355328 then (esc_quote.l0 kj15 (x0_1.extract (x7_9 : Int).toNat x0_1.size) a1 (x5_1 ++ y493)) else (none))) else (none)) else (none)) else (none)) else (none)) else ((utf_Put.f x5_1 x6_9).bind fun t499 => (esc_quote.l0 kj15 (x0_1.extract (x7_9 : Int).toNat x0_1.size) a1 t499))) else ((utf_Put.f x5_1 x6_9).bind fun t502 => (esc_quote.l0 kj15 (x0_1.extract (x7_9 : Int).toNat x0_1.size) a1 t502)))) = some r := by rw [if_neg (show ¬ (false = true) by decide)] at H; exact H
                      clear H
                      have H := H1
                      clear H1
                      by_cases c27 : x6_9 < 32
                      · rw [if_pos c27] at H
                        have c27b0 : decide (x6_9 < 32) = true := decide_eq_true c27
                        clear c27
                        obtain ⟨ji28, hji28⟩ : ∃ j_ : Int, (x6_9 / 16) = j_ := ⟨_, rfl⟩
                        replace H : (if 0 ≤ (ji28) then (if (ji28) < 16 then (if 0 ≤ (Go.bits .and .i64 x6_9 15) then (if (Go.bits .and .i64 x6_9 15) < 16 then ((some (([92, 117, 48, 48, bt (⟨#[48, 49, 50, 51, 52, 53, 54, 55, 56, 57, 97, 98, 99, 100, 101, 102]⟩ : ByteArray) (ji28), bt (⟨#[48, 49, 50, 51, 52, 53, 54, 55, 56, 57, 97, 98, 99, 100, 101, 102]⟩ : ByteArray) (Go.bits .and .i64 x6_9 15)] : List Int) : List Int)).bind fun y487 => (if x5_1.length + y487.length < 140737488355328 then (esc_quote.l0 kj15 (x0_1.extract (x7_9 : Int).toNat x0_1.size) a1 (x5_1 ++ y487)) else (none))) else (none)) else (none)) else (none)) else (none)) = some r := by first | (rw [hji28] at H; exact H) | (simp only [hji28] at H ⊢; exact H)
                        by_cases c29 : 0 ≤ (ji28)
                        · rw [if_pos c29] at H
                          have c29b0 : decide (0 ≤ (ji28)) = true := decide_eq_true c29
                          clear c29
                          by_cases c30 : (ji28) < 16
                          · rw [if_pos c30] at H
                            have c30b0 : decide ((ji28) < 16) = true := decide_eq_true c30
                            clear c30
                            by_cases c32 : 0 ≤ (Go.bits .and .i64 x6_9 15)
                            · rw [if_pos c32] at H
                              have c32b0 : decide (0 ≤ (Go.bits .and .i64 x6_9 15)) = true := decide_eq_true c32
                              clear c32
                              by_cases c33 : (Go.bits .and .i64 x6_9 15) < 16
                              · rw [if_pos c33] at H
                                have c33b0 : decide ((Go.bits .and .i64 x6_9 15) < 16) = true := decide_eq_true c33
                                clear c33
                                obtain ⟨y487, hy487⟩ : ∃ y_ : List Int, y_ = (([92, 117, 48, 48, bt (⟨#[48, 49, 50, 51, 52, 53, 54, 55, 56, 57, 97, 98, 99, 100, 101, 102]⟩ : ByteArray) (ji28), bt (⟨#[48, 49, 50, 51, 52, 53, 54, 55, 56, 57, 97, 98, 99, 100, 101, 102]⟩ : ByteArray) (Go.bits .and .i64 x6_9 15)] : List Int)) := ⟨_, rfl⟩
                                replace H : (if x5_1.length + y487.length < 140737488355328 then (esc_quote.l0 kj15 (x0_1.extract (x7_9 : Int).toNat x0_1.size) a1 (x5_1 ++ y487)) else (none)) = some r := by first | (rw [hy487]; with_reducible exact H) | (have H2_ := (Option.bind_some _ _).symm.trans H; rw [hy487]; with_reducible exact H2_) | (have H2_ := (Option.bind_some _ _).symm.trans H; with_reducible exact H2_) | with_reducible exact H | (rw [hy487]; exact H) | exact H
                                have Ny487 := Aside0.mk hy487
                                clear hy487
                                by_cases c35 : x5_1.length + y487.length < 140737488355328
                                · rw [if_pos c35] at H
                                  have LMc35 := Aside0.mk c35
                                  clear c35
                                  obtain ⟨y490, hy490⟩ : ∃ y_ : List Int, y_ = (x5_1 ++ y487) := ⟨_, rfl⟩
                                  replace H : (esc_quote.l0 kj15 (x0_1.extract (x7_9 : Int).toNat x0_1.size) a1 y490) = some r := by first | (rw [hy490]; with_reducible exact H) | (have H2_ := (Option.bind_some _ _).symm.trans H; rw [hy490]; with_reducible exact H2_) | (have H2_ := (Option.bind_some _ _).symm.trans H; with_reducible exact H2_) | with_reducible exact H | (rw [hy490]; exact H) | exact H
                                  have Ny490 := Aside0.mk hy490
                                  clear hy490
                                  have H' := Aside0.mk H
                                  clear H
                                  try go_wp2
                                  have n0_ := Aside0.mk (Kd.R_drew HO_5.out)
                                  have n1_ := Aside0.mk (below_drew1 HB.out)
                                  clear HO_5
                                  clear HB
                                  have HO_5 := n0_
                                  have HB := n1_
                                  clear n0_ n1_
                                  have p31 : 0 ≤ ((ji28) : Int) := of_decide_eq_true (by first | (with_reducible assumption) | assumption)
                                  have q31 : (ji28) < (16 : Int) := of_decide_eq_true (by first | (with_reducible assumption) | assumption)
                                  have hx31 := bt_at (⟨#[48, 49, 50, 51, 52, 53, 54, 55, 56, 57, 97, 98, 99, 100, 101, 102]⟩ : ByteArray) (ji28)
                                  replace p31 := eq_true p31
                                  replace q31 := eq_true q31
                                  have p34 : 0 ≤ ((Go.bits .and .i64 x6_9 15) : Int) := of_decide_eq_true (by first | (with_reducible assumption) | assumption)
                                  have q34 : (Go.bits .and .i64 x6_9 15) < (16 : Int) := of_decide_eq_true (by first | (with_reducible assumption) | assumption)
                                  have hx34 := bt_at (⟨#[48, 49, 50, 51, 52, 53, 54, 55, 56, 57, 97, 98, 99, 100, 101, 102]⟩ : ByteArray) (Go.bits .and .i64 x6_9 15)
                                  replace p34 := eq_true p34
                                  replace q34 := eq_true q34
                                  refine start_ (n := 10) (S := fun w' => True) (ds := []) #[false, false, false, false, false, false, false, false, false, false] (by kernel_rfl) rfl rfl trivial (fun hHeld => ?_); refine with_tabW esc_quote.tab12 esc_quote.bits12 (fun HT_ HW_ => ?_)
                                  generalize wc.drew = w36 at HO_5 HB hHeld ⊢
                                  refine pure_ (i := 0) (N := some 51) (v := ?_) (a' := ?_) #[true, false, false, false, false, false, false, false, false, false] rfl rfl (any_of HT_.out (by kernel_rfl)) (fun _ _ _ h => h) (Or.inl ⟨by rfl, ?_⟩) ?_ ?_
                                  rotate_left
                                  · intro w'
                                    go_simp
                                    with_reducible rfl
                                  rotate_left
                                  · simp only [Act.put, List.setIfInBounds_toArray, List.set_cons_zero, List.set_cons_succ, i64_w, i32_w]
                                    rfl
                                  refine pure_ (i := 1) (N := some 52) (v := ?_) (a' := ?_) #[true, true, false, false, false, false, false, false, false, false] rfl rfl (any_of HT_.out (by kernel_rfl)) (fun _ _ _ h => h) (Or.inl ⟨by rfl, ?_⟩) ?_ ?_
                                  rotate_left
                                  · intro w'
                                    go_simp
                                    with_reducible rfl
                                  rotate_left
                                  · simp only [Act.put, List.setIfInBounds_toArray, List.set_cons_zero, List.set_cons_succ, i64_w, i32_w]
                                    rfl
                                  refine pure_ (i := 2) (N := some 53) (v := ?_) (a' := ?_) #[true, true, true, false, false, false, false, false, false, false] rfl rfl (any_of HT_.out (by kernel_rfl)) (fun _ _ _ h => h) (Or.inl ⟨by rfl, ?_⟩) ?_ ?_
                                  rotate_left
                                  · intro w'
                                    go_simp
                                    with_reducible rfl
                                  rotate_left
                                  · simp only [Act.put, List.setIfInBounds_toArray, List.set_cons_zero, List.set_cons_succ, i64_w, i32_w]
                                    rfl
                                  refine pure_ (i := 4) (N := some 55) (v := ?_) (a' := ?_) #[true, true, true, false, true, false, false, false, false, false] rfl rfl (any_of HT_.out (by kernel_rfl)) (fun _ _ _ h => h) (Or.inl ⟨by rfl, ?_⟩) ?_ ?_
                                  rotate_left
                                  · intro w'
                                    go_simp
                                    with_reducible rfl
                                  rotate_left
                                  · simp only [Act.put, List.setIfInBounds_toArray, List.set_cons_zero, List.set_cons_succ, i64_w, i32_w]
                                    rfl
                                  refine pure_ (i := 5) (N := some 56) (v := ?_) (a' := ?_) #[true, true, true, false, true, true, false, false, false, false] rfl rfl (any_of HT_.out (by kernel_rfl)) (fun _ _ _ h => h) (Or.inl ⟨by rfl, ?_⟩) ?_ ?_
                                  rotate_left
                                  · intro w'
                                    go_simp
                                    with_reducible rfl
                                  rotate_left
                                  · simp only [Act.put, List.setIfInBounds_toArray, List.set_cons_zero, List.set_cons_succ, i64_w, i32_w]
                                    rfl
                                  refine take_ (i := 3) (N := some 54) (v := ?_) (a' := ?_) #[true, true, true, true, true, true, false, false, false, false] rfl rfl (take_ofW HT_.out HW_.out (by kernel_rfl)) (fun _ _ _ h => h) (Or.inl ⟨by rfl, ?_⟩) hHeld ?_ ?_
                                  rotate_left
                                  · intro w' _
                                    go_simp
                                    with_reducible rfl
                                  rotate_left
                                  · simp only [Act.put, List.setIfInBounds_toArray, List.set_cons_zero, List.set_cons_succ, i64_w, i32_w]
                                    rfl
                                  refine take_ (i := 6) (N := some 57) (v := ?_) (a' := ?_) #[true, true, true, true, true, true, true, false, false, false] rfl rfl (take_ofW HT_.out HW_.out (by kernel_rfl)) (fun _ _ _ h => h) (Or.inl ⟨by rfl, ?_⟩) hHeld ?_ ?_
                                  rotate_left
                                  · intro w' _
                                    go_simp
                                    with_reducible rfl
                                  rotate_left
                                  · simp only [Act.put, List.setIfInBounds_toArray, List.set_cons_zero, List.set_cons_succ, i64_w, i32_w]
                                    rfl
                                  refine one_ (i := 7) (N := some 58) #[true, true, true, true, true, true, true, true, false, false] rfl rfl (one_of HT_.out (by kernel_rfl)) (by decide) (fun K hK => ?_)
                                  refine Kd.R_lit_step (Kd.int .u8) _ 5 ?hg (N := 58) ?hd (xs := ([92, 117, 48, 48, bt (⟨#[48, 49, 50, 51, 52, 53, 54, 55, 56, 57, 97, 98, 99, 100, 101, 102]⟩ : ByteArray) (ji28), bt (⟨#[48, 49, 50, 51, 52, 53, 54, 55, 56, 57, 97, 98, 99, 100, 101, 102]⟩ : ByteArray) (Go.bits .and .i64 x6_9 15)] : List Int)) (inner := [.int .u8 92, .int .u8 117, .int .u8 48, .int .u8 48, .int .u8 (bt (⟨#[48, 49, 50, 51, 52, 53, 54, 55, 56, 57, 97, 98, 99, 100, 101, 102]⟩ : ByteArray) (ji28)), .int .u8 (bt (⟨#[48, 49, 50, 51, 52, 53, 54, 55, 56, 57, 97, 98, 99, 100, 101, 102]⟩ : ByteArray) (Go.bits .and .i64 x6_9 15))]) (ok := fun _ => True) (okp := fun _ => True) ?hr ?hp (fun _ hk => hk) trivial (Below.refl _ _) (Nat.le_refl _) (by simp) ?_; (case hd => rfl); (case hg => rfl); (case hr => first | (go_simp; done) | (go_simp; rfl)); (case hp => exact (Reps.one (show Kd.M (Kd.int .u8) _ _ _ 92 [.int .u8 92] from rfl) (Reps.one (show Kd.M (Kd.int .u8) _ _ _ 117 [.int .u8 117] from rfl) (Reps.one (show Kd.M (Kd.int .u8) _ _ _ 48 [.int .u8 48] from rfl) (Reps.one (show Kd.M (Kd.int .u8) _ _ _ 48 [.int .u8 48] from rfl) (Reps.one (show Kd.M (Kd.int .u8) _ _ _ (bt (⟨#[48, 49, 50, 51, 52, 53, 54, 55, 56, 57, 97, 98, 99, 100, 101, 102]⟩ : ByteArray) (ji28)) [.int .u8 (bt (⟨#[48, 49, 50, 51, 52, 53, 54, 55, 56, 57, 97, 98, 99, 100, 101, 102]⟩ : ByteArray) (ji28))] from rfl) (Reps.one (show Kd.M (Kd.int .u8) _ _ _ (bt (⟨#[48, 49, 50, 51, 52, 53, 54, 55, 56, 57, 97, 98, 99, 100, 101, 102]⟩ : ByteArray) (Go.bits .and .i64 x6_9 15)) [.int .u8 (bt (⟨#[48, 49, 50, 51, 52, 53, 54, 55, 56, 57, 97, 98, 99, 100, 101, 102]⟩ : ByteArray) (Go.bits .and .i64 x6_9 15))] from rfl) (Reps.none _ _))))))))
                                  intro v488 w37 ho38 hb hg_ hnew_
                                  clear hg_ hnew_
                                  (first | rw [← Ny487.out] at ho38 | (simp only [Int.reduceToNat] at ho38; rw [← Ny487.out] at ho38))
                                  have n0_ := Aside0.mk (Kd.R_elder' (by (with_reducible repeat (first | apply Kd.R_alloc | apply Kd.R_drewN | apply Kd.R_drew)); exact HO_5.out) (Kd.R_base ho38) hb)
                                  have n1_ := Aside0.mk (Kd.R_lower (Kd.R_new' ho38 (Kd.R_lt (by (with_reducible repeat (first | apply Kd.R_alloc | apply Kd.R_drewN | apply Kd.R_drew)); exact HO_5.out))) (below_size (by repeat (first | (with_reducible first | exact HB.out | apply below_alloc | apply pw_below_drewN | apply below_drew1) | exact HB.out))))
                                  have n2_ := Aside0.mk (below_step (by repeat (first | (with_reducible first | exact HB.out | apply below_alloc | apply pw_below_drewN | apply below_drew1) | exact HB.out)) hb)
                                  clear HO_5
                                  clear HB
                                  have HO_5 := n0_
                                  have HO489 := n1_
                                  have HB := n2_
                                  clear n0_ n1_ n2_
                                  clear hb ho38
                                  obtain ⟨Ao40, co40, eo40⟩ := Kd.R_slice HO489.out
                                  (first | subst eo40 | (injection eo40 with f1_ f2_ f3_; have f4_ := f1_.symm; have f5_ := f3_.symm; clear f1_ f2_ f3_; subst f4_; subst f5_))
                                  refine hK.out _ _ trivial (fun hHeld => ?_)
                                  clear hK K
                                  refine norm_ (a' := ?_) ?_ ?_
                                  rotate_left
                                  · show Act.put _ (some 58) _ = _
                                    simp only [Act.put, List.setIfInBounds_toArray, List.set_cons_zero, List.set_cons_succ, i64_w, i32_w]
                                    rfl
                                  refine one_ (i := 8) (N := some 59) #[true, true, true, true, true, true, true, true, true, false] rfl rfl (one_of HT_.out (by kernel_rfl)) (by decide) (fun K hK => ?_)
                                  refine Kd.R_append_rows_step (Kd.int .u8) (w0 := w) w.heap.size (by rfl) (.tmp 51) (.tmp 58) 46 5 (.int .u8 0) 1 rfl Tryd.underlying46 info5 rfl (by decide) (by omega) u5 x5_1 y487 _ _ _ (fun k_ => some k_ ≠ (.slice Ao40 y487.length co40 : Value).ownBlock) (fun _ => False) rfl rfl ?aO ?aR (fun _ _ h => h) (fun _ h => h.elim) ?aF ?aB ?aS ?aL ?_
                                  (case aR => repeat (first | exact (Kd.R_reads' HO489.out).2.2 | (with_reducible refine Kd.C_alloc ?_ _) | (with_reducible refine Kd.C_drewN ?_ _) | (with_reducible refine Kd.C_drew ?_)))
                                  (case aB => exact (by repeat (first | (with_reducible first | exact HB.out | apply below_alloc | apply pw_below_drewN | apply below_drew1) | exact HB.out)))
                                  (case aF => exact (fun k_ hk => Kd.fresh' (Kd.R_lt (by (with_reducible repeat (first | apply Kd.R_alloc | apply Kd.R_drewN | apply Kd.R_drew)); exact HO489.out)) k_ hk))
                                  (case aO => exact (by (with_reducible repeat (first | apply Kd.R_alloc | apply Kd.R_drewN | apply Kd.R_drew)); exact Kd.R_mono HO_5.out (fun _ hk => hk.2)))
                                  (case aS => exact (below_size (by repeat (first | (with_reducible first | exact HB.out | apply below_alloc | apply pw_below_drewN | apply below_drew1) | exact HB.out))))
                                  (case aL => have := LMc35.out; omega)
                                  intro v491 w39 ho hb hg hat
                                  rw [← Ny490.out] at ho
                                  have n0_ := Aside0.mk (Kd.R_after (ok := (fun _ => True)) (by (with_reducible repeat (first | apply Kd.R_alloc | apply Kd.R_drewN | apply Kd.R_drew)); exact HO489.out) hg hat)
                                  have n1_ := Aside0.mk (hb)
                                  have n2_ := Aside0.mk (ho)
                                  clear HO489
                                  clear HB
                                  clear HO_5
                                  have HO489 := n0_
                                  have HB := n1_
                                  have HO492 := n2_
                                  clear n0_ n1_ n2_
                                  clear ho hb hg hat
                                  refine hK.out _ _ trivial (fun hHeld => ?_)
                                  clear hK K
                                  refine norm_ (a' := ?_) ?_ ?_
                                  rotate_left
                                  · show Act.put _ (some 59) _ = _
                                    simp only [Act.put, List.setIfInBounds_toArray, List.set_cons_zero, List.set_cons_succ, i64_w, i32_w]
                                    rfl
                                  refine pure_ (i := 9) (N := some 5) (v := ?_) (a' := ?_) #[true, true, true, true, true, true, true, true, true, true] rfl rfl (any_of HT_.out (by kernel_rfl)) (fun _ _ _ h => h) (Or.inl ⟨by rfl, ?_⟩) ?_ ?_
                                  rotate_left
                                  · intro w'
                                    go_simp
                                    with_reducible rfl
                                  rotate_left
                                  · simp only [Act.put, List.setIfInBounds_toArray, List.set_cons_zero, List.set_cons_succ, i64_w, i32_w]
                                    rfl
                                  refine done_ (done_of HT_.out (by kernel_rfl)) ?_
                                  try go_wp2
                                  go_roundg kj15
                                  case measure => have := HK1.out; have := HJ9.out; have := HJ15.out; omega
                                  case rel => exact ⟨((x0_1.extract (x7_9 : Int).toNat x0_1.size)), (y490), (by first | rfl | (simp; done) | (simp [*]; done)), H', ⟨by have := HK1.out; have := HJ9.out; have := HJ15.out; omega⟩, ⟨by (with_reducible repeat (first | apply Kd.R_alloc | apply Kd.R_drewN | apply Kd.R_drew)); exact Kd.R_mono HO492.out (fun _ hk => trivial)⟩, ⟨by repeat (first | (with_reducible first | exact HB.out | apply below_alloc | apply pw_below_drewN | apply below_drew1) | exact HB.out)⟩⟩
                                · rw [if_neg c35] at H
                                  exact absurd H (by simp)
                              · rw [if_neg c33] at H
                                exact absurd H (by simp)
                            · rw [if_neg c32] at H
                              exact absurd H (by simp)
                          · rw [if_neg c30] at H
                            exact absurd H (by simp)
                        · rw [if_neg c29] at H
                          exact absurd H (by simp)
                      · rw [if_neg c27] at H
                        have c27b0 : decide (x6_9 < 32) = false := decide_eq_false c27
                        clear c27
                        by_cases c41 : x6_9 = 127
                        · rw [if_pos c41] at H
                          have c41b0 : (x6_9 == 127) = true := beq_iff_eq.mpr c41
                          have c41b1 : (x6_9 != 127) = false := bne_eq_false_iff_eq.mpr c41
                          clear c41
                          by_cases c42 : a1 = true
                          · subst c42
                            have H1 : (if 0 ≤ (x6_9 / 16) then (if (x6_9 / 16) < 16 then (if 0 ≤ (Go.bits .and .i64 x6_9 15) then (if (Go.bits .and .i64 x6_9 15) < 16 then ((some (([92, 117, 48, 48, bt (⟨#[48, 49, 50, 51, 52, 53, 54, 55, 56, 57, 97, 98, 99, 100, 101, 102]⟩ : ByteArray) (x6_9 / 16), bt (⟨#[48, 49, 50, 51, 52, 53, 54, 55, 56, 57, 97, 98, 99, 100, 101, 102]⟩ : ByteArray) (Go.bits .and .i64 x6_9 15)] : List Int) : List Int)).bind fun y493 => (if x5_1.length + y493.length < 140737488355328 then (esc_quote.l0 kj15 (x0_1.extract (x7_9 : Int).toNat x0_1.size) true (x5_1 ++ y493)) else (none))) else (none)) else (none)) else (none)) else (none)) = some r := by rw [if_pos rfl] at H; exact H
                            clear H
                            have H := H1
                            clear H1
                            obtain ⟨ji43, hji43⟩ : ∃ j_ : Int, (x6_9 / 16) = j_ := ⟨_, rfl⟩
                            replace H : (if 0 ≤ (ji43) then (if (ji43) < 16 then (if 0 ≤ (Go.bits .and .i64 x6_9 15) then (if (Go.bits .and .i64 x6_9 15) < 16 then ((some (([92, 117, 48, 48, bt (⟨#[48, 49, 50, 51, 52, 53, 54, 55, 56, 57, 97, 98, 99, 100, 101, 102]⟩ : ByteArray) (ji43), bt (⟨#[48, 49, 50, 51, 52, 53, 54, 55, 56, 57, 97, 98, 99, 100, 101, 102]⟩ : ByteArray) (Go.bits .and .i64 x6_9 15)] : List Int) : List Int)).bind fun y493 => (if x5_1.length + y493.length < 140737488355328 then (esc_quote.l0 kj15 (x0_1.extract (x7_9 : Int).toNat x0_1.size) true (x5_1 ++ y493)) else (none))) else (none)) else (none)) else (none)) else (none)) = some r := by first | (rw [hji43] at H; exact H) | (simp only [hji43] at H ⊢; exact H)
                            by_cases c44 : 0 ≤ (ji43)
                            · rw [if_pos c44] at H
                              have c44b0 : decide (0 ≤ (ji43)) = true := decide_eq_true c44
                              clear c44
                              by_cases c45 : (ji43) < 16
                              · rw [if_pos c45] at H
                                have c45b0 : decide ((ji43) < 16) = true := decide_eq_true c45
                                clear c45
                                by_cases c47 : 0 ≤ (Go.bits .and .i64 x6_9 15)
                                · rw [if_pos c47] at H
                                  have c47b0 : decide (0 ≤ (Go.bits .and .i64 x6_9 15)) = true := decide_eq_true c47
                                  clear c47
                                  by_cases c48 : (Go.bits .and .i64 x6_9 15) < 16
                                  · rw [if_pos c48] at H
                                    have c48b0 : decide ((Go.bits .and .i64 x6_9 15) < 16) = true := decide_eq_true c48
                                    clear c48
                                    obtain ⟨y493, hy493⟩ : ∃ y_ : List Int, y_ = (([92, 117, 48, 48, bt (⟨#[48, 49, 50, 51, 52, 53, 54, 55, 56, 57, 97, 98, 99, 100, 101, 102]⟩ : ByteArray) (ji43), bt (⟨#[48, 49, 50, 51, 52, 53, 54, 55, 56, 57, 97, 98, 99, 100, 101, 102]⟩ : ByteArray) (Go.bits .and .i64 x6_9 15)] : List Int)) := ⟨_, rfl⟩
                                    replace H : (if x5_1.length + y493.length < 140737488355328 then (esc_quote.l0 kj15 (x0_1.extract (x7_9 : Int).toNat x0_1.size) true (x5_1 ++ y493)) else (none)) = some r := by first | (rw [hy493]; with_reducible exact H) | (have H2_ := (Option.bind_some _ _).symm.trans H; rw [hy493]; with_reducible exact H2_) | (have H2_ := (Option.bind_some _ _).symm.trans H; with_reducible exact H2_) | with_reducible exact H | (rw [hy493]; exact H) | exact H
                                    have Ny493 := Aside0.mk hy493
                                    clear hy493
                                    by_cases c50 : x5_1.length + y493.length < 140737488355328
                                    · rw [if_pos c50] at H
                                      have LMc50 := Aside0.mk c50
                                      clear c50
                                      obtain ⟨y496, hy496⟩ : ∃ y_ : List Int, y_ = (x5_1 ++ y493) := ⟨_, rfl⟩
                                      replace H : (esc_quote.l0 kj15 (x0_1.extract (x7_9 : Int).toNat x0_1.size) true y496) = some r := by first | (rw [hy496]; with_reducible exact H) | (have H2_ := (Option.bind_some _ _).symm.trans H; rw [hy496]; with_reducible exact H2_) | (have H2_ := (Option.bind_some _ _).symm.trans H; with_reducible exact H2_) | with_reducible exact H | (rw [hy496]; exact H) | exact H
                                      have Ny496 := Aside0.mk hy496
                                      clear hy496
                                      have H' := Aside0.mk H
                                      clear H
                                      try go_wp2
                                      have n0_ := Aside0.mk (Kd.R_drew HO_5.out)
                                      have n1_ := Aside0.mk (below_drew1 HB.out)
                                      clear HO_5
                                      clear HB
                                      have HO_5 := n0_
                                      have HB := n1_
                                      clear n0_ n1_
                                      have p46 : 0 ≤ ((ji43) : Int) := of_decide_eq_true (by first | (with_reducible assumption) | assumption)
                                      have q46 : (ji43) < (16 : Int) := of_decide_eq_true (by first | (with_reducible assumption) | assumption)
                                      have hx46 := bt_at (⟨#[48, 49, 50, 51, 52, 53, 54, 55, 56, 57, 97, 98, 99, 100, 101, 102]⟩ : ByteArray) (ji43)
                                      replace p46 := eq_true p46
                                      replace q46 := eq_true q46
                                      have p49 : 0 ≤ ((Go.bits .and .i64 x6_9 15) : Int) := of_decide_eq_true (by first | (with_reducible assumption) | assumption)
                                      have q49 : (Go.bits .and .i64 x6_9 15) < (16 : Int) := of_decide_eq_true (by first | (with_reducible assumption) | assumption)
                                      have hx49 := bt_at (⟨#[48, 49, 50, 51, 52, 53, 54, 55, 56, 57, 97, 98, 99, 100, 101, 102]⟩ : ByteArray) (Go.bits .and .i64 x6_9 15)
                                      replace p49 := eq_true p49
                                      replace q49 := eq_true q49
                                      refine start_ (n := 10) (S := fun w' => True) (ds := []) #[false, false, false, false, false, false, false, false, false, false] (by kernel_rfl) rfl rfl trivial (fun hHeld => ?_); refine with_tabW esc_quote.tab12 esc_quote.bits12 (fun HT_ HW_ => ?_)
                                      generalize wc.drew = w51 at HO_5 HB hHeld ⊢
                                      refine pure_ (i := 0) (N := some 51) (v := ?_) (a' := ?_) #[true, false, false, false, false, false, false, false, false, false] rfl rfl (any_of HT_.out (by kernel_rfl)) (fun _ _ _ h => h) (Or.inl ⟨by rfl, ?_⟩) ?_ ?_
                                      rotate_left
                                      · intro w'
                                        go_simp
                                        with_reducible rfl
                                      rotate_left
                                      · simp only [Act.put, List.setIfInBounds_toArray, List.set_cons_zero, List.set_cons_succ, i64_w, i32_w]
                                        rfl
                                      refine pure_ (i := 1) (N := some 52) (v := ?_) (a' := ?_) #[true, true, false, false, false, false, false, false, false, false] rfl rfl (any_of HT_.out (by kernel_rfl)) (fun _ _ _ h => h) (Or.inl ⟨by rfl, ?_⟩) ?_ ?_
                                      rotate_left
                                      · intro w'
                                        go_simp
                                        with_reducible rfl
                                      rotate_left
                                      · simp only [Act.put, List.setIfInBounds_toArray, List.set_cons_zero, List.set_cons_succ, i64_w, i32_w]
                                        rfl
                                      refine pure_ (i := 2) (N := some 53) (v := ?_) (a' := ?_) #[true, true, true, false, false, false, false, false, false, false] rfl rfl (any_of HT_.out (by kernel_rfl)) (fun _ _ _ h => h) (Or.inl ⟨by rfl, ?_⟩) ?_ ?_
                                      rotate_left
                                      · intro w'
                                        go_simp
                                        with_reducible rfl
                                      rotate_left
                                      · simp only [Act.put, List.setIfInBounds_toArray, List.set_cons_zero, List.set_cons_succ, i64_w, i32_w]
                                        rfl
                                      refine pure_ (i := 4) (N := some 55) (v := ?_) (a' := ?_) #[true, true, true, false, true, false, false, false, false, false] rfl rfl (any_of HT_.out (by kernel_rfl)) (fun _ _ _ h => h) (Or.inl ⟨by rfl, ?_⟩) ?_ ?_
                                      rotate_left
                                      · intro w'
                                        go_simp
                                        with_reducible rfl
                                      rotate_left
                                      · simp only [Act.put, List.setIfInBounds_toArray, List.set_cons_zero, List.set_cons_succ, i64_w, i32_w]
                                        rfl
                                      refine pure_ (i := 5) (N := some 56) (v := ?_) (a' := ?_) #[true, true, true, false, true, true, false, false, false, false] rfl rfl (any_of HT_.out (by kernel_rfl)) (fun _ _ _ h => h) (Or.inl ⟨by rfl, ?_⟩) ?_ ?_
                                      rotate_left
                                      · intro w'
                                        go_simp
                                        with_reducible rfl
                                      rotate_left
                                      · simp only [Act.put, List.setIfInBounds_toArray, List.set_cons_zero, List.set_cons_succ, i64_w, i32_w]
                                        rfl
                                      refine take_ (i := 3) (N := some 54) (v := ?_) (a' := ?_) #[true, true, true, true, true, true, false, false, false, false] rfl rfl (take_ofW HT_.out HW_.out (by kernel_rfl)) (fun _ _ _ h => h) (Or.inl ⟨by rfl, ?_⟩) hHeld ?_ ?_
                                      rotate_left
                                      · intro w' _
                                        go_simp
                                        with_reducible rfl
                                      rotate_left
                                      · simp only [Act.put, List.setIfInBounds_toArray, List.set_cons_zero, List.set_cons_succ, i64_w, i32_w]
                                        rfl
                                      refine take_ (i := 6) (N := some 57) (v := ?_) (a' := ?_) #[true, true, true, true, true, true, true, false, false, false] rfl rfl (take_ofW HT_.out HW_.out (by kernel_rfl)) (fun _ _ _ h => h) (Or.inl ⟨by rfl, ?_⟩) hHeld ?_ ?_
                                      rotate_left
                                      · intro w' _
                                        go_simp
                                        with_reducible rfl
                                      rotate_left
                                      · simp only [Act.put, List.setIfInBounds_toArray, List.set_cons_zero, List.set_cons_succ, i64_w, i32_w]
                                        rfl
                                      refine one_ (i := 7) (N := some 58) #[true, true, true, true, true, true, true, true, false, false] rfl rfl (one_of HT_.out (by kernel_rfl)) (by decide) (fun K hK => ?_)
                                      refine Kd.R_lit_step (Kd.int .u8) _ 5 ?hg (N := 58) ?hd (xs := ([92, 117, 48, 48, bt (⟨#[48, 49, 50, 51, 52, 53, 54, 55, 56, 57, 97, 98, 99, 100, 101, 102]⟩ : ByteArray) (ji43), bt (⟨#[48, 49, 50, 51, 52, 53, 54, 55, 56, 57, 97, 98, 99, 100, 101, 102]⟩ : ByteArray) (Go.bits .and .i64 x6_9 15)] : List Int)) (inner := [.int .u8 92, .int .u8 117, .int .u8 48, .int .u8 48, .int .u8 (bt (⟨#[48, 49, 50, 51, 52, 53, 54, 55, 56, 57, 97, 98, 99, 100, 101, 102]⟩ : ByteArray) (ji43)), .int .u8 (bt (⟨#[48, 49, 50, 51, 52, 53, 54, 55, 56, 57, 97, 98, 99, 100, 101, 102]⟩ : ByteArray) (Go.bits .and .i64 x6_9 15))]) (ok := fun _ => True) (okp := fun _ => True) ?hr ?hp (fun _ hk => hk) trivial (Below.refl _ _) (Nat.le_refl _) (by simp) ?_; (case hd => rfl); (case hg => rfl); (case hr => first | (go_simp; done) | (go_simp; rfl)); (case hp => exact (Reps.one (show Kd.M (Kd.int .u8) _ _ _ 92 [.int .u8 92] from rfl) (Reps.one (show Kd.M (Kd.int .u8) _ _ _ 117 [.int .u8 117] from rfl) (Reps.one (show Kd.M (Kd.int .u8) _ _ _ 48 [.int .u8 48] from rfl) (Reps.one (show Kd.M (Kd.int .u8) _ _ _ 48 [.int .u8 48] from rfl) (Reps.one (show Kd.M (Kd.int .u8) _ _ _ (bt (⟨#[48, 49, 50, 51, 52, 53, 54, 55, 56, 57, 97, 98, 99, 100, 101, 102]⟩ : ByteArray) (ji43)) [.int .u8 (bt (⟨#[48, 49, 50, 51, 52, 53, 54, 55, 56, 57, 97, 98, 99, 100, 101, 102]⟩ : ByteArray) (ji43))] from rfl) (Reps.one (show Kd.M (Kd.int .u8) _ _ _ (bt (⟨#[48, 49, 50, 51, 52, 53, 54, 55, 56, 57, 97, 98, 99, 100, 101, 102]⟩ : ByteArray) (Go.bits .and .i64 x6_9 15)) [.int .u8 (bt (⟨#[48, 49, 50, 51, 52, 53, 54, 55, 56, 57, 97, 98, 99, 100, 101, 102]⟩ : ByteArray) (Go.bits .and .i64 x6_9 15))] from rfl) (Reps.none _ _))))))))
                                      intro v494 w52 ho53 hb hg_ hnew_
                                      clear hg_ hnew_
                                      (first | rw [← Ny493.out] at ho53 | (simp only [Int.reduceToNat] at ho53; rw [← Ny493.out] at ho53))
                                      have n0_ := Aside0.mk (Kd.R_elder' (by (with_reducible repeat (first | apply Kd.R_alloc | apply Kd.R_drewN | apply Kd.R_drew)); exact HO_5.out) (Kd.R_base ho53) hb)
                                      have n1_ := Aside0.mk (Kd.R_lower (Kd.R_new' ho53 (Kd.R_lt (by (with_reducible repeat (first | apply Kd.R_alloc | apply Kd.R_drewN | apply Kd.R_drew)); exact HO_5.out))) (below_size (by repeat (first | (with_reducible first | exact HB.out | apply below_alloc | apply pw_below_drewN | apply below_drew1) | exact HB.out))))
                                      have n2_ := Aside0.mk (below_step (by repeat (first | (with_reducible first | exact HB.out | apply below_alloc | apply pw_below_drewN | apply below_drew1) | exact HB.out)) hb)
                                      clear HO_5
                                      clear HB
                                      have HO_5 := n0_
                                      have HO495 := n1_
                                      have HB := n2_
                                      clear n0_ n1_ n2_
                                      clear hb ho53
                                      obtain ⟨Ao55, co55, eo55⟩ := Kd.R_slice HO495.out
                                      (first | subst eo55 | (injection eo55 with f1_ f2_ f3_; have f4_ := f1_.symm; have f5_ := f3_.symm; clear f1_ f2_ f3_; subst f4_; subst f5_))
                                      refine hK.out _ _ trivial (fun hHeld => ?_)
                                      clear hK K
                                      refine norm_ (a' := ?_) ?_ ?_
                                      rotate_left
                                      · show Act.put _ (some 58) _ = _
                                        simp only [Act.put, List.setIfInBounds_toArray, List.set_cons_zero, List.set_cons_succ, i64_w, i32_w]
                                        rfl
                                      refine one_ (i := 8) (N := some 59) #[true, true, true, true, true, true, true, true, true, false] rfl rfl (one_of HT_.out (by kernel_rfl)) (by decide) (fun K hK => ?_)
                                      refine Kd.R_append_rows_step (Kd.int .u8) (w0 := w) w.heap.size (by rfl) (.tmp 51) (.tmp 58) 46 5 (.int .u8 0) 1 rfl Tryd.underlying46 info5 rfl (by decide) (by omega) u5 x5_1 y493 _ _ _ (fun k_ => some k_ ≠ (.slice Ao55 y493.length co55 : Value).ownBlock) (fun _ => False) rfl rfl ?aO ?aR (fun _ _ h => h) (fun _ h => h.elim) ?aF ?aB ?aS ?aL ?_
                                      (case aR => repeat (first | exact (Kd.R_reads' HO495.out).2.2 | (with_reducible refine Kd.C_alloc ?_ _) | (with_reducible refine Kd.C_drewN ?_ _) | (with_reducible refine Kd.C_drew ?_)))
                                      (case aB => exact (by repeat (first | (with_reducible first | exact HB.out | apply below_alloc | apply pw_below_drewN | apply below_drew1) | exact HB.out)))
                                      (case aF => exact (fun k_ hk => Kd.fresh' (Kd.R_lt (by (with_reducible repeat (first | apply Kd.R_alloc | apply Kd.R_drewN | apply Kd.R_drew)); exact HO495.out)) k_ hk))
                                      (case aO => exact (by (with_reducible repeat (first | apply Kd.R_alloc | apply Kd.R_drewN | apply Kd.R_drew)); exact Kd.R_mono HO_5.out (fun _ hk => hk.2)))
                                      (case aS => exact (below_size (by repeat (first | (with_reducible first | exact HB.out | apply below_alloc | apply pw_below_drewN | apply below_drew1) | exact HB.out))))
                                      (case aL => have := LMc50.out; omega)
                                      intro v497 w54 ho hb hg hat
                                      rw [← Ny496.out] at ho
                                      have n0_ := Aside0.mk (Kd.R_after (ok := (fun _ => True)) (by (with_reducible repeat (first | apply Kd.R_alloc | apply Kd.R_drewN | apply Kd.R_drew)); exact HO495.out) hg hat)
                                      have n1_ := Aside0.mk (hb)
                                      have n2_ := Aside0.mk (ho)
                                      clear HO495
                                      clear HB
                                      clear HO_5
                                      have HO495 := n0_
                                      have HB := n1_
                                      have HO498 := n2_
                                      clear n0_ n1_ n2_
                                      clear ho hb hg hat
                                      refine hK.out _ _ trivial (fun hHeld => ?_)
                                      clear hK K
                                      refine norm_ (a' := ?_) ?_ ?_
                                      rotate_left
                                      · show Act.put _ (some 59) _ = _
                                        simp only [Act.put, List.setIfInBounds_toArray, List.set_cons_zero, List.set_cons_succ, i64_w, i32_w]
                                        rfl
                                      refine pure_ (i := 9) (N := some 5) (v := ?_) (a' := ?_) #[true, true, true, true, true, true, true, true, true, true] rfl rfl (any_of HT_.out (by kernel_rfl)) (fun _ _ _ h => h) (Or.inl ⟨by rfl, ?_⟩) ?_ ?_
                                      rotate_left
                                      · intro w'
                                        go_simp
                                        with_reducible rfl
                                      rotate_left
                                      · simp only [Act.put, List.setIfInBounds_toArray, List.set_cons_zero, List.set_cons_succ, i64_w, i32_w]
                                        rfl
                                      refine done_ (done_of HT_.out (by kernel_rfl)) ?_
                                      try go_wp2
                                      go_roundg kj15
                                      case measure => have := HK1.out; have := HJ9.out; have := HJ15.out; omega
                                      case rel => exact ⟨((x0_1.extract (x7_9 : Int).toNat x0_1.size)), (y496), (by first | rfl | (simp; done) | (simp [*]; done)), H', ⟨by have := HK1.out; have := HJ9.out; have := HJ15.out; omega⟩, ⟨by (with_reducible repeat (first | apply Kd.R_alloc | apply Kd.R_drewN | apply Kd.R_drew)); exact Kd.R_mono HO498.out (fun _ hk => trivial)⟩, ⟨by repeat (first | (with_reducible first | exact HB.out | apply below_alloc | apply pw_below_drewN | apply below_drew1) | exact HB.out)⟩⟩
                                    · rw [if_neg c50] at H
                                      exact absurd H (by simp)
                                  · rw [if_neg c48] at H
                                    exact absurd H (by simp)
                                · rw [if_neg c47] at H
                                  exact absurd H (by simp)
                              · rw [if_neg c45] at H
                                exact absurd H (by simp)
                            · rw [if_neg c44] at H
                              exact absurd H (by simp)
                          · replace c42 := Bool.eq_false_iff.mpr c42
                            subst c42
                            have H1 : ((utf_Put.f x5_1 x6_9).bind fun t499 => (esc_quote.l0 kj15 (x0_1.extract (x7_9 : Int).toNat x0_1.size) false t499)) = some r := by rw [if_neg (show ¬ (false = true) by decide)] at H; exact H
                            clear H
                            have H := H1
                            clear H1
                            replace H := Option.bind_eq_some_iff.mp H
                            obtain ⟨t499, A560, H⟩ := H
                            replace H : (esc_quote.l0 kj15 (x0_1.extract (x7_9 : Int).toNat x0_1.size) false t499) = some r := H
                            have A56 := Aside0.mk A560
                            clear A560
                            have H' := Aside0.mk H
                            clear H
                            obtain ⟨Ao57, co57, eo57⟩ := Kd.R_slice HO_5.out
                            subst eo57
                            go_wp2_with (first | ((with_reducible refine gate_callee (f := 67) rfl ?_); refine goesL_ (some 28) rfl rfl Tryd.func67 (by kernel_rfl) rfl #[.slice Ao57 x5_1.length co57, .int .i64 x6_9] rfl (by (try simp only [List.map_toArray, List.map_cons, List.map_nil]); first | done | rfl | (simp only [List.length_drop, List.length_take]; rfl)) ?_; (with_reducible refine (utf_Put.calls _ _ x5_1 x6_9 t499 _ ?side1 ?side2 A56.out).mono ?_); (case side1 => repeat (first | exact (Kd.R_reads' HO_5.out).2.2 | (with_reducible refine Kd.C_alloc ?_ _) | (with_reducible refine Kd.C_drewN ?_ _) | (with_reducible refine Kd.C_drew ?_))); (case side2 => exact (Kd.R_reads' HO_5.out).2.1); rintro e w58 ⟨v500, rfl, ho0, hb⟩; refine ⟨_, rfl, ?_⟩; have n0_ := Aside0.mk (Kd.R_elder' (by (with_reducible repeat (first | apply Kd.R_alloc | apply Kd.R_drewN | apply Kd.R_drew)); exact HO_5.out) (Kd.R_base ho0) hb); have n1_ := Aside0.mk (Kd.R_lower (Kd.R_new' ho0 (Kd.R_lt (by (with_reducible repeat (first | apply Kd.R_alloc | apply Kd.R_drewN | apply Kd.R_drew)); exact HO_5.out))) (below_size (by repeat (first | (with_reducible first | exact HB.out | apply below_alloc | apply pw_below_drewN | apply below_drew1) | exact HB.out)))); have n2_ := Aside0.mk (below_step (by repeat (first | (with_reducible first | exact HB.out | apply below_alloc | apply pw_below_drewN | apply below_drew1) | exact HB.out)) hb); clear HO_5; clear HB; have HO_5 := n0_; have HO501 := n1_; have HB := n2_; clear n0_ n1_ n2_; (try clear hb); (try clear hb2); (try clear hk); (try clear hi); (try clear ho0)))
                            go_roundg kj15
                            case measure => have := HK1.out; have := HJ9.out; have := HJ15.out; omega
                            case rel => exact ⟨((x0_1.extract (x7_9 : Int).toNat x0_1.size)), (t499), (by first | rfl | (simp; done) | (simp [*]; done)), H', ⟨by have := HK1.out; have := HJ9.out; have := HJ15.out; omega⟩, ⟨by (with_reducible repeat (first | apply Kd.R_alloc | apply Kd.R_drewN | apply Kd.R_drew)); exact Kd.R_mono HO501.out (fun _ hk => trivial)⟩, ⟨by repeat (first | (with_reducible first | exact HB.out | apply below_alloc | apply pw_below_drewN | apply below_drew1) | exact HB.out)⟩⟩
                        · rw [if_neg c41] at H
                          have c41b0 : (x6_9 == 127) = false := beq_eq_false_iff_ne.mpr c41
                          have c41b1 : (x6_9 != 127) = true := bne_iff_ne.mpr c41
                          replace H := Option.bind_eq_some_iff.mp H
                          obtain ⟨t502, A590, H⟩ := H
                          replace H : (esc_quote.l0 kj15 (x0_1.extract (x7_9 : Int).toNat x0_1.size) a1 t502) = some r := H
                          have A59 := Aside0.mk A590
                          clear A590
                          have H' := Aside0.mk H
                          clear H
                          obtain ⟨Ao60, co60, eo60⟩ := Kd.R_slice HO_5.out
                          subst eo60
                          go_wp2_with (first | ((with_reducible refine gate_callee (f := 67) rfl ?_); refine goesL_ (some 28) rfl rfl Tryd.func67 (by kernel_rfl) rfl #[.slice Ao60 x5_1.length co60, .int .i64 x6_9] rfl (by (try simp only [List.map_toArray, List.map_cons, List.map_nil]); first | done | rfl | (simp only [List.length_drop, List.length_take]; rfl)) ?_; (with_reducible refine (utf_Put.calls _ _ x5_1 x6_9 t502 _ ?side1 ?side2 A59.out).mono ?_); (case side1 => repeat (first | exact (Kd.R_reads' HO_5.out).2.2 | (with_reducible refine Kd.C_alloc ?_ _) | (with_reducible refine Kd.C_drewN ?_ _) | (with_reducible refine Kd.C_drew ?_))); (case side2 => exact (Kd.R_reads' HO_5.out).2.1); rintro e w61 ⟨v503, rfl, ho0, hb⟩; refine ⟨_, rfl, ?_⟩; have n0_ := Aside0.mk (Kd.R_elder' (by (with_reducible repeat (first | apply Kd.R_alloc | apply Kd.R_drewN | apply Kd.R_drew)); exact HO_5.out) (Kd.R_base ho0) hb); have n1_ := Aside0.mk (Kd.R_lower (Kd.R_new' ho0 (Kd.R_lt (by (with_reducible repeat (first | apply Kd.R_alloc | apply Kd.R_drewN | apply Kd.R_drew)); exact HO_5.out))) (below_size (by repeat (first | (with_reducible first | exact HB.out | apply below_alloc | apply pw_below_drewN | apply below_drew1) | exact HB.out)))); have n2_ := Aside0.mk (below_step (by repeat (first | (with_reducible first | exact HB.out | apply below_alloc | apply pw_below_drewN | apply below_drew1) | exact HB.out)) hb); clear HO_5; clear HB; have HO_5 := n0_; have HO504 := n1_; have HB := n2_; clear n0_ n1_ n2_; (try clear hb); (try clear hb2); (try clear hk); (try clear hi); (try clear ho0)))
                          go_roundg kj15
                          case measure => have := HK1.out; have := HJ9.out; have := HJ15.out; omega
                          case rel => exact ⟨((x0_1.extract (x7_9 : Int).toNat x0_1.size)), (t502), (by first | rfl | (simp; done) | (simp [*]; done)), H', ⟨by have := HK1.out; have := HJ9.out; have := HJ15.out; omega⟩, ⟨by (with_reducible repeat (first | apply Kd.R_alloc | apply Kd.R_drewN | apply Kd.R_drew)); exact Kd.R_mono HO504.out (fun _ hk => trivial)⟩, ⟨by repeat (first | (with_reducible first | exact HB.out | apply below_alloc | apply pw_below_drewN | apply below_drew1) | exact HB.out)⟩⟩
              · rw [if_neg c13] at H
                exact absurd H (by simp)
            · rw [if_neg c12] at H
              exact absurd H (by simp)
end Go.Proofs.YtoanbmggffkmgaaDoor.P
end
section
namespace Go.Proofs.YtoanbmggffkmgaaDoor.P
open Go.RowKit Go.Proofs.YtoanbmggffkmgaaDoorW.PrintWords Go.Proofs.YtoanbmggffkmgaaDoorW.PrintLast Go.Proofs.YtoanbmggffkmgaaDoorW.PrintMore
attribute [local go_sem] max2_int min2_int max_two min_two max_three min_three max_four min_four   -- for this text's walks alone
set_option linter.unusedVariables false
set_option linter.unusedSimpArgs false
/-! ### esc_Quote: function 19 -/
def esc_Quote.f (k : Nat) (a0 : ByteArray) : Option (ByteArray) := (esc_quote.f k a0 false).bind fun t505 => (some t505)
set_option maxHeartbeats 8000000 in
set_option maxRecDepth 100000 in
theorem esc_Quote.calls (k : Nat) (a0 : ByteArray) (r : ByteArray) (w : World) (h : esc_Quote.f k a0 = some r) :
    Calls Tryd.prog 19 #[.string a0] w fun e w' => e = .returned (.string r) ∧ Below w.heap.size w w' := by
  have HB := Aside0.mk (Below.refl w.heap.size w)
  have H : ((esc_quote.f k a0 false).bind fun t505 => (some t505)) = some r := h
  clear h
  replace H := Option.bind_eq_some_iff.mp H
  obtain ⟨t505, A20, H⟩ := H
  replace H : (some t505) = some r := H
  have A2 := Aside0.mk A20
  clear A20
  obtain rfl := Option.some.inj H
  go_enter Tryd.func19, Tryd.ntmps19
  go_wp2_with (first | ((with_reducible refine gate_callee (f := 45) rfl ?_); refine goesL_ (some 4) rfl rfl Tryd.func45 (by kernel_rfl) rfl #[.string a0, .bool false] rfl (by (try simp only [List.map_toArray, List.map_cons, List.map_nil]); first | done | rfl | (simp only [List.length_drop, List.length_take]; rfl)) ?_; (with_reducible refine (esc_quote.calls k a0 false t505 _ A2.out).mono ?_); rintro e w3 ⟨rfl, hb⟩; refine ⟨_, rfl, ?_⟩; have n0_ := Aside0.mk (below_step (by repeat (first | (with_reducible first | exact HB.out | apply below_alloc | apply pw_below_drewN | apply below_drew1) | exact HB.out)) hb); clear HB; have HB := n0_; clear n0_; (try clear hb); (try clear hb2); (try clear hk); (try clear hi)))
  go_ret
  exact ⟨by first | rfl | (simp [errW_none, errW_some] <;> rfl) | (simp [*, errW_none, errW_some, bne]; done) | (simp [*, errW_none, errW_some] <;> rfl), by repeat (first | (with_reducible first | exact HB.out | apply below_alloc | apply pw_below_drewN | apply below_drew1) | exact HB.out)⟩
end Go.Proofs.YtoanbmggffkmgaaDoor.P
end
section
namespace Go.Proofs.YtoanbmggffkmgaaDoor.P
open Go.RowKit Go.Proofs.YtoanbmggffkmgaaDoorW.PrintWords Go.Proofs.YtoanbmggffkmgaaDoorW.PrintLast Go.Proofs.YtoanbmggffkmgaaDoorW.PrintMore
attribute [local go_sem] max2_int min2_int max_two min_two max_three min_three max_four min_four   -- for this text's walks alone
set_option linter.unusedVariables false
set_option linter.unusedSimpArgs false
/-! ### esc_TQuote: function 20 -/
def esc_TQuote.f (k : Nat) (a0 : ByteArray) : Option (ByteArray) := (esc_quote.f k a0 true).bind fun t506 => (some t506)
set_option maxHeartbeats 8000000 in
set_option maxRecDepth 100000 in
theorem esc_TQuote.calls (k : Nat) (a0 : ByteArray) (r : ByteArray) (w : World) (h : esc_TQuote.f k a0 = some r) :
    Calls Tryd.prog 20 #[.string a0] w fun e w' => e = .returned (.string r) ∧ Below w.heap.size w w' := by
  have HB := Aside0.mk (Below.refl w.heap.size w)
  have H : ((esc_quote.f k a0 true).bind fun t506 => (some t506)) = some r := h
  clear h
  replace H := Option.bind_eq_some_iff.mp H
  obtain ⟨t506, A20, H⟩ := H
  replace H : (some t506) = some r := H
  have A2 := Aside0.mk A20
  clear A20
  obtain rfl := Option.some.inj H
  go_enter Tryd.func20, Tryd.ntmps20
  go_wp2_with (first | ((with_reducible refine gate_callee (f := 45) rfl ?_); refine goesL_ (some 4) rfl rfl Tryd.func45 (by kernel_rfl) rfl #[.string a0, .bool true] rfl (by (try simp only [List.map_toArray, List.map_cons, List.map_nil]); first | done | rfl | (simp only [List.length_drop, List.length_take]; rfl)) ?_; (with_reducible refine (esc_quote.calls k a0 true t506 _ A2.out).mono ?_); rintro e w3 ⟨rfl, hb⟩; refine ⟨_, rfl, ?_⟩; have n0_ := Aside0.mk (below_step (by repeat (first | (with_reducible first | exact HB.out | apply below_alloc | apply pw_below_drewN | apply below_drew1) | exact HB.out)) hb); clear HB; have HB := n0_; clear n0_; (try clear hb); (try clear hb2); (try clear hk); (try clear hi)))
  go_ret
  exact ⟨by first | rfl | (simp [errW_none, errW_some] <;> rfl) | (simp [*, errW_none, errW_some, bne]; done) | (simp [*, errW_none, errW_some] <;> rfl), by repeat (first | (with_reducible first | exact HB.out | apply below_alloc | apply pw_below_drewN | apply below_drew1) | exact HB.out)⟩
end Go.Proofs.YtoanbmggffkmgaaDoor.P
end
section
namespace Go.Proofs.YtoanbmggffkmgaaDoor.La
/-- A byte that may stand in a bare key. -/
def bareB (b : Int) : Bool := (decide (97 ≤ b) && decide (b ≤ 122)) || ((decide (65 ≤ b) && decide (b ≤ 90)) || ((decide (48 ≤ b) && decide (b ≤ 57)) || (decide (b = 95) || decide (b = 45))))
def bareS (l : List Int) : Bool := decide (l ≠ []) && l.all bareB
end Go.Proofs.YtoanbmggffkmgaaDoor.La
namespace Go.Proofs.YtoanbmggffkmgaaDoor.P
open Go.RowKit Go.Proofs.YtoanbmggffkmgaaDoor.La Go.Proofs.YtoanbmggffkmgaaDoorW.PrintWords Go.Proofs.YtoanbmggffkmgaaDoorW.PrintLast Go.Proofs.YtoanbmggffkmgaaDoorW.PrintMore
theorem all_drop {l : List Int} {k : Nat} (hk : k < l.length) (p : Int → Bool) : (l.drop k).all p = (p (l.getD k 0) && (l.drop (k + 1)).all p) := by
  rw [List.drop_eq_getElem_cons hk, List.all_cons, List.getD_eq_getElem?_getD, List.getElem?_eq_getElem hk]
  rfl
def BareRel (s : ByteArray) (r : Bool) (i : Value) : Prop := ∃ k : Nat, k ≤ s.size ∧ i = .int .i64 k ∧ r = ((bytesOf s).drop k).all bareB
set_option maxRecDepth 100000 in
set_option maxHeartbeats 4000000 in
theorem bare_walk (s : ByteArray) (h1 : 1 ≤ s.size) (h8 : s.size ≤ 140737488355328) (w : World) :
    Calls Tryd.prog 22 #[.string s] w fun e w' => e = .returned (.bool ((bytesOf s).all bareB)) ∧ Below w.heap.size w w' := by
  have kb := print_bytes (P := Tryd.prog) 9 46 5 Tryd.underlying9 Tryd.underlying46 Tryd.underlying5 s w
  have hr := bytes_reads w 5 s (by omega)
  have hb := bytes_below (Below.refl w.heap.size w) (Nat.le_refl _) 5 s
  generalize Lib.bytesWorld w 5 s = W1 at kb hr hb
  generalize grownCap w s.size 0 5 = cp at kb
  have hne : s.toList.isEmpty = false := by
    cases hl : s.toList with
    | nil =>
      have := (toList_nil_iff s).1 hl
      have h2 := size_of s
      rw [this] at h2
      simp at h2
      omega
    | cons a t => rfl
  generalize hres : (bytesOf s).all bareB = res
  have HR := Lib.hid hres
  clear hres
  go_enter Tryd.func22, Tryd.ntmps22
  go_wp2_with fail
  go_loop [8] (BareRel s res) (fun i => s.size - (intOf i).toNat)
  case atStart => exact ⟨0, Nat.zero_le _, rfl, by rw [List.drop_zero]; exact HR.out.symm⟩
  case round =>
    obtain ⟨k, hk, rfl, hx⟩ := hrel
    have HX := Lib.hid hx
    clear hx
    by_cases hlt : k < s.size
    · have hc : W1.cell? ⟨w.heap.size, k, none⟩ = some (.int .u8 (bt s k)) := by
        obtain ⟨ad, e, h⟩ := hr.2.2 (by omega)
        obtain rfl := Option.some.inj e
        have := h k hlt
        rw [add_plain] at this
        rw [this, bt_get]
        rfl
      have hbr := bt_range s k
      have hbt : bt s (k : Int) = (bytesOf s).getD k 0 := by rw [bt_get]; rfl
      have HB := Lib.hid (show res = (bareB (bt s (k : Int)) && ((bytesOf s).drop (k + 1)).all bareB) by rw [HX.out, all_drop (by rw [size_of]; exact hlt), hbt])
      clear hbt HX
      generalize bt s (k : Int) = b at hc hbr HB
      by_cases hbare : bareB b = true
      · have HN := Lib.hid (show res = ((bytesOf s).drop (k + 1)).all bareB by rw [HB.out, hbare, Bool.true_and])
        have cases4 : (97 ≤ b ∧ b ≤ 122) ∨ (65 ≤ b ∧ b ≤ 90) ∨ (48 ≤ b ∧ b ≤ 57) ∨ b = 95 ∨ b = 45 := by
          unfold bareB at hbare
          simp at hbare
          omega
        clear HB hbare
        rcases cases4 with ⟨c1, c2⟩ | ⟨c1, c2⟩ | ⟨c1, c2⟩ | rfl | rfl
        all_goals
          go_wp2
          go_round
          case rel => exact ⟨k + 1, hlt, by go_num, HN.out⟩
          case measure => simp [intOf]; omega
      · have HN := Lib.hid (show res = false by rw [HB.out, Bool.eq_false_iff.2 hbare, Bool.false_and])
        have cases7 : b < 45 ∨ b = 46 ∨ b = 47 ∨ (58 ≤ b ∧ b < 65) ∨ (91 ≤ b ∧ b < 95) ∨ b = 96 ∨ 123 ≤ b := by
          unfold bareB at hbare
          simp at hbare
          omega
        have e95 : (b == 95) = false := beq_eq_false_iff_ne.2 (by omega)
        have e45 : (b == 45) = false := beq_eq_false_iff_ne.2 (by omega)
        clear HB hbare
        rcases cases7 with c1 | rfl | rfl | ⟨c1, c2⟩ | ⟨c1, c2⟩ | rfl | c1
        all_goals
          (try have d57 : decide (b ≤ 57) = false := decide_eq_false (by omega))
          (try have d90 : decide (b ≤ 90) = false := decide_eq_false (by omega))
          (try have d122 : decide (b ≤ 122) = false := decide_eq_false (by omega))
          go_wp2
          go_ret
          exact ⟨by rw [HN.out]; rfl, hb⟩
    · obtain rfl : k = s.size := by omega
      have HN := Lib.hid (show res = true by rw [HX.out, List.drop_eq_nil_of_le (by rw [size_of]; omega)]; rfl)
      clear HX
      go_wp2
      go_ret
      exact ⟨by rw [HN.out]; rfl, hb⟩
def esc_Bare.f (a0 : ByteArray) : Option Bool := if a0.size ≤ 140737488355328 then some (bareS (bytesOf a0)) else none
theorem esc_Bare.calls (a0 : ByteArray) (r : Bool) (w : World) (h : esc_Bare.f a0 = some r) :
    Calls Tryd.prog 22 #[.string a0] w fun e w' => e = .returned (.bool r) ∧ Below w.heap.size w w' := by
  unfold esc_Bare.f at h
  split at h
  · rename_i hs
    obtain rfl := Option.some.inj h
    by_cases h0 : a0.size = 0
    · obtain rfl : a0 = ⟨#[]⟩ := bytesOf_inj (List.length_eq_zero_iff.1 (by rw [size_of]; exact h0))
      have kb := print_bytes (P := Tryd.prog) 9 46 5 Tryd.underlying9 Tryd.underlying46 Tryd.underlying5 ⟨#[]⟩ w
      have hb := bytes_below (Below.refl w.heap.size w) (Nat.le_refl _) 5 ⟨#[]⟩
      generalize Lib.bytesWorld w 5 ⟨#[]⟩ = W1 at kb hb
      generalize grownCap w (⟨#[]⟩ : ByteArray).size 0 5 = cp at kb
      go_enter Tryd.func22, Tryd.ntmps22
      go_wp2_with fail
      go_loop [8] (fun i => i = .int .i64 0) (fun _ => 0)
      case atStart => rfl
      case round =>
        obtain rfl := hrel
        go_wp2
        go_ret
        exact ⟨rfl, hb⟩
    · refine (bare_walk a0 (by omega) hs w).mono ?_
      rintro e w' ⟨rfl, hb⟩
      refine ⟨?_, hb⟩
      unfold bareS
      rw [decide_eq_true (show bytesOf a0 ≠ [] from fun e => h0 (by rw [← size_of, e]; rfl)), Bool.true_and]
  · cases h
end Go.Proofs.YtoanbmggffkmgaaDoor.P
end
section
namespace Go.Proofs.YtoanbmggffkmgaaDoor.P
open Go.RowKit Go.Proofs.YtoanbmggffkmgaaDoor.La Go.Proofs.YtoanbmggffkmgaaDoorW.PrintWords Go.Proofs.YtoanbmggffkmgaaDoorW.PrintLast Go.Proofs.YtoanbmggffkmgaaDoorW.PrintMore
theorem awake6_1 : esc_Unquote.f (⟨#[34, 92, 117, 48, 48, 52, 49, 34]⟩ : ByteArray) 0 = some (⟨#[65]⟩, 8, -1) := by kernel_rfl
theorem awake6_2 : esc_TUnquote.f (⟨#[39, 39, 39, 10, 97, 39, 98, 39, 39, 39]⟩ : ByteArray) 0 = some (⟨#[97, 39, 98]⟩, 10, -1) := by kernel_rfl
theorem awake6_3 : esc_Hex.f (⟨#[49, 70]⟩ : ByteArray) = some (31, true) := by kernel_rfl
theorem awake6_4 : esc_Quote.f 30 (⟨#[97, 10, 98]⟩ : ByteArray) = some ⟨#[34, 97, 92, 110, 98, 34]⟩ := by kernel_rfl
theorem awake6_5 : esc_TQuote.f 30 (⟨#[127]⟩ : ByteArray) = some ⟨#[34, 92, 117, 48, 48, 55, 102, 34]⟩ := by kernel_rfl
theorem awake6_6 : esc_Bare.f (⟨#[97, 45, 49]⟩ : ByteArray) = some true := by kernel_rfl
theorem awake6_7 : esc_Bare.f (⟨#[]⟩ : ByteArray) = some false := by kernel_rfl
set_option maxHeartbeats 4000000 in
theorem awake6_walk (w : World) : Calls Tryd.prog 15 #[] w fun e w' => e = .returned (.bool true) ∧ Below w.heap.size w w' := by
  go_enter Tryd.func15, Tryd.ntmps15
  go_wp2_with fail
  refine (esc_Unquote.calls _ _ _ _ _ _ awake6_1).mono ?_
  rintro e w1 ⟨rfl, hb⟩
  go_wp2_with fail
  refine (esc_TUnquote.calls _ _ _ _ _ _ awake6_2).mono ?_
  rintro e w2 ⟨rfl, hb2⟩
  replace hb := below_step hb hb2
  go_wp2_with fail
  refine (esc_Hex.calls _ _ _ _ awake6_3).mono ?_
  rintro e w3 ⟨rfl, hb3⟩
  replace hb := below_step hb hb3
  go_wp2_with fail
  refine (esc_Quote.calls 30 _ _ _ awake6_4).mono ?_
  rintro e w4 ⟨rfl, hb4⟩
  replace hb := below_step hb hb4
  go_wp2_with fail
  refine (esc_TQuote.calls 30 _ _ _ awake6_5).mono ?_
  rintro e w5 ⟨rfl, hb5⟩
  replace hb := below_step hb hb5
  go_wp2_with fail
  refine (esc_Bare.calls _ _ _ awake6_6).mono ?_
  rintro e w6 ⟨rfl, hb6⟩
  replace hb := below_step hb hb6
  go_wp2_with fail
  refine (esc_Bare.calls _ _ _ awake6_7).mono ?_
  rintro e w7 ⟨rfl, hb7⟩
  replace hb := below_step hb hb7
  go_wp2
  go_ret
  exact ⟨rfl, by first | exact hb | exact pw_below_drewN hb _⟩
def dragomanlaw6_awake.f : Option Bool := some true
theorem dragomanlaw6_awake.calls (r : Bool) (w : World) (h : dragomanlaw6_awake.f = some r) : Calls Tryd.prog 15 #[] w fun e w' => e = .returned (.bool r) ∧ Below w.heap.size w w' := by
  obtain rfl : true = r := Option.some.inj h
  exact awake6_walk w
end Go.Proofs.YtoanbmggffkmgaaDoor.P
end
section
namespace Go.Proofs.YtoanbmggffkmgaaDoor.P
open Go.RowKit Go.Proofs.YtoanbmggffkmgaaDoorW.PrintWords Go.Proofs.YtoanbmggffkmgaaDoorW.PrintLast Go.Proofs.YtoanbmggffkmgaaDoorW.PrintMore
attribute [local go_sem] max2_int min2_int max_two min_two max_three min_three max_four min_four   -- for this text's walks alone
set_option linter.unusedVariables false
set_option linter.unusedSimpArgs false
/-! ### dragomanlaw6_EscKnown: function 5 -/
def dragomanlaw6_EscKnown.f  : Option (Bool) := (dragomanlaw6_awake.f).bind fun t507 => (if t507 = true then ((esc_Unquote.f (⟨#[34, 92, 117, 100, 56, 48, 48, 120, 34]⟩ : ByteArray) 0).bind fun bt508 => ((esc_Unquote.f (⟨#[34, 97, 98]⟩ : ByteArray) 0).bind fun bt511 => ((esc_Unquote.f (⟨#[120]⟩ : ByteArray) 0).bind fun bt514 => ((esc_TUnquote.f (⟨#[34, 92, 47, 34]⟩ : ByteArray) 0).bind fun bt517 => ((esc_Unquote.f (⟨#[34, 92, 117, 100, 56, 51, 52, 92, 117, 100, 100, 49, 101, 34]⟩ : ByteArray) 0).bind fun bt520 => ((esc_TUnquote.f (⟨#[34, 34, 34, 97, 92, 10, 32, 32, 98, 34, 34, 34, 34, 34]⟩ : ByteArray) 0).bind fun bt523 => ((esc_Hex.f (⟨#[49, 50, 51, 52, 53, 54, 55, 56, 57]⟩ : ByteArray)).bind fun bt526 => (if bt508.2.2 = 1 then (if bt511.2.2 = 3 then (if bt514.2.2 = 0 then (if bt517.2.2 = 1 then (if bt520.2.2 = (-1) then (if bt520.1.toList = ([240, 157, 132, 158] : List UInt8) then (if bt523.2.2 = (-1) then (if bt523.1.toList = ([97, 98, 34, 34] : List UInt8) then (if bt523.2.1 = 14 then (some (!bt526.2)) else (some false)) else (some false)) else (some false)) else (some false)) else (some false)) else (some false)) else (some false)) else (some false)) else (some false))))))))) else (some false))
set_option maxHeartbeats 8000000 in
set_option maxRecDepth 100000 in
theorem dragomanlaw6_EscKnown.calls  (r : Bool) (w : World) (h : dragomanlaw6_EscKnown.f  = some r) :
    Calls Tryd.prog 5 #[] w fun e w' => e = .returned (.bool r) ∧ Below w.heap.size w w' := by
  have HB := Aside0.mk (Below.refl w.heap.size w)
  have H : ((dragomanlaw6_awake.f).bind fun t507 => (if t507 = true then ((esc_Unquote.f (⟨#[34, 92, 117, 100, 56, 48, 48, 120, 34]⟩ : ByteArray) 0).bind fun bt508 => ((esc_Unquote.f (⟨#[34, 97, 98]⟩ : ByteArray) 0).bind fun bt511 => ((esc_Unquote.f (⟨#[120]⟩ : ByteArray) 0).bind fun bt514 => ((esc_TUnquote.f (⟨#[34, 92, 47, 34]⟩ : ByteArray) 0).bind fun bt517 => ((esc_Unquote.f (⟨#[34, 92, 117, 100, 56, 51, 52, 92, 117, 100, 100, 49, 101, 34]⟩ : ByteArray) 0).bind fun bt520 => ((esc_TUnquote.f (⟨#[34, 34, 34, 97, 92, 10, 32, 32, 98, 34, 34, 34, 34, 34]⟩ : ByteArray) 0).bind fun bt523 => ((esc_Hex.f (⟨#[49, 50, 51, 52, 53, 54, 55, 56, 57]⟩ : ByteArray)).bind fun bt526 => (if bt508.2.2 = 1 then (if bt511.2.2 = 3 then (if bt514.2.2 = 0 then (if bt517.2.2 = 1 then (if bt520.2.2 = (-1) then (if bt520.1.toList = ([240, 157, 132, 158] : List UInt8) then (if bt523.2.2 = (-1) then (if bt523.1.toList = ([97, 98, 34, 34] : List UInt8) then (if bt523.2.1 = 14 then (some (!bt526.2)) else (some false)) else (some false)) else (some false)) else (some false)) else (some false)) else (some false)) else (some false)) else (some false)) else (some false))))))))) else (some false))) = some r := h
  clear h
  replace H := Option.bind_eq_some_iff.mp H
  obtain ⟨t507, A10, H⟩ := H
  replace H : (if t507 = true then ((esc_Unquote.f (⟨#[34, 92, 117, 100, 56, 48, 48, 120, 34]⟩ : ByteArray) 0).bind fun bt508 => ((esc_Unquote.f (⟨#[34, 97, 98]⟩ : ByteArray) 0).bind fun bt511 => ((esc_Unquote.f (⟨#[120]⟩ : ByteArray) 0).bind fun bt514 => ((esc_TUnquote.f (⟨#[34, 92, 47, 34]⟩ : ByteArray) 0).bind fun bt517 => ((esc_Unquote.f (⟨#[34, 92, 117, 100, 56, 51, 52, 92, 117, 100, 100, 49, 101, 34]⟩ : ByteArray) 0).bind fun bt520 => ((esc_TUnquote.f (⟨#[34, 34, 34, 97, 92, 10, 32, 32, 98, 34, 34, 34, 34, 34]⟩ : ByteArray) 0).bind fun bt523 => ((esc_Hex.f (⟨#[49, 50, 51, 52, 53, 54, 55, 56, 57]⟩ : ByteArray)).bind fun bt526 => (if bt508.2.2 = 1 then (if bt511.2.2 = 3 then (if bt514.2.2 = 0 then (if bt517.2.2 = 1 then (if bt520.2.2 = (-1) then (if bt520.1.toList = ([240, 157, 132, 158] : List UInt8) then (if bt523.2.2 = (-1) then (if bt523.1.toList = ([97, 98, 34, 34] : List UInt8) then (if bt523.2.1 = 14 then (some (!bt526.2)) else (some false)) else (some false)) else (some false)) else (some false)) else (some false)) else (some false)) else (some false)) else (some false)) else (some false))))))))) else (some false)) = some r := H
  have A1 := Aside0.mk A10
  clear A10
  by_cases c2 : t507 = true
  · subst c2
    have H1 : ((esc_Unquote.f (⟨#[34, 92, 117, 100, 56, 48, 48, 120, 34]⟩ : ByteArray) 0).bind fun bt508 => ((esc_Unquote.f (⟨#[34, 97, 98]⟩ : ByteArray) 0).bind fun bt511 => ((esc_Unquote.f (⟨#[120]⟩ : ByteArray) 0).bind fun bt514 => ((esc_TUnquote.f (⟨#[34, 92, 47, 34]⟩ : ByteArray) 0).bind fun bt517 => ((esc_Unquote.f (⟨#[34, 92, 117, 100, 56, 51, 52, 92, 117, 100, 100, 49, 101, 34]⟩ : ByteArray) 0).bind fun bt520 => ((esc_TUnquote.f (⟨#[34, 34, 34, 97, 92, 10, 32, 32, 98, 34, 34, 34, 34, 34]⟩ : ByteArray) 0).bind fun bt523 => ((esc_Hex.f (⟨#[49, 50, 51, 52, 53, 54, 55, 56, 57]⟩ : ByteArray)).bind fun bt526 => (if bt508.2.2 = 1 then (if bt511.2.2 = 3 then (if bt514.2.2 = 0 then (if bt517.2.2 = 1 then (if bt520.2.2 = (-1) then (if bt520.1.toList = ([240, 157, 132, 158] : List UInt8) then (if bt523.2.2 = (-1) then (if bt523.1.toList = ([97, 98, 34, 34] : List UInt8) then (if bt523.2.1 = 14 then (some (!bt526.2)) else (some false)) else (some false)) else (some false)) else (some false)) else (some false)) else (some false)) else (some false)) else (some false)) else (some false))))))))) = some r := by rw [if_pos rfl] at H; exact H
    clear H
    have H := H1
    clear H1
    replace H := Option.bind_eq_some_iff.mp H
    obtain ⟨⟨t508, t509, t510⟩, A30, H⟩ := H
    replace H : ((esc_Unquote.f (⟨#[34, 97, 98]⟩ : ByteArray) 0).bind fun bt511 => ((esc_Unquote.f (⟨#[120]⟩ : ByteArray) 0).bind fun bt514 => ((esc_TUnquote.f (⟨#[34, 92, 47, 34]⟩ : ByteArray) 0).bind fun bt517 => ((esc_Unquote.f (⟨#[34, 92, 117, 100, 56, 51, 52, 92, 117, 100, 100, 49, 101, 34]⟩ : ByteArray) 0).bind fun bt520 => ((esc_TUnquote.f (⟨#[34, 34, 34, 97, 92, 10, 32, 32, 98, 34, 34, 34, 34, 34]⟩ : ByteArray) 0).bind fun bt523 => ((esc_Hex.f (⟨#[49, 50, 51, 52, 53, 54, 55, 56, 57]⟩ : ByteArray)).bind fun bt526 => (if t510 = 1 then (if bt511.2.2 = 3 then (if bt514.2.2 = 0 then (if bt517.2.2 = 1 then (if bt520.2.2 = (-1) then (if bt520.1.toList = ([240, 157, 132, 158] : List UInt8) then (if bt523.2.2 = (-1) then (if bt523.1.toList = ([97, 98, 34, 34] : List UInt8) then (if bt523.2.1 = 14 then (some (!bt526.2)) else (some false)) else (some false)) else (some false)) else (some false)) else (some false)) else (some false)) else (some false)) else (some false)) else (some false)))))))) = some r := H
    have A3 := Aside0.mk A30
    clear A30
    replace H := Option.bind_eq_some_iff.mp H
    obtain ⟨⟨t511, t512, t513⟩, A40, H⟩ := H
    replace H : ((esc_Unquote.f (⟨#[120]⟩ : ByteArray) 0).bind fun bt514 => ((esc_TUnquote.f (⟨#[34, 92, 47, 34]⟩ : ByteArray) 0).bind fun bt517 => ((esc_Unquote.f (⟨#[34, 92, 117, 100, 56, 51, 52, 92, 117, 100, 100, 49, 101, 34]⟩ : ByteArray) 0).bind fun bt520 => ((esc_TUnquote.f (⟨#[34, 34, 34, 97, 92, 10, 32, 32, 98, 34, 34, 34, 34, 34]⟩ : ByteArray) 0).bind fun bt523 => ((esc_Hex.f (⟨#[49, 50, 51, 52, 53, 54, 55, 56, 57]⟩ : ByteArray)).bind fun bt526 => (if t510 = 1 then (if t513 = 3 then (if bt514.2.2 = 0 then (if bt517.2.2 = 1 then (if bt520.2.2 = (-1) then (if bt520.1.toList = ([240, 157, 132, 158] : List UInt8) then (if bt523.2.2 = (-1) then (if bt523.1.toList = ([97, 98, 34, 34] : List UInt8) then (if bt523.2.1 = 14 then (some (!bt526.2)) else (some false)) else (some false)) else (some false)) else (some false)) else (some false)) else (some false)) else (some false)) else (some false)) else (some false))))))) = some r := H
    have A4 := Aside0.mk A40
    clear A40
    replace H := Option.bind_eq_some_iff.mp H
    obtain ⟨⟨t514, t515, t516⟩, A50, H⟩ := H
    replace H : ((esc_TUnquote.f (⟨#[34, 92, 47, 34]⟩ : ByteArray) 0).bind fun bt517 => ((esc_Unquote.f (⟨#[34, 92, 117, 100, 56, 51, 52, 92, 117, 100, 100, 49, 101, 34]⟩ : ByteArray) 0).bind fun bt520 => ((esc_TUnquote.f (⟨#[34, 34, 34, 97, 92, 10, 32, 32, 98, 34, 34, 34, 34, 34]⟩ : ByteArray) 0).bind fun bt523 => ((esc_Hex.f (⟨#[49, 50, 51, 52, 53, 54, 55, 56, 57]⟩ : ByteArray)).bind fun bt526 => (if t510 = 1 then (if t513 = 3 then (if t516 = 0 then (if bt517.2.2 = 1 then (if bt520.2.2 = (-1) then (if bt520.1.toList = ([240, 157, 132, 158] : List UInt8) then (if bt523.2.2 = (-1) then (if bt523.1.toList = ([97, 98, 34, 34] : List UInt8) then (if bt523.2.1 = 14 then (some (!bt526.2)) else (some false)) else (some false)) else (some false)) else (some false)) else (some false)) else (some false)) else (some false)) else (some false)) else (some false)))))) = some r := H
    have A5 := Aside0.mk A50
    clear A50
    replace H := Option.bind_eq_some_iff.mp H
    obtain ⟨⟨t517, t518, t519⟩, A60, H⟩ := H
    replace H : ((esc_Unquote.f (⟨#[34, 92, 117, 100, 56, 51, 52, 92, 117, 100, 100, 49, 101, 34]⟩ : ByteArray) 0).bind fun bt520 => ((esc_TUnquote.f (⟨#[34, 34, 34, 97, 92, 10, 32, 32, 98, 34, 34, 34, 34, 34]⟩ : ByteArray) 0).bind fun bt523 => ((esc_Hex.f (⟨#[49, 50, 51, 52, 53, 54, 55, 56, 57]⟩ : ByteArray)).bind fun bt526 => (if t510 = 1 then (if t513 = 3 then (if t516 = 0 then (if t519 = 1 then (if bt520.2.2 = (-1) then (if bt520.1.toList = ([240, 157, 132, 158] : List UInt8) then (if bt523.2.2 = (-1) then (if bt523.1.toList = ([97, 98, 34, 34] : List UInt8) then (if bt523.2.1 = 14 then (some (!bt526.2)) else (some false)) else (some false)) else (some false)) else (some false)) else (some false)) else (some false)) else (some false)) else (some false)) else (some false))))) = some r := H
    have A6 := Aside0.mk A60
    clear A60
    replace H := Option.bind_eq_some_iff.mp H
    obtain ⟨⟨t520, t521, t522⟩, A70, H⟩ := H
    replace H : ((esc_TUnquote.f (⟨#[34, 34, 34, 97, 92, 10, 32, 32, 98, 34, 34, 34, 34, 34]⟩ : ByteArray) 0).bind fun bt523 => ((esc_Hex.f (⟨#[49, 50, 51, 52, 53, 54, 55, 56, 57]⟩ : ByteArray)).bind fun bt526 => (if t510 = 1 then (if t513 = 3 then (if t516 = 0 then (if t519 = 1 then (if t522 = (-1) then (if t520.toList = ([240, 157, 132, 158] : List UInt8) then (if bt523.2.2 = (-1) then (if bt523.1.toList = ([97, 98, 34, 34] : List UInt8) then (if bt523.2.1 = 14 then (some (!bt526.2)) else (some false)) else (some false)) else (some false)) else (some false)) else (some false)) else (some false)) else (some false)) else (some false)) else (some false)))) = some r := H
    have A7 := Aside0.mk A70
    clear A70
    replace H := Option.bind_eq_some_iff.mp H
    obtain ⟨⟨t523, t524, t525⟩, A80, H⟩ := H
    replace H : ((esc_Hex.f (⟨#[49, 50, 51, 52, 53, 54, 55, 56, 57]⟩ : ByteArray)).bind fun bt526 => (if t510 = 1 then (if t513 = 3 then (if t516 = 0 then (if t519 = 1 then (if t522 = (-1) then (if t520.toList = ([240, 157, 132, 158] : List UInt8) then (if t525 = (-1) then (if t523.toList = ([97, 98, 34, 34] : List UInt8) then (if t524 = 14 then (some (!bt526.2)) else (some false)) else (some false)) else (some false)) else (some false)) else (some false)) else (some false)) else (some false)) else (some false)) else (some false))) = some r := H
    have A8 := Aside0.mk A80
    clear A80
    replace H := Option.bind_eq_some_iff.mp H
    obtain ⟨⟨t526, t527⟩, A90, H⟩ := H
    replace H : (if t510 = 1 then (if t513 = 3 then (if t516 = 0 then (if t519 = 1 then (if t522 = (-1) then (if t520.toList = ([240, 157, 132, 158] : List UInt8) then (if t525 = (-1) then (if t523.toList = ([97, 98, 34, 34] : List UInt8) then (if t524 = 14 then (some (!t527)) else (some false)) else (some false)) else (some false)) else (some false)) else (some false)) else (some false)) else (some false)) else (some false)) else (some false)) = some r := H
    have A9 := Aside0.mk A90
    clear A90
    by_cases c10 : t510 = 1
    · rw [if_pos c10] at H
      have c10b0 : (t510 == 1) = true := beq_iff_eq.mpr c10
      have c10b1 : (t510 != 1) = false := bne_eq_false_iff_eq.mpr c10
      clear c10
      by_cases c11 : t513 = 3
      · rw [if_pos c11] at H
        have c11b0 : (t513 == 3) = true := beq_iff_eq.mpr c11
        have c11b1 : (t513 != 3) = false := bne_eq_false_iff_eq.mpr c11
        clear c11
        by_cases c12 : t516 = 0
        · rw [if_pos c12] at H
          have c12b0 : (t516 == 0) = true := beq_iff_eq.mpr c12
          have c12b1 : (t516 != 0) = false := bne_eq_false_iff_eq.mpr c12
          clear c12
          by_cases c13 : t519 = 1
          · rw [if_pos c13] at H
            have c13b0 : (t519 == 1) = true := beq_iff_eq.mpr c13
            have c13b1 : (t519 != 1) = false := bne_eq_false_iff_eq.mpr c13
            clear c13
            by_cases c14 : t522 = (-1)
            · rw [if_pos c14] at H
              have c14b0 : (t522 == (-1)) = true := beq_iff_eq.mpr c14
              have c14b1 : (t522 != (-1)) = false := bne_eq_false_iff_eq.mpr c14
              clear c14
              by_cases c15 : t520.toList = ([240, 157, 132, 158] : List UInt8)
              · rw [if_pos c15] at H
                have c15b0 : (t520.toList == ([240, 157, 132, 158] : List UInt8)) = true := beq_iff_eq.mpr c15
                have c15b1 : (t520.toList != ([240, 157, 132, 158] : List UInt8)) = false := bne_eq_false_iff_eq.mpr c15
                clear c15
                by_cases c16 : t525 = (-1)
                · rw [if_pos c16] at H
                  have c16b0 : (t525 == (-1)) = true := beq_iff_eq.mpr c16
                  have c16b1 : (t525 != (-1)) = false := bne_eq_false_iff_eq.mpr c16
                  clear c16
                  by_cases c17 : t523.toList = ([97, 98, 34, 34] : List UInt8)
                  · rw [if_pos c17] at H
                    have c17b0 : (t523.toList == ([97, 98, 34, 34] : List UInt8)) = true := beq_iff_eq.mpr c17
                    have c17b1 : (t523.toList != ([97, 98, 34, 34] : List UInt8)) = false := bne_eq_false_iff_eq.mpr c17
                    clear c17
                    by_cases c18 : t524 = 14
                    · rw [if_pos c18] at H
                      have c18b0 : (t524 == 14) = true := beq_iff_eq.mpr c18
                      have c18b1 : (t524 != 14) = false := bne_eq_false_iff_eq.mpr c18
                      clear c18
                      obtain rfl := Option.some.inj H
                      go_enter Tryd.func5, Tryd.ntmps5
                      go_wp2_with (first | ((with_reducible refine gate_callee (f := 15) rfl ?_); refine goesL_ (some 21) rfl rfl Tryd.func15 (by kernel_rfl) rfl #[] rfl (by (try simp only [List.map_toArray, List.map_cons, List.map_nil]); first | done | rfl | (simp only [List.length_drop, List.length_take]; rfl)) ?_; (with_reducible refine (dragomanlaw6_awake.calls  true _ A1.out).mono ?_); rintro e w19 ⟨rfl, hb⟩; refine ⟨_, rfl, ?_⟩; have n0_ := Aside0.mk (below_step (by repeat (first | (with_reducible first | exact HB.out | apply below_alloc | apply pw_below_drewN | apply below_drew1) | exact HB.out)) hb); clear HB; have HB := n0_; clear n0_; (try clear hb); (try clear hb2); (try clear hk); (try clear hi)) | ((with_reducible refine gate_callee (f := 16) rfl ?_); refine goesL_ (some 24) rfl rfl Tryd.func16 (by kernel_rfl) rfl #[.string (⟨#[34, 92, 117, 100, 56, 48, 48, 120, 34]⟩ : ByteArray), .int .i64 0] rfl (by (try simp only [List.map_toArray, List.map_cons, List.map_nil]); first | done | rfl | (simp only [List.length_drop, List.length_take]; rfl)) ?_; (with_reducible refine (esc_Unquote.calls (⟨#[34, 92, 117, 100, 56, 48, 48, 120, 34]⟩ : ByteArray) 0 t508 t509 t510 _ A3.out).mono ?_); rintro e w20 ⟨rfl, hb⟩; refine ⟨_, rfl, ?_⟩; have n0_ := Aside0.mk (below_step (by repeat (first | (with_reducible first | exact HB.out | apply below_alloc | apply pw_below_drewN | apply below_drew1) | exact HB.out)) hb); clear HB; have HB := n0_; clear n0_; (try clear hb); (try clear hb2); (try clear hk); (try clear hi)) | ((with_reducible refine gate_callee (f := 16) rfl ?_); refine goesL_ (some 29) rfl rfl Tryd.func16 (by kernel_rfl) rfl #[.string (⟨#[34, 97, 98]⟩ : ByteArray), .int .i64 0] rfl (by (try simp only [List.map_toArray, List.map_cons, List.map_nil]); first | done | rfl | (simp only [List.length_drop, List.length_take]; rfl)) ?_; (with_reducible refine (esc_Unquote.calls (⟨#[34, 97, 98]⟩ : ByteArray) 0 t511 t512 t513 _ A4.out).mono ?_); rintro e w21 ⟨rfl, hb⟩; refine ⟨_, rfl, ?_⟩; have n0_ := Aside0.mk (below_step (by repeat (first | (with_reducible first | exact HB.out | apply below_alloc | apply pw_below_drewN | apply below_drew1) | exact HB.out)) hb); clear HB; have HB := n0_; clear n0_; (try clear hb); (try clear hb2); (try clear hk); (try clear hi)) | ((with_reducible refine gate_callee (f := 16) rfl ?_); refine goesL_ (some 34) rfl rfl Tryd.func16 (by kernel_rfl) rfl #[.string (⟨#[120]⟩ : ByteArray), .int .i64 0] rfl (by (try simp only [List.map_toArray, List.map_cons, List.map_nil]); first | done | rfl | (simp only [List.length_drop, List.length_take]; rfl)) ?_; (with_reducible refine (esc_Unquote.calls (⟨#[120]⟩ : ByteArray) 0 t514 t515 t516 _ A5.out).mono ?_); rintro e w22 ⟨rfl, hb⟩; refine ⟨_, rfl, ?_⟩; have n0_ := Aside0.mk (below_step (by repeat (first | (with_reducible first | exact HB.out | apply below_alloc | apply pw_below_drewN | apply below_drew1) | exact HB.out)) hb); clear HB; have HB := n0_; clear n0_; (try clear hb); (try clear hb2); (try clear hk); (try clear hi)) | ((with_reducible refine gate_callee (f := 17) rfl ?_); refine goesL_ (some 39) rfl rfl Tryd.func17 (by kernel_rfl) rfl #[.string (⟨#[34, 92, 47, 34]⟩ : ByteArray), .int .i64 0] rfl (by (try simp only [List.map_toArray, List.map_cons, List.map_nil]); first | done | rfl | (simp only [List.length_drop, List.length_take]; rfl)) ?_; (with_reducible refine (esc_TUnquote.calls (⟨#[34, 92, 47, 34]⟩ : ByteArray) 0 t517 t518 t519 _ A6.out).mono ?_); rintro e w23 ⟨rfl, hb⟩; refine ⟨_, rfl, ?_⟩; have n0_ := Aside0.mk (below_step (by repeat (first | (with_reducible first | exact HB.out | apply below_alloc | apply pw_below_drewN | apply below_drew1) | exact HB.out)) hb); clear HB; have HB := n0_; clear n0_; (try clear hb); (try clear hb2); (try clear hk); (try clear hi)) | ((with_reducible refine gate_callee (f := 16) rfl ?_); refine goesL_ (some 44) rfl rfl Tryd.func16 (by kernel_rfl) rfl #[.string (⟨#[34, 92, 117, 100, 56, 51, 52, 92, 117, 100, 100, 49, 101, 34]⟩ : ByteArray), .int .i64 0] rfl (by (try simp only [List.map_toArray, List.map_cons, List.map_nil]); first | done | rfl | (simp only [List.length_drop, List.length_take]; rfl)) ?_; (with_reducible refine (esc_Unquote.calls (⟨#[34, 92, 117, 100, 56, 51, 52, 92, 117, 100, 100, 49, 101, 34]⟩ : ByteArray) 0 t520 t521 t522 _ A7.out).mono ?_); rintro e w24 ⟨rfl, hb⟩; refine ⟨_, rfl, ?_⟩; have n0_ := Aside0.mk (below_step (by repeat (first | (with_reducible first | exact HB.out | apply below_alloc | apply pw_below_drewN | apply below_drew1) | exact HB.out)) hb); clear HB; have HB := n0_; clear n0_; (try clear hb); (try clear hb2); (try clear hk); (try clear hi)) | ((with_reducible refine gate_callee (f := 17) rfl ?_); refine goesL_ (some 49) rfl rfl Tryd.func17 (by kernel_rfl) rfl #[.string (⟨#[34, 34, 34, 97, 92, 10, 32, 32, 98, 34, 34, 34, 34, 34]⟩ : ByteArray), .int .i64 0] rfl (by (try simp only [List.map_toArray, List.map_cons, List.map_nil]); first | done | rfl | (simp only [List.length_drop, List.length_take]; rfl)) ?_; (with_reducible refine (esc_TUnquote.calls (⟨#[34, 34, 34, 97, 92, 10, 32, 32, 98, 34, 34, 34, 34, 34]⟩ : ByteArray) 0 t523 t524 t525 _ A8.out).mono ?_); rintro e w25 ⟨rfl, hb⟩; refine ⟨_, rfl, ?_⟩; have n0_ := Aside0.mk (below_step (by repeat (first | (with_reducible first | exact HB.out | apply below_alloc | apply pw_below_drewN | apply below_drew1) | exact HB.out)) hb); clear HB; have HB := n0_; clear n0_; (try clear hb); (try clear hb2); (try clear hk); (try clear hi)) | ((with_reducible refine gate_callee (f := 18) rfl ?_); refine goesL_ (some 54) rfl rfl Tryd.func18 (by kernel_rfl) rfl #[.string (⟨#[49, 50, 51, 52, 53, 54, 55, 56, 57]⟩ : ByteArray)] rfl (by (try simp only [List.map_toArray, List.map_cons, List.map_nil]); first | done | rfl | (simp only [List.length_drop, List.length_take]; rfl)) ?_; (with_reducible refine (esc_Hex.calls (⟨#[49, 50, 51, 52, 53, 54, 55, 56, 57]⟩ : ByteArray) t526 t527 _ A9.out).mono ?_); rintro e w26 ⟨rfl, hb⟩; refine ⟨_, rfl, ?_⟩; have n0_ := Aside0.mk (below_step (by repeat (first | (with_reducible first | exact HB.out | apply below_alloc | apply pw_below_drewN | apply below_drew1) | exact HB.out)) hb); clear HB; have HB := n0_; clear n0_; (try clear hb); (try clear hb2); (try clear hk); (try clear hi)))
                      go_ret
                      exact ⟨by first | rfl | (simp [errW_none, errW_some] <;> rfl) | (simp [*, errW_none, errW_some, bne]; done) | (simp [*, errW_none, errW_some] <;> rfl), by repeat (first | (with_reducible first | exact HB.out | apply below_alloc | apply pw_below_drewN | apply below_drew1) | exact HB.out)⟩
                    · rw [if_neg c18] at H
                      have c18b0 : (t524 == 14) = false := beq_eq_false_iff_ne.mpr c18
                      have c18b1 : (t524 != 14) = true := bne_iff_ne.mpr c18
                      obtain rfl := Option.some.inj H
                      go_enter Tryd.func5, Tryd.ntmps5
                      go_wp2_with (first | ((with_reducible refine gate_callee (f := 15) rfl ?_); refine goesL_ (some 21) rfl rfl Tryd.func15 (by kernel_rfl) rfl #[] rfl (by (try simp only [List.map_toArray, List.map_cons, List.map_nil]); first | done | rfl | (simp only [List.length_drop, List.length_take]; rfl)) ?_; (with_reducible refine (dragomanlaw6_awake.calls  true _ A1.out).mono ?_); rintro e w27 ⟨rfl, hb⟩; refine ⟨_, rfl, ?_⟩; have n0_ := Aside0.mk (below_step (by repeat (first | (with_reducible first | exact HB.out | apply below_alloc | apply pw_below_drewN | apply below_drew1) | exact HB.out)) hb); clear HB; have HB := n0_; clear n0_; (try clear hb); (try clear hb2); (try clear hk); (try clear hi)) | ((with_reducible refine gate_callee (f := 16) rfl ?_); refine goesL_ (some 24) rfl rfl Tryd.func16 (by kernel_rfl) rfl #[.string (⟨#[34, 92, 117, 100, 56, 48, 48, 120, 34]⟩ : ByteArray), .int .i64 0] rfl (by (try simp only [List.map_toArray, List.map_cons, List.map_nil]); first | done | rfl | (simp only [List.length_drop, List.length_take]; rfl)) ?_; (with_reducible refine (esc_Unquote.calls (⟨#[34, 92, 117, 100, 56, 48, 48, 120, 34]⟩ : ByteArray) 0 t508 t509 t510 _ A3.out).mono ?_); rintro e w28 ⟨rfl, hb⟩; refine ⟨_, rfl, ?_⟩; have n0_ := Aside0.mk (below_step (by repeat (first | (with_reducible first | exact HB.out | apply below_alloc | apply pw_below_drewN | apply below_drew1) | exact HB.out)) hb); clear HB; have HB := n0_; clear n0_; (try clear hb); (try clear hb2); (try clear hk); (try clear hi)) | ((with_reducible refine gate_callee (f := 16) rfl ?_); refine goesL_ (some 29) rfl rfl Tryd.func16 (by kernel_rfl) rfl #[.string (⟨#[34, 97, 98]⟩ : ByteArray), .int .i64 0] rfl (by (try simp only [List.map_toArray, List.map_cons, List.map_nil]); first | done | rfl | (simp only [List.length_drop, List.length_take]; rfl)) ?_; (with_reducible refine (esc_Unquote.calls (⟨#[34, 97, 98]⟩ : ByteArray) 0 t511 t512 t513 _ A4.out).mono ?_); rintro e w29 ⟨rfl, hb⟩; refine ⟨_, rfl, ?_⟩; have n0_ := Aside0.mk (below_step (by repeat (first | (with_reducible first | exact HB.out | apply below_alloc | apply pw_below_drewN | apply below_drew1) | exact HB.out)) hb); clear HB; have HB := n0_; clear n0_; (try clear hb); (try clear hb2); (try clear hk); (try clear hi)) | ((with_reducible refine gate_callee (f := 16) rfl ?_); refine goesL_ (some 34) rfl rfl Tryd.func16 (by kernel_rfl) rfl #[.string (⟨#[120]⟩ : ByteArray), .int .i64 0] rfl (by (try simp only [List.map_toArray, List.map_cons, List.map_nil]); first | done | rfl | (simp only [List.length_drop, List.length_take]; rfl)) ?_; (with_reducible refine (esc_Unquote.calls (⟨#[120]⟩ : ByteArray) 0 t514 t515 t516 _ A5.out).mono ?_); rintro e w30 ⟨rfl, hb⟩; refine ⟨_, rfl, ?_⟩; have n0_ := Aside0.mk (below_step (by repeat (first | (with_reducible first | exact HB.out | apply below_alloc | apply pw_below_drewN | apply below_drew1) | exact HB.out)) hb); clear HB; have HB := n0_; clear n0_; (try clear hb); (try clear hb2); (try clear hk); (try clear hi)) | ((with_reducible refine gate_callee (f := 17) rfl ?_); refine goesL_ (some 39) rfl rfl Tryd.func17 (by kernel_rfl) rfl #[.string (⟨#[34, 92, 47, 34]⟩ : ByteArray), .int .i64 0] rfl (by (try simp only [List.map_toArray, List.map_cons, List.map_nil]); first | done | rfl | (simp only [List.length_drop, List.length_take]; rfl)) ?_; (with_reducible refine (esc_TUnquote.calls (⟨#[34, 92, 47, 34]⟩ : ByteArray) 0 t517 t518 t519 _ A6.out).mono ?_); rintro e w31 ⟨rfl, hb⟩; refine ⟨_, rfl, ?_⟩; have n0_ := Aside0.mk (below_step (by repeat (first | (with_reducible first | exact HB.out | apply below_alloc | apply pw_below_drewN | apply below_drew1) | exact HB.out)) hb); clear HB; have HB := n0_; clear n0_; (try clear hb); (try clear hb2); (try clear hk); (try clear hi)) | ((with_reducible refine gate_callee (f := 16) rfl ?_); refine goesL_ (some 44) rfl rfl Tryd.func16 (by kernel_rfl) rfl #[.string (⟨#[34, 92, 117, 100, 56, 51, 52, 92, 117, 100, 100, 49, 101, 34]⟩ : ByteArray), .int .i64 0] rfl (by (try simp only [List.map_toArray, List.map_cons, List.map_nil]); first | done | rfl | (simp only [List.length_drop, List.length_take]; rfl)) ?_; (with_reducible refine (esc_Unquote.calls (⟨#[34, 92, 117, 100, 56, 51, 52, 92, 117, 100, 100, 49, 101, 34]⟩ : ByteArray) 0 t520 t521 t522 _ A7.out).mono ?_); rintro e w32 ⟨rfl, hb⟩; refine ⟨_, rfl, ?_⟩; have n0_ := Aside0.mk (below_step (by repeat (first | (with_reducible first | exact HB.out | apply below_alloc | apply pw_below_drewN | apply below_drew1) | exact HB.out)) hb); clear HB; have HB := n0_; clear n0_; (try clear hb); (try clear hb2); (try clear hk); (try clear hi)) | ((with_reducible refine gate_callee (f := 17) rfl ?_); refine goesL_ (some 49) rfl rfl Tryd.func17 (by kernel_rfl) rfl #[.string (⟨#[34, 34, 34, 97, 92, 10, 32, 32, 98, 34, 34, 34, 34, 34]⟩ : ByteArray), .int .i64 0] rfl (by (try simp only [List.map_toArray, List.map_cons, List.map_nil]); first | done | rfl | (simp only [List.length_drop, List.length_take]; rfl)) ?_; (with_reducible refine (esc_TUnquote.calls (⟨#[34, 34, 34, 97, 92, 10, 32, 32, 98, 34, 34, 34, 34, 34]⟩ : ByteArray) 0 t523 t524 t525 _ A8.out).mono ?_); rintro e w33 ⟨rfl, hb⟩; refine ⟨_, rfl, ?_⟩; have n0_ := Aside0.mk (below_step (by repeat (first | (with_reducible first | exact HB.out | apply below_alloc | apply pw_below_drewN | apply below_drew1) | exact HB.out)) hb); clear HB; have HB := n0_; clear n0_; (try clear hb); (try clear hb2); (try clear hk); (try clear hi)) | ((with_reducible refine gate_callee (f := 18) rfl ?_); refine goesL_ (some 54) rfl rfl Tryd.func18 (by kernel_rfl) rfl #[.string (⟨#[49, 50, 51, 52, 53, 54, 55, 56, 57]⟩ : ByteArray)] rfl (by (try simp only [List.map_toArray, List.map_cons, List.map_nil]); first | done | rfl | (simp only [List.length_drop, List.length_take]; rfl)) ?_; (with_reducible refine (esc_Hex.calls (⟨#[49, 50, 51, 52, 53, 54, 55, 56, 57]⟩ : ByteArray) t526 t527 _ A9.out).mono ?_); rintro e w34 ⟨rfl, hb⟩; refine ⟨_, rfl, ?_⟩; have n0_ := Aside0.mk (below_step (by repeat (first | (with_reducible first | exact HB.out | apply below_alloc | apply pw_below_drewN | apply below_drew1) | exact HB.out)) hb); clear HB; have HB := n0_; clear n0_; (try clear hb); (try clear hb2); (try clear hk); (try clear hi)))
                      go_ret
                      exact ⟨by first | rfl | (simp [errW_none, errW_some] <;> rfl) | (simp [*, errW_none, errW_some, bne]; done) | (simp [*, errW_none, errW_some] <;> rfl), by repeat (first | (with_reducible first | exact HB.out | apply below_alloc | apply pw_below_drewN | apply below_drew1) | exact HB.out)⟩
                  · rw [if_neg c17] at H
                    have c17b0 : (t523.toList == ([97, 98, 34, 34] : List UInt8)) = false := beq_eq_false_iff_ne.mpr c17
                    have c17b1 : (t523.toList != ([97, 98, 34, 34] : List UInt8)) = true := bne_iff_ne.mpr c17
                    obtain rfl := Option.some.inj H
                    go_enter Tryd.func5, Tryd.ntmps5
                    go_wp2_with (first | ((with_reducible refine gate_callee (f := 15) rfl ?_); refine goesL_ (some 21) rfl rfl Tryd.func15 (by kernel_rfl) rfl #[] rfl (by (try simp only [List.map_toArray, List.map_cons, List.map_nil]); first | done | rfl | (simp only [List.length_drop, List.length_take]; rfl)) ?_; (with_reducible refine (dragomanlaw6_awake.calls  true _ A1.out).mono ?_); rintro e w35 ⟨rfl, hb⟩; refine ⟨_, rfl, ?_⟩; have n0_ := Aside0.mk (below_step (by repeat (first | (with_reducible first | exact HB.out | apply below_alloc | apply pw_below_drewN | apply below_drew1) | exact HB.out)) hb); clear HB; have HB := n0_; clear n0_; (try clear hb); (try clear hb2); (try clear hk); (try clear hi)) | ((with_reducible refine gate_callee (f := 16) rfl ?_); refine goesL_ (some 24) rfl rfl Tryd.func16 (by kernel_rfl) rfl #[.string (⟨#[34, 92, 117, 100, 56, 48, 48, 120, 34]⟩ : ByteArray), .int .i64 0] rfl (by (try simp only [List.map_toArray, List.map_cons, List.map_nil]); first | done | rfl | (simp only [List.length_drop, List.length_take]; rfl)) ?_; (with_reducible refine (esc_Unquote.calls (⟨#[34, 92, 117, 100, 56, 48, 48, 120, 34]⟩ : ByteArray) 0 t508 t509 t510 _ A3.out).mono ?_); rintro e w36 ⟨rfl, hb⟩; refine ⟨_, rfl, ?_⟩; have n0_ := Aside0.mk (below_step (by repeat (first | (with_reducible first | exact HB.out | apply below_alloc | apply pw_below_drewN | apply below_drew1) | exact HB.out)) hb); clear HB; have HB := n0_; clear n0_; (try clear hb); (try clear hb2); (try clear hk); (try clear hi)) | ((with_reducible refine gate_callee (f := 16) rfl ?_); refine goesL_ (some 29) rfl rfl Tryd.func16 (by kernel_rfl) rfl #[.string (⟨#[34, 97, 98]⟩ : ByteArray), .int .i64 0] rfl (by (try simp only [List.map_toArray, List.map_cons, List.map_nil]); first | done | rfl | (simp only [List.length_drop, List.length_take]; rfl)) ?_; (with_reducible refine (esc_Unquote.calls (⟨#[34, 97, 98]⟩ : ByteArray) 0 t511 t512 t513 _ A4.out).mono ?_); rintro e w37 ⟨rfl, hb⟩; refine ⟨_, rfl, ?_⟩; have n0_ := Aside0.mk (below_step (by repeat (first | (with_reducible first | exact HB.out | apply below_alloc | apply pw_below_drewN | apply below_drew1) | exact HB.out)) hb); clear HB; have HB := n0_; clear n0_; (try clear hb); (try clear hb2); (try clear hk); (try clear hi)) | ((with_reducible refine gate_callee (f := 16) rfl ?_); refine goesL_ (some 34) rfl rfl Tryd.func16 (by kernel_rfl) rfl #[.string (⟨#[120]⟩ : ByteArray), .int .i64 0] rfl (by (try simp only [List.map_toArray, List.map_cons, List.map_nil]); first | done | rfl | (simp only [List.length_drop, List.length_take]; rfl)) ?_; (with_reducible refine (esc_Unquote.calls (⟨#[120]⟩ : ByteArray) 0 t514 t515 t516 _ A5.out).mono ?_); rintro e w38 ⟨rfl, hb⟩; refine ⟨_, rfl, ?_⟩; have n0_ := Aside0.mk (below_step (by repeat (first | (with_reducible first | exact HB.out | apply below_alloc | apply pw_below_drewN | apply below_drew1) | exact HB.out)) hb); clear HB; have HB := n0_; clear n0_; (try clear hb); (try clear hb2); (try clear hk); (try clear hi)) | ((with_reducible refine gate_callee (f := 17) rfl ?_); refine goesL_ (some 39) rfl rfl Tryd.func17 (by kernel_rfl) rfl #[.string (⟨#[34, 92, 47, 34]⟩ : ByteArray), .int .i64 0] rfl (by (try simp only [List.map_toArray, List.map_cons, List.map_nil]); first | done | rfl | (simp only [List.length_drop, List.length_take]; rfl)) ?_; (with_reducible refine (esc_TUnquote.calls (⟨#[34, 92, 47, 34]⟩ : ByteArray) 0 t517 t518 t519 _ A6.out).mono ?_); rintro e w39 ⟨rfl, hb⟩; refine ⟨_, rfl, ?_⟩; have n0_ := Aside0.mk (below_step (by repeat (first | (with_reducible first | exact HB.out | apply below_alloc | apply pw_below_drewN | apply below_drew1) | exact HB.out)) hb); clear HB; have HB := n0_; clear n0_; (try clear hb); (try clear hb2); (try clear hk); (try clear hi)) | ((with_reducible refine gate_callee (f := 16) rfl ?_); refine goesL_ (some 44) rfl rfl Tryd.func16 (by kernel_rfl) rfl #[.string (⟨#[34, 92, 117, 100, 56, 51, 52, 92, 117, 100, 100, 49, 101, 34]⟩ : ByteArray), .int .i64 0] rfl (by (try simp only [List.map_toArray, List.map_cons, List.map_nil]); first | done | rfl | (simp only [List.length_drop, List.length_take]; rfl)) ?_; (with_reducible refine (esc_Unquote.calls (⟨#[34, 92, 117, 100, 56, 51, 52, 92, 117, 100, 100, 49, 101, 34]⟩ : ByteArray) 0 t520 t521 t522 _ A7.out).mono ?_); rintro e w40 ⟨rfl, hb⟩; refine ⟨_, rfl, ?_⟩; have n0_ := Aside0.mk (below_step (by repeat (first | (with_reducible first | exact HB.out | apply below_alloc | apply pw_below_drewN | apply below_drew1) | exact HB.out)) hb); clear HB; have HB := n0_; clear n0_; (try clear hb); (try clear hb2); (try clear hk); (try clear hi)) | ((with_reducible refine gate_callee (f := 17) rfl ?_); refine goesL_ (some 49) rfl rfl Tryd.func17 (by kernel_rfl) rfl #[.string (⟨#[34, 34, 34, 97, 92, 10, 32, 32, 98, 34, 34, 34, 34, 34]⟩ : ByteArray), .int .i64 0] rfl (by (try simp only [List.map_toArray, List.map_cons, List.map_nil]); first | done | rfl | (simp only [List.length_drop, List.length_take]; rfl)) ?_; (with_reducible refine (esc_TUnquote.calls (⟨#[34, 34, 34, 97, 92, 10, 32, 32, 98, 34, 34, 34, 34, 34]⟩ : ByteArray) 0 t523 t524 t525 _ A8.out).mono ?_); rintro e w41 ⟨rfl, hb⟩; refine ⟨_, rfl, ?_⟩; have n0_ := Aside0.mk (below_step (by repeat (first | (with_reducible first | exact HB.out | apply below_alloc | apply pw_below_drewN | apply below_drew1) | exact HB.out)) hb); clear HB; have HB := n0_; clear n0_; (try clear hb); (try clear hb2); (try clear hk); (try clear hi)) | ((with_reducible refine gate_callee (f := 18) rfl ?_); refine goesL_ (some 54) rfl rfl Tryd.func18 (by kernel_rfl) rfl #[.string (⟨#[49, 50, 51, 52, 53, 54, 55, 56, 57]⟩ : ByteArray)] rfl (by (try simp only [List.map_toArray, List.map_cons, List.map_nil]); first | done | rfl | (simp only [List.length_drop, List.length_take]; rfl)) ?_; (with_reducible refine (esc_Hex.calls (⟨#[49, 50, 51, 52, 53, 54, 55, 56, 57]⟩ : ByteArray) t526 t527 _ A9.out).mono ?_); rintro e w42 ⟨rfl, hb⟩; refine ⟨_, rfl, ?_⟩; have n0_ := Aside0.mk (below_step (by repeat (first | (with_reducible first | exact HB.out | apply below_alloc | apply pw_below_drewN | apply below_drew1) | exact HB.out)) hb); clear HB; have HB := n0_; clear n0_; (try clear hb); (try clear hb2); (try clear hk); (try clear hi)))
                    go_ret
                    exact ⟨by first | rfl | (simp [errW_none, errW_some] <;> rfl) | (simp [*, errW_none, errW_some, bne]; done) | (simp [*, errW_none, errW_some] <;> rfl), by repeat (first | (with_reducible first | exact HB.out | apply below_alloc | apply pw_below_drewN | apply below_drew1) | exact HB.out)⟩
                · rw [if_neg c16] at H
                  have c16b0 : (t525 == (-1)) = false := beq_eq_false_iff_ne.mpr c16
                  have c16b1 : (t525 != (-1)) = true := bne_iff_ne.mpr c16
                  obtain rfl := Option.some.inj H
                  go_enter Tryd.func5, Tryd.ntmps5
                  go_wp2_with (first | ((with_reducible refine gate_callee (f := 15) rfl ?_); refine goesL_ (some 21) rfl rfl Tryd.func15 (by kernel_rfl) rfl #[] rfl (by (try simp only [List.map_toArray, List.map_cons, List.map_nil]); first | done | rfl | (simp only [List.length_drop, List.length_take]; rfl)) ?_; (with_reducible refine (dragomanlaw6_awake.calls  true _ A1.out).mono ?_); rintro e w43 ⟨rfl, hb⟩; refine ⟨_, rfl, ?_⟩; have n0_ := Aside0.mk (below_step (by repeat (first | (with_reducible first | exact HB.out | apply below_alloc | apply pw_below_drewN | apply below_drew1) | exact HB.out)) hb); clear HB; have HB := n0_; clear n0_; (try clear hb); (try clear hb2); (try clear hk); (try clear hi)) | ((with_reducible refine gate_callee (f := 16) rfl ?_); refine goesL_ (some 24) rfl rfl Tryd.func16 (by kernel_rfl) rfl #[.string (⟨#[34, 92, 117, 100, 56, 48, 48, 120, 34]⟩ : ByteArray), .int .i64 0] rfl (by (try simp only [List.map_toArray, List.map_cons, List.map_nil]); first | done | rfl | (simp only [List.length_drop, List.length_take]; rfl)) ?_; (with_reducible refine (esc_Unquote.calls (⟨#[34, 92, 117, 100, 56, 48, 48, 120, 34]⟩ : ByteArray) 0 t508 t509 t510 _ A3.out).mono ?_); rintro e w44 ⟨rfl, hb⟩; refine ⟨_, rfl, ?_⟩; have n0_ := Aside0.mk (below_step (by repeat (first | (with_reducible first | exact HB.out | apply below_alloc | apply pw_below_drewN | apply below_drew1) | exact HB.out)) hb); clear HB; have HB := n0_; clear n0_; (try clear hb); (try clear hb2); (try clear hk); (try clear hi)) | ((with_reducible refine gate_callee (f := 16) rfl ?_); refine goesL_ (some 29) rfl rfl Tryd.func16 (by kernel_rfl) rfl #[.string (⟨#[34, 97, 98]⟩ : ByteArray), .int .i64 0] rfl (by (try simp only [List.map_toArray, List.map_cons, List.map_nil]); first | done | rfl | (simp only [List.length_drop, List.length_take]; rfl)) ?_; (with_reducible refine (esc_Unquote.calls (⟨#[34, 97, 98]⟩ : ByteArray) 0 t511 t512 t513 _ A4.out).mono ?_); rintro e w45 ⟨rfl, hb⟩; refine ⟨_, rfl, ?_⟩; have n0_ := Aside0.mk (below_step (by repeat (first | (with_reducible first | exact HB.out | apply below_alloc | apply pw_below_drewN | apply below_drew1) | exact HB.out)) hb); clear HB; have HB := n0_; clear n0_; (try clear hb); (try clear hb2); (try clear hk); (try clear hi)) | ((with_reducible refine gate_callee (f := 16) rfl ?_); refine goesL_ (some 34) rfl rfl Tryd.func16 (by kernel_rfl) rfl #[.string (⟨#[120]⟩ : ByteArray), .int .i64 0] rfl (by (try simp only [List.map_toArray, List.map_cons, List.map_nil]); first | done | rfl | (simp only [List.length_drop, List.length_take]; rfl)) ?_; (with_reducible refine (esc_Unquote.calls (⟨#[120]⟩ : ByteArray) 0 t514 t515 t516 _ A5.out).mono ?_); rintro e w46 ⟨rfl, hb⟩; refine ⟨_, rfl, ?_⟩; have n0_ := Aside0.mk (below_step (by repeat (first | (with_reducible first | exact HB.out | apply below_alloc | apply pw_below_drewN | apply below_drew1) | exact HB.out)) hb); clear HB; have HB := n0_; clear n0_; (try clear hb); (try clear hb2); (try clear hk); (try clear hi)) | ((with_reducible refine gate_callee (f := 17) rfl ?_); refine goesL_ (some 39) rfl rfl Tryd.func17 (by kernel_rfl) rfl #[.string (⟨#[34, 92, 47, 34]⟩ : ByteArray), .int .i64 0] rfl (by (try simp only [List.map_toArray, List.map_cons, List.map_nil]); first | done | rfl | (simp only [List.length_drop, List.length_take]; rfl)) ?_; (with_reducible refine (esc_TUnquote.calls (⟨#[34, 92, 47, 34]⟩ : ByteArray) 0 t517 t518 t519 _ A6.out).mono ?_); rintro e w47 ⟨rfl, hb⟩; refine ⟨_, rfl, ?_⟩; have n0_ := Aside0.mk (below_step (by repeat (first | (with_reducible first | exact HB.out | apply below_alloc | apply pw_below_drewN | apply below_drew1) | exact HB.out)) hb); clear HB; have HB := n0_; clear n0_; (try clear hb); (try clear hb2); (try clear hk); (try clear hi)) | ((with_reducible refine gate_callee (f := 16) rfl ?_); refine goesL_ (some 44) rfl rfl Tryd.func16 (by kernel_rfl) rfl #[.string (⟨#[34, 92, 117, 100, 56, 51, 52, 92, 117, 100, 100, 49, 101, 34]⟩ : ByteArray), .int .i64 0] rfl (by (try simp only [List.map_toArray, List.map_cons, List.map_nil]); first | done | rfl | (simp only [List.length_drop, List.length_take]; rfl)) ?_; (with_reducible refine (esc_Unquote.calls (⟨#[34, 92, 117, 100, 56, 51, 52, 92, 117, 100, 100, 49, 101, 34]⟩ : ByteArray) 0 t520 t521 t522 _ A7.out).mono ?_); rintro e w48 ⟨rfl, hb⟩; refine ⟨_, rfl, ?_⟩; have n0_ := Aside0.mk (below_step (by repeat (first | (with_reducible first | exact HB.out | apply below_alloc | apply pw_below_drewN | apply below_drew1) | exact HB.out)) hb); clear HB; have HB := n0_; clear n0_; (try clear hb); (try clear hb2); (try clear hk); (try clear hi)) | ((with_reducible refine gate_callee (f := 17) rfl ?_); refine goesL_ (some 49) rfl rfl Tryd.func17 (by kernel_rfl) rfl #[.string (⟨#[34, 34, 34, 97, 92, 10, 32, 32, 98, 34, 34, 34, 34, 34]⟩ : ByteArray), .int .i64 0] rfl (by (try simp only [List.map_toArray, List.map_cons, List.map_nil]); first | done | rfl | (simp only [List.length_drop, List.length_take]; rfl)) ?_; (with_reducible refine (esc_TUnquote.calls (⟨#[34, 34, 34, 97, 92, 10, 32, 32, 98, 34, 34, 34, 34, 34]⟩ : ByteArray) 0 t523 t524 t525 _ A8.out).mono ?_); rintro e w49 ⟨rfl, hb⟩; refine ⟨_, rfl, ?_⟩; have n0_ := Aside0.mk (below_step (by repeat (first | (with_reducible first | exact HB.out | apply below_alloc | apply pw_below_drewN | apply below_drew1) | exact HB.out)) hb); clear HB; have HB := n0_; clear n0_; (try clear hb); (try clear hb2); (try clear hk); (try clear hi)) | ((with_reducible refine gate_callee (f := 18) rfl ?_); refine goesL_ (some 54) rfl rfl Tryd.func18 (by kernel_rfl) rfl #[.string (⟨#[49, 50, 51, 52, 53, 54, 55, 56, 57]⟩ : ByteArray)] rfl (by (try simp only [List.map_toArray, List.map_cons, List.map_nil]); first | done | rfl | (simp only [List.length_drop, List.length_take]; rfl)) ?_; (with_reducible refine (esc_Hex.calls (⟨#[49, 50, 51, 52, 53, 54, 55, 56, 57]⟩ : ByteArray) t526 t527 _ A9.out).mono ?_); rintro e w50 ⟨rfl, hb⟩; refine ⟨_, rfl, ?_⟩; have n0_ := Aside0.mk (below_step (by repeat (first | (with_reducible first | exact HB.out | apply below_alloc | apply pw_below_drewN | apply below_drew1) | exact HB.out)) hb); clear HB; have HB := n0_; clear n0_; (try clear hb); (try clear hb2); (try clear hk); (try clear hi)))
                  go_ret
                  exact ⟨by first | rfl | (simp [errW_none, errW_some] <;> rfl) | (simp [*, errW_none, errW_some, bne]; done) | (simp [*, errW_none, errW_some] <;> rfl), by repeat (first | (with_reducible first | exact HB.out | apply below_alloc | apply pw_below_drewN | apply below_drew1) | exact HB.out)⟩
              · rw [if_neg c15] at H
                have c15b0 : (t520.toList == ([240, 157, 132, 158] : List UInt8)) = false := beq_eq_false_iff_ne.mpr c15
                have c15b1 : (t520.toList != ([240, 157, 132, 158] : List UInt8)) = true := bne_iff_ne.mpr c15
                obtain rfl := Option.some.inj H
                go_enter Tryd.func5, Tryd.ntmps5
                go_wp2_with (first | ((with_reducible refine gate_callee (f := 15) rfl ?_); refine goesL_ (some 21) rfl rfl Tryd.func15 (by kernel_rfl) rfl #[] rfl (by (try simp only [List.map_toArray, List.map_cons, List.map_nil]); first | done | rfl | (simp only [List.length_drop, List.length_take]; rfl)) ?_; (with_reducible refine (dragomanlaw6_awake.calls  true _ A1.out).mono ?_); rintro e w51 ⟨rfl, hb⟩; refine ⟨_, rfl, ?_⟩; have n0_ := Aside0.mk (below_step (by repeat (first | (with_reducible first | exact HB.out | apply below_alloc | apply pw_below_drewN | apply below_drew1) | exact HB.out)) hb); clear HB; have HB := n0_; clear n0_; (try clear hb); (try clear hb2); (try clear hk); (try clear hi)) | ((with_reducible refine gate_callee (f := 16) rfl ?_); refine goesL_ (some 24) rfl rfl Tryd.func16 (by kernel_rfl) rfl #[.string (⟨#[34, 92, 117, 100, 56, 48, 48, 120, 34]⟩ : ByteArray), .int .i64 0] rfl (by (try simp only [List.map_toArray, List.map_cons, List.map_nil]); first | done | rfl | (simp only [List.length_drop, List.length_take]; rfl)) ?_; (with_reducible refine (esc_Unquote.calls (⟨#[34, 92, 117, 100, 56, 48, 48, 120, 34]⟩ : ByteArray) 0 t508 t509 t510 _ A3.out).mono ?_); rintro e w52 ⟨rfl, hb⟩; refine ⟨_, rfl, ?_⟩; have n0_ := Aside0.mk (below_step (by repeat (first | (with_reducible first | exact HB.out | apply below_alloc | apply pw_below_drewN | apply below_drew1) | exact HB.out)) hb); clear HB; have HB := n0_; clear n0_; (try clear hb); (try clear hb2); (try clear hk); (try clear hi)) | ((with_reducible refine gate_callee (f := 16) rfl ?_); refine goesL_ (some 29) rfl rfl Tryd.func16 (by kernel_rfl) rfl #[.string (⟨#[34, 97, 98]⟩ : ByteArray), .int .i64 0] rfl (by (try simp only [List.map_toArray, List.map_cons, List.map_nil]); first | done | rfl | (simp only [List.length_drop, List.length_take]; rfl)) ?_; (with_reducible refine (esc_Unquote.calls (⟨#[34, 97, 98]⟩ : ByteArray) 0 t511 t512 t513 _ A4.out).mono ?_); rintro e w53 ⟨rfl, hb⟩; refine ⟨_, rfl, ?_⟩; have n0_ := Aside0.mk (below_step (by repeat (first | (with_reducible first | exact HB.out | apply below_alloc | apply pw_below_drewN | apply below_drew1) | exact HB.out)) hb); clear HB; have HB := n0_; clear n0_; (try clear hb); (try clear hb2); (try clear hk); (try clear hi)) | ((with_reducible refine gate_callee (f := 16) rfl ?_); refine goesL_ (some 34) rfl rfl Tryd.func16 (by kernel_rfl) rfl #[.string (⟨#[120]⟩ : ByteArray), .int .i64 0] rfl (by (try simp only [List.map_toArray, List.map_cons, List.map_nil]); first | done | rfl | (simp only [List.length_drop, List.length_take]; rfl)) ?_; (with_reducible refine (esc_Unquote.calls (⟨#[120]⟩ : ByteArray) 0 t514 t515 t516 _ A5.out).mono ?_); rintro e w54 ⟨rfl, hb⟩; refine ⟨_, rfl, ?_⟩; have n0_ := Aside0.mk (below_step (by repeat (first | (with_reducible first | exact HB.out | apply below_alloc | apply pw_below_drewN | apply below_drew1) | exact HB.out)) hb); clear HB; have HB := n0_; clear n0_; (try clear hb); (try clear hb2); (try clear hk); (try clear hi)) | ((with_reducible refine gate_callee (f := 17) rfl ?_); refine goesL_ (some 39) rfl rfl Tryd.func17 (by kernel_rfl) rfl #[.string (⟨#[34, 92, 47, 34]⟩ : ByteArray), .int .i64 0] rfl (by (try simp only [List.map_toArray, List.map_cons, List.map_nil]); first | done | rfl | (simp only [List.length_drop, List.length_take]; rfl)) ?_; (with_reducible refine (esc_TUnquote.calls (⟨#[34, 92, 47, 34]⟩ : ByteArray) 0 t517 t518 t519 _ A6.out).mono ?_); rintro e w55 ⟨rfl, hb⟩; refine ⟨_, rfl, ?_⟩; have n0_ := Aside0.mk (below_step (by repeat (first | (with_reducible first | exact HB.out | apply below_alloc | apply pw_below_drewN | apply below_drew1) | exact HB.out)) hb); clear HB; have HB := n0_; clear n0_; (try clear hb); (try clear hb2); (try clear hk); (try clear hi)) | ((with_reducible refine gate_callee (f := 16) rfl ?_); refine goesL_ (some 44) rfl rfl Tryd.func16 (by kernel_rfl) rfl #[.string (⟨#[34, 92, 117, 100, 56, 51, 52, 92, 117, 100, 100, 49, 101, 34]⟩ : ByteArray), .int .i64 0] rfl (by (try simp only [List.map_toArray, List.map_cons, List.map_nil]); first | done | rfl | (simp only [List.length_drop, List.length_take]; rfl)) ?_; (with_reducible refine (esc_Unquote.calls (⟨#[34, 92, 117, 100, 56, 51, 52, 92, 117, 100, 100, 49, 101, 34]⟩ : ByteArray) 0 t520 t521 t522 _ A7.out).mono ?_); rintro e w56 ⟨rfl, hb⟩; refine ⟨_, rfl, ?_⟩; have n0_ := Aside0.mk (below_step (by repeat (first | (with_reducible first | exact HB.out | apply below_alloc | apply pw_below_drewN | apply below_drew1) | exact HB.out)) hb); clear HB; have HB := n0_; clear n0_; (try clear hb); (try clear hb2); (try clear hk); (try clear hi)) | ((with_reducible refine gate_callee (f := 17) rfl ?_); refine goesL_ (some 49) rfl rfl Tryd.func17 (by kernel_rfl) rfl #[.string (⟨#[34, 34, 34, 97, 92, 10, 32, 32, 98, 34, 34, 34, 34, 34]⟩ : ByteArray), .int .i64 0] rfl (by (try simp only [List.map_toArray, List.map_cons, List.map_nil]); first | done | rfl | (simp only [List.length_drop, List.length_take]; rfl)) ?_; (with_reducible refine (esc_TUnquote.calls (⟨#[34, 34, 34, 97, 92, 10, 32, 32, 98, 34, 34, 34, 34, 34]⟩ : ByteArray) 0 t523 t524 t525 _ A8.out).mono ?_); rintro e w57 ⟨rfl, hb⟩; refine ⟨_, rfl, ?_⟩; have n0_ := Aside0.mk (below_step (by repeat (first | (with_reducible first | exact HB.out | apply below_alloc | apply pw_below_drewN | apply below_drew1) | exact HB.out)) hb); clear HB; have HB := n0_; clear n0_; (try clear hb); (try clear hb2); (try clear hk); (try clear hi)) | ((with_reducible refine gate_callee (f := 18) rfl ?_); refine goesL_ (some 54) rfl rfl Tryd.func18 (by kernel_rfl) rfl #[.string (⟨#[49, 50, 51, 52, 53, 54, 55, 56, 57]⟩ : ByteArray)] rfl (by (try simp only [List.map_toArray, List.map_cons, List.map_nil]); first | done | rfl | (simp only [List.length_drop, List.length_take]; rfl)) ?_; (with_reducible refine (esc_Hex.calls (⟨#[49, 50, 51, 52, 53, 54, 55, 56, 57]⟩ : ByteArray) t526 t527 _ A9.out).mono ?_); rintro e w58 ⟨rfl, hb⟩; refine ⟨_, rfl, ?_⟩; have n0_ := Aside0.mk (below_step (by repeat (first | (with_reducible first | exact HB.out | apply below_alloc | apply pw_below_drewN | apply below_drew1) | exact HB.out)) hb); clear HB; have HB := n0_; clear n0_; (try clear hb); (try clear hb2); (try clear hk); (try clear hi)))
                go_ret
                exact ⟨by first | rfl | (simp [errW_none, errW_some] <;> rfl) | (simp [*, errW_none, errW_some, bne]; done) | (simp [*, errW_none, errW_some] <;> rfl), by repeat (first | (with_reducible first | exact HB.out | apply below_alloc | apply pw_below_drewN | apply below_drew1) | exact HB.out)⟩
            · rw [if_neg c14] at H
              have c14b0 : (t522 == (-1)) = false := beq_eq_false_iff_ne.mpr c14
              have c14b1 : (t522 != (-1)) = true := bne_iff_ne.mpr c14
              obtain rfl := Option.some.inj H
              go_enter Tryd.func5, Tryd.ntmps5
              go_wp2_with (first | ((with_reducible refine gate_callee (f := 15) rfl ?_); refine goesL_ (some 21) rfl rfl Tryd.func15 (by kernel_rfl) rfl #[] rfl (by (try simp only [List.map_toArray, List.map_cons, List.map_nil]); first | done | rfl | (simp only [List.length_drop, List.length_take]; rfl)) ?_; (with_reducible refine (dragomanlaw6_awake.calls  true _ A1.out).mono ?_); rintro e w59 ⟨rfl, hb⟩; refine ⟨_, rfl, ?_⟩; have n0_ := Aside0.mk (below_step (by repeat (first | (with_reducible first | exact HB.out | apply below_alloc | apply pw_below_drewN | apply below_drew1) | exact HB.out)) hb); clear HB; have HB := n0_; clear n0_; (try clear hb); (try clear hb2); (try clear hk); (try clear hi)) | ((with_reducible refine gate_callee (f := 16) rfl ?_); refine goesL_ (some 24) rfl rfl Tryd.func16 (by kernel_rfl) rfl #[.string (⟨#[34, 92, 117, 100, 56, 48, 48, 120, 34]⟩ : ByteArray), .int .i64 0] rfl (by (try simp only [List.map_toArray, List.map_cons, List.map_nil]); first | done | rfl | (simp only [List.length_drop, List.length_take]; rfl)) ?_; (with_reducible refine (esc_Unquote.calls (⟨#[34, 92, 117, 100, 56, 48, 48, 120, 34]⟩ : ByteArray) 0 t508 t509 t510 _ A3.out).mono ?_); rintro e w60 ⟨rfl, hb⟩; refine ⟨_, rfl, ?_⟩; have n0_ := Aside0.mk (below_step (by repeat (first | (with_reducible first | exact HB.out | apply below_alloc | apply pw_below_drewN | apply below_drew1) | exact HB.out)) hb); clear HB; have HB := n0_; clear n0_; (try clear hb); (try clear hb2); (try clear hk); (try clear hi)) | ((with_reducible refine gate_callee (f := 16) rfl ?_); refine goesL_ (some 29) rfl rfl Tryd.func16 (by kernel_rfl) rfl #[.string (⟨#[34, 97, 98]⟩ : ByteArray), .int .i64 0] rfl (by (try simp only [List.map_toArray, List.map_cons, List.map_nil]); first | done | rfl | (simp only [List.length_drop, List.length_take]; rfl)) ?_; (with_reducible refine (esc_Unquote.calls (⟨#[34, 97, 98]⟩ : ByteArray) 0 t511 t512 t513 _ A4.out).mono ?_); rintro e w61 ⟨rfl, hb⟩; refine ⟨_, rfl, ?_⟩; have n0_ := Aside0.mk (below_step (by repeat (first | (with_reducible first | exact HB.out | apply below_alloc | apply pw_below_drewN | apply below_drew1) | exact HB.out)) hb); clear HB; have HB := n0_; clear n0_; (try clear hb); (try clear hb2); (try clear hk); (try clear hi)) | ((with_reducible refine gate_callee (f := 16) rfl ?_); refine goesL_ (some 34) rfl rfl Tryd.func16 (by kernel_rfl) rfl #[.string (⟨#[120]⟩ : ByteArray), .int .i64 0] rfl (by (try simp only [List.map_toArray, List.map_cons, List.map_nil]); first | done | rfl | (simp only [List.length_drop, List.length_take]; rfl)) ?_; (with_reducible refine (esc_Unquote.calls (⟨#[120]⟩ : ByteArray) 0 t514 t515 t516 _ A5.out).mono ?_); rintro e w62 ⟨rfl, hb⟩; refine ⟨_, rfl, ?_⟩; have n0_ := Aside0.mk (below_step (by repeat (first | (with_reducible first | exact HB.out | apply below_alloc | apply pw_below_drewN | apply below_drew1) | exact HB.out)) hb); clear HB; have HB := n0_; clear n0_; (try clear hb); (try clear hb2); (try clear hk); (try clear hi)) | ((with_reducible refine gate_callee (f := 17) rfl ?_); refine goesL_ (some 39) rfl rfl Tryd.func17 (by kernel_rfl) rfl #[.string (⟨#[34, 92, 47, 34]⟩ : ByteArray), .int .i64 0] rfl (by (try simp only [List.map_toArray, List.map_cons, List.map_nil]); first | done | rfl | (simp only [List.length_drop, List.length_take]; rfl)) ?_; (with_reducible refine (esc_TUnquote.calls (⟨#[34, 92, 47, 34]⟩ : ByteArray) 0 t517 t518 t519 _ A6.out).mono ?_); rintro e w63 ⟨rfl, hb⟩; refine ⟨_, rfl, ?_⟩; have n0_ := Aside0.mk (below_step (by repeat (first | (with_reducible first | exact HB.out | apply below_alloc | apply pw_below_drewN | apply below_drew1) | exact HB.out)) hb); clear HB; have HB := n0_; clear n0_; (try clear hb); (try clear hb2); (try clear hk); (try clear hi)) | ((with_reducible refine gate_callee (f := 16) rfl ?_); refine goesL_ (some 44) rfl rfl Tryd.func16 (by kernel_rfl) rfl #[.string (⟨#[34, 92, 117, 100, 56, 51, 52, 92, 117, 100, 100, 49, 101, 34]⟩ : ByteArray), .int .i64 0] rfl (by (try simp only [List.map_toArray, List.map_cons, List.map_nil]); first | done | rfl | (simp only [List.length_drop, List.length_take]; rfl)) ?_; (with_reducible refine (esc_Unquote.calls (⟨#[34, 92, 117, 100, 56, 51, 52, 92, 117, 100, 100, 49, 101, 34]⟩ : ByteArray) 0 t520 t521 t522 _ A7.out).mono ?_); rintro e w64 ⟨rfl, hb⟩; refine ⟨_, rfl, ?_⟩; have n0_ := Aside0.mk (below_step (by repeat (first | (with_reducible first | exact HB.out | apply below_alloc | apply pw_below_drewN | apply below_drew1) | exact HB.out)) hb); clear HB; have HB := n0_; clear n0_; (try clear hb); (try clear hb2); (try clear hk); (try clear hi)) | ((with_reducible refine gate_callee (f := 17) rfl ?_); refine goesL_ (some 49) rfl rfl Tryd.func17 (by kernel_rfl) rfl #[.string (⟨#[34, 34, 34, 97, 92, 10, 32, 32, 98, 34, 34, 34, 34, 34]⟩ : ByteArray), .int .i64 0] rfl (by (try simp only [List.map_toArray, List.map_cons, List.map_nil]); first | done | rfl | (simp only [List.length_drop, List.length_take]; rfl)) ?_; (with_reducible refine (esc_TUnquote.calls (⟨#[34, 34, 34, 97, 92, 10, 32, 32, 98, 34, 34, 34, 34, 34]⟩ : ByteArray) 0 t523 t524 t525 _ A8.out).mono ?_); rintro e w65 ⟨rfl, hb⟩; refine ⟨_, rfl, ?_⟩; have n0_ := Aside0.mk (below_step (by repeat (first | (with_reducible first | exact HB.out | apply below_alloc | apply pw_below_drewN | apply below_drew1) | exact HB.out)) hb); clear HB; have HB := n0_; clear n0_; (try clear hb); (try clear hb2); (try clear hk); (try clear hi)) | ((with_reducible refine gate_callee (f := 18) rfl ?_); refine goesL_ (some 54) rfl rfl Tryd.func18 (by kernel_rfl) rfl #[.string (⟨#[49, 50, 51, 52, 53, 54, 55, 56, 57]⟩ : ByteArray)] rfl (by (try simp only [List.map_toArray, List.map_cons, List.map_nil]); first | done | rfl | (simp only [List.length_drop, List.length_take]; rfl)) ?_; (with_reducible refine (esc_Hex.calls (⟨#[49, 50, 51, 52, 53, 54, 55, 56, 57]⟩ : ByteArray) t526 t527 _ A9.out).mono ?_); rintro e w66 ⟨rfl, hb⟩; refine ⟨_, rfl, ?_⟩; have n0_ := Aside0.mk (below_step (by repeat (first | (with_reducible first | exact HB.out | apply below_alloc | apply pw_below_drewN | apply below_drew1) | exact HB.out)) hb); clear HB; have HB := n0_; clear n0_; (try clear hb); (try clear hb2); (try clear hk); (try clear hi)))
              go_ret
              exact ⟨by first | rfl | (simp [errW_none, errW_some] <;> rfl) | (simp [*, errW_none, errW_some, bne]; done) | (simp [*, errW_none, errW_some] <;> rfl), by repeat (first | (with_reducible first | exact HB.out | apply below_alloc | apply pw_below_drewN | apply below_drew1) | exact HB.out)⟩
          · rw [if_neg c13] at H
            have c13b0 : (t519 == 1) = false := beq_eq_false_iff_ne.mpr c13
            have c13b1 : (t519 != 1) = true := bne_iff_ne.mpr c13
            obtain rfl := Option.some.inj H
            go_enter Tryd.func5, Tryd.ntmps5
            go_wp2_with (first | ((with_reducible refine gate_callee (f := 15) rfl ?_); refine goesL_ (some 21) rfl rfl Tryd.func15 (by kernel_rfl) rfl #[] rfl (by (try simp only [List.map_toArray, List.map_cons, List.map_nil]); first | done | rfl | (simp only [List.length_drop, List.length_take]; rfl)) ?_; (with_reducible refine (dragomanlaw6_awake.calls  true _ A1.out).mono ?_); rintro e w67 ⟨rfl, hb⟩; refine ⟨_, rfl, ?_⟩; have n0_ := Aside0.mk (below_step (by repeat (first | (with_reducible first | exact HB.out | apply below_alloc | apply pw_below_drewN | apply below_drew1) | exact HB.out)) hb); clear HB; have HB := n0_; clear n0_; (try clear hb); (try clear hb2); (try clear hk); (try clear hi)) | ((with_reducible refine gate_callee (f := 16) rfl ?_); refine goesL_ (some 24) rfl rfl Tryd.func16 (by kernel_rfl) rfl #[.string (⟨#[34, 92, 117, 100, 56, 48, 48, 120, 34]⟩ : ByteArray), .int .i64 0] rfl (by (try simp only [List.map_toArray, List.map_cons, List.map_nil]); first | done | rfl | (simp only [List.length_drop, List.length_take]; rfl)) ?_; (with_reducible refine (esc_Unquote.calls (⟨#[34, 92, 117, 100, 56, 48, 48, 120, 34]⟩ : ByteArray) 0 t508 t509 t510 _ A3.out).mono ?_); rintro e w68 ⟨rfl, hb⟩; refine ⟨_, rfl, ?_⟩; have n0_ := Aside0.mk (below_step (by repeat (first | (with_reducible first | exact HB.out | apply below_alloc | apply pw_below_drewN | apply below_drew1) | exact HB.out)) hb); clear HB; have HB := n0_; clear n0_; (try clear hb); (try clear hb2); (try clear hk); (try clear hi)) | ((with_reducible refine gate_callee (f := 16) rfl ?_); refine goesL_ (some 29) rfl rfl Tryd.func16 (by kernel_rfl) rfl #[.string (⟨#[34, 97, 98]⟩ : ByteArray), .int .i64 0] rfl (by (try simp only [List.map_toArray, List.map_cons, List.map_nil]); first | done | rfl | (simp only [List.length_drop, List.length_take]; rfl)) ?_; (with_reducible refine (esc_Unquote.calls (⟨#[34, 97, 98]⟩ : ByteArray) 0 t511 t512 t513 _ A4.out).mono ?_); rintro e w69 ⟨rfl, hb⟩; refine ⟨_, rfl, ?_⟩; have n0_ := Aside0.mk (below_step (by repeat (first | (with_reducible first | exact HB.out | apply below_alloc | apply pw_below_drewN | apply below_drew1) | exact HB.out)) hb); clear HB; have HB := n0_; clear n0_; (try clear hb); (try clear hb2); (try clear hk); (try clear hi)) | ((with_reducible refine gate_callee (f := 16) rfl ?_); refine goesL_ (some 34) rfl rfl Tryd.func16 (by kernel_rfl) rfl #[.string (⟨#[120]⟩ : ByteArray), .int .i64 0] rfl (by (try simp only [List.map_toArray, List.map_cons, List.map_nil]); first | done | rfl | (simp only [List.length_drop, List.length_take]; rfl)) ?_; (with_reducible refine (esc_Unquote.calls (⟨#[120]⟩ : ByteArray) 0 t514 t515 t516 _ A5.out).mono ?_); rintro e w70 ⟨rfl, hb⟩; refine ⟨_, rfl, ?_⟩; have n0_ := Aside0.mk (below_step (by repeat (first | (with_reducible first | exact HB.out | apply below_alloc | apply pw_below_drewN | apply below_drew1) | exact HB.out)) hb); clear HB; have HB := n0_; clear n0_; (try clear hb); (try clear hb2); (try clear hk); (try clear hi)) | ((with_reducible refine gate_callee (f := 17) rfl ?_); refine goesL_ (some 39) rfl rfl Tryd.func17 (by kernel_rfl) rfl #[.string (⟨#[34, 92, 47, 34]⟩ : ByteArray), .int .i64 0] rfl (by (try simp only [List.map_toArray, List.map_cons, List.map_nil]); first | done | rfl | (simp only [List.length_drop, List.length_take]; rfl)) ?_; (with_reducible refine (esc_TUnquote.calls (⟨#[34, 92, 47, 34]⟩ : ByteArray) 0 t517 t518 t519 _ A6.out).mono ?_); rintro e w71 ⟨rfl, hb⟩; refine ⟨_, rfl, ?_⟩; have n0_ := Aside0.mk (below_step (by repeat (first | (with_reducible first | exact HB.out | apply below_alloc | apply pw_below_drewN | apply below_drew1) | exact HB.out)) hb); clear HB; have HB := n0_; clear n0_; (try clear hb); (try clear hb2); (try clear hk); (try clear hi)) | ((with_reducible refine gate_callee (f := 16) rfl ?_); refine goesL_ (some 44) rfl rfl Tryd.func16 (by kernel_rfl) rfl #[.string (⟨#[34, 92, 117, 100, 56, 51, 52, 92, 117, 100, 100, 49, 101, 34]⟩ : ByteArray), .int .i64 0] rfl (by (try simp only [List.map_toArray, List.map_cons, List.map_nil]); first | done | rfl | (simp only [List.length_drop, List.length_take]; rfl)) ?_; (with_reducible refine (esc_Unquote.calls (⟨#[34, 92, 117, 100, 56, 51, 52, 92, 117, 100, 100, 49, 101, 34]⟩ : ByteArray) 0 t520 t521 t522 _ A7.out).mono ?_); rintro e w72 ⟨rfl, hb⟩; refine ⟨_, rfl, ?_⟩; have n0_ := Aside0.mk (below_step (by repeat (first | (with_reducible first | exact HB.out | apply below_alloc | apply pw_below_drewN | apply below_drew1) | exact HB.out)) hb); clear HB; have HB := n0_; clear n0_; (try clear hb); (try clear hb2); (try clear hk); (try clear hi)) | ((with_reducible refine gate_callee (f := 17) rfl ?_); refine goesL_ (some 49) rfl rfl Tryd.func17 (by kernel_rfl) rfl #[.string (⟨#[34, 34, 34, 97, 92, 10, 32, 32, 98, 34, 34, 34, 34, 34]⟩ : ByteArray), .int .i64 0] rfl (by (try simp only [List.map_toArray, List.map_cons, List.map_nil]); first | done | rfl | (simp only [List.length_drop, List.length_take]; rfl)) ?_; (with_reducible refine (esc_TUnquote.calls (⟨#[34, 34, 34, 97, 92, 10, 32, 32, 98, 34, 34, 34, 34, 34]⟩ : ByteArray) 0 t523 t524 t525 _ A8.out).mono ?_); rintro e w73 ⟨rfl, hb⟩; refine ⟨_, rfl, ?_⟩; have n0_ := Aside0.mk (below_step (by repeat (first | (with_reducible first | exact HB.out | apply below_alloc | apply pw_below_drewN | apply below_drew1) | exact HB.out)) hb); clear HB; have HB := n0_; clear n0_; (try clear hb); (try clear hb2); (try clear hk); (try clear hi)) | ((with_reducible refine gate_callee (f := 18) rfl ?_); refine goesL_ (some 54) rfl rfl Tryd.func18 (by kernel_rfl) rfl #[.string (⟨#[49, 50, 51, 52, 53, 54, 55, 56, 57]⟩ : ByteArray)] rfl (by (try simp only [List.map_toArray, List.map_cons, List.map_nil]); first | done | rfl | (simp only [List.length_drop, List.length_take]; rfl)) ?_; (with_reducible refine (esc_Hex.calls (⟨#[49, 50, 51, 52, 53, 54, 55, 56, 57]⟩ : ByteArray) t526 t527 _ A9.out).mono ?_); rintro e w74 ⟨rfl, hb⟩; refine ⟨_, rfl, ?_⟩; have n0_ := Aside0.mk (below_step (by repeat (first | (with_reducible first | exact HB.out | apply below_alloc | apply pw_below_drewN | apply below_drew1) | exact HB.out)) hb); clear HB; have HB := n0_; clear n0_; (try clear hb); (try clear hb2); (try clear hk); (try clear hi)))
            go_ret
            exact ⟨by first | rfl | (simp [errW_none, errW_some] <;> rfl) | (simp [*, errW_none, errW_some, bne]; done) | (simp [*, errW_none, errW_some] <;> rfl), by repeat (first | (with_reducible first | exact HB.out | apply below_alloc | apply pw_below_drewN | apply below_drew1) | exact HB.out)⟩
        · rw [if_neg c12] at H
          have c12b0 : (t516 == 0) = false := beq_eq_false_iff_ne.mpr c12
          have c12b1 : (t516 != 0) = true := bne_iff_ne.mpr c12
          obtain rfl := Option.some.inj H
          go_enter Tryd.func5, Tryd.ntmps5
          go_wp2_with (first | ((with_reducible refine gate_callee (f := 15) rfl ?_); refine goesL_ (some 21) rfl rfl Tryd.func15 (by kernel_rfl) rfl #[] rfl (by (try simp only [List.map_toArray, List.map_cons, List.map_nil]); first | done | rfl | (simp only [List.length_drop, List.length_take]; rfl)) ?_; (with_reducible refine (dragomanlaw6_awake.calls  true _ A1.out).mono ?_); rintro e w75 ⟨rfl, hb⟩; refine ⟨_, rfl, ?_⟩; have n0_ := Aside0.mk (below_step (by repeat (first | (with_reducible first | exact HB.out | apply below_alloc | apply pw_below_drewN | apply below_drew1) | exact HB.out)) hb); clear HB; have HB := n0_; clear n0_; (try clear hb); (try clear hb2); (try clear hk); (try clear hi)) | ((with_reducible refine gate_callee (f := 16) rfl ?_); refine goesL_ (some 24) rfl rfl Tryd.func16 (by kernel_rfl) rfl #[.string (⟨#[34, 92, 117, 100, 56, 48, 48, 120, 34]⟩ : ByteArray), .int .i64 0] rfl (by (try simp only [List.map_toArray, List.map_cons, List.map_nil]); first | done | rfl | (simp only [List.length_drop, List.length_take]; rfl)) ?_; (with_reducible refine (esc_Unquote.calls (⟨#[34, 92, 117, 100, 56, 48, 48, 120, 34]⟩ : ByteArray) 0 t508 t509 t510 _ A3.out).mono ?_); rintro e w76 ⟨rfl, hb⟩; refine ⟨_, rfl, ?_⟩; have n0_ := Aside0.mk (below_step (by repeat (first | (with_reducible first | exact HB.out | apply below_alloc | apply pw_below_drewN | apply below_drew1) | exact HB.out)) hb); clear HB; have HB := n0_; clear n0_; (try clear hb); (try clear hb2); (try clear hk); (try clear hi)) | ((with_reducible refine gate_callee (f := 16) rfl ?_); refine goesL_ (some 29) rfl rfl Tryd.func16 (by kernel_rfl) rfl #[.string (⟨#[34, 97, 98]⟩ : ByteArray), .int .i64 0] rfl (by (try simp only [List.map_toArray, List.map_cons, List.map_nil]); first | done | rfl | (simp only [List.length_drop, List.length_take]; rfl)) ?_; (with_reducible refine (esc_Unquote.calls (⟨#[34, 97, 98]⟩ : ByteArray) 0 t511 t512 t513 _ A4.out).mono ?_); rintro e w77 ⟨rfl, hb⟩; refine ⟨_, rfl, ?_⟩; have n0_ := Aside0.mk (below_step (by repeat (first | (with_reducible first | exact HB.out | apply below_alloc | apply pw_below_drewN | apply below_drew1) | exact HB.out)) hb); clear HB; have HB := n0_; clear n0_; (try clear hb); (try clear hb2); (try clear hk); (try clear hi)) | ((with_reducible refine gate_callee (f := 16) rfl ?_); refine goesL_ (some 34) rfl rfl Tryd.func16 (by kernel_rfl) rfl #[.string (⟨#[120]⟩ : ByteArray), .int .i64 0] rfl (by (try simp only [List.map_toArray, List.map_cons, List.map_nil]); first | done | rfl | (simp only [List.length_drop, List.length_take]; rfl)) ?_; (with_reducible refine (esc_Unquote.calls (⟨#[120]⟩ : ByteArray) 0 t514 t515 t516 _ A5.out).mono ?_); rintro e w78 ⟨rfl, hb⟩; refine ⟨_, rfl, ?_⟩; have n0_ := Aside0.mk (below_step (by repeat (first | (with_reducible first | exact HB.out | apply below_alloc | apply pw_below_drewN | apply below_drew1) | exact HB.out)) hb); clear HB; have HB := n0_; clear n0_; (try clear hb); (try clear hb2); (try clear hk); (try clear hi)) | ((with_reducible refine gate_callee (f := 17) rfl ?_); refine goesL_ (some 39) rfl rfl Tryd.func17 (by kernel_rfl) rfl #[.string (⟨#[34, 92, 47, 34]⟩ : ByteArray), .int .i64 0] rfl (by (try simp only [List.map_toArray, List.map_cons, List.map_nil]); first | done | rfl | (simp only [List.length_drop, List.length_take]; rfl)) ?_; (with_reducible refine (esc_TUnquote.calls (⟨#[34, 92, 47, 34]⟩ : ByteArray) 0 t517 t518 t519 _ A6.out).mono ?_); rintro e w79 ⟨rfl, hb⟩; refine ⟨_, rfl, ?_⟩; have n0_ := Aside0.mk (below_step (by repeat (first | (with_reducible first | exact HB.out | apply below_alloc | apply pw_below_drewN | apply below_drew1) | exact HB.out)) hb); clear HB; have HB := n0_; clear n0_; (try clear hb); (try clear hb2); (try clear hk); (try clear hi)) | ((with_reducible refine gate_callee (f := 16) rfl ?_); refine goesL_ (some 44) rfl rfl Tryd.func16 (by kernel_rfl) rfl #[.string (⟨#[34, 92, 117, 100, 56, 51, 52, 92, 117, 100, 100, 49, 101, 34]⟩ : ByteArray), .int .i64 0] rfl (by (try simp only [List.map_toArray, List.map_cons, List.map_nil]); first | done | rfl | (simp only [List.length_drop, List.length_take]; rfl)) ?_; (with_reducible refine (esc_Unquote.calls (⟨#[34, 92, 117, 100, 56, 51, 52, 92, 117, 100, 100, 49, 101, 34]⟩ : ByteArray) 0 t520 t521 t522 _ A7.out).mono ?_); rintro e w80 ⟨rfl, hb⟩; refine ⟨_, rfl, ?_⟩; have n0_ := Aside0.mk (below_step (by repeat (first | (with_reducible first | exact HB.out | apply below_alloc | apply pw_below_drewN | apply below_drew1) | exact HB.out)) hb); clear HB; have HB := n0_; clear n0_; (try clear hb); (try clear hb2); (try clear hk); (try clear hi)) | ((with_reducible refine gate_callee (f := 17) rfl ?_); refine goesL_ (some 49) rfl rfl Tryd.func17 (by kernel_rfl) rfl #[.string (⟨#[34, 34, 34, 97, 92, 10, 32, 32, 98, 34, 34, 34, 34, 34]⟩ : ByteArray), .int .i64 0] rfl (by (try simp only [List.map_toArray, List.map_cons, List.map_nil]); first | done | rfl | (simp only [List.length_drop, List.length_take]; rfl)) ?_; (with_reducible refine (esc_TUnquote.calls (⟨#[34, 34, 34, 97, 92, 10, 32, 32, 98, 34, 34, 34, 34, 34]⟩ : ByteArray) 0 t523 t524 t525 _ A8.out).mono ?_); rintro e w81 ⟨rfl, hb⟩; refine ⟨_, rfl, ?_⟩; have n0_ := Aside0.mk (below_step (by repeat (first | (with_reducible first | exact HB.out | apply below_alloc | apply pw_below_drewN | apply below_drew1) | exact HB.out)) hb); clear HB; have HB := n0_; clear n0_; (try clear hb); (try clear hb2); (try clear hk); (try clear hi)) | ((with_reducible refine gate_callee (f := 18) rfl ?_); refine goesL_ (some 54) rfl rfl Tryd.func18 (by kernel_rfl) rfl #[.string (⟨#[49, 50, 51, 52, 53, 54, 55, 56, 57]⟩ : ByteArray)] rfl (by (try simp only [List.map_toArray, List.map_cons, List.map_nil]); first | done | rfl | (simp only [List.length_drop, List.length_take]; rfl)) ?_; (with_reducible refine (esc_Hex.calls (⟨#[49, 50, 51, 52, 53, 54, 55, 56, 57]⟩ : ByteArray) t526 t527 _ A9.out).mono ?_); rintro e w82 ⟨rfl, hb⟩; refine ⟨_, rfl, ?_⟩; have n0_ := Aside0.mk (below_step (by repeat (first | (with_reducible first | exact HB.out | apply below_alloc | apply pw_below_drewN | apply below_drew1) | exact HB.out)) hb); clear HB; have HB := n0_; clear n0_; (try clear hb); (try clear hb2); (try clear hk); (try clear hi)))
          go_ret
          exact ⟨by first | rfl | (simp [errW_none, errW_some] <;> rfl) | (simp [*, errW_none, errW_some, bne]; done) | (simp [*, errW_none, errW_some] <;> rfl), by repeat (first | (with_reducible first | exact HB.out | apply below_alloc | apply pw_below_drewN | apply below_drew1) | exact HB.out)⟩
      · rw [if_neg c11] at H
        have c11b0 : (t513 == 3) = false := beq_eq_false_iff_ne.mpr c11
        have c11b1 : (t513 != 3) = true := bne_iff_ne.mpr c11
        obtain rfl := Option.some.inj H
        go_enter Tryd.func5, Tryd.ntmps5
        go_wp2_with (first | ((with_reducible refine gate_callee (f := 15) rfl ?_); refine goesL_ (some 21) rfl rfl Tryd.func15 (by kernel_rfl) rfl #[] rfl (by (try simp only [List.map_toArray, List.map_cons, List.map_nil]); first | done | rfl | (simp only [List.length_drop, List.length_take]; rfl)) ?_; (with_reducible refine (dragomanlaw6_awake.calls  true _ A1.out).mono ?_); rintro e w83 ⟨rfl, hb⟩; refine ⟨_, rfl, ?_⟩; have n0_ := Aside0.mk (below_step (by repeat (first | (with_reducible first | exact HB.out | apply below_alloc | apply pw_below_drewN | apply below_drew1) | exact HB.out)) hb); clear HB; have HB := n0_; clear n0_; (try clear hb); (try clear hb2); (try clear hk); (try clear hi)) | ((with_reducible refine gate_callee (f := 16) rfl ?_); refine goesL_ (some 24) rfl rfl Tryd.func16 (by kernel_rfl) rfl #[.string (⟨#[34, 92, 117, 100, 56, 48, 48, 120, 34]⟩ : ByteArray), .int .i64 0] rfl (by (try simp only [List.map_toArray, List.map_cons, List.map_nil]); first | done | rfl | (simp only [List.length_drop, List.length_take]; rfl)) ?_; (with_reducible refine (esc_Unquote.calls (⟨#[34, 92, 117, 100, 56, 48, 48, 120, 34]⟩ : ByteArray) 0 t508 t509 t510 _ A3.out).mono ?_); rintro e w84 ⟨rfl, hb⟩; refine ⟨_, rfl, ?_⟩; have n0_ := Aside0.mk (below_step (by repeat (first | (with_reducible first | exact HB.out | apply below_alloc | apply pw_below_drewN | apply below_drew1) | exact HB.out)) hb); clear HB; have HB := n0_; clear n0_; (try clear hb); (try clear hb2); (try clear hk); (try clear hi)) | ((with_reducible refine gate_callee (f := 16) rfl ?_); refine goesL_ (some 29) rfl rfl Tryd.func16 (by kernel_rfl) rfl #[.string (⟨#[34, 97, 98]⟩ : ByteArray), .int .i64 0] rfl (by (try simp only [List.map_toArray, List.map_cons, List.map_nil]); first | done | rfl | (simp only [List.length_drop, List.length_take]; rfl)) ?_; (with_reducible refine (esc_Unquote.calls (⟨#[34, 97, 98]⟩ : ByteArray) 0 t511 t512 t513 _ A4.out).mono ?_); rintro e w85 ⟨rfl, hb⟩; refine ⟨_, rfl, ?_⟩; have n0_ := Aside0.mk (below_step (by repeat (first | (with_reducible first | exact HB.out | apply below_alloc | apply pw_below_drewN | apply below_drew1) | exact HB.out)) hb); clear HB; have HB := n0_; clear n0_; (try clear hb); (try clear hb2); (try clear hk); (try clear hi)) | ((with_reducible refine gate_callee (f := 16) rfl ?_); refine goesL_ (some 34) rfl rfl Tryd.func16 (by kernel_rfl) rfl #[.string (⟨#[120]⟩ : ByteArray), .int .i64 0] rfl (by (try simp only [List.map_toArray, List.map_cons, List.map_nil]); first | done | rfl | (simp only [List.length_drop, List.length_take]; rfl)) ?_; (with_reducible refine (esc_Unquote.calls (⟨#[120]⟩ : ByteArray) 0 t514 t515 t516 _ A5.out).mono ?_); rintro e w86 ⟨rfl, hb⟩; refine ⟨_, rfl, ?_⟩; have n0_ := Aside0.mk (below_step (by repeat (first | (with_reducible first | exact HB.out | apply below_alloc | apply pw_below_drewN | apply below_drew1) | exact HB.out)) hb); clear HB; have HB := n0_; clear n0_; (try clear hb); (try clear hb2); (try clear hk); (try clear hi)) | ((with_reducible refine gate_callee (f := 17) rfl ?_); refine goesL_ (some 39) rfl rfl Tryd.func17 (by kernel_rfl) rfl #[.string (⟨#[34, 92, 47, 34]⟩ : ByteArray), .int .i64 0] rfl (by (try simp only [List.map_toArray, List.map_cons, List.map_nil]); first | done | rfl | (simp only [List.length_drop, List.length_take]; rfl)) ?_; (with_reducible refine (esc_TUnquote.calls (⟨#[34, 92, 47, 34]⟩ : ByteArray) 0 t517 t518 t519 _ A6.out).mono ?_); rintro e w87 ⟨rfl, hb⟩; refine ⟨_, rfl, ?_⟩; have n0_ := Aside0.mk (below_step (by repeat (first | (with_reducible first | exact HB.out | apply below_alloc | apply pw_below_drewN | apply below_drew1) | exact HB.out)) hb); clear HB; have HB := n0_; clear n0_; (try clear hb); (try clear hb2); (try clear hk); (try clear hi)) | ((with_reducible refine gate_callee (f := 16) rfl ?_); refine goesL_ (some 44) rfl rfl Tryd.func16 (by kernel_rfl) rfl #[.string (⟨#[34, 92, 117, 100, 56, 51, 52, 92, 117, 100, 100, 49, 101, 34]⟩ : ByteArray), .int .i64 0] rfl (by (try simp only [List.map_toArray, List.map_cons, List.map_nil]); first | done | rfl | (simp only [List.length_drop, List.length_take]; rfl)) ?_; (with_reducible refine (esc_Unquote.calls (⟨#[34, 92, 117, 100, 56, 51, 52, 92, 117, 100, 100, 49, 101, 34]⟩ : ByteArray) 0 t520 t521 t522 _ A7.out).mono ?_); rintro e w88 ⟨rfl, hb⟩; refine ⟨_, rfl, ?_⟩; have n0_ := Aside0.mk (below_step (by repeat (first | (with_reducible first | exact HB.out | apply below_alloc | apply pw_below_drewN | apply below_drew1) | exact HB.out)) hb); clear HB; have HB := n0_; clear n0_; (try clear hb); (try clear hb2); (try clear hk); (try clear hi)) | ((with_reducible refine gate_callee (f := 17) rfl ?_); refine goesL_ (some 49) rfl rfl Tryd.func17 (by kernel_rfl) rfl #[.string (⟨#[34, 34, 34, 97, 92, 10, 32, 32, 98, 34, 34, 34, 34, 34]⟩ : ByteArray), .int .i64 0] rfl (by (try simp only [List.map_toArray, List.map_cons, List.map_nil]); first | done | rfl | (simp only [List.length_drop, List.length_take]; rfl)) ?_; (with_reducible refine (esc_TUnquote.calls (⟨#[34, 34, 34, 97, 92, 10, 32, 32, 98, 34, 34, 34, 34, 34]⟩ : ByteArray) 0 t523 t524 t525 _ A8.out).mono ?_); rintro e w89 ⟨rfl, hb⟩; refine ⟨_, rfl, ?_⟩; have n0_ := Aside0.mk (below_step (by repeat (first | (with_reducible first | exact HB.out | apply below_alloc | apply pw_below_drewN | apply below_drew1) | exact HB.out)) hb); clear HB; have HB := n0_; clear n0_; (try clear hb); (try clear hb2); (try clear hk); (try clear hi)) | ((with_reducible refine gate_callee (f := 18) rfl ?_); refine goesL_ (some 54) rfl rfl Tryd.func18 (by kernel_rfl) rfl #[.string (⟨#[49, 50, 51, 52, 53, 54, 55, 56, 57]⟩ : ByteArray)] rfl (by (try simp only [List.map_toArray, List.map_cons, List.map_nil]); first | done | rfl | (simp only [List.length_drop, List.length_take]; rfl)) ?_; (with_reducible refine (esc_Hex.calls (⟨#[49, 50, 51, 52, 53, 54, 55, 56, 57]⟩ : ByteArray) t526 t527 _ A9.out).mono ?_); rintro e w90 ⟨rfl, hb⟩; refine ⟨_, rfl, ?_⟩; have n0_ := Aside0.mk (below_step (by repeat (first | (with_reducible first | exact HB.out | apply below_alloc | apply pw_below_drewN | apply below_drew1) | exact HB.out)) hb); clear HB; have HB := n0_; clear n0_; (try clear hb); (try clear hb2); (try clear hk); (try clear hi)))
        go_ret
        exact ⟨by first | rfl | (simp [errW_none, errW_some] <;> rfl) | (simp [*, errW_none, errW_some, bne]; done) | (simp [*, errW_none, errW_some] <;> rfl), by repeat (first | (with_reducible first | exact HB.out | apply below_alloc | apply pw_below_drewN | apply below_drew1) | exact HB.out)⟩
    · rw [if_neg c10] at H
      have c10b0 : (t510 == 1) = false := beq_eq_false_iff_ne.mpr c10
      have c10b1 : (t510 != 1) = true := bne_iff_ne.mpr c10
      obtain rfl := Option.some.inj H
      go_enter Tryd.func5, Tryd.ntmps5
      go_wp2_with (first | ((with_reducible refine gate_callee (f := 15) rfl ?_); refine goesL_ (some 21) rfl rfl Tryd.func15 (by kernel_rfl) rfl #[] rfl (by (try simp only [List.map_toArray, List.map_cons, List.map_nil]); first | done | rfl | (simp only [List.length_drop, List.length_take]; rfl)) ?_; (with_reducible refine (dragomanlaw6_awake.calls  true _ A1.out).mono ?_); rintro e w91 ⟨rfl, hb⟩; refine ⟨_, rfl, ?_⟩; have n0_ := Aside0.mk (below_step (by repeat (first | (with_reducible first | exact HB.out | apply below_alloc | apply pw_below_drewN | apply below_drew1) | exact HB.out)) hb); clear HB; have HB := n0_; clear n0_; (try clear hb); (try clear hb2); (try clear hk); (try clear hi)) | ((with_reducible refine gate_callee (f := 16) rfl ?_); refine goesL_ (some 24) rfl rfl Tryd.func16 (by kernel_rfl) rfl #[.string (⟨#[34, 92, 117, 100, 56, 48, 48, 120, 34]⟩ : ByteArray), .int .i64 0] rfl (by (try simp only [List.map_toArray, List.map_cons, List.map_nil]); first | done | rfl | (simp only [List.length_drop, List.length_take]; rfl)) ?_; (with_reducible refine (esc_Unquote.calls (⟨#[34, 92, 117, 100, 56, 48, 48, 120, 34]⟩ : ByteArray) 0 t508 t509 t510 _ A3.out).mono ?_); rintro e w92 ⟨rfl, hb⟩; refine ⟨_, rfl, ?_⟩; have n0_ := Aside0.mk (below_step (by repeat (first | (with_reducible first | exact HB.out | apply below_alloc | apply pw_below_drewN | apply below_drew1) | exact HB.out)) hb); clear HB; have HB := n0_; clear n0_; (try clear hb); (try clear hb2); (try clear hk); (try clear hi)) | ((with_reducible refine gate_callee (f := 16) rfl ?_); refine goesL_ (some 29) rfl rfl Tryd.func16 (by kernel_rfl) rfl #[.string (⟨#[34, 97, 98]⟩ : ByteArray), .int .i64 0] rfl (by (try simp only [List.map_toArray, List.map_cons, List.map_nil]); first | done | rfl | (simp only [List.length_drop, List.length_take]; rfl)) ?_; (with_reducible refine (esc_Unquote.calls (⟨#[34, 97, 98]⟩ : ByteArray) 0 t511 t512 t513 _ A4.out).mono ?_); rintro e w93 ⟨rfl, hb⟩; refine ⟨_, rfl, ?_⟩; have n0_ := Aside0.mk (below_step (by repeat (first | (with_reducible first | exact HB.out | apply below_alloc | apply pw_below_drewN | apply below_drew1) | exact HB.out)) hb); clear HB; have HB := n0_; clear n0_; (try clear hb); (try clear hb2); (try clear hk); (try clear hi)) | ((with_reducible refine gate_callee (f := 16) rfl ?_); refine goesL_ (some 34) rfl rfl Tryd.func16 (by kernel_rfl) rfl #[.string (⟨#[120]⟩ : ByteArray), .int .i64 0] rfl (by (try simp only [List.map_toArray, List.map_cons, List.map_nil]); first | done | rfl | (simp only [List.length_drop, List.length_take]; rfl)) ?_; (with_reducible refine (esc_Unquote.calls (⟨#[120]⟩ : ByteArray) 0 t514 t515 t516 _ A5.out).mono ?_); rintro e w94 ⟨rfl, hb⟩; refine ⟨_, rfl, ?_⟩; have n0_ := Aside0.mk (below_step (by repeat (first | (with_reducible first | exact HB.out | apply below_alloc | apply pw_below_drewN | apply below_drew1) | exact HB.out)) hb); clear HB; have HB := n0_; clear n0_; (try clear hb); (try clear hb2); (try clear hk); (try clear hi)) | ((with_reducible refine gate_callee (f := 17) rfl ?_); refine goesL_ (some 39) rfl rfl Tryd.func17 (by kernel_rfl) rfl #[.string (⟨#[34, 92, 47, 34]⟩ : ByteArray), .int .i64 0] rfl (by (try simp only [List.map_toArray, List.map_cons, List.map_nil]); first | done | rfl | (simp only [List.length_drop, List.length_take]; rfl)) ?_; (with_reducible refine (esc_TUnquote.calls (⟨#[34, 92, 47, 34]⟩ : ByteArray) 0 t517 t518 t519 _ A6.out).mono ?_); rintro e w95 ⟨rfl, hb⟩; refine ⟨_, rfl, ?_⟩; have n0_ := Aside0.mk (below_step (by repeat (first | (with_reducible first | exact HB.out | apply below_alloc | apply pw_below_drewN | apply below_drew1) | exact HB.out)) hb); clear HB; have HB := n0_; clear n0_; (try clear hb); (try clear hb2); (try clear hk); (try clear hi)) | ((with_reducible refine gate_callee (f := 16) rfl ?_); refine goesL_ (some 44) rfl rfl Tryd.func16 (by kernel_rfl) rfl #[.string (⟨#[34, 92, 117, 100, 56, 51, 52, 92, 117, 100, 100, 49, 101, 34]⟩ : ByteArray), .int .i64 0] rfl (by (try simp only [List.map_toArray, List.map_cons, List.map_nil]); first | done | rfl | (simp only [List.length_drop, List.length_take]; rfl)) ?_; (with_reducible refine (esc_Unquote.calls (⟨#[34, 92, 117, 100, 56, 51, 52, 92, 117, 100, 100, 49, 101, 34]⟩ : ByteArray) 0 t520 t521 t522 _ A7.out).mono ?_); rintro e w96 ⟨rfl, hb⟩; refine ⟨_, rfl, ?_⟩; have n0_ := Aside0.mk (below_step (by repeat (first | (with_reducible first | exact HB.out | apply below_alloc | apply pw_below_drewN | apply below_drew1) | exact HB.out)) hb); clear HB; have HB := n0_; clear n0_; (try clear hb); (try clear hb2); (try clear hk); (try clear hi)) | ((with_reducible refine gate_callee (f := 17) rfl ?_); refine goesL_ (some 49) rfl rfl Tryd.func17 (by kernel_rfl) rfl #[.string (⟨#[34, 34, 34, 97, 92, 10, 32, 32, 98, 34, 34, 34, 34, 34]⟩ : ByteArray), .int .i64 0] rfl (by (try simp only [List.map_toArray, List.map_cons, List.map_nil]); first | done | rfl | (simp only [List.length_drop, List.length_take]; rfl)) ?_; (with_reducible refine (esc_TUnquote.calls (⟨#[34, 34, 34, 97, 92, 10, 32, 32, 98, 34, 34, 34, 34, 34]⟩ : ByteArray) 0 t523 t524 t525 _ A8.out).mono ?_); rintro e w97 ⟨rfl, hb⟩; refine ⟨_, rfl, ?_⟩; have n0_ := Aside0.mk (below_step (by repeat (first | (with_reducible first | exact HB.out | apply below_alloc | apply pw_below_drewN | apply below_drew1) | exact HB.out)) hb); clear HB; have HB := n0_; clear n0_; (try clear hb); (try clear hb2); (try clear hk); (try clear hi)) | ((with_reducible refine gate_callee (f := 18) rfl ?_); refine goesL_ (some 54) rfl rfl Tryd.func18 (by kernel_rfl) rfl #[.string (⟨#[49, 50, 51, 52, 53, 54, 55, 56, 57]⟩ : ByteArray)] rfl (by (try simp only [List.map_toArray, List.map_cons, List.map_nil]); first | done | rfl | (simp only [List.length_drop, List.length_take]; rfl)) ?_; (with_reducible refine (esc_Hex.calls (⟨#[49, 50, 51, 52, 53, 54, 55, 56, 57]⟩ : ByteArray) t526 t527 _ A9.out).mono ?_); rintro e w98 ⟨rfl, hb⟩; refine ⟨_, rfl, ?_⟩; have n0_ := Aside0.mk (below_step (by repeat (first | (with_reducible first | exact HB.out | apply below_alloc | apply pw_below_drewN | apply below_drew1) | exact HB.out)) hb); clear HB; have HB := n0_; clear n0_; (try clear hb); (try clear hb2); (try clear hk); (try clear hi)))
      go_ret
      exact ⟨by first | rfl | (simp [errW_none, errW_some] <;> rfl) | (simp [*, errW_none, errW_some, bne]; done) | (simp [*, errW_none, errW_some] <;> rfl), by repeat (first | (with_reducible first | exact HB.out | apply below_alloc | apply pw_below_drewN | apply below_drew1) | exact HB.out)⟩
  · replace c2 := Bool.eq_false_iff.mpr c2
    subst c2
    have H1 : (some false) = some r := by rw [if_neg (show ¬ (false = true) by decide)] at H; exact H
    clear H
    have H := H1
    clear H1
    obtain rfl := Option.some.inj H
    go_enter Tryd.func5, Tryd.ntmps5
    go_wp2_with (first | ((with_reducible refine gate_callee (f := 15) rfl ?_); refine goesL_ (some 21) rfl rfl Tryd.func15 (by kernel_rfl) rfl #[] rfl (by (try simp only [List.map_toArray, List.map_cons, List.map_nil]); first | done | rfl | (simp only [List.length_drop, List.length_take]; rfl)) ?_; (with_reducible refine (dragomanlaw6_awake.calls  false _ A1.out).mono ?_); rintro e w99 ⟨rfl, hb⟩; refine ⟨_, rfl, ?_⟩; have n0_ := Aside0.mk (below_step (by repeat (first | (with_reducible first | exact HB.out | apply below_alloc | apply pw_below_drewN | apply below_drew1) | exact HB.out)) hb); clear HB; have HB := n0_; clear n0_; (try clear hb); (try clear hb2); (try clear hk); (try clear hi)))
    go_ret
    exact ⟨by first | rfl | (simp [errW_none, errW_some] <;> rfl) | (simp [*, errW_none, errW_some, bne]; done) | (simp [*, errW_none, errW_some] <;> rfl), by repeat (first | (with_reducible first | exact HB.out | apply below_alloc | apply pw_below_drewN | apply below_drew1) | exact HB.out)⟩
/-- THE ONE PURE STATEMENT of dragomanlaw6_EscKnown: yours. -/
def dragomanlaw6_EscKnown.Pure : Prop := dragomanlaw6_EscKnown.f  = some true
theorem dragomanlaw6_EscKnown.walk (P : dragomanlaw6_EscKnown.Pure)  (w : World)  :
    Calls Tryd.prog 5 #[] w fun e w' => e = .returned (.bool true) ∧ Below w.heap.size w w' := by
  have h := P  
  refine (dragomanlaw6_EscKnown.calls  true w h).mono ?_
  rintro e w' ⟨rfl, hd⟩
  exact ⟨rfl, hd⟩
end Go.Proofs.YtoanbmggffkmgaaDoor.P
end
section
namespace Go.Proofs.YtoanbmggffkmgaaDoor.Pure
open Go.RowKit Go.Proofs.YtoanbmggffkmgaaDoor.P Go.Proofs.YtoanbmggffkmgaaDoorW.PrintWords Go.Proofs.YtoanbmggffkmgaaDoorW.PrintLast
theorem EscKnown : dragomanlaw6_EscKnown.Pure := by
  show dragomanlaw6_EscKnown.f = some true
  kernel_rfl
end Go.Proofs.YtoanbmggffkmgaaDoor.Pure
end
