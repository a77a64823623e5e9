/- The parts of this claim's proof, in one text: what each Go function answers and that its call comes to it; plain facts of lists of numbers. The lemmas in the namespaces of the words (PrintWords, PrintLast, PrintMore) come of the texts that the kit's printer lays for the seat; those that are reached. Conditions as each theorem names them. -/
import Derived.ArgAppend
import Derived.Below
import Derived.BigQuiet
import Derived.Deep.AppendLies
import Derived.Deep.CutBlock
import Derived.Deep.DeepCutAuto
import Derived.Deep.Draws
import Derived.Deep.LoopGhost
import Derived.Deep.OwnRows
import Derived.Deep.QuietTactic
import Derived.Deep.RegionHeld3
import Derived.KernelRfl
import Derived.Laws.BitsLemmas
import Derived.Laws.BytesArg
import Derived.Laws.IdiomCopy
import Derived.Laws.MakeOwn
import Derived.Laws.OwnMore
import Derived.Laws.Rows
import Derived.Laws.Slices
import Derived.Laws.StructEq
import Derived.Lib.AppendStr
import Derived.Lib.Bytealg
import Derived.Lib.Bytes
import Derived.Lib.ConvBytes
import Derived.Lib.Hide
import Derived.Maps.AppendAt
import Derived.OrdersHeld
import Derived.Outline
import Derived.OwnWalk
import Derived.RowKit
import Derived.RowKit3
import Derived.Shelf.Bits.Mul64
import Derived.Shelf.LaysM
import Derived.Shelf.Small.Strs
import Derived.Shelf.Small.Utf8
import Derived.Shelf.Strings.AsciiSet
import Derived.Shelf.Strings.Builder1
import Derived.Shelf.Strings.Builder2
import Derived.Shelf.Strings.Builder2Cap
import Derived.Shelf.Strings.BuilderF
import Derived.Shelf.Strings.BuilderK
import Derived.Shelf.Strings.Count
import Derived.Shelf.Strings.IndexAny
import Derived.Shelf.Strings.IndexAnyAll
import Derived.Shelf.Strings.LastIndex
import Derived.Shelf.Strings.Prefix
import Derived.Shelf.Strings.Repeat
import Derived.Shelf.Strings.RuneCount
import Derived.Shelf.Strings.Runes
import Derived.Shelf.Strings.Search1
import Derived.Shelf.Strings.Search2
import Derived.Shelf.Strings.Search3
import Derived.Shelf.Strings.Shaped
import Derived.Shelf.Strings.SlTrimAscii
import Derived.Shelf.Strings.Split
import Derived.Shelf.Strings.Trim
import Derived.Shelf.Unicode.Decode
import Derived.Shelf.Unicode.DecodeAny
import Derived.Shelf.Unicode.DecodeSlow
import Derived.Shelf.Utf8.RuneCount
import Derived.Tactics
import Derived.WalkKit
import Derived.WideLaws
import Derived.Test.YtoanbmggffkmgaaDoorProg
import Derived.Test.YtoanbmggffkmgaaDoorMJlexCuts1
import Derived.Test.YtoanbmggffkmgaaDoorMJlexCuts2
import Derived.Test.YtoanbmggffkmgaaDoorMJlexCuts3
import Derived.Test.YtoanbmggffkmgaaDoorMJlexCuts4
import Derived.Test.YtoanbmggffkmgaaDoorMJlexCuts5
import Derived.Test.YtoanbmggffkmgaaDoorMJlexCuts6
section
namespace Go.Proofs.YtoanbmggffkmgaaDoor.La
open Go.RowKit Go.Proofs.YtoanbmggffkmgaaDoor.P Go.Proofs.YtoanbmggffkmgaaDoorW.PrintWords Go.Proofs.YtoanbmggffkmgaaDoorW.PrintLast Go.Proofs.YtoanbmggffkmgaaDoorW.PrintMore
/-- How many bytes of a set stand at a text's beginning. -/
def wh (cs : List Int) : List Int → Nat
 | [] => 0
 | b :: l => if inSet cs b = true then wh cs l + 1 else 0
theorem wh_le (cs l : List Int) : wh cs l ≤ l.length := by
 induction l with
 | nil => simp [wh]
 | cons b l ih => simp only [wh, List.length_cons]; split <;> omega
theorem trimL_wh (cs l : List Int) : trimL cs l = l.drop (wh cs l) := by
 unfold trimL
 induction l with
 | nil => rfl
 | cons b l ih =>
  simp only [List.dropWhile_cons, wh]
  split
  ·rw [ih, List.drop_succ_cons]
  ·rfl
theorem while_eq (s t : ByteArray) (hs : s.size ≤ 140737488355328) (h : t.size < 4294967281) (ha : ascii (bytesOf t) = true) : jlex_while.f s t = some (wh (bytesOf t) (bytesOf s) : Int) := by
 unfold jlex_while.f strings_TrimLeft.f
 rw [if_pos (And.intro h ha), Option.bind_some, size_strOfNums (trimL_bytes (bytes_of _)), trimL_wh, List.length_drop, size_of]
 have := wh_le (bytesOf t) (bytesOf s)
 rw [size_of] at this
 rw [wrap_id (by omega) (by omega)]
 congr 1
 omega
def tenS : List Int := [48, 49, 50, 51, 52, 53, 54, 55, 56, 57]
theorem ten_dig {b : Int} (_h0 : 0 ≤ b) : inSet tenS b = isDig b := by
 rw [Bool.eq_iff_iff]
 unfold inSet tenS isDig
 simp
 omega
theorem wh_ten {l : List Int} (h : Bytes l) : wh tenS l = digs l := by
 induction l with
 | nil => rfl
 | cons b l ih =>
  simp only [wh, digs, ten_dig (h b List.mem_cons_self).1, ih (fun x hx => h x (List.mem_cons_of_mem _ hx))]
theorem digs_end {l p : List Int} {c : Int} (hc : isDig c = false) : digs (l ++ c :: p) = digs l := by
 induction l with
 | nil => simp only [List.nil_append, digs, hc]; rfl
 | cons b l ih => simp only [List.cons_append, digs, ih]
theorem nneg_app {a p : List Int} {c : Int} (hc : c ≠ 45) : nneg (a ++ c :: p) = nneg a ++ c :: p := by
 unfold nneg
 cases a with
 | nil => rw [List.nil_append, if_neg (by simpa using hc), if_neg (by simp), List.nil_append]
 | cons x t =>
  rw [List.cons_append]
  by_cases h : x = 45
  ·rw [if_pos (by simp [h]), if_pos (by simp [h])]; rfl
  ·rw [if_neg (by simp [h]), if_neg (by simp [h])]; rfl
theorem nwhole_app {a p : List Int} {c : Int} (hc : isDig c = false) : nwhole (a ++ c :: p) = (nwhole a).map (· ++ c :: p) := by
 unfold nwhole
 rw [digs_end hc]
 have hl := digs_le a
 cases a with
 | nil => rw [if_pos (.inl rfl), if_pos (.inl rfl)]; rfl
 | cons x t =>
  rw [List.cons_append]
  by_cases h : digs (x :: t) = 0 ∨ 1 < digs (x :: t) ∧ x = 48
  ·rw [if_pos (by simpa using h), if_pos (by simpa using h)]; rfl
  ·rw [if_neg (by simpa using h), if_neg (by simpa using h)]
   simp only [Option.map_some]
   congr 1
   exact List.drop_append_of_le_length hl
theorem nfrac_app {a p : List Int} {c : Int} (hc : isDig c = false) (h46 : c ≠ 46) : nfrac (a ++ c :: p) = (nfrac a).map (· ++ c :: p) := by
 unfold nfrac
 cases a with
 | nil => rw [List.nil_append, if_neg (by simpa using h46), if_neg (by simp)]; rfl
 | cons x t =>
  rw [List.cons_append]
  by_cases h : x = 46
  ·have e1 : (x :: (t ++ c :: p)).head? = some 46 := by rw [h]; rfl
   have e2 : (x :: t).head? = some 46 := by rw [h]; rfl
   rw [if_pos e1, if_pos e2, List.drop_succ_cons, List.drop_zero, List.drop_succ_cons, List.drop_zero, digs_end hc]
   by_cases h2 : digs t = 0
   ·rw [if_pos h2, if_pos h2]; rfl
   ·rw [if_neg h2, if_neg h2, Option.map_some]
    have hl := digs_le t
    rw [Nat.add_comm, List.drop_succ_cons, List.drop_succ_cons, List.drop_append_of_le_length hl]
  ·have e1 : ¬ (x :: (t ++ c :: p)).head? = some 46 := fun e => h (Option.some.inj e)
   have e2 : ¬ (x :: t).head? = some 46 := fun e => h (Option.some.inj e)
   rw [if_neg e1, if_neg e2]; rfl
theorem nwhole_sub {a r : List Int} (h : nwhole a = some r) : ∀ x ∈ r, x ∈ a := by
 unfold nwhole at h
 split at h
 ·cases h
 ·obtain rfl := Option.some.inj h; exact fun x hx => List.mem_of_mem_drop hx
theorem nfrac_sub {a r : List Int} (h : nfrac a = some r) : ∀ x ∈ r, x ∈ a := by
 unfold nfrac at h
 split at h
 ·split at h
  ·cases h
  ·obtain rfl := Option.some.inj h; exact fun x hx => List.mem_of_mem_drop hx
 ·obtain rfl := Option.some.inj h; exact fun x hx => hx
theorem nneg_sub (a : List Int) : ∀ x ∈ nneg a, x ∈ a := by
 unfold nneg
 split
 ·exact fun x hx => List.mem_of_mem_drop hx
 ·exact fun x hx => hx
/-- A text without e has no power. -/
theorem nform_plain {a : List Int} (h : ∀ x ∈ a, x ≠ 101 ∧ x ≠ 69) : nform a = none ∨ nform a = some [] := by
 unfold nform
 cases h1 : nwhole (nneg a) with
 | none => exact .inl rfl
 | some r =>
  rw [Option.bind_some]
  cases h2 : nfrac r with
  | none => exact .inl rfl
  | some q =>
   rw [Option.bind_some]
   cases q with
   | nil => exact .inr rfl
   | cons x t =>
    have := h x (nneg_sub a x (nwhole_sub h1 x (nfrac_sub h2 x List.mem_cons_self)))
    simp only [nexp]
    rw [if_pos this]
    exact .inl rfl
theorem nform_e {a p : List Int} {c : Int} (h : ∀ x ∈ a, x ≠ 101 ∧ x ≠ 69) (hc : c = 101 ∨ c = 69) :
  nform (a ++ c :: p) = if nform a = some [] then (if noSign p = [] ∨ digs (noSign p) ≠ (noSign p).length then none else some p) else none := by
 have hd : isDig c = false := by rcases hc with rfl | rfl <;> rfl
 have key : ∀ o : Option (List Int), (∀ q, o = some q → ∀ x ∈ q, x ≠ 101 ∧ x ≠ 69) → (o.map (· ++ c :: p)).bind nexp = if o.bind nexp = some [] then (if noSign p = [] ∨ digs (noSign p) ≠ (noSign p).length then none else some p) else none := by
  intro o ho
  cases o with
  | none => rw [if_neg (by simp)]; rfl
  | some q =>
   rw [Option.map_some, Option.bind_some, Option.bind_some]
   cases q with
   | nil =>
    rw [if_pos (show nexp [] = some [] from rfl), List.nil_append, nexp, if_neg (by omega)]
   | cons x t =>
    have := ho _ rfl x List.mem_cons_self
    have e1 : nexp (x :: t) = none := by rw [nexp, if_pos this]
    rw [e1, if_neg (by simp), List.cons_append, nexp, if_pos this]
 have hL : nform (a ++ c :: p) = (((nwhole (nneg a)).bind nfrac).map (· ++ c :: p)).bind nexp := by
  unfold nform
  rw [nneg_app (by omega), nwhole_app hd]
  cases nwhole (nneg a) with
  | none => rfl
  | some r =>
   rw [Option.map_some, Option.bind_some, Option.bind_some, nfrac_app hd (by omega)]
 have hR : nform a = ((nwhole (nneg a)).bind nfrac).bind nexp := by
  unfold nform
  cases nwhole (nneg a) <;> rfl
 rw [hL, hR]
 refine key _ (fun q hq x hx => ?_)
 obtain ⟨r, h1, h2⟩ := Option.bind_eq_some_iff.1 hq
 exact h x (nneg_sub a x (nwhole_sub h1 x (nfrac_sub h2 x hx)))
theorem e_split (l : List Int) : ((∀ x ∈ l, x ≠ 101 ∧ x ≠ 69) ∧ idxAny [101, 69] l = -1) ∨ (∃ a c p, l = a ++ c :: p ∧ (∀ x ∈ a, x ≠ 101 ∧ x ≠ 69) ∧ (c = 101 ∨ c = 69) ∧ idxAny [101, 69] l = (a.length : Int)) := by
 induction l with
 | nil => exact .inl ⟨fun x hx => by simp at hx, rfl⟩
 | cons b l ih =>
  have hb : inSet [101, 69] b = decide (b = 101 ∨ b = 69) := by rw [Bool.eq_iff_iff]; unfold inSet; simp; omega
  by_cases h : b = 101 ∨ b = 69
  ·right
   refine ⟨[], b, l, rfl, fun x hx => by simp at hx, h, ?_⟩
   simp only [idxAny, hb, decide_eq_true h, if_true]
   rfl
  ·simp only [idxAny, hb, decide_eq_false h, Bool.false_eq_true, if_false]
   rcases ih with ⟨h1, h2⟩ | ⟨a, c, p, rfl, h1, h2, h3⟩
   ·left
    refine ⟨fun x hx => ?_, by rw [if_pos h2]⟩
    rcases List.mem_cons.1 hx with rfl | hx
    ·omega
    ·exact h1 x hx
   ·right
    refine ⟨b :: a, c, p, rfl, fun x hx => ?_, h2, ?_⟩
    ·rcases List.mem_cons.1 hx with rfl | hx
     ·omega
     ·exact h1 x hx
    ·rw [if_neg (by omega), h3, List.length_cons]; omega
/-- Has a text a number's form, with a power? -/
def greatS (l : List Int) : Bool := (nform l).elim false (fun p => decide (p ≠ []))
theorem trim10 (s : ByteArray) : strings_TrimLeft.f s (⟨#[48, 49, 50, 51, 52, 53, 54, 55, 56, 57]⟩ : ByteArray) = some (strOfNums ((bytesOf s).drop (digs (bytesOf s)))) := by
 unfold strings_TrimLeft.f
 have h1 : (⟨#[48, 49, 50, 51, 52, 53, 54, 55, 56, 57]⟩ : ByteArray).size < 4294967281 := by
  have h : (⟨#[48, 49, 50, 51, 52, 53, 54, 55, 56, 57]⟩ : ByteArray).size = 10 := rfl
  rw [h]; omega
 have h2 : ascii (bytesOf (⟨#[48, 49, 50, 51, 52, 53, 54, 55, 56, 57]⟩ : ByteArray)) = true := by decide
 rw [if_pos (And.intro h1 h2), trimL_wh]
 rw [show bytesOf (⟨#[48, 49, 50, 51, 52, 53, 54, 55, 56, 57]⟩ : ByteArray) = tenS from rfl, wh_ten (bytes_of s)]
theorem while10 (s : ByteArray) (hs : s.size ≤ 140737488355328) : jlex_while.f s (⟨#[48, 49, 50, 51, 52, 53, 54, 55, 56, 57]⟩ : ByteArray) = some (digs (bytesOf s) : Int) := by
 have h1 : (⟨#[48, 49, 50, 51, 52, 53, 54, 55, 56, 57]⟩ : ByteArray).size < 4294967281 := by
  have h : (⟨#[48, 49, 50, 51, 52, 53, 54, 55, 56, 57]⟩ : ByteArray).size = 10 := rfl
  rw [h]; omega
 have h2 : ascii (bytesOf (⟨#[48, 49, 50, 51, 52, 53, 54, 55, 56, 57]⟩ : ByteArray)) = true := by decide
 rw [while_eq s _ hs h1 h2]
 rw [show bytesOf (⟨#[48, 49, 50, 51, 52, 53, 54, 55, 56, 57]⟩ : ByteArray) = tenS from rfl, wh_ten (bytes_of s)]
theorem ngood_plain {a : List Int} (h : ∀ x ∈ a, x ≠ 101 ∧ x ≠ 69) : ngood a = decide (nform a = some []) := by
 unfold ngood
 rcases nform_plain h with e | e <;> rw [e] <;> rfl
theorem great_ev (s : ByteArray) (hs : s.size ≤ 400) (ha : ascii (bytesOf s) = true) : Ev (fun k => jlex_great.f k s) (greatS (bytesOf s)) := by
 have hidx : strings_IndexAny.f s (⟨#[101, 69]⟩ : ByteArray) = some (idxAny [101, 69] (bytesOf s)) := by
  unfold strings_IndexAny.f
  have h1 : (⟨#[101, 69]⟩ : ByteArray).size < 4294967281 := by
   have h : (⟨#[101, 69]⟩ : ByteArray).size = 2 := rfl
   rw [h]; omega
  have h2 : ascii (bytesOf (⟨#[101, 69]⟩ : ByteArray)) = true := by decide
  rw [if_pos (And.intro (And.intro (by omega) h1) (And.intro ha h2))]
  rfl
 rcases e_split (bytesOf s) with ⟨h1, h2⟩ | ⟨a, c, p, hl, h1, hc, h2⟩
 ·have : greatS (bytesOf s) = false := by
   unfold greatS
   rcases nform_plain h1 with e | e <;> rw [e] <;> rfl
  rw [this]
  exact Ev.congr (fun k => by rw [jlex_great.f, hidx, Option.bind_some, if_pos (by omega)]) (Ev.now _)
 ·have hz : s.size = a.length + (p.length + 1) := by rw [← size_of, hl, List.length_append, List.length_cons]
  have hw : wrap64 ((a.length : Int) + 1) = ((a.length + 1 : Nat) : Int) := by rw [wrap_id (by omega) (by omega)]; omega
  have hpb : Bytes p := fun x hx => bytes_of s x (by rw [hl]; exact List.mem_append.2 (.inr (List.mem_cons_of_mem _ hx)))
  have hy : bytesOf (s.extract (a.length + 1) s.size) = p := by
   rw [bytesOf_drop, hl, ← List.drop_drop, List.drop_left]
   rfl
  have hyz : (s.extract (a.length + 1) s.size).size = p.length := by rw [size_drop]; omega
  have ht := trim10 (s.extract (a.length + 1) s.size)
  rw [hy] at ht
  have hgood := good_ev (s.extract 0 a.length) (by rw [size_take _ (by omega)]; omega)
  rw [bytesOf_take, hl, List.take_left, ngood_plain h1] at hgood
  have htz : (strOfNums (p.drop (digs p))).size = p.length - digs p := by rw [size_strOfNums (hpb.drop _), List.length_drop]
  have htb : bytesOf (strOfNums (p.drop (digs p))) = p.drop (digs p) := strOfNums_bytes (hpb.drop _)
  have hdl := digs_le p
  have hgr : greatS (bytesOf s) = (decide (nform a = some []) && decide (noSign p ≠ [] ∧ digs (noSign p) = (noSign p).length)) := by
   unfold greatS
   rw [hl, nform_e h1 hc]
   by_cases hf : nform a = some []
   ·rw [if_pos hf, decide_eq_true hf, Bool.true_and]
    by_cases hq : noSign p = [] ∨ digs (noSign p) ≠ (noSign p).length
    ·rw [if_pos hq, decide_eq_false (by rintro ⟨g1, g2⟩; exact hq.elim g1 (fun g => g g2))]
     rfl
    ·have g1 : noSign p ≠ [] := fun e => hq (.inl e)
     have g2 : digs (noSign p) = (noSign p).length := Classical.byContradiction fun e => hq (.inr e)
     rw [if_neg hq, decide_eq_true (show noSign p ≠ [] ∧ digs (noSign p) = (noSign p).length from And.intro g1 g2)]
     have : p ≠ [] := fun e => g1 (by rw [e]; rfl)
     simp [this]
   ·rw [if_neg hf, decide_eq_false hf]
    rfl
  rw [hgr]
  have step1 : ∀ k, jlex_great.f k s = if (strOfNums (p.drop (digs p))).toList = (s.extract (a.length + 1) s.size).toList then (if ((strOfNums (p.drop (digs p))).size : Int) > 0 then (if 0 < ((strOfNums (p.drop (digs p))).size : Int) then (if (bt (strOfNums (p.drop (digs p))) 0) = 43 then (jlex_great.j0 k s (a.length : Int) (strOfNums (p.drop (digs p))) true) else (jlex_great.j0 k s (a.length : Int) (strOfNums (p.drop (digs p))) ((bt (strOfNums (p.drop (digs p))) 0) == 45))) else (none)) else (jlex_great.j0 k s (a.length : Int) (strOfNums (p.drop (digs p))) false)) else (jlex_great.j0 k s (a.length : Int) (strOfNums (p.drop (digs p))) false) := by
   intro k
   rw [jlex_great.f, hidx, Option.bind_some, h2, if_neg (by omega), hw, if_pos (by omega), if_pos (by omega), Int.toNat_natCast, ht, Option.bind_some]
  have fall : digs p ≠ 0 ∨ p = [] ∨ (p.head? ≠ some 43 ∧ p.head? ≠ some 45) → Ev (fun k => jlex_great.j0 k s (a.length : Int) (strOfNums (p.drop (digs p))) false) (decide (nform a = some []) && decide (noSign p ≠ [] ∧ digs (noSign p) = (noSign p).length)) := by
   intro hcase
   have hns : noSign p = p := by
    unfold noSign
    rw [if_neg]
    rintro (h | h)
    ·rcases hcase with g | g | ⟨_, g⟩
     ·cases p with
      | nil => cases h
      | cons x t =>
       simp at h
       subst h
       simp [digs, isDig] at g
     ·rw [g] at h; cases h
     ·exact g h
    ·rcases hcase with g | g | ⟨g, _⟩
     ·cases p with
      | nil => cases h
      | cons x t =>
       simp at h
       subst h
       simp [digs, isDig] at g
     ·rw [g] at h; cases h
     ·exact g h
   rw [hns]
   by_cases hall : digs p = p.length
   ·have hnil : (strOfNums (p.drop (digs p))).toList = ([] : List UInt8) := by rw [toList_nil_iff, htb, hall, List.drop_length]
    by_cases hp0 : p = []
    ·rw [decide_eq_false (p := p ≠ [] ∧ digs p = p.length) (fun g => g.1 hp0), Bool.and_false]
     have : p.length = 0 := by rw [hp0]; rfl
     exact Ev.step (fun k => by rw [jlex_great.j0, if_neg (by decide), if_pos hnil, hw, if_neg (by omega)]) (Ev.now _)
    ·rw [decide_eq_true (p := p ≠ [] ∧ digs p = p.length) (And.intro hp0 hall), Bool.and_true]
     have : 0 < p.length := List.length_pos_iff.2 hp0
     refine Ev.step (fun k => by rw [jlex_great.j0, if_neg (by decide), if_pos hnil, hw, if_pos (by omega), if_pos (by omega), if_pos (by omega), Int.toNat_natCast]) (Ev.bind hgood ?_)
     exact Ev.now _
   ·have hnil : ¬ (strOfNums (p.drop (digs p))).toList = ([] : List UInt8) := by
     rw [toList_nil_iff, htb]
     intro e
     have := congrArg List.length e
     rw [List.length_drop, List.length_nil] at this
     omega
    rw [decide_eq_false (p := p ≠ [] ∧ digs p = p.length) (fun g => hall g.2), Bool.and_false]
    exact Ev.step (fun k => by rw [jlex_great.j0, if_neg (by decide), if_neg hnil]) (Ev.now _)
  refine Ev.congr step1 ?_
  by_cases hd0 : digs p = 0
  ·have heq : (strOfNums (p.drop (digs p))).toList = (s.extract (a.length + 1) s.size).toList := by rw [toList_eq_iff, htb, hy, hd0]; rfl
   simp only [if_pos heq, htz]
   rw [hd0, Nat.sub_zero]
   cases p with
   | nil =>
    simp only [List.length_nil, if_neg (show ¬ ((0 : Nat) : Int) > 0 by omega)]
    have := fall (.inr (.inl rfl))
    rw [hd0] at this
    exact this
   | cons x t =>
    have hbx : bt (strOfNums ((x :: t).drop 0)) 0 = x := by
     rw [hd0] at htb
     rw [bt_get, htb]; rfl
    simp only [if_pos (show ((x :: t).length : Int) > 0 by simp), hbx]
    by_cases hsg : x = 43 ∨ x = 45
    ·have hj : (if x = 43 then true else (x == 45)) = true := by
      rcases hsg with rfl | rfl <;> rfl
     have hns : noSign (x :: t) = t := by
      unfold noSign
      rw [if_pos (by rcases hsg with rfl | rfl <;> simp)]
      rfl
     have hyt : bytesOf ((strOfNums ((x :: t).drop 0)).extract 1 (strOfNums ((x :: t).drop 0)).size) = t := by
      rw [bytesOf_drop]
      rw [hd0] at htb
      rw [htb]; rfl
     have hz2 : (strOfNums ((x :: t).drop 0)).size = t.length + 1 := by
      rw [hd0] at htz
      rw [htz]; simp
     have htl : t.length ≤ 400 := by rw [List.length_cons] at hz; omega
     have goal : Ev (fun k => jlex_great.j0 k s (a.length : Int) (strOfNums ((x :: t).drop 0)) true) (decide (nform a = some []) && decide (noSign (x :: t) ≠ [] ∧ digs (noSign (x :: t)) = (noSign (x :: t)).length)) := by
      rw [hns]
      generalize strOfNums ((x :: t).drop 0) = y at hyt hz2
      have hyz2 : (y.extract 1 y.size).size = t.length := by rw [size_drop]; omega
      by_cases ht0 : t = []
      ·rw [decide_eq_false (p := t ≠ [] ∧ digs t = t.length) (fun g => g.1 ht0), Bool.and_false]
       exact Ev.step (fun k => by rw [jlex_great.j0, if_pos rfl, if_pos (by omega), if_pos ((toList_nil_iff _).2 (by rw [hyt, ht0]))]) (Ev.now _)
      ·have hne : ¬ (y.extract 1 y.size).toList = ([] : List UInt8) := fun e => ht0 (by rw [← hyt]; exact (toList_nil_iff _).1 e)
       by_cases hall : digs t = t.length
       ·rw [decide_eq_true (p := t ≠ [] ∧ digs t = t.length) (And.intro ht0 hall), Bool.and_true]
        refine Ev.step (fun k => by rw [jlex_great.j0, if_pos rfl, if_pos (by omega), if_neg hne, while10 _ (by omega), Option.bind_some, hyt, hyz2, if_pos (by omega), if_pos (by omega), if_pos (by omega), Int.toNat_natCast]) (Ev.bind hgood ?_)
        exact Ev.now _
       ·rw [decide_eq_false (p := t ≠ [] ∧ digs t = t.length) (fun g => hall g.2), Bool.and_false]
        exact Ev.step (fun k => by rw [jlex_great.j0, if_pos rfl, if_pos (by omega), if_neg hne, while10 _ (by omega), Option.bind_some, hyt, hyz2, if_neg (by omega)]) (Ev.now _)
     rcases hsg with rfl | rfl
     ·simp only [if_true]
      exact goal
     ·simp only [show ¬ ((45 : Int) = 43) by decide, if_false, beq_self_eq_true]
      exact goal
    ·have h43 : ¬ x = 43 := fun e => hsg (.inl e)
     have h45 : ¬ x = 45 := fun e => hsg (.inr e)
     simp only [if_neg h43, beq_eq_false_iff_ne.2 h45]
     have := fall (.inr (.inr ⟨by simpa using h43, by simpa using h45⟩))
     rw [hd0] at this
     exact this
  ·have hne : ¬ (strOfNums (p.drop (digs p))).toList = (s.extract (a.length + 1) s.size).toList := by
    rw [toList_eq_iff, htb, hy]
    intro e
    have := congrArg List.length e
    rw [List.length_drop] at this
    omega
   simp only [if_neg hne]
   exact fall (.inl hd0)
/-- How a number's text is judged. -/
def numb (l : List Int) : Int := if l.length > 400 then 2 else (nform l).elim 4 (fun p => if fits p = true then 0 else 6)
theorem number_ev (s : ByteArray) (ha : ascii (bytesOf s) = true) : Ev (fun k => jlex_number.f k s) (numb (bytesOf s)) := by
 unfold numb
 rw [size_of]
 by_cases hs : s.size > 400
 ·rw [if_pos hs]
  exact Ev.congr (fun k => by rw [jlex_number.f, if_pos (by omega)]) (Ev.now _)
 ·rw [if_neg hs]
  refine Ev.congr (fun k => by rw [jlex_number.f, if_neg (by omega)]) (Ev.bind (good_ev s (by omega)) ?_)
  have hg := great_ev s (by omega) ha
  unfold greatS at hg
  cases hf : nform (bytesOf s) with
  | none =>
   rw [hf, Option.elim_none] at hg
   have hng : ngood (bytesOf s) = false := by unfold ngood; rw [hf]; rfl
   rw [hng, Option.elim_none]
   exact Ev.congr (fun k => by rw [if_neg (by decide)]) (Ev.bind hg (Ev.now _))
  | some p =>
   rw [hf, Option.elim_some] at hg
   have hng : ngood (bytesOf s) = fits p := by unfold ngood; rw [hf]; rfl
   rw [hng, Option.elim_some]
   by_cases hp : fits p = true
   ·exact Ev.congr (fun k => by rw [if_pos hp]) (by rw [if_pos hp]; exact Ev.now _)
   ·have : p ≠ [] := fun e => hp (by rw [e]; rfl)
    rw [decide_eq_true this] at hg
    rw [if_neg hp]
    exact Ev.congr (fun k => by rw [if_neg hp]) (Ev.bind hg (Ev.now _))
end Go.Proofs.YtoanbmggffkmgaaDoor.La
end
section
namespace Go.Proofs.YtoanbmggffkmgaaDoor.La
/-- Where the last line begins. -/
def lst : List Int → Nat
 | [] => 0
 | b :: t => if 0 < lst t then lst t + 1 else if b = 10 then 1 else 0
def nl (l : List Int) : Nat := cntB l 10
theorem lst_le (l : List Int) : lst l ≤ l.length := by
 induction l with
 | nil => simp [lst]
 | cons b t ih => simp only [lst, List.length_cons]; (repeat' split) <;> omega
theorem lst_append (a b : List Int) : lst (a ++ b) = if 0 < lst b then a.length + lst b else lst a := by
 induction a with
 | nil => simp [lst]
 | cons x a ih =>
  simp only [List.cons_append, lst, ih, List.length_cons]
  by_cases h : 0 < lst b
  ·simp only [if_pos h]
   rw [if_pos (by omega)]
   omega
  ·simp only [if_neg h]
theorem lst_snoc (a : List Int) (x : Int) : lst (a ++ [x]) = if x = 10 then a.length + 1 else lst a := by
 rw [lst_append]
 by_cases h : x = 10
 ·simp [lst, h]
 ·simp [lst, h]
theorem nl_append (a b : List Int) : nl (a ++ b) = nl a + nl b := cntB_append a b 10
end Go.Proofs.YtoanbmggffkmgaaDoor.La
end
section
namespace Go.Proofs.YtoanbmggffkmgaaDoor.La
open Go.RowKit Go.Proofs.YtoanbmggffkmgaaDoor.P Go.Proofs.YtoanbmggffkmgaaDoorW.PrintWords Go.Proofs.YtoanbmggffkmgaaDoorW.PrintLast Go.Proofs.YtoanbmggffkmgaaDoorW.PrintMore
def clamp (size : Nat) (i : Int) : Nat := if i < 0 then 0 else if i > (size : Int) then size else i.toNat
theorem clamp_le (size : Nat) (i : Int) : clamp size i ≤ size := by unfold clamp; (repeat' split) <;> omega
theorem clamp_eq (s : ByteArray) (i : Int) : place_clamp.f s i = some (clamp s.size i : Int) := by
 unfold place_clamp.f mn mx clamp
 congr 1
 (repeat' split) <;> omega
theorem ref_clamp_eq (s : ByteArray) (i : Int) : dragomanref1_clamp.f s i = some (clamp s.size i : Int) := by
 unfold dragomanref1_clamp.f clamp
 (repeat' split) <;> first | rfl | (congr 1; omega)
theorem count10 (s : ByteArray) : strings_Count.f s (⟨#[10]⟩ : ByteArray) = some (nl (bytesOf s) : Int) := by
 unfold strings_Count.f
 rw [if_pos (by rfl)]
 rfl
theorem last_l0 (s : ByteArray) (hs : s.size ≤ 140737488355328) (m : Nat) : m ≤ s.size → Ev (fun k => bytealg_LastIndexByteString.l0 k s 10 ((m : Int) - 1)) ((lst ((bytesOf s).take m) : Int) - 1) := by
 induction m with
 | zero =>
  intro _
  refine Ev.step (fun k => by rw [bytealg_LastIndexByteString.l0]) ?_
  simp only [if_neg (show ¬ (((0 : Nat) : Int) - 1 ≥ 0) by omega)]
  exact Ev.now _
 | succ m ih =>
  intro hm
  refine Ev.step (fun k => by rw [bytealg_LastIndexByteString.l0]) ?_
  have e : ((m + 1 : Nat) : Int) - 1 = (m : Int) := by omega
  have hlt : m < (bytesOf s).length := by rw [size_of]; omega
  have hb : bt s (m : Int) = (bytesOf s)[m] := by rw [bt_get]; simp [List.getD_eq_getElem?_getD, hlt]
  simp only [e, if_pos (show (m : Int) ≥ 0 by omega), if_pos (show (m : Int) < (s.size : Int) by omega)]
  rw [List.take_succ_eq_append_getElem hlt, lst_snoc, hb]
  by_cases h : (bytesOf s)[m] = 10
  ·simp only [if_pos h, List.length_take, Nat.min_eq_left (Nat.le_of_lt hlt)]
   have : ((m + 1 : Nat) : Int) - 1 = (m : Int) := by omega
   rw [this]
   exact Ev.now _
  ·simp only [if_neg h]
   rw [wrap_id (by omega) (by omega)]
   exact ih (by omega)
theorem last_ev (s : ByteArray) (hs : s.size ≤ 140737488355328) : Ev (fun k => strings_LastIndexByte.f k s 10) ((lst (bytesOf s) : Int) - 1) := by
 have h := last_l0 s hs s.size (Nat.le_refl _)
 rw [List.take_of_length_le (by rw [size_of]; omega)] at h
 refine Ev.congr (fun k => by rw [strings_LastIndexByte.f, bytealg_LastIndexByteString.f, wrap_id (by omega) (by omega)]) (Ev.bind h ?_)
 exact Ev.now _
/-- A place's line and column. -/
def lineOf (l : List Int) : Int := (nl l : Int) + 1
def colOf (l : List Int) : Int := (cnt (l.drop (lst l)) : Int) + 1
theorem of_ev (s : ByteArray) (hs : s.size ≤ 8796093022208) (i : Int) : Ev (fun k => place_Of.f k s i) (lineOf ((bytesOf s).take (clamp s.size i)), colOf ((bytesOf s).take (clamp s.size i))) := by
 have hc := clamp_le s.size i
 refine Ev.congr (fun k => by rw [place_Of.f, clamp_eq, Option.bind_some]) ?_
 generalize clamp s.size i = c at *
 have hsz : (s.extract 0 c).size = c := size_take s hc
 have hl := lst_le ((bytesOf s).take c)
 rw [List.length_take, size_of, Nat.min_eq_left hc] at hl
 simp only [if_pos (show (0 : Int) ≤ (c : Int) by omega), if_pos (show (c : Int) ≤ (s.size : Int) by omega), Int.toNat_natCast]
 refine Ev.bind (last_ev (s.extract 0 c) (by rw [hsz]; omega)) ?_
 rw [bytesOf_take]
 have hn : nl ((bytesOf s).take c) ≤ c := by
  have := cntB_le ((bytesOf s).take c) 10
  rw [List.length_take, size_of, Nat.min_eq_left hc] at this
  exact this
 have hw : wrap64 ((lst ((bytesOf s).take c) : Int) - 1 + 1) = (lst ((bytesOf s).take c) : Int) := by rw [wrap_id (by omega) (by omega)]; omega
 simp only [count10, Option.bind_some, hw, hsz, bytesOf_take, if_pos (show (0 : Int) ≤ (lst ((bytesOf s).take c) : Int) by omega), if_pos (show (lst ((bytesOf s).take c) : Int) ≤ (c : Int) by omega), Int.toNat_natCast]
 have hx : bytesOf ((s.extract 0 c).extract (lst ((bytesOf s).take c)) c) = ((bytesOf s).take c).drop (lst ((bytesOf s).take c)) := by
  rw [bytesOf_extract, bytesOf_take, List.take_take, Nat.min_self]
 have hxs : ((s.extract 0 c).extract (lst ((bytesOf s).take c)) c).size ≤ 140737488355328 := by rw [← size_of, hx, List.length_drop, List.length_take, size_of]; omega
 refine Ev.bind (count_ev _ hxs) ?_
 rw [hx]
 have hcn := cnt_le (((bytesOf s).take c).drop (lst ((bytesOf s).take c)))
 rw [List.length_drop, List.length_take, size_of] at hcn
 rw [wrap_id (by omega) (by omega), wrap_id (by omega) (by omega)]
 exact Ev.now _
theorem fault_ev (s : ByteArray) (hs : s.size ≤ 8796093022208) (i e : Int) : Ev (fun k => place_Fault.f k s i e) (e, (clamp s.size i : Int), lineOf ((bytesOf s).take (clamp s.size i)), colOf ((bytesOf s).take (clamp s.size i))) := by
 refine Ev.congr (fun k => by rw [place_Fault.f]) (Ev.bind (of_ev s hs i) ?_)
 rw [clamp_eq, Option.bind_some]
 exact Ev.now _
theorem ref_of_l0 (s : ByteArray) (hs : s.size ≤ 8796093022208) (c : Nat) (hc : c ≤ s.size) (n : Nat) : ∀ i : Nat, i ≤ c → c - i = n →
  Ev (fun k => dragomanref1_Of.l0 k s (c : Int) (lineOf ((bytesOf s).take i)) (lst ((bytesOf s).take i) : Int) (i : Int)) (lineOf ((bytesOf s).take c), colOf ((bytesOf s).take c)) := by
 induction n with
 | zero =>
  intro i hi hn
  obtain rfl : i = c := by omega
  have hl := lst_le ((bytesOf s).take i)
  rw [List.length_take, size_of, Nat.min_eq_left hc] at hl
  refine Ev.step (fun k => by rw [dragomanref1_Of.l0]) ?_
  simp only [if_neg (show ¬ (i : Int) < (i : Int) by omega), if_pos (show (0 : Int) ≤ (lst ((bytesOf s).take i) : Int) by omega), if_pos (show (lst ((bytesOf s).take i) : Int) ≤ (i : Int) by omega), if_pos (show (i : Int) ≤ (s.size : Int) by omega), Int.toNat_natCast]
  have hx : bytesOf (s.extract (lst ((bytesOf s).take i)) i) = ((bytesOf s).take i).drop (lst ((bytesOf s).take i)) := bytesOf_extract _ _ _
  have hxs : (s.extract (lst ((bytesOf s).take i)) i).size ≤ 8796093022208 := by rw [← size_of, hx, List.length_drop, List.length_take, size_of]; omega
  refine Ev.bind (starts_ev _ hxs) ?_
  rw [hx, ints_length, sts_len]
  exact Ev.now _
 | succ n ih =>
  intro i hi hn
  refine Ev.step (fun k => by rw [dragomanref1_Of.l0]) ?_
  have hlt : i < (bytesOf s).length := by rw [size_of]; omega
  have hb : bt s (i : Int) = (bytesOf s)[i] := by rw [bt_get]; simp [List.getD_eq_getElem?_getD, hlt]
  have := ih (i + 1) (by omega) (by omega)
  rw [List.take_succ_eq_append_getElem hlt] at this
  have hn2 : nl ((bytesOf s).take i) ≤ i := by
   have := cntB_le ((bytesOf s).take i) 10
   rw [List.length_take, size_of, Nat.min_eq_left (by omega)] at this
   exact this
  have hw : wrap64 ((i : Int) + 1) = ((i + 1 : Nat) : Int) := by rw [wrap_id (by omega) (by omega)]; omega
  simp only [if_pos (show (i : Int) < (c : Int) by omega), if_pos (show (0 : Int) ≤ (i : Int) by omega), if_pos (show (i : Int) < (s.size : Int) by omega), hb, hw]
  rw [lst_snoc] at this
  unfold lineOf at this ⊢
  rw [nl_append] at this
  by_cases h : (bytesOf s)[i] = 10
  ·simp only [if_pos h]
   rw [wrap_id (by omega) (by omega)]
   have h1 : nl [(bytesOf s)[i]] = 1 := by simp [nl, cntB, h]
   simp only [if_pos h, h1, List.length_take, Nat.min_eq_left (Nat.le_of_lt hlt)] at this
   rw [show (nl ((bytesOf s).take i) : Int) + 1 + 1 = ((nl ((bytesOf s).take i) + 1 : Nat) : Int) + 1 by omega]
   exact this
  ·simp only [if_neg h]
   have h1 : nl [(bytesOf s)[i]] = 0 := by simp [nl, cntB, h]
   simp only [if_neg h, h1, Nat.add_zero] at this
   exact this
theorem ref_of_ev (s : ByteArray) (hs : s.size ≤ 8796093022208) (i : Int) : Ev (fun k => dragomanref1_Of.f k s i) (lineOf ((bytesOf s).take (clamp s.size i)), colOf ((bytesOf s).take (clamp s.size i))) := by
 refine Ev.congr (fun k => by rw [dragomanref1_Of.f, ref_clamp_eq, Option.bind_some]) ?_
 exact ref_of_l0 s hs _ (clamp_le _ _) _ 0 (by omega) rfl
theorem ref_fault_ev (s : ByteArray) (hs : s.size ≤ 8796093022208) (i e : Int) : Ev (fun k => dragomanref1_Fault.f k s i e) (e, (clamp s.size i : Int), lineOf ((bytesOf s).take (clamp s.size i)), colOf ((bytesOf s).take (clamp s.size i))) := by
 refine Ev.congr (fun k => by rw [dragomanref1_Fault.f]) (Ev.bind (ref_of_ev s hs i) ?_)
 rw [ref_clamp_eq, Option.bind_some]
 exact Ev.now _
end Go.Proofs.YtoanbmggffkmgaaDoor.La
end
section
namespace Go.Proofs.YtoanbmggffkmgaaDoor.La
open Go.RowKit Go.Proofs.YtoanbmggffkmgaaDoor.P Go.Proofs.YtoanbmggffkmgaaDoorW.PrintWords Go.Proofs.YtoanbmggffkmgaaDoorW.PrintLast Go.Proofs.YtoanbmggffkmgaaDoorW.PrintMore
def blankS : List Int := [32, 9, 10, 13]
def signS : List Int := [123, 125, 91, 93, 58, 44]
def digitS : List Int := [48, 49, 50, 51, 52, 53, 54, 55, 56, 57, 43, 45, 46, 101, 69]
def smallS : List Int := [97, 98, 99, 100, 101, 102, 103, 104, 105, 106, 107, 108, 109, 110, 111, 112, 113, 114, 115, 116, 117, 118, 119, 120, 121, 122]
def nameS (l : List Int) : Prop := l = [116, 114, 117, 101] ∨ l = [102, 97, 108, 115, 101] ∨ l = [110, 117, 108, 108]
instance (l : List Int) : Decidable (nameS l) := by unfold nameS; infer_instance
/-- The word at a place: an error and where; or its kind, its text, where it goes on. -/
def wd (L : List Int) (i : Nat) : (Int × Nat) ⊕ (Int × List Int × Nat) :=
 if inSet signS (L.getD i 0) = true then .inr (1, [L.getD i 0], i + 1)
 else if L.getD i 0 = 34 then
  (if (jbody L (L.length + 1) (i + 1) []).1 = true then
   (if (jbody L (L.length + 1) (i + 1) []).2.1.length > 4096 then .inl (2, i) else .inr (2, (jbody L (L.length + 1) (i + 1) []).2.1, (jbody L (L.length + 1) (i + 1) []).2.2))
  else .inl (4, (jbody L (L.length + 1) (i + 1) []).2.2))
 else if 97 ≤ L.getD i 0 ∧ L.getD i 0 ≤ 122 then
  (if nameS ((L.drop i).take (wh smallS (L.drop i))) then .inr (4, (L.drop i).take (wh smallS (L.drop i)), i + wh smallS (L.drop i)) else .inl (4, i))
 else if wh digitS (L.drop i) = 0 then .inl (4, i)
 else if numb ((L.drop i).take (wh digitS (L.drop i))) = 0 then .inr (3, (L.drop i).take (wh digitS (L.drop i)), i + wh digitS (L.drop i))
 else .inl (numb ((L.drop i).take (wh digitS (L.drop i))), i)
/-- A text's words from a place on, or its first fault. -/
def cutS (L : List Int) : Nat → Nat → List (Int × List Int × Nat) → List (Int × List Int × Nat) × Option (Int × Nat)
 | 0, _, acc => (acc, none)
 | k + 1, i, acc =>
  if L.length ≤ i then (acc ++ [(0, [], L.length)], none)
  else match wd L i with
   | .inl e => ([], some e)
   | .inr x => cutS L k (x.2.2 + wh blankS (L.drop x.2.2)) (acc ++ [(x.1, x.2.1, i)])
/-- How jlex.word tells it. -/
def wordR (i : Nat) : (Int × Nat) ⊕ (Int × List Int × Nat) → Int × ByteArray × Int × Int × Int × Int
 | .inl e => (0, ⟨#[]⟩, 0, 0, e.1, (e.2 : Int))
 | .inr x => (x.1, strOfNums x.2.1, (i : Int), (x.2.2 : Int), 0, 0)
theorem lt81 (s : ByteArray) (n : Nat) (h : s.size = n) (hn : n < 4294967281) : s.size < 4294967281 := by omega
theorem whileB (s : ByteArray) (hs : s.size ≤ 140737488355328) : jlex_while.f s (⟨#[32, 9, 10, 13]⟩ : ByteArray) = some (wh blankS (bytesOf s) : Int) :=
 while_eq s _ hs (lt81 _ 4 rfl (by omega)) (by decide)
theorem whileS (s : ByteArray) (hs : s.size ≤ 140737488355328) : jlex_while.f s (⟨#[97, 98, 99, 100, 101, 102, 103, 104, 105, 106, 107, 108, 109, 110, 111, 112, 113, 114, 115, 116, 117, 118, 119, 120, 121, 122]⟩ : ByteArray) = some (wh smallS (bytesOf s) : Int) :=
 while_eq s _ hs (lt81 _ 26 rfl (by omega)) (by decide)
theorem whileD (s : ByteArray) (hs : s.size ≤ 140737488355328) : jlex_while.f s (⟨#[48, 49, 50, 51, 52, 53, 54, 55, 56, 57, 43, 45, 46, 101, 69]⟩ : ByteArray) = some (wh digitS (bytesOf s) : Int) :=
 while_eq s _ hs (lt81 _ 15 rfl (by omega)) (by decide)
theorem idx_in (l : List Int) (c : Int) : idx l c ≥ 0 ↔ inSet l c = true := by
 induction l with
 | nil => simp [idx, inSet]
 | cons b l ih =>
  have hge := idx_ge l c
  unfold inSet at ih ⊢
  rw [List.any_cons, Bool.or_eq_true, ← ih, beq_iff_eq, idx]
  by_cases h : b = c
  ·rw [if_pos h]; simp [h]
  ·rw [if_neg h]
   split <;> omega
theorem sign_idx {c : Int} (h0 : 0 ≤ c) (h1 : c < 256) : ∃ j, strings_IndexByte.f (⟨#[123, 125, 91, 93, 58, 44]⟩ : ByteArray) c = some j ∧ (j ≥ 0 ↔ inSet signS c = true) := by
 unfold strings_IndexByte.f
 rw [if_pos (And.intro h0 h1)]
 refine ⟨_, rfl, ?_⟩
 rw [show bytesOf (⟨#[123, 125, 91, 93, 58, 44]⟩ : ByteArray) = signS from rfl]
 exact idx_in signS c
theorem ascii_take (cs l : List Int) (hc : ∀ x ∈ cs, x < 128) : ascii (l.take (wh cs l)) = true := by
 induction l with
 | nil => rfl
 | cons b l ih =>
  simp only [wh]
  split
  ·rename_i hb
   unfold ascii at ih ⊢
   rw [List.take_succ_cons, List.all_cons, ih, Bool.and_true]
   refine decide_eq_true ?_
   unfold inSet at hb
   obtain ⟨c, hcs, hcb⟩ := List.any_eq_true.1 hb
   have := hc c hcs
   have : c = b := by simpa using hcb
   omega
  ·rfl
theorem strOf_eq (s : ByteArray) {l : List Int} (h : bytesOf s = l) : s = strOfNums l := by rw [← h, strOfNums_of]
theorem name_iff (s : ByteArray) (l : List Int) (h : bytesOf s = l) : (s.toList = ([116, 114, 117, 101] : List UInt8) ↔ l = [116, 114, 117, 101]) ∧ (s.toList = ([102, 97, 108, 115, 101] : List UInt8) ↔ l = [102, 97, 108, 115, 101]) ∧ (s.toList = ([110, 117, 108, 108] : List UInt8) ↔ l = [110, 117, 108, 108]) := by
 have h1 := toList_eq_iff s (⟨#[116, 114, 117, 101]⟩ : ByteArray)
 have h2 := toList_eq_iff s (⟨#[102, 97, 108, 115, 101]⟩ : ByteArray)
 have h3 := toList_eq_iff s (⟨#[110, 117, 108, 108]⟩ : ByteArray)
 rw [h] at h1 h2 h3
 rw [toList_data' ⟨#[116, 114, 117, 101]⟩] at h1
 rw [toList_data' ⟨#[102, 97, 108, 115, 101]⟩] at h2
 rw [toList_data' ⟨#[110, 117, 108, 108]⟩] at h3
 exact ⟨h1, h2, h3⟩
theorem jbody_bound (L : List Int) (hL : Bytes L) (k : Nat) : ∀ (i : Nat) (acc : List Int), (jbody L k i acc).1 = true → i ≤ L.length → i < (jbody L k i acc).2.2 ∧ (jbody L k i acc).2.2 ≤ L.length := by
 induction k with
 | zero => intro i acc h _; simp [jbody] at h
 | succ k ih =>
  intro i acc h hi
  unfold jbody at h ⊢
  split at h
  ·simp at h
  ·rename_i h1
   rw [if_neg h1]
   split at h
   ·rename_i h2
    rw [if_pos h2]
    simp only
    omega
   ·rename_i h2
    rw [if_neg h2]
    split at h
    ·simp at h
    ·rename_i h3
     rw [if_neg h3]
     split at h
     ·rename_i h4
      rw [if_pos h4]
      cases hj : jesc (L.drop i) with
      | none => rw [hj] at h; simp at h
      | some p =>
       rw [hj] at h
       simp only at h ⊢
       have hp := jesc_len hj
       rw [List.length_drop] at hp
       have := ih _ _ h (by omega)
       omega
     ·rename_i h4
      rw [if_neg h4]
      split at h
      ·rename_i h5
       rw [if_pos h5]
       have hb := tk_bound (L.drop i) (hL.drop i)
       rw [List.length_drop] at hb
       have := ih _ _ h (by omega)
       omega
      ·simp at h
theorem jbody_where (L : List Int) (hL : Bytes L) (k : Nat) : ∀ (i : Nat) (acc : List Int), i ≤ L.length → (jbody L k i acc).2.2 ≤ L.length := by
 induction k with
 | zero => intro i acc hi; exact hi
 | succ k ih =>
  intro i acc hi
  unfold jbody
  split
  ·exact Nat.le_refl _
  ·split
   ·show i + 1 ≤ _; omega
   ·split
    ·exact hi
    ·split
     ·cases hj : jesc (L.drop i) with
      | none => exact hi
      | some p =>
       have hp := jesc_len hj
       rw [List.length_drop] at hp
       exact ih _ _ (by omega)
     ·split
      ·have hb := tk_bound (L.drop i) (hL.drop i)
       rw [List.length_drop] at hb
       exact ih _ _ (by omega)
      ·exact hi
theorem drop_cons' {L : List Int} {i : Nat} (h : i < L.length) : L.drop i = L.getD i 0 :: L.drop (i + 1) := by
 rw [List.drop_eq_getElem_cons h, List.getD_eq_getElem?_getD, List.getElem?_eq_getElem h]
 rfl
theorem bt_nat' (s : ByteArray) (i : Nat) : bt s (i : Int) = (bytesOf s).getD i 0 := by rw [bt_get]; rfl
/-- What a string says is of bytes. -/
theorem jesc_good {l : List Int} {p : Int × Nat} (h : jesc l = some p) : good p.1 := by
 unfold jesc at h
 split at h
 ·cases h
 ·split at h
  ·rename_i h1
   obtain rfl := Option.some.inj h
   obtain ⟨x, hx⟩ := Option.isSome_iff_exists.1 h1
   rw [hx]
   exact shortJ_good hx
  ·split at h
   ·cases h
   ·split at h
    ·split at h
     ·rename_i hg
      obtain rfl := Option.some.inj h
      exact hg
     ·cases h
    ·split at h
     ·cases h
     ·rename_i h3 h4
      obtain rfl := Option.some.inj h
      have hx := digs4_bound l 2
      have hy := digs4_bound l 8
      have h5 : ¬ (digsAt l 8 4).getD 0 < 56320 := fun e => h4 (.inr (.inr (.inl e)))
      have h6 : ¬ (digsAt l 8 4).getD 0 > 57343 := fun e => h4 (.inr (.inr (.inr e)))
      refine good_iff.2 ?_
      simp only
      omega
theorem jbody_bytes (L : List Int) (k : Nat) : ∀ (i : Nat) (acc : List Int), Bytes acc → (jbody L k i acc).1 = true → Bytes (jbody L k i acc).2.1 := by
 induction k with
 | zero => intro i acc _ h; simp [jbody] at h
 | succ k ih =>
  intro i acc ha h
  unfold jbody at h ⊢
  split at h
  ·simp at h
  ·rename_i h1
   rw [if_neg h1]
   split at h
   ·rename_i h2
    rw [if_pos h2]
    exact ha
   ·rename_i h2
    rw [if_neg h2]
    split at h
    ·simp at h
    ·rename_i h3
     rw [if_neg h3]
     split at h
     ·rename_i h4
      rw [if_pos h4]
      cases hj : jesc (L.drop i) with
      | none => rw [hj] at h; simp at h
      | some p =>
       rw [hj] at h
       simp only at h ⊢
       exact ih _ _ (ha.append (enc_bytes (jesc_good hj))) h
     ·rename_i h4
      rw [if_neg h4]
      split at h
      ·rename_i h5
       rw [if_pos h5]
       exact ih _ _ (ha.append (enc0_bytes _)) h
      ·simp at h
theorem word_ev (s : ByteArray) (hs : s.size ≤ 65536) (i : Nat) (hi : i < s.size) : Ev (fun k => jlex_word.f k s (i : Int)) (wordR i (wd (bytesOf s) i)) := by
 have hy : bytesOf (s.extract i s.size) = (bytesOf s).drop i := bytesOf_drop s i
 have hyz : (s.extract i s.size).size = s.size - i := size_drop s i
 have hb : bt (s.extract i s.size) 0 = (bytesOf s).getD i 0 := by
  rw [bt_get, hy, drop_cons' (by rw [size_of]; exact hi)]
  rfl
 have hrange := bt_range s (i : Int)
 rw [bt_nat'] at hrange
 obtain ⟨j, hj, hsign⟩ := sign_idx (c := (bytesOf s).getD i 0) (by omega) (by omega)
 have step1 : ∀ k, jlex_word.f k s (i : Int) = (if j ≥ 0 then (some (1, (s.extract i s.size).extract 0 1, (i : Int), wrap64 ((i : Int) + 1), 0, 0)) else (if ((bytesOf s).getD i 0) = 34 then ((esc_Unquote.f s (i : Int)).bind fun bt208 => (if bt208.2.2 ≥ 0 then (some (0, (⟨#[]⟩ : ByteArray), 0, 0, 4, bt208.2.2)) else (if (bt208.1.size : Int) > 4096 then (some (0, (⟨#[]⟩ : ByteArray), 0, 0, 2, (i : Int))) else (some (2, bt208.1, (i : Int), bt208.2.1, 0, 0))))) else (if ((bytesOf s).getD i 0) ≥ 97 then (jlex_word.j0 k (i : Int) (s.extract i s.size) (decide (((bytesOf s).getD i 0) ≤ 122))) else (jlex_word.j0 k (i : Int) (s.extract i s.size) false)))) := by
  intro k
  rw [jlex_word.f, if_pos (by omega), if_pos (by omega), Int.toNat_natCast, if_pos (by omega), hb, hj, Option.bind_some, if_pos (show (0 : Nat) ≤ 1 by decide), if_pos (show (1 : Int) ≤ ((s.extract i s.size).size : Int) by omega)]
 refine Ev.congr step1 ?_
 unfold wd
 by_cases h1 : inSet signS ((bytesOf s).getD i 0) = true
 ·rw [if_pos h1]
  refine Ev.congr (fun k => by rw [if_pos (hsign.2 h1)]) ?_
  have he : (s.extract i s.size).extract 0 1 = strOfNums [(bytesOf s).getD i 0] := strOf_eq _ (by
   rw [bytesOf_take, hy, drop_cons' (by rw [size_of]; exact hi)]
   rfl)
  rw [he, wrap_id (by omega) (by omega)]
  exact Ev.now _
 ·rw [if_neg h1]
  have hj0 : ¬ j ≥ 0 := fun e => h1 (hsign.1 e)
  by_cases h2 : (bytesOf s).getD i 0 = 34
  ·rw [if_pos h2]
   refine Ev.congr (fun k => by rw [if_neg hj0, if_pos h2]) ?_
   have hu : esc_Unquote.f s (i : Int) = some (unqT (bytesOf s) (i : Int)) := if_pos (by omega)
   have hun : unqT (bytesOf s) (i : Int) = (if (jbody (bytesOf s) ((bytesOf s).length + 1) (i + 1) []).1 = true then (strOfNums (jbody (bytesOf s) ((bytesOf s).length + 1) (i + 1) []).2.1, ((jbody (bytesOf s) ((bytesOf s).length + 1) (i + 1) []).2.2 : Int), -1) else (⟨#[]⟩, 0, ((jbody (bytesOf s) ((bytesOf s).length + 1) (i + 1) []).2.2 : Int))) := by
    unfold unqT
    rw [Int.toNat_natCast, if_neg (by rw [size_of]; rintro (h | h | h) <;> first | omega | exact h h2)]
    generalize jbody (bytesOf s) ((bytesOf s).length + 1) (i + 1) [] = q
    obtain ⟨b, bs, m⟩ := q
    cases b <;> rfl
   have hbd := jbody_where (bytesOf s) (bytes_of s) ((bytesOf s).length + 1) (i + 1) [] (by rw [size_of]; omega)
   have hsz := fun h => (jbody_bytes (bytesOf s) ((bytesOf s).length + 1) (i + 1) [] (fun x hx => by cases hx) h)
   rw [hu, hun]
   generalize jbody (bytesOf s) ((bytesOf s).length + 1) (i + 1) [] = q at hbd hsz
   obtain ⟨b, bs, m⟩ := q
   cases b with
   | false =>
    simp only [Bool.false_eq_true, if_false, Option.bind_some]
    refine Ev.congr (fun k => by rw [if_pos (by show (0 : Int) ≤ (m : Int); omega)]) ?_
    exact Ev.now _
   | true =>
    simp only [if_true, Option.bind_some]
    refine Ev.congr (fun k => by rw [if_neg (by decide)]) ?_
    rw [size_strOfNums (hsz rfl)]
    dsimp only
    by_cases h3 : bs.length > 4096
    ·refine Ev.congr (fun k => by rw [if_pos (by omega)]) ?_
     rw [if_pos h3]
     exact Ev.now _
    ·refine Ev.congr (fun k => by rw [if_neg (by omega)]) ?_
     rw [if_neg h3]
     exact Ev.now _
  ·rw [if_neg h2]
   have hy2 : (s.extract i s.size).size ≤ 140737488355328 := by omega
   generalize s.extract i s.size = y at hy hyz hy2
   have htk : ∀ n : Nat, n ≤ y.size → bytesOf (y.extract 0 n) = ((bytesOf s).drop i).take n := fun n _ => by rw [bytesOf_take, hy]
   by_cases h3 : 97 ≤ (bytesOf s).getD i 0 ∧ (bytesOf s).getD i 0 ≤ 122
   ·rw [if_pos h3]
    refine Ev.congr (fun k => by rw [if_neg hj0, if_neg h2, if_pos h3.1, decide_eq_true h3.2]) ?_
    have hwl := wh_le smallS ((bytesOf s).drop i)
    rw [List.length_drop, size_of] at hwl
    have hws := whileS y hy2
    rw [hy] at hws
    generalize wh smallS ((bytesOf s).drop i) = n at hwl hws
    have hbn := htk n (by omega)
    have hzn : (y.extract 0 n).size = n := size_take _ (by omega)
    have hn := name_iff (y.extract 0 n) _ hbn
    have hst := strOf_eq _ hbn
    have hfin : ∀ k, jlex_word.j0 (k + 1) (i : Int) y true = if nameS (((bytesOf s).drop i).take n) then some (4, y.extract 0 n, (i : Int), wrap64 ((i : Int) + (n : Int)), 0, 0) else some (0, (⟨#[]⟩ : ByteArray), 0, 0, 4, (i : Int)) := by
     intro k
     rw [jlex_word.j0, if_pos rfl, hws, Option.bind_some, if_pos (by omega), if_pos (by omega), Int.toNat_natCast, hzn]
     by_cases g1 : ((bytesOf s).drop i).take n = [116, 114, 117, 101]
     ·rw [if_pos (hn.1.2 g1), if_pos (show nameS (((bytesOf s).drop i).take n) from .inl g1)]
     ·rw [if_neg (fun e => g1 (hn.1.1 e))]
      by_cases g2 : ((bytesOf s).drop i).take n = [102, 97, 108, 115, 101]
      ·rw [if_pos (hn.2.1.2 g2), if_pos (show nameS (((bytesOf s).drop i).take n) from .inr (.inl g2))]
      ·rw [if_neg (fun e => g2 (hn.2.1.1 e))]
       by_cases g3 : ((bytesOf s).drop i).take n = [110, 117, 108, 108]
       ·rw [if_pos (hn.2.2.2 g3), if_pos (show nameS (((bytesOf s).drop i).take n) from .inr (.inr g3))]
       ·rw [if_neg (fun e => g3 (hn.2.2.1 e)), if_neg (by rintro (e | e | e); exact g1 e; exact g2 e; exact g3 e)]
    refine Ev.step hfin ?_
    by_cases g : nameS (((bytesOf s).drop i).take n)
    ·rw [if_pos g, if_pos g]
     rw [hst, wrap_id (by omega) (by omega)]
     exact Ev.now _
    ·rw [if_neg g, if_neg g]
     exact Ev.now _
   ·rw [if_neg h3]
    have hwl := wh_le digitS ((bytesOf s).drop i)
    rw [List.length_drop, size_of] at hwl
    have hasc := ascii_take digitS ((bytesOf s).drop i) (by decide)
    have hwd := whileD y hy2
    rw [hy] at hwd
    generalize wh digitS ((bytesOf s).drop i) = n at hwl hwd hasc
    have hbn := htk n (by omega)
    have hzn : (y.extract 0 n).size = n := size_take _ (by omega)
    have hst := strOf_eq _ hbn
    have hnil : (y.extract 0 n).toList = ([] : List UInt8) ↔ n = 0 := by
     rw [toList_nil_iff, ← List.length_eq_zero_iff, size_of, hzn]
    have hnum := number_ev (y.extract 0 n) (by rw [hbn]; exact hasc)
    rw [hbn] at hnum
    have key : Ev (fun k => jlex_word.j0 k (i : Int) y false) (wordR i (if n = 0 then .inl (4, i) else if numb (((bytesOf s).drop i).take n) = 0 then .inr (3, ((bytesOf s).drop i).take n, i + n) else .inl (numb (((bytesOf s).drop i).take n), i))) := by
     refine Ev.step (fun k => by rw [jlex_word.j0, if_neg (by decide), hwd, Option.bind_some, if_pos (by omega), if_pos (by omega), Int.toNat_natCast, hzn]) ?_
     by_cases g : n = 0
     ·rw [if_pos g]
      refine Ev.congr (fun k => by rw [if_pos (hnil.2 g)]) ?_
      exact Ev.now _
     ·rw [if_neg g]
      refine Ev.congr (fun k => by rw [if_neg (fun e => g (hnil.1 e))]) (Ev.bind hnum ?_)
      by_cases g2 : numb (((bytesOf s).drop i).take n) = 0
      ·rw [if_pos g2, if_pos g2]
       rw [hst, wrap_id (by omega) (by omega)]
       exact Ev.now _
      ·rw [if_neg g2, if_neg g2]
       exact Ev.now _
    by_cases h4 : 97 ≤ (bytesOf s).getD i 0
    ·have h5 : ¬ (bytesOf s).getD i 0 ≤ 122 := fun e => h3 ⟨h4, e⟩
     exact Ev.congr (fun k => by rw [if_neg hj0, if_neg h2, if_pos h4, decide_eq_false h5]) key
    ·exact Ev.congr (fun k => by rw [if_neg hj0, if_neg h2, if_neg (by omega)]) key
/-- A word ends behind its beginning, within the text. -/
theorem wd_inr {L : List Int} (hL : Bytes L) {i : Nat} (hi : i < L.length) {x : Int × List Int × Nat} (h : wd L i = .inr x) : i < x.2.2 ∧ x.2.2 ≤ L.length := by
 unfold wd at h
 split at h
 ·injection h with h; subst h; show i < i + 1 ∧ i + 1 ≤ _; omega
 ·split at h
  ·split at h
   ·rename_i h3
    have hb := jbody_bound L hL _ (i + 1) [] h3 (by omega)
    split at h
    ·cases h
    ·injection h with h; subst h; show i < (jbody L (L.length + 1) (i + 1) []).2.2 ∧ (jbody L (L.length + 1) (i + 1) []).2.2 ≤ _; omega
   ·cases h
  ·split at h
   ·split at h
    ·rename_i h4
     have hw := wh_le smallS (L.drop i)
     rw [List.length_drop] at hw
     injection h with h
     subst h
     show i < i + _ ∧ i + _ ≤ _
     have : wh smallS (L.drop i) ≠ 0 := fun e => by
      rw [e, List.take_zero] at h4
      unfold nameS at h4
      simp at h4
     omega
    ·cases h
   ·split at h
    ·cases h
    ·split at h
     ·have hw := wh_le digitS (L.drop i)
      rw [List.length_drop] at hw
      injection h with h
      subst h
      show i < i + _ ∧ i + _ ≤ _
      omega
     ·cases h
/-- A fault has an error, and lies within the text. -/
theorem wd_inl {L : List Int} (hL : Bytes L) {i : Nat} (hi : i < L.length) {e : Int × Nat} (h : wd L i = .inl e) : e.1 ≠ 0 ∧ e.2 ≤ L.length := by
 unfold wd at h
 split at h
 ·cases h
 ·split at h
  ·split at h
   ·split at h
    ·injection h with h; subst h; exact ⟨by simp, by show i ≤ _; omega⟩
    ·cases h
   ·injection h with h; subst h
    exact ⟨by simp, jbody_where L hL _ _ _ (by omega)⟩
  ·split at h
   ·split at h
    ·cases h
    ·injection h with h; subst h; exact ⟨by simp, by show i ≤ _; omega⟩
   ·split at h
    ·injection h with h; subst h; exact ⟨by simp, by show i ≤ _; omega⟩
    ·split at h
     ·cases h
     ·rename_i h9
      injection h with h; subst h; exact ⟨h9, by show i ≤ _; omega⟩
def toW (x : Int × List Int × Nat) : S30 := ⟨x.1, strOfNums x.2.1, (x.2.2 : Int)⟩
/-- How jlex.Cut tells it. -/
def cutR (s : ByteArray) (o : List (Int × List Int × Nat) × Option (Int × Nat)) : List S30 × Int × Int × Int × Int :=
 match o.2 with
 | none => (o.1.map toW, 0, 0, 0, 0)
 | some e => ([], e.1, (clamp s.size (e.2 : Int) : Int), lineOf ((bytesOf s).take (clamp s.size (e.2 : Int))), colOf ((bytesOf s).take (clamp s.size (e.2 : Int))))
theorem cut_l0 (s : ByteArray) (hs : s.size ≤ 65536) (n : Nat) : ∀ (i K : Nat) (acc : List (Int × List Int × Nat)), i ≤ s.size → s.size - i = n → n < K → acc.length ≤ i →
  Ev (fun k => jlex_Cut.l0 k s (acc.map toW) (i : Int)) (cutR s (cutS (bytesOf s) K i acc)) := by
 induction n using Nat.strongRecOn with
 | _ n ih =>
 intro i K acc hi hn hK hacc
 obtain ⟨K, rfl⟩ : ∃ m, K = m + 1 := ⟨K - 1, by omega⟩
 rw [cutS, size_of]
 by_cases h : i < s.size
 ·rw [if_neg (by omega)]
  refine Ev.step (fun k => by rw [jlex_Cut.l0, if_pos (by omega)]) (Ev.bind (word_ev s hs i h) ?_)
  cases hw : wd (bytesOf s) i with
  | inl e =>
   have he := wd_inl (bytes_of s) (by rw [size_of]; exact h) hw
   refine Ev.congr (fun k => by rw [wordR, if_neg he.1]) (Ev.bind (fault_ev s (by omega) (e.2 : Int) e.1) ?_)
   exact Ev.now _
  | inr x =>
   have hx := wd_inr (bytes_of s) (by rw [size_of]; exact h) hw
   rw [size_of] at hx
   have hwh := whileB (s.extract x.2.2 s.size) (by rw [size_drop]; omega)
   rw [bytesOf_drop] at hwh
   have hwl := wh_le blankS ((bytesOf s).drop x.2.2)
   rw [List.length_drop, size_of] at hwl
   have hj : (acc.map toW) ++ [(⟨x.1, strOfNums x.2.1, (i : Int)⟩ : S30)] = (acc ++ [(x.1, x.2.1, i)]).map toW := by simp [toW]
   have r0 : (wordR i (.inr x)).2.2.2.2.1 = 0 := rfl
   have r1 : (wordR i (.inr x)).2.2.2.1 = (x.2.2 : Int) := rfl
   have r2 : (0 : Int) ≤ (wordR i (.inr x)).2.2.2.1 := by rw [r1]; omega
   have r3 : (wordR i (.inr x)).2.2.2.1 ≤ (s.size : Int) := by rw [r1]; omega
   have r4 : (wordR i (.inr x)).1 = x.1 := rfl
   have r5 : (wordR i (.inr x)).2.1 = strOfNums x.2.1 := rfl
   have r6 : (wordR i (.inr x)).2.2.1 = (i : Int) := rfl
   refine Ev.congr (fun k => by
    rw [if_pos r0, if_pos (by rw [List.length_map]; omega), if_pos r2, if_pos r3, r1, Int.toNat_natCast, hwh, Option.bind_some, wrap_id (by omega) (by omega), r4, r5, r6, hj, show (x.2.2 : Int) + (wh blankS ((bytesOf s).drop x.2.2) : Int) = ((x.2.2 + wh blankS ((bytesOf s).drop x.2.2) : Nat) : Int) by omega]) ?_
   exact ih (s.size - (x.2.2 + wh blankS ((bytesOf s).drop x.2.2))) (by omega) _ K _ (by omega) rfl (by omega) (by rw [List.length_append, List.length_singleton]; omega)
 ·obtain rfl : i = s.size := by omega
  rw [if_pos (Nat.le_refl _)]
  refine Ev.step (fun k => by rw [jlex_Cut.l0, if_neg (by omega), if_pos (by rw [List.length_map]; omega)]) ?_
  have hj : (acc.map toW) ++ [(⟨0, ⟨#[]⟩, (s.size : Int)⟩ : S30)] = (acc ++ [(0, [], s.size)]).map toW := by
   rw [List.map_append]
   rfl
  rw [hj]
  exact Ev.now _
/-- What Judge tells. -/
def judgeS (L : List Int) : Option (Int × Nat) := (bad L).map fun p => (3, p)
theorem judge_ev (s : ByteArray) (hs : s.size ≤ 65536) : Ev (fun k => jlex_Judge.f k s) ((cutR s ([], judgeS (bytesOf s))).2) := by
 refine Ev.congr (fun k => by rw [jlex_Judge.f, if_neg (by omega)]) (Ev.bind (valid_ev s (by omega)) ?_)
 unfold judgeS
 cases hb : bad (bytesOf s) with
 | none =>
  simp only [badR, if_true]
  exact Ev.now _
 | some p =>
  simp only [badR, Bool.false_eq_true, if_false, Nat.zero_add]
  refine (Ev.bind (fault_ev s (by omega) (p : Int) 3) ?_)
  exact Ev.now _
/-- A text's words, or its first fault. -/
def lexS (L : List Int) : List (Int × List Int × Nat) × Option (Int × Nat) :=
 match judgeS L with
 | some e => ([], some e)
 | none => cutS L (L.length + 1) (wh blankS L) []
theorem lex_ev (s : ByteArray) (hs : s.size ≤ 65536) : Ev (fun k => jlex_Cut.f k s) (cutR s (lexS (bytesOf s))) := by
 refine Ev.congr (fun k => by rw [jlex_Cut.f]) (Ev.bind (judge_ev s hs) ?_)
 unfold lexS
 cases hj : judgeS (bytesOf s) with
 | none =>
  have hw := whileB s (by omega)
  have hwl := wh_le blankS (bytesOf s)
  rw [size_of] at hwl
  simp only [cutR, if_true, hw, Option.bind_some]
  exact cut_l0 s hs _ _ _ [] hwl rfl (by rw [size_of]; omega) (Nat.zero_le _)
 | some e =>
  have he : e.1 = 3 := by
   unfold judgeS at hj
   obtain ⟨p, _, rfl⟩ := Option.map_eq_some_iff.1 hj
   rfl
  have r0 : ¬ (cutR s ([], some e)).2.1 = 0 := by
   show ¬ e.1 = 0
   rw [he]
   decide
  refine Ev.congr (fun k => by rw [if_neg r0]) ?_
  exact Ev.now _
end Go.Proofs.YtoanbmggffkmgaaDoor.La
end
section
namespace Go.Proofs.YtoanbmggffkmgaaDoor.La
open Go.RowKit Go.Proofs.YtoanbmggffkmgaaDoor.P Go.Proofs.YtoanbmggffkmgaaDoorW.PrintWords Go.Proofs.YtoanbmggffkmgaaDoorW.PrintLast Go.Proofs.YtoanbmggffkmgaaDoorW.PrintMore
/-- A fault has an error. -/
theorem cutS_err {L : List Int} (hL : Bytes L) (k : Nat) : ∀ (i : Nat) (acc r : List (Int × List Int × Nat)) (e : Int × Nat), i ≤ L.length → cutS L k i acc = (r, some e) → e.1 ≠ 0 ∧ e.2 ≤ L.length ∧ r = [] := by
 induction k with
 | zero => intro i acc r e _ h; rw [cutS] at h; cases (Prod.mk.inj h).2
 | succ k ih =>
  intro i acc r e hi h
  rw [cutS] at h
  by_cases hlt : L.length ≤ i
  ·rw [if_pos hlt] at h
   cases (Prod.mk.inj h).2
  ·rw [if_neg hlt] at h
   cases hw : wd L i with
   | inl e2 =>
    rw [hw] at h
    obtain ⟨h1, h2⟩ := Prod.mk.inj h
    obtain rfl := Option.some.inj h2
    exact ⟨(wd_inl hL (by omega) hw).1, (wd_inl hL (by omega) hw).2, h1.symm⟩
   | inr x =>
    rw [hw] at h
    have hx := wd_inr hL (by omega) hw
    have hwl := wh_le blankS (L.drop x.2.2)
    rw [List.length_drop] at hwl
    exact ih _ _ _ _ (by omega) h
theorem lexS_err {L : List Int} (hL : Bytes L) {r : List (Int × List Int × Nat)} {e : Int × Nat} (h : lexS L = (r, some e)) : e.1 ≠ 0 ∧ e.2 ≤ L.length ∧ r = [] := by
 unfold lexS at h
 cases hj : judgeS L with
 | some e2 =>
  rw [hj] at h
  unfold judgeS at hj
  obtain ⟨p, hp, rfl⟩ := Option.map_eq_some_iff.1 hj
  obtain ⟨h1, h2⟩ := Prod.mk.inj h
  obtain rfl := Option.some.inj h2
  have := bad_bound L hL hp
  exact ⟨by simp, by show p ≤ _; omega, h1.symm⟩
 | none =>
  rw [hj] at h
  exact cutS_err hL _ _ _ _ _ (wh_le blankS L) h
end Go.Proofs.YtoanbmggffkmgaaDoor.La
end
section
namespace Go.Proofs.YtoanbmggffkmgaaDoor.La
open Go.RowKit Go.Proofs.YtoanbmggffkmgaaDoor.P Go.Proofs.YtoanbmggffkmgaaDoorW.PrintWords Go.Proofs.YtoanbmggffkmgaaDoorW.PrintLast Go.Proofs.YtoanbmggffkmgaaDoorW.PrintMore
theorem pow_small {i : Nat} (h : i ≤ 8) : (16 : Int) ^ i ≤ 4294967296 := by
 have : i = 0 ∨ i = 1 ∨ i = 2 ∨ i = 3 ∨ i = 4 ∨ i = 5 ∨ i = 6 ∨ i = 7 ∨ i = 8 := by omega
 rcases this with rfl | rfl | rfl | rfl | rfl | rfl | rfl | rfl | rfl <;> decide
/-- What the document's Hex answers. -/
def hexR (l : List Int) : Int × Bool := if l.length < 1 ∨ l.length > 8 then (0, false) else ((hexI 0 l).getD 0, (hexI 0 l).isSome)
theorem rhex_j3 (s : ByteArray) (x i b : Int) : Ev (fun k => dragomanref5_Hex.j3 k s x i b false) (0, false) := Ev.step (fun k => by rw [dragomanref5_Hex.j3, if_neg (by decide)]) (Ev.now _)
theorem rhex_j2 (s : ByteArray) (x i b : Int) (h : ¬ (65 ≤ b ∧ b ≤ 70)) : Ev (fun k => dragomanref5_Hex.j2 k s x i b false) (0, false) := by
 by_cases h1 : b ≥ 65
 ·exact Ev.step (fun k => by rw [dragomanref5_Hex.j2, if_neg (by decide), if_pos h1, decide_eq_false (by omega)]) (rhex_j3 s x i b)
 ·exact Ev.step (fun k => by rw [dragomanref5_Hex.j2, if_neg (by decide), if_neg h1]) (rhex_j3 s x i b)
theorem rhex_j1 (s : ByteArray) (x i b : Int) (h : ¬ (65 ≤ b ∧ b ≤ 70)) (h' : ¬ (97 ≤ b ∧ b ≤ 102)) : Ev (fun k => dragomanref5_Hex.j1 k s x i b false) (0, false) := by
 by_cases h1 : b ≥ 97
 ·exact Ev.step (fun k => by rw [dragomanref5_Hex.j1, if_neg (by decide), if_pos h1, decide_eq_false (by omega)]) (rhex_j2 s x i b h)
 ·exact Ev.step (fun k => by rw [dragomanref5_Hex.j1, if_neg (by decide), if_neg h1]) (rhex_j2 s x i b h)
theorem hexR_none {s : ByteArray} (h : hexI 0 (bytesOf s) = none) : hexR (bytesOf s) = (0, false) := by
 unfold hexR
 split
 ·rfl
 ·rw [h]; rfl
theorem hexR_long {s : ByteArray} (h : s.size > 8) : hexR (bytesOf s) = (0, false) := by
 unfold hexR
 rw [if_pos (by rw [size_of]; omega)]
theorem rhex_l0 (s : ByteArray) (hs : s.size ≤ 10000) (n : Nat) : ∀ (i : Nat) (x : Int), i ≤ s.size → s.size - i = n → i ≤ 8 → 0 ≤ x → x < 16 ^ i → hexI 0 (bytesOf s) = hexI x ((bytesOf s).drop i) → Ev (fun k => dragomanref5_Hex.l0 k s x (i : Int)) (hexR (bytesOf s)) := by
 induction n with
 | zero =>
  intro i x hi hn h8 x0 x1 hx
  refine Ev.step (fun k => by rw [dragomanref5_Hex.l0, if_neg (by omega)]) ?_
  rw [List.drop_of_length_le (by rw [size_of]; omega)] at hx
  have : (x, (s.toList != ([] : List UInt8))) = hexR (bytesOf s) := by
   have hnil := toList_nil_iff s
   unfold hexR
   rw [hx, size_of]
   by_cases h : bytesOf s = []
   ·have h0 : s.size = 0 := by rw [← size_of, h]; rfl
    obtain rfl : i = 0 := by omega
    rw [if_pos (by omega), hnil.2 h, show x = 0 by rw [Int.pow_zero] at x1; omega]
    rfl
   ·have h0 : 0 < s.size := by rw [← size_of]; exact List.length_pos_iff.2 h
    rw [if_neg (by omega), bne_iff_ne.2 (fun e => h (hnil.1 e))]
    rfl
  rw [this]
  exact Ev.now _
 | succ n ih =>
  intro i x hi hn h8 x0 x1 hx
  have hlt : i < s.size := by omega
  have hlt2 : i < (bytesOf s).length := by rw [size_of]; omega
  have hp := pow_small h8
  have hb : bt s (i : Int) = (bytesOf s).getD i 0 := bt_get s i
  have hnx := fun o ho => hex_next (s := s) (k := i) (x := x) (b := bt s (i : Int)) (o := o) hlt hb hx ho
  have hbb : 0 ≤ bt s (i : Int) ∧ bt s (i : Int) < 256 := by
   rw [hb]
   simp only [List.getD_eq_getElem?_getD, List.getElem?_eq_getElem hlt2, Option.getD_some]
   exact bytes_of s _ (List.getElem_mem hlt2)
  have hw : wrap64 ((i : Int) + 1) = ((i + 1 : Nat) : Int) := by rw [wrap_id (by omega) (by omega)]; omega
  have HW := Lib.hid hw
  clear hw
  have go : ∀ d, hexVal (bt s (i : Int)) = some d → i < 8 → Ev (fun k => dragomanref5_Hex.l0 k s (x * 16 + d) ((i + 1 : Nat) : Int)) (hexR (bytesOf s)) := by
   intro d hd hi8
   have hg := hex_grow x0 x1 (hexVal_lt hd)
   exact ih (i + 1) _ (by omega) (by omega) (by omega) hg.1 hg.2 (hnx _ hd)
  refine Ev.step (fun k => by rw [dragomanref5_Hex.l0, if_pos (by omega), if_pos (by omega)]) ?_
  generalize bt s (i : Int) = b at hnx hbb go
  have w1 : wrap64 (16 * x) = 16 * x := wrap_id (by omega) (by omega)
  have W1 := Lib.hid w1
  clear w1
  by_cases c1 : 48 ≤ b ∧ b ≤ 57
  ·have hv : hexVal b = some (b - 48) := by unfold hexVal; rw [if_pos c1]
   refine Ev.congr (fun k => by rw [if_pos (show b ≥ 48 from c1.1), decide_eq_true c1.2]) ?_
   by_cases h7 : (i : Int) ≥ 8
   ·rw [hexR_long (by omega)]
    (refine Ev.step (fun k => by rw [dragomanref5_Hex.j1, if_pos rfl, if_pos h7]) ?_; exact Ev.now _)
   ·have hw2 : wrap64 (16 * x + (b - 48) % 256) = x * 16 + (b - 48) := by rw [wrap_id (by omega) (by omega)]; omega
    refine Ev.step (fun k => by rw [dragomanref5_Hex.j1, if_pos rfl, if_neg h7, W1.out, hw2, HW.out]) (go _ hv (by omega))
  by_cases c2 : 97 ≤ b ∧ b ≤ 102
  ·have hv : hexVal b = some (b - 87) := by unfold hexVal; rw [if_neg c1, if_pos c2]
   refine Ev.congr (fun k => by rw [if_pos (show b ≥ 48 by omega), decide_eq_false (show ¬ b ≤ 57 by omega)]) ?_
   refine Ev.step (fun k => by rw [dragomanref5_Hex.j1, if_neg (by decide), if_pos (show b ≥ 97 from c2.1), decide_eq_true c2.2]) ?_
   by_cases h7 : (i : Int) ≥ 8
   ·rw [hexR_long (by omega)]
    (refine Ev.step (fun k => by rw [dragomanref5_Hex.j2, if_pos rfl, if_pos h7]) ?_; exact Ev.now _)
   ·have hw2 : wrap64 (16 * x + (b - 97) % 256) = x * 16 + (b - 97) := by rw [wrap_id (by omega) (by omega)]; omega
    have W2 := Lib.hid hw2
    clear hw2
    have hw3 : wrap64 (x * 16 + (b - 97) + 10) = x * 16 + (b - 87) := by rw [wrap_id (by omega) (by omega)]; omega
    refine Ev.step (fun k => by rw [dragomanref5_Hex.j2, if_pos rfl, if_neg h7, W1.out, W2.out, hw3, HW.out]) (go _ hv (by omega))
  by_cases c3 : 65 ≤ b ∧ b ≤ 70
  ·have hv : hexVal b = some (b - 55) := by unfold hexVal; rw [if_neg c1, if_neg c2, if_pos c3]
   refine Ev.congr (fun k => by rw [if_pos (show b ≥ 48 by omega), decide_eq_false (show ¬ b ≤ 57 by omega)]) ?_
   refine Ev.step (fun k => by rw [dragomanref5_Hex.j1, if_neg (by decide), if_neg (show ¬ b ≥ 97 by omega)]) ?_
   refine Ev.step (fun k => by rw [dragomanref5_Hex.j2, if_neg (by decide), if_pos (show b ≥ 65 from c3.1), decide_eq_true c3.2]) ?_
   by_cases h7 : (i : Int) ≥ 8
   ·rw [hexR_long (by omega)]
    (refine Ev.step (fun k => by rw [dragomanref5_Hex.j3, if_pos rfl, if_pos h7]) ?_; exact Ev.now _)
   ·have hw2 : wrap64 (16 * x + (b - 65) % 256) = x * 16 + (b - 65) := by rw [wrap_id (by omega) (by omega)]; omega
    have W2 := Lib.hid hw2
    clear hw2
    have hw3 : wrap64 (x * 16 + (b - 65) + 10) = x * 16 + (b - 55) := by rw [wrap_id (by omega) (by omega)]; omega
    refine Ev.step (fun k => by rw [dragomanref5_Hex.j3, if_pos rfl, if_neg h7, W1.out, W2.out, hw3, HW.out]) (go _ hv (by omega))
  have hv : hexVal b = none := by unfold hexVal; rw [if_neg c1, if_neg c2, if_neg c3]
  rw [hexR_none (hnx _ hv)]
  by_cases h48 : b ≥ 48
  ·exact Ev.congr (fun k => by rw [if_pos h48, decide_eq_false (by omega)]) (rhex_j1 s x i b c3 c2)
  ·exact Ev.congr (fun k => by rw [if_neg h48]) (rhex_j1 s x i b c3 c2)
theorem refHex_ev (s : ByteArray) (hs : s.size ≤ 10000) : Ev (fun k => dragomanref5_Hex.f k s) (hexR (bytesOf s)) :=
 Ev.congr (fun k => by rw [dragomanref5_Hex.f]; rfl) (rhex_l0 s hs s.size 0 0 (by omega) rfl (by omega) (by omega) (by decide) rfl)
theorem jesc_good' {l : List Int} {p : Int × Nat} (h : jesc l = some p) : good p.1 := by
 unfold jesc at h
 split at h
 ·cases h
 ·split at h
  ·rename_i h1
   obtain rfl := Option.some.inj h
   obtain ⟨x, hx⟩ := Option.isSome_iff_exists.1 h1
   rw [hx]
   exact shortJ_good hx
  ·split at h
   ·cases h
   ·split at h
    ·split at h
     ·rename_i hg
      obtain rfl := Option.some.inj h
      exact hg
     ·cases h
    ·split at h
     ·cases h
     ·rename_i h3 h4
      obtain rfl := Option.some.inj h
      have hx := digs4_bound l 2
      have hy := digs4_bound l 8
      have h5 : ¬ (digsAt l 8 4).getD 0 < 56320 := fun e => h4 (.inr (.inr (.inl e)))
      have h6 : ¬ (digsAt l 8 4).getD 0 > 57343 := fun e => h4 (.inr (.inr (.inr e)))
      refine good_iff.2 ?_
      simp only
      omega
theorem rcode_ev (t : ByteArray) (ht : t.size ≤ 65536) (i n : Nat) (h1 : 1 ≤ n) (h8 : n ≤ 8) (hi : i ≤ 100000) : Ev (fun k => dragomanref5_code.f k t (i : Int) (n : Int)) ((digsAt (bytesOf t) i n).getD (-1)) := by
 have w1 := Lib.hid (show wrap64 ((t.size : Int) - (n : Int)) = (t.size : Int) - (n : Int) from wrap_id (by omega) (by omega))
 have w2 := Lib.hid (show wrap64 ((i : Int) + (n : Int)) = ((i + n : Nat) : Int) by rw [wrap_id (by omega) (by omega)]; omega)
 by_cases h : i + n ≤ t.size
 ·have hx : bytesOf (t.extract i (i + n)) = ((bytesOf t).drop i).take n := by
   rw [bytesOf_extract, List.drop_take]
   congr 1
   omega
  have hl : (bytesOf (t.extract i (i + n))).length = n := by rw [hx, List.length_take, List.length_drop, size_of]; omega
  have hz : (t.extract i (i + n)).size = n := by rw [← size_of, hl]
  refine Ev.congr (fun k => by rw [dragomanref5_code.f, w1.out, w2.out, if_neg (by omega), if_pos (by omega), if_pos (by omega), if_pos (by omega), Int.toNat_natCast, Int.toNat_natCast]) (Ev.bind (refHex_ev _ (by omega)) ?_)
  have hh : hexR (bytesOf (t.extract i (i + n))) = ((hexI 0 (((bytesOf t).drop i).take n)).getD 0, (hexI 0 (((bytesOf t).drop i).take n)).isSome) := by
   unfold hexR
   rw [hl, if_neg (by omega), hx]
  rw [hh]
  unfold digsAt
  rw [size_of, if_pos h]
  cases hexI 0 (((bytesOf t).drop i).take n) with
  | none => exact Ev.congr (fun k => if_neg (by decide)) (Ev.now _)
  | some v => exact Ev.congr (fun k => if_pos rfl) (Ev.now _)
 ·have : digsAt (bytesOf t) i n = none := by unfold digsAt; rw [size_of, if_neg h]
  rw [this]
  (refine Ev.congr (fun k => by rw [dragomanref5_code.f, w1.out, if_pos (by omega)]) ?_; exact Ev.now _)
theorem rplain_some {c x : Int} (h : shortJ c = some x) : Ev (fun k => dragomanref5_plain.f k c false) (strOfNums [x], true) := by
 refine ⟨1, fun k hk => ?_⟩
 obtain ⟨k, rfl⟩ : ∃ m, k = m + 1 := ⟨k - 1, by omega⟩
 unfold shortJ at h
 (repeat' split at h) <;> first | (cases h; done) | (obtain rfl := Option.some.inj h; subst_vars; rfl)
theorem rplain_none {c : Int} (h : shortJ c = none) : ∃ s, Ev (fun k => dragomanref5_plain.f k c false) (s, false) := by
 have e : (¬ c = 34 ∧ ¬ c = 92 ∧ ¬ c = 98 ∧ ¬ c = 102 ∧ ¬ c = 110 ∧ ¬ c = 114 ∧ ¬ c = 116 ∧ ¬ c = 47) := by
  refine ⟨?_, ?_, ?_, ?_, ?_, ?_, ?_, ?_⟩ <;> (intro e; subst e; cases h)
 obtain ⟨h1, h2, h3, h4, h5, h6, h7, h8⟩ := e
 have e : ∀ k, dragomanref5_plain.f (k + 1) c false = if c = 101 then some ((⟨#[27]⟩ : ByteArray), false) else some ((⟨#[]⟩ : ByteArray), false) := by
  intro k
  rw [dragomanref5_plain.f, if_neg h1, beq_eq_false_iff_ne.2 h2, dragomanref5_plain.j0, if_neg (by decide), if_neg h3, if_neg h4, if_neg h5, if_neg h6, if_neg h7, if_neg h8]
 by_cases h9 : c = 101
 ·exact ⟨_, Ev.step (fun k => by rw [e, if_pos h9]) (Ev.now _)⟩
 ·exact ⟨_, Ev.step (fun k => by rw [e, if_neg h9]) (Ev.now _)⟩
theorem shortJ_low {c x : Int} (h : shortJ c = some x) : enc x = [x] := by
 unfold shortJ at h
 (repeat' split at h) <;> first | (cases h; done) | (obtain rfl := Option.some.inj h; rfl)
theorem low_none (o : Option Int) {l : List Int} {y : Int × Nat} (h : o.isSome = false ∨ l ≠ [92, 117] ∨ o.getD 0 < 56320 ∨ o.getD 0 > 57343) : (if o.isSome = false ∨ l ≠ [92, 117] ∨ o.getD 0 < 56320 ∨ o.getD 0 > 57343 then none else some y) = none := if_pos h
theorem low_some (o : Option Int) {l : List Int} {y : Int × Nat} (h : ¬ (o.isSome = false ∨ l ≠ [92, 117] ∨ o.getD 0 < 56320 ∨ o.getD 0 > 57343)) : (if o.isSome = false ∨ l ≠ [92, 117] ∨ o.getD 0 < 56320 ∨ o.getD 0 > 57343 then none else some y) = some y := if_neg h
def rescR : Option (Int × Nat) → ByteArray × Int
 | none => (⟨#[]⟩, 0)
 | some p => (strOfNums (enc p.1), (p.2 : Int))
theorem resc_j3f (t : ByteArray) (i v : Int) : Ev (fun k => dragomanref5_escape.j3 k t i v false) ((⟨#[]⟩ : ByteArray), (0 : Int)) := Ev.step (fun k => by rw [dragomanref5_escape.j3, if_neg (by decide)]) (Ev.now _)
theorem rcode4 (t : ByteArray) (ht : t.size ≤ 65536) (i : Nat) (hi : i ≤ 100000) : Ev (fun k => dragomanref5_code.f k t (i : Int) 4) ((digsAt (bytesOf t) i 4).getD (-1)) := rcode_ev t ht i 4 (by omega) (by omega) hi
theorem ref_good_d {r : Int} : dragomanref1_Good.f r = some (decide (good r)) := ref_good_eq r
theorem resc_ev (t : ByteArray) (ht : t.size ≤ 65536) (i : Nat) (hi : i < t.size) : Ev (fun k => dragomanref5_escape.f k t (i : Int) false) (rescR (jesc ((bytesOf t).drop i))) := by
 have hlen : ((bytesOf t).drop i).length = t.size - i := by rw [List.length_drop, size_of]
 have hg : ∀ j, ((bytesOf t).drop i).getD j 0 = bt t ((i + j : Nat) : Int) := by
  intro j
  rw [bt_get, Int.toNat_natCast]
  simp [List.getD_eq_getElem?_getD, List.getElem?_drop]
 have hd : ∀ j n, digsAt ((bytesOf t).drop i) j n = digsAt (bytesOf t) (i + j) n := fun j n => digsAt_drop _ (by rw [size_of]; omega) j n
 have w1 := Lib.hid (show wrap64 ((i : Int) + 1) = ((i + 1 : Nat) : Int) by rw [wrap_id (by omega) (by omega)]; omega)
 have w2 := Lib.hid (show wrap64 ((i : Int) + 2) = ((i + 2 : Nat) : Int) by rw [wrap_id (by omega) (by omega)]; omega)
 have w6 := Lib.hid (show wrap64 ((i : Int) + 6) = ((i + 6 : Nat) : Int) by rw [wrap_id (by omega) (by omega)]; omega)
 have w7 := Lib.hid (show wrap64 ((i : Int) + 7) = ((i + 7 : Nat) : Int) by rw [wrap_id (by omega) (by omega)]; omega)
 have w8 := Lib.hid (show wrap64 ((i : Int) + 8) = ((i + 8 : Nat) : Int) by rw [wrap_id (by omega) (by omega)]; omega)
 unfold jesc
 by_cases h1 : t.size - i ≤ 1
 ·rw [if_pos (by omega)]
  (refine Ev.congr (fun k => by rw [dragomanref5_escape.f, w1.out, if_pos (by omega)]) ?_; exact Ev.now _)
 rw [if_neg (by omega), hg 1, hd 2 4, hd 8 4]
 have st : ∀ k, dragomanref5_escape.f k t (i : Int) false = (dragomanref5_plain.f k (bt t ((i + 1 : Nat) : Int)) false).bind fun r => if r.2 = true then some (r.1, 2) else dragomanref5_escape.j0 k t (i : Int) false 4 false := by
  intro k
  rw [dragomanref5_escape.f, w1.out, if_neg (by omega), if_pos (by omega), if_pos (by omega)]
  congr 1
  funext r
  split
  ·rfl
  ·split <;> rfl
 have stj : ∀ k, dragomanref5_escape.j0 (k + 1) t (i : Int) false 4 false = if bt t ((i + 1 : Nat) : Int) = 117 then dragomanref5_escape.j1 k t (i : Int) false 4 else some ((⟨#[]⟩ : ByteArray), 0) := by
  intro k
  rw [dragomanref5_escape.j0, w1.out, if_neg (by decide), if_pos (by omega), if_pos (by omega)]
 generalize bt t ((i + 1 : Nat) : Int) = c at st stj
 refine Ev.congr st ?_
 cases hs : shortJ c with
 | some x =>
  rw [if_pos (show (some x).isSome = true from rfl)]
  refine Ev.bind (rplain_some hs) (Ev.congr (fun k => if_pos rfl) ?_)
  rw [Option.getD_some, rescR, shortJ_low hs]
  exact Ev.now _
 | none =>
  rw [if_neg (by decide)]
  obtain ⟨s0, hs0⟩ := rplain_none hs
  refine Ev.bind hs0 (Ev.congr (fun k => if_neg Bool.false_ne_true) (Ev.step stj ?_))
  by_cases hu : c = 117
  ·refine Ev.congr (fun k => if_pos hu) (Ev.step (fun k => by rw [dragomanref5_escape.j1, w2.out]) (Ev.bind (rcode4 t ht (i + 2) (by omega)) ?_))
   have hb := digs4_bound (bytesOf t) (i + 2)
   cases hq : digsAt (bytesOf t) (i + 2) 4 with
   | none =>
    rw [if_pos (.inr rfl)]
    refine Ev.congr (fun k => if_neg (by decide)) (Ev.step (fun k => by rw [dragomanref5_escape.j2, if_neg (by decide), if_neg (by decide), if_neg (by decide)]) (resc_j3f _ _ _))
   | some v =>
    rw [hq] at hb
    simp only [Option.getD_some] at hb ⊢
    rw [if_neg (by rintro (h | h); exact h hu; cases h)]
    refine Ev.congr (fun k => by rw [if_pos (by omega), ref_good_d, Option.bind_some]) ?_
    by_cases hgd : good v
    ·have hg2 := good_iff.1 hgd
     rw [if_pos (by omega), if_pos hgd, rescR]
     refine Ev.step (fun k => by rw [dragomanref5_escape.j2, decide_eq_true hgd, if_pos rfl, ref_put_eq, Option.bind_some, enc0_good hgd, show wrap64 ((2 : Int) + 4) = 6 from wrap_id (by decide) (by decide)]) ?_
     exact Ev.now _
    ·have hg2 : ¬ (v < 55296 ∨ 57343 < v) := fun h => hgd (good_iff.2 ⟨by omega, by omega, h⟩)
     have j2 : ∀ k, dragomanref5_escape.j2 (k + 1) t (i : Int) false 4 v (decide (good v)) = if v < 56320 then (if ((i + 8 : Nat) : Int) ≤ (t.size : Int) then (if bt t ((i + 6 : Nat) : Int) = 92 then dragomanref5_escape.j3 k t (i : Int) v (bt t ((i + 7 : Nat) : Int) == 117) else dragomanref5_escape.j3 k t (i : Int) v false) else dragomanref5_escape.j3 k t (i : Int) v false) else dragomanref5_escape.j3 k t (i : Int) v false := by
      intro k
      rw [dragomanref5_escape.j2, decide_eq_false hgd, if_neg (by decide), if_neg (by decide), if_pos (by omega), w8.out, w6.out, w7.out]
      split
      ·split
       ·rw [if_pos (by omega), if_pos (by omega)]
        split
        ·rw [if_pos (by omega), if_pos (by omega)]
        ·rfl
       ·rfl
      ·rfl
     refine Ev.step j2 ?_
     by_cases hv : v < 56320
     ·rw [if_neg (show ¬ (v < 55296 ∨ v ≥ 56320) by omega)]
      refine Ev.congr (fun k => if_pos hv) ?_
      by_cases h8 : ((i + 8 : Nat) : Int) ≤ (t.size : Int)
      ·refine Ev.congr (fun k => if_pos h8) ?_
       have htk : (((bytesOf t).drop i).drop 6).take 2 = [bt t ((i + 6 : Nat) : Int), bt t ((i + 7 : Nat) : Int)] := by
        rw [← hg 6, ← hg 7]
        have e6 : ((bytesOf t).drop i).drop 6 = ((bytesOf t).drop i).getD 6 0 :: ((bytesOf t).drop i).drop 7 := by
         rw [List.drop_eq_getElem_cons (by omega), List.getD_eq_getElem?_getD, List.getElem?_eq_getElem (by omega)]; rfl
        have e7 : ((bytesOf t).drop i).drop 7 = ((bytesOf t).drop i).getD 7 0 :: ((bytesOf t).drop i).drop 8 := by
         rw [List.drop_eq_getElem_cons (by omega), List.getD_eq_getElem?_getD, List.getElem?_eq_getElem (by omega)]; rfl
        rw [e6, e7]
        rfl
       rw [htk]
       by_cases h92 : bt t ((i + 6 : Nat) : Int) = 92
       ·refine Ev.congr (fun k => if_pos h92) ?_
        by_cases h117 : bt t ((i + 7 : Nat) : Int) = 117
        ·have hbw := digs4_bound (bytesOf t) (i + 8)
         rw [h117, h92]
         refine Ev.step (fun k => by rw [dragomanref5_escape.j3, if_pos (by decide), w8.out]) (Ev.bind (rcode4 t ht (i + 8) (by omega)) ?_)
         cases hw : digsAt (bytesOf t) (i + 8) 4 with
         | none =>
          rw [low_none none (.inl rfl)]
          (refine Ev.congr (fun k => if_neg (by decide)) ?_; exact Ev.now _)
         | some x =>
          rw [hw] at hbw
          replace hbw : 0 ≤ x ∧ x < 65536 := hbw
          rw [Option.getD_some]
          by_cases hx1 : x ≥ 56320
          ·by_cases hx2 : x < 57344
           ·rw [low_some (some x) (by
             rintro (h | h | h | h)
             ·cases h
             ·exact h rfl
             ·rw [Option.getD_some] at h; omega
             ·rw [Option.getD_some] at h; omega), Option.getD_some]
            have hgx : good (65536 + (v - 55296) * 1024 + (x - 56320)) := good_iff.2 ⟨by omega, by omega, .inr (by omega)⟩
            have ww : wrap64 ((wrap64 ((wrap64 (65536 + (wrap64 ((wrap64 (v - 55296)) * 1024)))) + x)) - 56320) = 65536 + (v - 55296) * 1024 + (x - 56320) := by
             rw [wrap_id (n := v - 55296) (by omega) (by omega), wrap_id (n := (v - 55296) * 1024) (by omega) (by omega), wrap_id (n := 65536 + (v - 55296) * 1024) (by omega) (by omega), wrap_id (n := 65536 + (v - 55296) * 1024 + x) (by omega) (by omega), wrap_id (by omega) (by omega)]
             omega
            have WW := Lib.hid ww
            clear ww
            refine Ev.congr (fun k => by rw [if_pos hx1, if_pos hx2, WW.out, ref_put_eq, Option.bind_some, enc0_good hgx]) ?_
            exact Ev.now _
           ·rw [low_none (some x) (.inr (.inr (.inr (by rw [Option.getD_some]; omega))))]
            (refine Ev.congr (fun k => by rw [if_pos hx1, if_neg hx2]) ?_; exact Ev.now _)
          ·rw [low_none (some x) (.inr (.inr (.inl (by rw [Option.getD_some]; omega))))]
           (refine Ev.congr (fun k => by rw [if_neg hx1]) ?_; exact Ev.now _)
        ·rw [low_none _ (.inr (.inl (fun h => h117 (List.cons.inj (List.cons.inj h).2).1))), beq_eq_false_iff_ne.2 h117]
         exact resc_j3f _ _ _
       ·rw [low_none _ (.inr (.inl (fun h => h92 (List.cons.inj h).1)))]
        exact Ev.congr (fun k => if_neg h92) (resc_j3f _ _ _)
      ·have hn : digsAt (bytesOf t) (i + 8) 4 = none := by unfold digsAt; rw [size_of, if_neg (by omega)]
       rw [hn, low_none none (.inl rfl)]
       exact Ev.congr (fun k => if_neg h8) (resc_j3f _ _ _)
     ·rw [if_pos (show v < 55296 ∨ v ≥ 56320 by omega), if_neg hgd]
      exact Ev.congr (fun k => if_neg hv) (resc_j3f _ _ _)
  ·rw [if_pos (.inl hu)]
   (refine Ev.congr (fun k => if_neg hu) ?_; exact Ev.now _)
def unqR (q : Bool × List Int × Nat) : ByteArray × Int × Int := if q.1 = true then (strOfNums q.2.1, (q.2.2 : Int), -1) else (⟨#[]⟩, 0, (q.2.2 : Int))
theorem runq_l0 (t : ByteArray) (ht : t.size ≤ 65536) (n : Nat) : ∀ (i K : Nat) (x : ByteArray), i ≤ t.size → t.size - i = n → n < K → x.size ≤ 4 * i → Ev (fun k => dragomanref5_Unquote.l0 k t x (i : Int)) (unqR (jbody (bytesOf t) K i (bytesOf x))) := by
 induction n using Nat.strongRecOn with
 | _ n ih =>
 intro i K x hi hn hK hx
 obtain ⟨K, rfl⟩ : ∃ m, K = m + 1 := ⟨K - 1, by omega⟩
 have hbt : bt t (i : Int) = (bytesOf t).getD i 0 := by rw [bt_get]; rfl
 unfold jbody
 rw [size_of]
 by_cases h : i < t.size
 ·rw [if_neg (by omega)]
  refine Ev.step (fun k => by rw [dragomanref5_Unquote.l0, if_pos (by omega), if_pos (by omega)]) ?_
  rw [hbt]
  by_cases h34 : (bytesOf t).getD i 0 = 34
  ·have w1 := Lib.hid (show wrap64 ((i : Int) + 1) = ((i + 1 : Nat) : Int) by rw [wrap_id (by omega) (by omega)]; omega)
   rw [if_pos h34, bne_eq_false_iff_eq.2 h34, unqR, if_pos rfl]
   refine Ev.step (fun k => by rw [dragomanref5_Unquote.j2, if_neg (by decide), if_neg (by omega), w1.out]) ?_
   rw [strOfNums_of]
   exact Ev.now _
  ·rw [if_neg h34, bne_iff_ne.2 h34]
   refine Ev.step (fun k => by rw [dragomanref5_Unquote.j2, if_pos rfl, if_pos (by omega), if_pos (by omega), hbt]) ?_
   by_cases h92 : (bytesOf t).getD i 0 = 92
   ·rw [if_neg (by omega), if_pos h92]
    refine Ev.congr (fun k => if_pos h92) (Ev.bind (resc_ev t ht i h) ?_)
    cases hj : jesc ((bytesOf t).drop i) with
    | none => exact Ev.congr (fun k => if_pos rfl) (Ev.now _)
    | some p =>
     have hp := jesc_len hj
     rw [List.length_drop, size_of] at hp
     have hgp := jesc_good' hj
     have hel := enc_len p.1
     have hz : (strOfNums (enc p.1)).size = (enc p.1).length := size_strOfNums (enc_bytes hgp)
     have w1 := Lib.hid (show wrap64 ((i : Int) + (p.2 : Int)) = ((i + p.2 : Nat) : Int) by rw [wrap_id (by omega) (by omega)]; omega)
     refine Ev.congr (fun k => by rw [rescR, if_neg (by simp only; omega), if_pos (by simp only; rw [hz]; omega)]) ?_
     simp only [w1.out]
     have := ih (t.size - (i + p.2)) (by omega) (i + p.2) K (x ++ strOfNums (enc p.1)) (by omega) rfl (by omega) (by rw [size_append', hz]; omega)
     rw [bytesOf_append, strOfNums_bytes (enc_bytes hgp)] at this
     exact this
   ·have hbd := tk_bound ((bytesOf t).drop i) ((bytes_of t).drop i)
    rw [List.length_drop, size_of] at hbd
    refine Ev.congr (fun k => by rw [if_neg h92, if_pos (by omega), Int.toNat_natCast]) (Ev.bind (ref_take_ev _) ?_)
    rw [bytesOf_drop, if_neg h92]
    by_cases h0 : (tk ((bytesOf t).drop i)).2 = 0
    ·refine Ev.congr (fun k => if_pos h0) ?_
     rw [if_neg (show ¬ (tk ((bytesOf t).drop i)).2 > 0 by omega)]
     by_cases h32 : (bytesOf t).getD i 0 < 32
     ·rw [if_pos h32]; exact Ev.now _
     ·rw [if_neg h32]; exact Ev.now _
    ·refine Ev.congr (fun k => if_neg h0) ?_
     by_cases h32 : (bytesOf t).getD i 0 < 32
     ·rw [if_pos h32]
      (refine Ev.congr (fun k => if_pos h32) ?_; exact Ev.now _)
     ·rw [if_neg h32, if_pos (show (tk ((bytesOf t).drop i)).2 > 0 by omega)]
      rcases tk_inv ((bytesOf t).drop i) ((bytes_of t).drop i) with e | ⟨hgp, hlen, q, hq⟩
      ·rw [e] at h0; exact absurd rfl h0
      ·generalize htk : tk ((bytesOf t).drop i) = T at *
       obtain ⟨r, m⟩ := T
       simp only at *
       subst hlen
       have hel := enc_len r
       have w1 := Lib.hid (show wrap64 ((i : Int) + ((enc r).length : Int)) = ((i + (enc r).length : Nat) : Int) by rw [wrap_id (by omega) (by omega)]; omega)
       have hex : bytesOf (t.extract i (i + (enc r).length)) = enc r := by
        rw [bytesOf_extract, List.drop_take, hq, show i + (enc r).length - i = (enc r).length by omega, List.take_left]
       have hz : (t.extract i (i + (enc r).length)).size = (enc r).length := by rw [← size_of, hex]
       refine Ev.congr (fun k => by rw [w1.out, if_neg h32, if_pos (by omega), if_pos (by omega), Int.toNat_natCast, if_pos (by rw [hz]; omega)]) ?_
       have := ih (t.size - (i + (enc r).length)) (by omega) (i + (enc r).length) K (x ++ t.extract i (i + (enc r).length)) (by omega) rfl (by omega) (by rw [size_append', hz]; omega)
       rw [bytesOf_append, hex] at this
       rw [enc0_good hgp, Int.toNat_natCast]
       exact this
 ·obtain rfl : i = t.size := by omega
  rw [if_pos (Nat.le_refl _), unqR, if_neg Bool.false_ne_true]
  exact Ev.step (fun k => by rw [dragomanref5_Unquote.l0, if_neg (by omega)]) (Ev.step (fun k => by rw [dragomanref5_Unquote.j2, if_neg (by decide), if_pos (by omega)]) (Ev.now _))
theorem runq_ev (t : ByteArray) (ht : t.size ≤ 65536) (i : Nat) (hi : i < t.size) (h34 : (bytesOf t).getD i 0 = 34) : Ev (fun k => dragomanref5_Unquote.f k t (i : Int)) (unqR (jbody (bytesOf t) ((bytesOf t).length + 1) (i + 1) [])) := by
 have hbt : bt t (i : Int) = 34 := by rw [bt_get]; exact h34
 have w1 := Lib.hid (show wrap64 ((i : Int) + 1) = ((i + 1 : Nat) : Int) by rw [wrap_id (by omega) (by omega)]; omega)
 refine Ev.congr (fun k => by rw [dragomanref5_Unquote.f, if_neg (by omega), if_neg (by omega), if_pos (by omega), if_pos (by omega), hbt]) (Ev.step (fun k => by rw [dragomanref5_Unquote.j0, if_neg (by decide), w1.out]) ?_)
 exact runq_l0 t ht _ (i + 1) _ ⟨#[]⟩ (by omega) rfl (by rw [size_of]; omega) (Nat.zero_le _)
end Go.Proofs.YtoanbmggffkmgaaDoor.La
end
section
namespace Go.Proofs.YtoanbmggffkmgaaDoor.La
open Go.RowKit Go.Proofs.YtoanbmggffkmgaaDoor.P Go.Proofs.YtoanbmggffkmgaaDoorW.PrintWords Go.Proofs.YtoanbmggffkmgaaDoorW.PrintLast Go.Proofs.YtoanbmggffkmgaaDoorW.PrintMore
theorem digit_eq (b : Int) : dragomanref1_digit.f b = some (isDig b) := by
 unfold dragomanref1_digit.f isDig
 by_cases h : b ≥ 48
 ·rw [if_pos h, decide_eq_true (show 48 ≤ b by omega), Bool.true_and]
 ·rw [if_neg h, decide_eq_false (show ¬ 48 ≤ b by omega), Bool.false_and]
theorem drop_cons {L : List Int} {i : Nat} (h : i < L.length) : L.drop i = L.getD i 0 :: L.drop (i + 1) := by
 rw [List.drop_eq_getElem_cons h, List.getD_eq_getElem?_getD, List.getElem?_eq_getElem h]
 rfl
theorem bt_nat (s : ByteArray) (i : Nat) : bt s (i : Int) = (bytesOf s).getD i 0 := by rw [bt_get]; rfl
theorem run_l0 (s : ByteArray) (hs : s.size ≤ 1073741824) (n : Nat) : ∀ i : Nat, i ≤ s.size → s.size - i = n → Ev (fun k => dragomanref1_run.l0 k s (i : Int)) ((i + digs ((bytesOf s).drop i) : Nat) : Int) := by
 induction n with
 | zero =>
  intro i hi hn
  obtain rfl : i = s.size := by omega
  refine Ev.step (fun k => by rw [dragomanref1_run.l0, if_neg (by omega)]) ?_
  rw [List.drop_eq_nil_of_le (by rw [size_of]; omega)]
  exact Ev.now _
 | succ n ih =>
  intro i hi hn
  refine Ev.step (fun k => by rw [dragomanref1_run.l0, if_pos (by omega), if_pos (by omega), digit_eq, Option.bind_some]) ?_
  rw [drop_cons (by rw [size_of]; omega), ← bt_nat]
  simp only [digs]
  cases isDig (bt s (i : Int)) with
  | true =>
   simp only [if_true]
   rw [wrap_id (by omega) (by omega), show i + (digs ((bytesOf s).drop (i + 1)) + 1) = i + 1 + digs ((bytesOf s).drop (i + 1)) by omega]
   exact ih (i + 1) (by omega) (by omega)
  | false =>
   simp only [Bool.false_eq_true, if_false]
   exact Ev.now _
theorem run_ev (s : ByteArray) (hs : s.size ≤ 1073741824) : Ev (fun k => dragomanref1_run.f k s) (digs (bytesOf s) : Int) := by
 have := run_l0 s hs _ 0 (by omega) rfl
 rw [Nat.zero_add] at this
 exact this
/-- What parts tells of a text's form. -/
def PartsAs (o : Option (List Int)) (r : Bool × ByteArray × ByteArray × ByteArray × Bool) : Prop :=
 (∃ p, o = some p ∧ r.2.2.2.2 = true ∧ bytesOf r.2.2.2.1 = p) ∨ (o = none ∧ r.2.2.2.2 = false ∧ r.2.2.2.1 = ⟨#[]⟩)
theorem parts_j6 (x7 : Bool) (x9 x10 x11 x12 : ByteArray) (hz : x12.size ≤ 1073741824) (h : x12 = x11) :
  ∃ r, PartsAs (if noSign (bytesOf x11) = [] ∨ digs (noSign (bytesOf x11)) ≠ (noSign (bytesOf x11)).length then none else some (bytesOf x11)) r ∧
   Ev (fun k => dragomanref1_parts.j6 k x7 x9 x10 x11 x12 (decide ((bytesOf x12).head? = some 45 ∨ (bytesOf x12).head? = some 43))) r := by
 have key : ∀ (y : ByteArray) (g : Nat → Option (Bool × ByteArray × ByteArray × ByteArray × Bool)), y.size ≤ 1073741824 → noSign (bytesOf x11) = bytesOf y →
   (∀ k, g (k + 1) = if y.toList = ([] : List UInt8) then (some (false, (⟨#[]⟩ : ByteArray), (⟨#[]⟩ : ByteArray), (⟨#[]⟩ : ByteArray), false)) else ((dragomanref1_run.f k y).bind fun t259 => (if t259 = (y.size : Int) then (some (x7, x9, x10, x11, true)) else (some (false, (⟨#[]⟩ : ByteArray), (⟨#[]⟩ : ByteArray), (⟨#[]⟩ : ByteArray), false))))) →
   ∃ r, PartsAs (if noSign (bytesOf x11) = [] ∨ digs (noSign (bytesOf x11)) ≠ (noSign (bytesOf x11)).length then none else some (bytesOf x11)) r ∧ Ev g r := by
  intro y g hy hn hg
  rw [hn, size_of]
  by_cases h0 : bytesOf y = []
  ·rw [if_pos (.inl h0)]
   exact ⟨_, .inr ⟨rfl, rfl, rfl⟩, Ev.step (fun k => by rw [hg, if_pos ((toList_nil_iff _).2 h0)]) (Ev.now _)⟩
  ·by_cases h1 : digs (bytesOf y) = y.size
   ·rw [if_neg (by rintro (h | h); exact h0 h; exact h h1)]
    refine ⟨(x7, x9, x10, x11, true), .inl ⟨_, rfl, rfl, rfl⟩, Ev.step (fun k => by rw [hg, if_neg (fun e => h0 ((toList_nil_iff _).1 e))]) (Ev.bind (run_ev y hy) ?_)⟩
    simp only [if_pos (show (digs (bytesOf y) : Int) = (y.size : Int) by omega)]
    exact Ev.now _
   ·rw [if_pos (.inr h1)]
    refine ⟨(false, ⟨#[]⟩, ⟨#[]⟩, ⟨#[]⟩, false), .inr ⟨rfl, rfl, rfl⟩, Ev.step (fun k => by rw [hg, if_neg (fun e => h0 ((toList_nil_iff _).1 e))]) (Ev.bind (run_ev y hy) ?_)⟩
    simp only [if_neg (show ¬ (digs (bytesOf y) : Int) = (y.size : Int) by omega)]
    exact Ev.now _
 subst h
 by_cases hs : (bytesOf x12).head? = some 45 ∨ (bytesOf x12).head? = some 43
 ·have h0 : 0 < x12.size := by
   rw [← size_of]
   cases hl : bytesOf x12 with
   | nil => rw [hl] at hs; simp at hs
   | cons a t => simp
  refine key (x12.extract 1 x12.size) _ (by rw [size_drop]; omega) (by unfold noSign; rw [if_pos hs, bytesOf_drop]) (fun k => ?_)
  rw [decide_eq_true hs, dragomanref1_parts.j6, if_pos rfl, if_pos (by omega)]
 ·refine key x12 _ hz (by unfold noSign; rw [if_neg hs]) (fun k => ?_)
  rw [decide_eq_false hs, dragomanref1_parts.j6, if_neg (by decide)]
theorem parts_j4 (x0 : ByteArray) (x7 : Bool) (x9 x10 : ByteArray) (hz : x0.size ≤ 1073741824) : ∃ r, PartsAs (nexp (bytesOf x0)) r ∧ Ev (fun k => dragomanref1_parts.j4 k x0 x7 x9 x10) r := by
 cases hl : bytesOf x0 with
 | nil => exact ⟨_, .inl ⟨[], rfl, rfl, rfl⟩, Ev.step (fun k => by rw [dragomanref1_parts.j4, if_pos ((toList_nil_iff _).2 hl)]) (Ev.now _)⟩
 | cons c p =>
  obtain ⟨h0, hb, hp, hn⟩ := cons_of x0 hl
  have hne : ¬ x0.toList = ([] : List UInt8) := fun e => by rw [toList_nil_iff, hl] at e; cases e
  simp only [nexp]
  have hj5 : ∃ r, PartsAs (if c ≠ 101 ∧ c ≠ 69 then none else if noSign p = [] ∨ digs (noSign p) ≠ (noSign p).length then none else some p) r ∧ Ev (fun k => dragomanref1_parts.j5 k x0 x7 x9 x10 (decide (c ≠ 101 ∧ c ≠ 69))) r := by
   by_cases hc : c ≠ 101 ∧ c ≠ 69
   ·rw [if_pos hc]
    exact ⟨_, .inr ⟨rfl, rfl, rfl⟩, Ev.step (fun k => by rw [dragomanref1_parts.j5, if_pos (decide_eq_true hc)]) (Ev.now _)⟩
   ·rw [if_neg hc]
    obtain ⟨r, hr, he⟩ := parts_j6 x7 x9 x10 (x0.extract 1 x0.size) (x0.extract 1 x0.size) (by rw [size_drop]; omega) rfl
    rw [hp] at hr he
    refine ⟨r, hr, Ev.step (fun k => by rw [dragomanref1_parts.j5, if_neg (by simpa using hc), if_pos (by omega)]) ?_⟩
    cases hl2 : bytesOf (x0.extract 1 x0.size) with
    | nil =>
     rw [hp] at hl2
     subst hl2
     simp only [if_pos ((toList_nil_iff _).2 hp)]
     exact he
    | cons d q =>
     obtain ⟨g0, gb, gp, gn⟩ := cons_of _ hl2
     have gne : ¬ (x0.extract 1 x0.size).toList = ([] : List UInt8) := fun e => by rw [toList_nil_iff, hl2] at e; cases e
     simp only [if_neg gne, if_pos (show (0 : Int) < ((x0.extract 1 x0.size).size : Int) by omega), gb]
     rw [hp] at hl2
     subst hl2
     by_cases hd : d = 43
     ·simp only [if_pos hd]
      rw [decide_eq_true (by simp [hd])] at he
      exact he
     ·simp only [if_neg hd]
      have : decide ((d :: q).head? = some 45 ∨ (d :: q).head? = some 43) = (d == 45) := by rw [Bool.eq_iff_iff]; simp [hd]
      rw [this] at he
      exact he
  obtain ⟨r, hr, he⟩ := hj5
  refine ⟨r, hr, Ev.step (fun k => by rw [dragomanref1_parts.j4, if_neg hne, if_pos (by omega), hb]) ?_⟩
  by_cases h1 : c = 101
  ·rw [decide_eq_false (by simp [h1])] at he
   simp only [if_pos h1]
   exact he
  ·simp only [if_neg h1]
   have : (c != 69) = decide (c ≠ 101 ∧ c ≠ 69) := by rw [Bool.eq_iff_iff]; simp [h1]
   rw [this]
   exact he
theorem parts_j2 (x0 : ByteArray) (x7 : Bool) (x9 : ByteArray) (hz : x0.size ≤ 1073741824) : ∃ r, PartsAs ((nfrac (bytesOf x0)).bind nexp) r ∧ Ev (fun k => dragomanref1_parts.j2 k x0 x7 x9 false) r := by
 have hj3 : ∃ r, PartsAs ((nfrac (bytesOf x0)).bind nexp) r ∧ Ev (fun k => dragomanref1_parts.j3 k x0 x7 x9 (⟨#[]⟩ : ByteArray) (decide ((bytesOf x0).head? = some 46))) r := by
  unfold nfrac
  by_cases hdot : (bytesOf x0).head? = some 46
  ·rw [if_pos hdot]
   have h0 : 0 < x0.size := by
    rw [← size_of]
    cases hl : bytesOf x0 with
    | nil => rw [hl] at hdot; cases hdot
    | cons a t => simp
   have hrn := run_ev (x0.extract 1 x0.size) (by rw [size_drop]; omega)
   rw [bytesOf_drop] at hrn
   have hdl := digs_le ((bytesOf x0).drop 1)
   rw [List.length_drop, size_of] at hdl
   generalize digs ((bytesOf x0).drop 1) = m at hrn hdl
   have hw : wrap64 (1 + (m : Int)) = ((1 + m : Nat) : Int) := by rw [wrap_id (by omega) (by omega)]; omega
   have hmid : (x0.extract 1 (1 + m)).toList = ([] : List UInt8) ↔ m = 0 := by
    rw [toList_nil_iff, bytesOf_extract, ← List.length_eq_zero_iff, List.length_drop, List.length_take, size_of]
    omega
   by_cases hm : m = 0
   ·rw [if_pos hm]
    refine ⟨(false, ⟨#[]⟩, ⟨#[]⟩, ⟨#[]⟩, false), .inr ⟨rfl, rfl, rfl⟩, Ev.step (fun k => by rw [dragomanref1_parts.j3, if_pos (decide_eq_true hdot), if_pos (by omega)]) (Ev.bind hrn ?_)⟩
    simp only [hw, if_pos (show (1 : Int) ≤ ((1 + m : Nat) : Int) by omega), if_pos (show ((1 + m : Nat) : Int) ≤ (x0.size : Int) by omega), if_pos (show (0 : Int) ≤ ((1 + m : Nat) : Int) by omega), Int.toNat_natCast, if_pos (hmid.2 hm)]
    exact Ev.now _
   ·rw [if_neg hm]
    obtain ⟨r, hr, he⟩ := parts_j4 (x0.extract (1 + m) x0.size) x7 x9 (x0.extract 1 (1 + m)) (by rw [size_drop]; omega)
    rw [bytesOf_drop] at hr
    refine ⟨r, hr, Ev.step (fun k => by rw [dragomanref1_parts.j3, if_pos (decide_eq_true hdot), if_pos (by omega)]) (Ev.bind hrn ?_)⟩
    simp only [hw, if_pos (show (1 : Int) ≤ ((1 + m : Nat) : Int) by omega), if_pos (show ((1 + m : Nat) : Int) ≤ (x0.size : Int) by omega), if_pos (show (0 : Int) ≤ ((1 + m : Nat) : Int) by omega), Int.toNat_natCast, if_neg (fun e => hm (hmid.1 e))]
    exact he
  ·rw [if_neg hdot]
   obtain ⟨r, hr, he⟩ := parts_j4 x0 x7 x9 (⟨#[]⟩) hz
   exact ⟨r, hr, Ev.step (fun k => by rw [dragomanref1_parts.j3, if_neg (by rw [decide_eq_false hdot]; decide)]) he⟩
 obtain ⟨r, hr, he⟩ := hj3
 refine ⟨r, hr, Ev.step (fun k => by rw [dragomanref1_parts.j2, if_neg (by decide)]) ?_⟩
 cases hl : bytesOf x0 with
 | nil =>
  simp only [if_pos ((toList_nil_iff _).2 hl)]
  rw [hl] at he
  exact he
 | cons c p =>
  obtain ⟨h0, hb, hp, hn⟩ := cons_of x0 hl
  have hne : ¬ x0.toList = ([] : List UInt8) := fun e => by rw [toList_nil_iff, hl] at e; cases e
  simp only [if_neg hne, if_pos (show (0 : Int) < (x0.size : Int) by omega), hb]
  rw [hl] at he
  have : decide ((c :: p).head? = some 46) = (c == 46) := by rw [Bool.eq_iff_iff]; simp
  rw [this] at he
  exact he
theorem parts_j1 (x0 : ByteArray) (x7 : Bool) (hz : x0.size ≤ 1073741824) : ∃ r, PartsAs ((nwhole (bytesOf x0)).bind fun a => (nfrac a).bind nexp) r ∧ Ev (fun k => dragomanref1_parts.j1 k x0 x7) r := by
 have hrn := run_ev x0 hz
 have hd := digs_le (bytesOf x0)
 rw [size_of] at hd
 unfold nwhole
 have hx : bytesOf (x0.extract (digs (bytesOf x0)) x0.size) = (bytesOf x0).drop (digs (bytesOf x0)) := bytesOf_drop _ _
 have hx9 : bytesOf (x0.extract 0 (digs (bytesOf x0))) = (bytesOf x0).take (digs (bytesOf x0)) := bytesOf_take _ _
 have hz9 : (x0.extract 0 (digs (bytesOf x0))).size = digs (bytesOf x0) := size_take _ hd
 have bad : ∀ x x9 : ByteArray, Ev (fun k => dragomanref1_parts.j2 k x x7 x9 true) (false, (⟨#[]⟩ : ByteArray), (⟨#[]⟩ : ByteArray), (⟨#[]⟩ : ByteArray), false) := fun x x9 => Ev.step (fun k => by rw [dragomanref1_parts.j2, if_pos rfl]) (Ev.now _)
 generalize hn : digs (bytesOf x0) = n at hrn hd hx hx9 hz9
 have hnil : (x0.extract 0 n).toList = ([] : List UInt8) ↔ n = 0 := by
  rw [toList_nil_iff, ← List.length_eq_zero_iff, size_of, hz9]
 by_cases h0 : n = 0
 ·rw [if_pos (.inl h0)]
  refine ⟨(false, ⟨#[]⟩, ⟨#[]⟩, ⟨#[]⟩, false), .inr ⟨rfl, rfl, rfl⟩, Ev.step (fun k => by rw [dragomanref1_parts.j1]) (Ev.bind hrn ?_)⟩
  simp only [if_pos (show (0 : Int) ≤ (n : Int) by omega), if_pos (show (n : Int) ≤ (x0.size : Int) by omega), Int.toNat_natCast, if_pos (hnil.2 h0)]
  exact bad _ _
 ·have hz0 : 0 < x0.size := by omega
  have hh := head_of x0 hz0
  have hb9 : bt (x0.extract 0 n) 0 = bt x0 0 := by
   rw [bt_get, bt_get, hx9, List.getD_eq_getElem?_getD, List.getD_eq_getElem?_getD, List.getElem?_take_of_lt (by show 0 < n; omega)]
  by_cases h1 : 1 < n
  ·by_cases h48 : bt x0 0 = 48
   ·rw [if_pos (.inr ⟨h1, by rw [hh, h48]⟩)]
    refine ⟨(false, ⟨#[]⟩, ⟨#[]⟩, ⟨#[]⟩, false), .inr ⟨rfl, rfl, rfl⟩, Ev.step (fun k => by rw [dragomanref1_parts.j1]) (Ev.bind hrn ?_)⟩
    simp only [if_pos (show (0 : Int) ≤ (n : Int) by omega), if_pos (show (n : Int) ≤ (x0.size : Int) by omega), Int.toNat_natCast, if_neg (fun e => h0 (hnil.1 e)), hz9, if_pos (show (n : Int) > 1 by omega), if_pos (show (0 : Int) < (n : Int) by omega), hb9, h48, beq_self_eq_true]
    exact bad _ _
   ·rw [if_neg (by rintro (h | ⟨_, h⟩); exact h0 h; rw [hh] at h; exact h48 (Option.some.inj h)), Option.bind_some]
    obtain ⟨r, hr, he⟩ := parts_j2 (x0.extract n x0.size) x7 (x0.extract 0 n) (by rw [size_drop]; omega)
    rw [hx] at hr
    refine ⟨r, hr, Ev.step (fun k => by rw [dragomanref1_parts.j1]) (Ev.bind hrn ?_)⟩
    simp only [if_pos (show (0 : Int) ≤ (n : Int) by omega), if_pos (show (n : Int) ≤ (x0.size : Int) by omega), Int.toNat_natCast, if_neg (fun e => h0 (hnil.1 e)), hz9, if_pos (show (n : Int) > 1 by omega), if_pos (show (0 : Int) < (n : Int) by omega), hb9, beq_eq_false_iff_ne.2 h48]
    exact he
  ·rw [if_neg (by rintro (h | ⟨h, _⟩); exact h0 h; exact h1 h), Option.bind_some]
   obtain ⟨r, hr, he⟩ := parts_j2 (x0.extract n x0.size) x7 (x0.extract 0 n) (by rw [size_drop]; omega)
   rw [hx] at hr
   refine ⟨r, hr, Ev.step (fun k => by rw [dragomanref1_parts.j1]) (Ev.bind hrn ?_)⟩
   simp only [if_pos (show (0 : Int) ≤ (n : Int) by omega), if_pos (show (n : Int) ≤ (x0.size : Int) by omega), Int.toNat_natCast, if_neg (fun e => h0 (hnil.1 e)), hz9, if_neg (show ¬ (n : Int) > 1 by omega)]
   exact he
theorem parts_ev (s : ByteArray) (hs : s.size ≤ 1073741824) : ∃ r, PartsAs (nform (bytesOf s)) r ∧ Ev (fun k => dragomanref1_parts.f k s) r := by
 have hj0 : ∃ r, PartsAs (nform (bytesOf s)) r ∧ Ev (fun k => dragomanref1_parts.j0 k s (decide ((bytesOf s).head? = some 45))) r := by
  unfold nform nneg
  by_cases h : (bytesOf s).head? = some 45
  ·rw [if_pos h]
   have h0 : 0 < s.size := by
    rw [← size_of]
    cases hl : bytesOf s with
    | nil => rw [hl] at h; cases h
    | cons a t => simp
   obtain ⟨r, hr, he⟩ := parts_j1 (s.extract 1 s.size) true (by rw [size_drop]; omega)
   rw [bytesOf_drop] at hr
   exact ⟨r, hr, Ev.step (fun k => by rw [decide_eq_true h, dragomanref1_parts.j0, if_pos rfl, if_pos (by omega)]) he⟩
  ·rw [if_neg h]
   obtain ⟨r, hr, he⟩ := parts_j1 s false hs
   exact ⟨r, hr, Ev.step (fun k => by rw [decide_eq_false h, dragomanref1_parts.j0, if_neg (by decide)]) he⟩
 obtain ⟨r, hr, he⟩ := hj0
 refine ⟨r, hr, ?_⟩
 cases hl : bytesOf s with
 | nil =>
  refine Ev.congr (fun k => by rw [dragomanref1_parts.f, if_pos ((toList_nil_iff _).2 hl)]) ?_
  rw [hl] at he
  exact he
 | cons c p =>
  obtain ⟨h0, hb, hp, hn⟩ := cons_of s hl
  have hne : ¬ s.toList = ([] : List UInt8) := fun e => by rw [toList_nil_iff, hl] at e; cases e
  refine Ev.congr (fun k => by rw [dragomanref1_parts.f, if_neg hne, if_pos (by omega), hb]) ?_
  rw [hl] at he
  have : decide ((c :: p).head? = some 45) = (c == 45) := by rw [Bool.eq_iff_iff]; simp
  rw [this] at he
  exact he
/-- The power, where only digits are left. -/
theorem pow_l0 (s : ByteArray) (hs : s.size ≤ 1073741824) (n : Nat) : ∀ (i : Nat) (v : Int), i ≤ s.size → s.size - i = n → digs ((bytesOf s).drop i) = s.size - i → 0 ≤ v → v ≤ 100000 →
  ∃ x, Ev (fun k => dragomanref1_power.l0 k s v (i : Int)) (x, (powV v ((bytesOf s).drop i)).isSome) := by
 induction n with
 | zero =>
  intro i v hi hn _ v0 v1
  obtain rfl : i = s.size := by omega
  rw [List.drop_eq_nil_of_le (by rw [size_of]; omega), show (powV v []).isSome = true from rfl]
  cases hl : bytesOf s with
  | nil => exact ⟨v, Ev.step (fun k => by rw [dragomanref1_power.l0, if_neg (by omega), if_pos ((toList_nil_iff _).2 hl)]) (Ev.now _)⟩
  | cons c p =>
   obtain ⟨h0, hb, hp, hn⟩ := cons_of s hl
   have hne : ¬ s.toList = ([] : List UInt8) := fun e => by rw [toList_nil_iff, hl] at e; cases e
   by_cases hc : c = 45
   ·exact ⟨_, Ev.step (fun k => by rw [dragomanref1_power.l0, if_neg (by omega), if_neg hne, if_pos (by omega), hb, if_pos hc]) (Ev.now _)⟩
   ·exact ⟨_, Ev.step (fun k => by rw [dragomanref1_power.l0, if_neg (by omega), if_neg hne, if_pos (by omega), hb, if_neg hc]) (Ev.now _)⟩
 | succ n ih =>
  intro i v hi hn hd v0 v1
  have hlt : i < (bytesOf s).length := by rw [size_of]; omega
  rw [drop_cons hlt] at hd ⊢
  simp only [digs] at hd
  split at hd
  ·rename_i hdig
   have hdig2 := hdig
   rw [← bt_nat] at hdig2
   have hrange : 48 ≤ bt s (i : Int) ∧ bt s (i : Int) ≤ 57 := by
    unfold isDig at hdig2
    simpa using hdig2
   rw [← bt_nat]
   simp only [powV]
   have e1 : wrap64 (wrap64 (10 * v) + (bt s (i : Int) - 48) % 256) = v * 10 + (bt s (i : Int) - 48) := by
    rw [wrap_id (n := 10 * v) (by omega) (by omega), wrap_id (by omega) (by omega)]
    omega
   by_cases hg : v * 10 + (bt s (i : Int) - 48) > 100000
   ·refine ⟨0, Ev.step (fun k => by rw [dragomanref1_power.l0, if_pos (by omega), if_pos (by omega), digit_eq, Option.bind_some, if_pos hdig2, e1, if_pos hg]) ?_⟩
    rw [if_pos hg]
    exact Ev.now _
   ·obtain ⟨x, hx⟩ := ih (i + 1) (v * 10 + (bt s (i : Int) - 48)) (by omega) (by omega) (by omega) (by omega) (by omega)
    refine ⟨x, Ev.step (fun k => by rw [dragomanref1_power.l0, if_pos (by omega), if_pos (by omega), digit_eq, Option.bind_some, if_pos hdig2, e1, if_neg hg]) ?_⟩
    rw [if_neg hg]
    rw [wrap_id (by omega) (by omega)]
    exact hx
  ·omega
theorem power_ev (s : ByteArray) (hs : s.size ≤ 1073741824) (hd : digs (noSign (bytesOf s)) = (noSign (bytesOf s)).length) : ∃ x, Ev (fun k => dragomanref1_power.f k s) (x, fits (bytesOf s)) := by
 unfold fits
 unfold noSign at hd ⊢
 by_cases h : (bytesOf s).head? = some 45 ∨ (bytesOf s).head? = some 43
 ·rw [if_pos h] at hd ⊢
  cases hl : bytesOf s with
  | nil => rw [hl] at h; simp at h
  | cons c p =>
   obtain ⟨h0, hb, hp, hn⟩ := cons_of s hl
   rw [List.length_drop, size_of] at hd
   obtain ⟨x, hx⟩ := pow_l0 s hs _ 1 0 (by omega) rfl hd (by omega) (by omega)
   rw [hl] at h hx
   refine ⟨x, Ev.step (fun k => by
    show dragomanref1_power.l0 (k + 1) s 0 0 = _
    rw [dragomanref1_power.l0, if_pos (by omega), if_pos (by omega), digit_eq, Option.bind_some, if_neg (by
     rw [hb]
     simp at h
     rcases h with rfl | rfl <;> decide), wrap_id (by omega) (by omega)]
    rfl) hx⟩
 ·rw [if_neg h] at hd ⊢
  rw [size_of] at hd
  obtain ⟨x, hx⟩ := pow_l0 s hs _ 0 0 (by omega) rfl (by rw [List.drop_zero]; omega) (by omega) (by omega)
  rw [List.drop_zero] at hx
  exact ⟨x, hx⟩
theorem nexp_digs {l p : List Int} (h : nexp l = some p) : digs (noSign p) = (noSign p).length := by
 cases l with
 | nil => obtain rfl := Option.some.inj h; rfl
 | cons c q =>
  simp only [nexp] at h
  split at h
  ·cases h
  ·split at h
   ·cases h
   ·rename_i h2
    obtain rfl := Option.some.inj h
    exact Classical.byContradiction fun e => h2 (.inr e)
theorem nform_digs {l p : List Int} (h : nform l = some p) : digs (noSign p) = (noSign p).length := by
 unfold nform at h
 obtain ⟨a, _, h⟩ := Option.bind_eq_some_iff.1 h
 obtain ⟨b, _, h⟩ := Option.bind_eq_some_iff.1 h
 exact nexp_digs h
theorem nexp_len {l p : List Int} (h : nexp l = some p) : p.length ≤ l.length := by
 cases l with
 | nil => obtain rfl := Option.some.inj h; exact Nat.le_refl _
 | cons c q =>
  simp only [nexp] at h
  split at h
  ·cases h
  ·split at h
   ·cases h
   ·obtain rfl := Option.some.inj h; simp
theorem nform_len {l p : List Int} (h : nform l = some p) : p.length ≤ l.length := by
 unfold nform nneg at h
 obtain ⟨a, ha, h⟩ := Option.bind_eq_some_iff.1 h
 obtain ⟨b, hb, h⟩ := Option.bind_eq_some_iff.1 h
 have h1 := nexp_len h
 have h2 : b.length ≤ a.length := by
  unfold nfrac at hb
  split at hb
  ·split at hb
   ·cases hb
   ·obtain rfl := Option.some.inj hb; rw [List.length_drop]; omega
  ·obtain rfl := Option.some.inj hb; exact Nat.le_refl _
 have h3 : a.length ≤ l.length := by
  have hw : ∀ m : List Int, nwhole m = some a → a.length ≤ m.length := by
   intro m hm
   unfold nwhole at hm
   split at hm
   ·cases hm
   ·obtain rfl := Option.some.inj hm
    rw [List.length_drop]
    omega
  have := hw _ ha
  split at this
  ·rw [List.length_drop] at this; omega
  ·exact this
 omega
theorem form_ev (s : ByteArray) (hs : s.size ≤ 1073741824) : Ev (fun k => dragomanref1_Form.f k s) ((nform (bytesOf s)).isSome, (nform (bytesOf s)).elim false (fun p => !fits p)) := by
 obtain ⟨r, hr, he⟩ := parts_ev s hs
 refine Ev.congr (fun k => by rw [dragomanref1_Form.f]) (Ev.bind he ?_)
 rcases hr with ⟨p, hf, h1, h2⟩ | ⟨hf, h1, h2⟩
 ·have hd := nform_digs hf
  have hl := nform_len hf
  rw [size_of] at hl
  rw [hf, h1]
  subst h2
  obtain ⟨x, hx⟩ := power_ev r.2.2.2.1 (by rw [size_of] at hl; omega) hd
  refine Ev.bind hx ?_
  exact Ev.now _
 ·rw [hf, h1, h2]
  obtain ⟨x, hx⟩ := power_ev ⟨#[]⟩ (by show 0 ≤ _; omega) rfl
  refine Ev.bind hx ?_
  exact Ev.now _
end Go.Proofs.YtoanbmggffkmgaaDoor.La
end
section
namespace Go.Proofs.YtoanbmggffkmgaaDoor.La
open Go.RowKit Go.Proofs.YtoanbmggffkmgaaDoor.P Go.Proofs.YtoanbmggffkmgaaDoorW.PrintWords Go.Proofs.YtoanbmggffkmgaaDoorW.PrintLast Go.Proofs.YtoanbmggffkmgaaDoorW.PrintMore
theorem rin_l0 (b : Int) (s : ByteArray) (hs : s.size ≤ 1000) (n : Nat) : ∀ j : Nat, j ≤ s.size → s.size - j = n → Ev (fun k => dragomanref8_in.l0 k b s (j : Int)) (inSet ((bytesOf s).drop j) b) := by
 induction n with
 | zero =>
  intro j hj hn
  rw [List.drop_eq_nil_of_le (by rw [size_of]; omega)]
  (refine Ev.step (fun k => by rw [dragomanref8_in.l0, if_neg (by omega)]) ?_; exact Ev.now _)
 | succ n ih =>
  intro j hj hn
  have w1 := Lib.hid (show wrap64 ((j : Int) + 1) = ((j + 1 : Nat) : Int) by rw [wrap_id (by omega) (by omega)]; omega)
  rw [drop_cons' (by rw [size_of]; omega)]
  refine Ev.step (fun k => by rw [dragomanref8_in.l0, if_pos (by omega), if_pos (by omega), bt_nat', w1.out]) ?_
  unfold inSet
  rw [List.any_cons]
  by_cases h : (bytesOf s).getD j 0 = b
  ·rw [beq_iff_eq.2 h, Bool.true_or]
   (refine Ev.congr (fun k => if_pos h) ?_; exact Ev.now _)
  ·rw [beq_eq_false_iff_ne.2 h, Bool.false_or]
   exact Ev.congr (fun k => if_neg h) (ih (j + 1) (by omega) (by omega))
theorem rin_ev (b : Int) (s : ByteArray) (hs : s.size ≤ 1000) : Ev (fun k => dragomanref8_in.f k b s) (inSet (bytesOf s) b) :=
 Ev.congr (fun k => by rw [dragomanref8_in.f]) (by have h := rin_l0 b s hs _ 0 (Nat.zero_le _) rfl; rw [List.drop_zero] at h; exact h)
theorem rrow_l0 (t s : ByteArray) (ht : t.size ≤ 65536) (hs : s.size ≤ 1000) (i n : Nat) : ∀ j : Nat, i + j ≤ t.size → t.size - (i + j) = n → Ev (fun k => dragomanref8_row.l0 k t (i : Int) s (j : Int)) ((j + wh (bytesOf s) ((bytesOf t).drop (i + j)) : Nat) : Int) := by
 induction n with
 | zero =>
  intro j hj hn
  have w0 := Lib.hid (show wrap64 ((i : Int) + (j : Int)) = ((i + j : Nat) : Int) by rw [wrap_id (by omega) (by omega)]; omega)
  rw [List.drop_eq_nil_of_le (by rw [size_of]; omega)]
  (refine Ev.step (fun k => by rw [dragomanref8_row.l0, w0.out, if_neg (by omega)]) ?_; exact Ev.now _)
 | succ n ih =>
  intro j hj hn
  have w0 := Lib.hid (show wrap64 ((i : Int) + (j : Int)) = ((i + j : Nat) : Int) by rw [wrap_id (by omega) (by omega)]; omega)
  have w1 := Lib.hid (show wrap64 ((j : Int) + 1) = ((j + 1 : Nat) : Int) by rw [wrap_id (by omega) (by omega)]; omega)
  rw [drop_cons' (by rw [size_of]; omega), wh]
  refine Ev.step (fun k => by rw [dragomanref8_row.l0, w0.out, if_pos (by omega), if_pos (by omega), bt_nat', w1.out]) (Ev.bind (rin_ev _ s hs) ?_)
  by_cases h : inSet (bytesOf s) ((bytesOf t).getD (i + j) 0) = true
  ·rw [if_pos h, show j + (wh (bytesOf s) ((bytesOf t).drop (i + j + 1)) + 1) = (j + 1) + wh (bytesOf s) ((bytesOf t).drop (i + (j + 1))) by rw [show i + (j + 1) = i + j + 1 by omega]; omega]
   exact Ev.congr (fun k => if_pos h) (ih (j + 1) (by omega) (by omega))
  ·rw [if_neg h]
   (refine Ev.congr (fun k => if_neg h) ?_; exact Ev.now _)
theorem rrow_ev (t s : ByteArray) (ht : t.size ≤ 65536) (hs : s.size ≤ 1000) (i : Nat) (hi : i ≤ t.size) : Ev (fun k => dragomanref8_row.f k t (i : Int) s) (wh (bytesOf s) ((bytesOf t).drop i) : Int) :=
 Ev.congr (fun k => by rw [dragomanref8_row.f]) (by have h := rrow_l0 t s ht hs i _ 0 (by omega) rfl; rw [Nat.zero_add] at h; exact h)
def firstS : List Int := [48, 49, 50, 51, 52, 53, 54, 55, 56, 57, 43, 45, 46, 69]
theorem sets_fin : ∀ b : Fin 256, (inSet firstS (b.val : Int) = true → inSet digitS (b.val : Int) = true ∧ ¬ (97 ≤ (b.val : Int) ∧ (b.val : Int) ≤ 122)) ∧ (inSet firstS (b.val : Int) = false → ¬ (97 ≤ (b.val : Int) ∧ (b.val : Int) ≤ 122) → inSet digitS (b.val : Int) = false ∧ inSet smallS (b.val : Int) = false) := by decide +kernel
theorem sets {b : Int} (h0 : 0 ≤ b) (h1 : b ≤ 255) : (inSet firstS b = true → inSet digitS b = true ∧ ¬ (97 ≤ b ∧ b ≤ 122)) ∧ (inSet firstS b = false → ¬ (97 ≤ b ∧ b ≤ 122) → inSet digitS b = false ∧ inSet smallS b = false) := by
 obtain ⟨n, rfl⟩ := Int.eq_ofNat_of_zero_le h0
 exact sets_fin ⟨n, by omega⟩
def toV (x : Int × List Int × Nat) : S53 := ⟨x.1, strOfNums x.2.1, (x.2.2 : Int)⟩
/-- How the document's Cut tells it. -/
def rcutR (o : List (Int × List Int × Nat) × Option (Int × Nat)) : List S53 × Int × Int :=
 match o.2 with
 | none => (o.1.map toV, 0, 0)
 | some e => ([], e.1, (e.2 : Int))
/-- What comes behind a word. -/
def aft (L : List Int) (K i : Nat) (acc : List (Int × List Int × Nat)) : List (Int × List Int × Nat) × Option (Int × Nat) :=
 match wd L i with
 | .inl e => ([], some e)
 | .inr x => cutS L K (x.2.2 + wh blankS (L.drop x.2.2)) (acc ++ [(x.1, x.2.1, i)])
theorem cutS_aft (L : List Int) (K i : Nat) (acc : List (Int × List Int × Nat)) : cutS L (K + 1) i acc = if L.length ≤ i then (acc ++ [(0, [], L.length)], none) else aft L K i acc := rfl
theorem aft_l {L : List Int} {K i : Nat} {acc : List (Int × List Int × Nat)} {e : Int × Nat} (h : wd L i = .inl e) : rcutR (aft L K i acc) = ([], e.1, (e.2 : Int)) := by
 unfold aft
 rw [h]
 rfl
theorem aft_r {L : List Int} {K i : Nat} {acc : List (Int × List Int × Nat)} {x : Int × List Int × Nat} (h : wd L i = .inr x) : aft L K i acc = cutS L K (x.2.2 + wh blankS (L.drop x.2.2)) (acc ++ [(x.1, x.2.1, i)]) := by
 unfold aft
 rw [h]
set_option maxRecDepth 4000 in
theorem rcut_l0 (s : ByteArray) (hs : s.size ≤ 65536) (n : Nat) : ∀ (i K : Nat) (acc : List (Int × List Int × Nat)), i ≤ s.size → s.size - i = n → n < K → acc.length ≤ i →
  Ev (fun k => dragomanref8_Cut.l0 k s (acc.map toV) (i : Int)) (rcutR (cutS (bytesOf s) K (i + wh blankS ((bytesOf s).drop i)) acc)) := by
 induction n using Nat.strongRecOn with
 | _ n ih =>
 intro i K acc hi hn hK hacc
 obtain ⟨K, rfl⟩ : ∃ m, K = m + 1 := ⟨K - 1, by omega⟩
 have hlen : (acc.map toV).length < 4398046511104 := by rw [List.length_map]; omega
 by_cases h : i < s.size
 ·have hbr := bt_range s (i : Int)
  have hdr : (bytesOf s).drop i = (bytesOf s).getD i 0 :: (bytesOf s).drop (i + 1) := drop_cons' (by rw [size_of]; exact h)
  have w1 := Lib.hid (show wrap64 ((i : Int) + 1) = ((i + 1 : Nat) : Int) by rw [wrap_id (by omega) (by omega)]; omega)
  refine Ev.step (fun k => by rw [dragomanref8_Cut.l0, if_pos (by omega), if_pos (by omega), w1.out]) (Ev.bind (rin_ev _ _ (by decide)) ?_)
  rw [bt_nat'] at hbr
  rw [bt_nat']
  cases hb : inSet blankS ((bytesOf s).getD i 0) with
  | true =>
   refine Ev.congr (fun k => if_pos hb) ?_
   have hw : wh blankS ((bytesOf s).drop i) = wh blankS ((bytesOf s).drop (i + 1)) + 1 := by rw [hdr, wh, if_pos hb]
   rw [hw, show i + (wh blankS ((bytesOf s).drop (i + 1)) + 1) = i + 1 + wh blankS ((bytesOf s).drop (i + 1)) by omega]
   exact ih (s.size - (i + 1)) (by omega) (i + 1) (K + 1) acc (by omega) rfl (by omega) (by omega)
  | false =>
   have hbf : ¬ inSet blankS ((bytesOf s).getD i 0) = true := by rw [hb]; exact Bool.false_ne_true
   have hw : wh blankS ((bytesOf s).drop i) = 0 := by rw [hdr, wh, if_neg hbf]
   rw [hw, show i + 0 = i from rfl, cutS_aft, if_neg (show ¬ (bytesOf s).length ≤ i by rw [size_of]; omega)]
   refine Ev.congr (fun k => if_neg hbf) (Ev.bind (rin_ev _ _ (by decide)) ?_)
   have next : ∀ x, wd (bytesOf s) i = .inr x → Ev (fun k => dragomanref8_Cut.l0 k s (acc.map toV ++ [(⟨x.1, strOfNums x.2.1, (i : Int)⟩ : S53)]) (x.2.2 : Int)) (rcutR (aft (bytesOf s) K i acc)) := by
    intro x hx
    have hxi := wd_inr (bytes_of s) (by rw [size_of]; exact h) hx
    rw [size_of] at hxi
    rw [aft_r hx, show acc.map toV ++ [(⟨x.1, strOfNums x.2.1, (i : Int)⟩ : S53)] = (acc ++ [(x.1, x.2.1, i)]).map toV by simp [toV]]
    exact ih (s.size - x.2.2) (by omega) x.2.2 K _ (by omega) rfl (by omega) (by rw [List.length_append, List.length_singleton]; omega)
   have hseg : ∀ m, i + m ≤ s.size → bytesOf (s.extract i (i + m)) = ((bytesOf s).drop i).take m := by
    intro m _
    rw [bytesOf_extract, List.drop_take, show i + m - i = m by omega]
   cases hsg : inSet signS ((bytesOf s).getD i 0) with
   | true =>
    refine Ev.congr (fun k => if_pos hsg) (Ev.congr (fun k => by rw [if_pos (by omega), if_pos (by omega), if_pos hlen, Int.toNat_natCast, Int.toNat_natCast]) ?_)
    have hx : s.extract i (i + 1) = strOfNums [(bytesOf s).getD i 0] := strOf_eq _ (by rw [hseg 1 (by omega), hdr]; rfl)
    rw [hx]
    exact next (1, [(bytesOf s).getD i 0], i + 1) (by unfold wd; rw [if_pos hsg])
   | false =>
    have hsf : ¬ inSet signS ((bytesOf s).getD i 0) = true := by rw [hsg]; exact Bool.false_ne_true
    refine Ev.congr (fun k => if_neg hsf) ?_
    by_cases h34 : (bytesOf s).getD i 0 = 34
    ·have hwd : wd (bytesOf s) i = if (jbody (bytesOf s) ((bytesOf s).length + 1) (i + 1) []).1 = true then
       (if (jbody (bytesOf s) ((bytesOf s).length + 1) (i + 1) []).2.1.length > 4096 then .inl (2, i) else .inr (2, (jbody (bytesOf s) ((bytesOf s).length + 1) (i + 1) []).2.1, (jbody (bytesOf s) ((bytesOf s).length + 1) (i + 1) []).2.2))
       else .inl (4, (jbody (bytesOf s) ((bytesOf s).length + 1) (i + 1) []).2.2) := by
      unfold wd
      rw [if_neg hsf, if_pos h34]
     refine Ev.congr (fun k => if_pos h34) (Ev.bind (runq_ev s hs i h h34) ?_)
     have hby := fun e => jbody_bytes (bytesOf s) ((bytesOf s).length + 1) (i + 1) [] (fun x hx => by cases hx) e
     generalize jbody (bytesOf s) ((bytesOf s).length + 1) (i + 1) [] = q at hwd hby
     obtain ⟨q1, q2, q3⟩ := q
     cases q1 with
     | false =>
      rw [aft_l (e := (4, q3)) hwd]
      (refine Ev.congr (fun k => if_pos (show (0 : Int) ≤ (q3 : Int) by omega)) ?_; exact Ev.now _)
     | true =>
      refine Ev.congr (fun k => if_neg (show ¬ ((-1 : Int) ≥ 0) by decide)) ?_
      have hz : (strOfNums q2).size = q2.length := size_strOfNums (hby rfl)
      by_cases h4 : q2.length > 4096
      ·rw [aft_l (e := (2, i)) (hwd.trans (if_pos h4))]
       (refine Ev.congr (fun k => if_pos (show ((strOfNums q2).size : Int) > 4096 by rw [hz]; omega)) ?_; exact Ev.now _)
      ·refine Ev.congr (fun k => if_neg (show ¬ ((strOfNums q2).size : Int) > 4096 by rw [hz]; omega)) (Ev.congr (fun k => if_pos hlen) ?_)
       exact next (2, q2, q3) (hwd.trans (if_neg h4))
    ·refine Ev.congr (fun k => if_neg h34) (Ev.bind (rin_ev _ _ (by decide)) ?_)
     have hset := sets hbr.1 hbr.2
     cases hf : inSet firstS ((bytesOf s).getD i 0) with
     | true =>
      obtain ⟨hd, hns⟩ := hset.1 hf
      have hn1 : wh digitS ((bytesOf s).drop i) ≠ 0 := by rw [hdr, wh, if_pos hd]; omega
      have hwd : wd (bytesOf s) i = if numb (((bytesOf s).drop i).take (wh digitS ((bytesOf s).drop i))) = 0 then .inr (3, ((bytesOf s).drop i).take (wh digitS ((bytesOf s).drop i)), i + wh digitS ((bytesOf s).drop i)) else .inl (numb (((bytesOf s).drop i).take (wh digitS ((bytesOf s).drop i))), i) := by
       unfold wd
       rw [if_neg hsf, if_neg h34, if_neg hns, if_neg hn1]
      have hwl := wh_le digitS ((bytesOf s).drop i)
      rw [List.length_drop, size_of] at hwl
      refine Ev.congr (fun k => if_pos hf) (Ev.bind (rrow_ev s _ hs (by decide) i hi) ?_)
      have hrow : wh (bytesOf (⟨#[48, 49, 50, 51, 52, 53, 54, 55, 56, 57, 43, 45, 46, 101, 69]⟩ : ByteArray)) ((bytesOf s).drop i) = wh digitS ((bytesOf s).drop i) := rfl
      rw [hrow]
      clear hrow
      generalize wh digitS ((bytesOf s).drop i) = m at hn1 hwd hwl
      have w2 := Lib.hid (show wrap64 ((i : Int) + (m : Int)) = ((i + m : Nat) : Int) by rw [wrap_id (by omega) (by omega)]; omega)
      have hx := hseg m (by omega)
      have hml : (((bytesOf s).drop i).take m).length = m := by rw [List.length_take, List.length_drop, size_of]; omega
      have hz : (s.extract i (i + m)).size = m := by rw [← size_of, hx, hml]
      refine Ev.congr (fun k => by rw [w2.out, if_pos (by omega), if_pos (by omega), Int.toNat_natCast, Int.toNat_natCast]) (Ev.bind (form_ev _ (by omega)) ?_)
      have hst := strOf_eq _ hx
      rw [hx, hst]
      unfold numb at hwd
      rw [hml] at hwd
      generalize ((bytesOf s).drop i).take m = u at hwd
      by_cases h400 : m > 400
      ·rw [if_pos h400, if_neg (by decide)] at hwd
       rw [aft_l hwd]
       (refine Ev.congr (fun k => if_pos (by omega)) ?_; exact Ev.now _)
      ·rw [if_neg h400] at hwd
       refine Ev.congr (fun k => if_neg (by omega)) ?_
       cases hnf : nform u with
       | none =>
        rw [hnf] at hwd
        rw [aft_l (hwd.trans (if_neg (by decide)))]
        (refine Ev.congr (fun k => if_neg (by decide)) ?_; exact Ev.now _)
       | some p =>
        rw [hnf] at hwd
        refine Ev.congr (fun k => if_pos rfl) ?_
        by_cases hfit : fits p = true
        ·have e : (some p).elim (4 : Int) (fun p => if fits p = true then 0 else 6) = 0 := if_pos hfit
         rw [e, if_pos rfl] at hwd
         exact Ev.congr (fun k => if_neg (show ¬ (!fits p) = true by rw [hfit]; decide)) (Ev.congr (fun k => if_pos hlen) (next (3, u, i + m) hwd))
        ·have e : (some p).elim (4 : Int) (fun p => if fits p = true then 0 else 6) = 6 := if_neg hfit
         rw [e, if_neg (by decide)] at hwd
         rw [aft_l hwd]
         refine Ev.congr (fun k => if_pos (show (!fits p) = true by rw [Bool.eq_false_iff.2 hfit]; rfl)) ?_
         exact Ev.now _
     | false =>
      have hff : ¬ inSet firstS ((bytesOf s).getD i 0) = true := by rw [hf]; exact Bool.false_ne_true
      have hwd : wd (bytesOf s) i = if nameS (((bytesOf s).drop i).take (wh smallS ((bytesOf s).drop i))) then .inr (4, ((bytesOf s).drop i).take (wh smallS ((bytesOf s).drop i)), i + wh smallS ((bytesOf s).drop i)) else .inl (4, i) := by
       unfold wd
       rw [if_neg hsf, if_neg h34]
       by_cases hl : 97 ≤ (bytesOf s).getD i 0 ∧ (bytesOf s).getD i 0 ≤ 122
       ·rw [if_pos hl]
       ·obtain ⟨hd, hsm⟩ := hset.2 hf hl
        have e1 : wh digitS ((bytesOf s).drop i) = 0 := by rw [hdr, wh, if_neg (by rw [hd]; exact Bool.false_ne_true)]
        have e2 : wh smallS ((bytesOf s).drop i) = 0 := by rw [hdr, wh, if_neg (by rw [hsm]; exact Bool.false_ne_true)]
        rw [if_neg hl, if_pos e1, e2, List.take_zero, if_neg (by decide)]
      have hwl := wh_le smallS ((bytesOf s).drop i)
      rw [List.length_drop, size_of] at hwl
      refine Ev.congr (fun k => if_neg hff) (Ev.bind (rrow_ev s _ hs (by decide) i hi) ?_)
      have hrow : wh (bytesOf (⟨#[97, 98, 99, 100, 101, 102, 103, 104, 105, 106, 107, 108, 109, 110, 111, 112, 113, 114, 115, 116, 117, 118, 119, 120, 121, 122]⟩ : ByteArray)) ((bytesOf s).drop i) = wh smallS ((bytesOf s).drop i) := rfl
      rw [hrow]
      clear hrow
      generalize wh smallS ((bytesOf s).drop i) = m at hwd hwl
      have w2 := Lib.hid (show wrap64 ((i : Int) + (m : Int)) = ((i + m : Nat) : Int) by rw [wrap_id (by omega) (by omega)]; omega)
      have hx := hseg m (by omega)
      have hst := strOf_eq _ hx
      have hn := name_iff _ _ hx
      refine Ev.congr (fun k => by rw [w2.out, if_pos (by omega), if_pos (by omega), Int.toNat_natCast, Int.toNat_natCast]) ?_
      generalize s.extract i (i + m) = y at hst hn
      generalize ((bytesOf s).drop i).take m = u at hwd hst hn
      by_cases hnm : nameS u
      ·have nx := next (4, u, i + m) (hwd.trans (if_pos hnm))
       rw [← hst] at nx
       by_cases g1 : u = [116, 114, 117, 101]
       ·exact Ev.congr (fun k => by rw [if_pos (hn.1.2 g1), if_pos hlen]) nx
       ·by_cases g2 : u = [102, 97, 108, 115, 101]
        ·exact Ev.congr (fun k => by rw [if_neg (fun e => g1 (hn.1.1 e)), if_pos (hn.2.1.2 g2), if_pos hlen]) nx
        ·have g3 : u = [110, 117, 108, 108] := by
          rcases hnm with h | h | h
          ·exact absurd h g1
          ·exact absurd h g2
          ·exact h
         exact Ev.congr (fun k => by rw [if_neg (fun e => g1 (hn.1.1 e)), if_neg (fun e => g2 (hn.2.1.1 e)), if_pos (hn.2.2.2 g3), if_pos hlen]) nx
      ·rw [aft_l (hwd.trans (if_neg hnm))]
       (refine Ev.congr (fun k => by rw [if_neg (fun e => hnm (.inl (hn.1.1 e))), if_neg (fun e => hnm (.inr (.inl (hn.2.1.1 e)))), if_neg (fun e => hnm (.inr (.inr (hn.2.2.1 e))))]) ?_; exact Ev.now _)
 ·obtain rfl : i = s.size := by omega
  rw [List.drop_eq_nil_of_le (by rw [size_of]; omega), cutS_aft, size_of, if_pos (by omega)]
  refine Ev.step (fun k => by rw [dragomanref8_Cut.l0, if_neg (by omega), if_pos hlen]) ?_
  have : acc.map toV ++ [(⟨0, ⟨#[]⟩, (s.size : Int)⟩ : S53)] = (acc ++ [(0, [], s.size)]).map toV := by rw [List.map_append]; rfl
  rw [this]
  exact Ev.now _
theorem rcut_ev (s : ByteArray) (hs : s.size ≤ 65536) : Ev (fun k => dragomanref8_Cut.f k s) (rcutR (lexS (bytesOf s))) := by
 refine Ev.congr (fun k => by rw [dragomanref8_Cut.f, if_neg (by omega)]) (Ev.bind (ref_valid_ev s (by omega)) ?_)
 unfold lexS judgeS
 cases hb : bad (bytesOf s) with
 | some p => exact Ev.congr (fun k => if_pos (show rbadR 0 (some p) ≥ 0 by simp [rbadR])) (by rw [rbadR, Nat.zero_add]; exact Ev.now _)
 | none =>
  refine Ev.congr (fun k => by rw [if_neg (show ¬ rbadR 0 none ≥ 0 by decide), if_pos (by decide)]) ?_
  have h := rcut_l0 s hs _ 0 ((bytesOf s).length + 1) [] (Nat.zero_le _) rfl (by rw [size_of]; omega) (Nat.zero_le _)
  rw [Nat.zero_add, List.drop_zero] at h
  exact h
end Go.Proofs.YtoanbmggffkmgaaDoor.La
end
section
namespace Go.Proofs.YtoanbmggffkmgaaDoor.Pure
open Go.RowKit Go.Proofs.YtoanbmggffkmgaaDoor.P Go.Proofs.YtoanbmggffkmgaaDoor.La Go.Proofs.YtoanbmggffkmgaaDoorW.PrintWords Go.Proofs.YtoanbmggffkmgaaDoorW.PrintLast Go.Proofs.YtoanbmggffkmgaaDoorW.PrintMore
theorem cutS_len (L : List Int) (K : Nat) : ∀ (i : Nat) (acc : List (Int × List Int × Nat)), (cutS L K i acc).1.length ≤ acc.length + K := by
 induction K with
 | zero => intro i acc; exact Nat.le_refl _
 | succ K ih =>
  intro i acc
  rw [cutS]
  split
  ·simp
  ·split
   ·exact Nat.zero_le _
   ·refine Nat.le_trans (ih _ _) ?_
    rw [List.length_append, List.length_singleton]
    omega
theorem lexS_len (L : List Int) : (lexS L).1.length ≤ L.length + 1 := by
 unfold lexS
 split
 ·exact Nat.zero_le _
 ·have := cutS_len L (L.length + 1) (wh blankS L) []
  rw [List.length_nil, Nat.zero_add] at this
  exact this
theorem cuts_l0 (ws : List (Int × List Int × Nat)) (h : ws.length ≤ 100000) (n : Nat) : ∀ j : Nat, j ≤ ws.length → ws.length - j = n → Ev (fun k => dragomanlaw7_JlexCuts.l0 k (ws.map toW) (ws.map toV) (j : Int)) true := by
 induction n with
 | zero =>
  intro j hj hn
  refine Ev.step (fun k => by rw [dragomanlaw7_JlexCuts.l0, List.length_map, if_neg (by omega)]) ?_
  exact Ev.now _
 | succ n ih =>
  intro j hj hn
  have hlt : j < ws.length := by omega
  have e1 : rd_T30 (ws.map toW) (j : Int) = toW ws[j] := by
   unfold rd_T30
   rw [Int.toNat_natCast, List.getD_eq_getElem?_getD, List.getElem?_map, List.getElem?_eq_getElem hlt]
   rfl
  have e2 : rd_T53 (ws.map toV) (j : Int) = toV ws[j] := by
   unfold rd_T53
   rw [Int.toNat_natCast, List.getD_eq_getElem?_getD, List.getElem?_map, List.getElem?_eq_getElem hlt]
   rfl
  have w1 := Lib.hid (show wrap64 ((j : Int) + 1) = ((j + 1 : Nat) : Int) by rw [wrap_id (by omega) (by omega)]; omega)
  refine Ev.step (fun k => by rw [dragomanlaw7_JlexCuts.l0, List.length_map, List.length_map, if_pos (by omega), if_pos (by omega), if_pos (by omega), e1, e2, w1.out]) ?_
  exact Ev.congr (fun k => if_pos rfl) (Ev.congr (fun k => if_pos rfl) (Ev.congr (fun k => if_pos rfl) (ih (j + 1) (by omega) (by omega))))
theorem JlexCuts : dragomanlaw7_JlexCuts.Pure := by
 intro s _
 refine Ev.rounds (Ev.congr (fun k => by rw [dragomanlaw7_JlexCuts.f, dragomanlaw7_awake.f, Option.bind_some, if_pos rfl]) ?_)
 by_cases h1 : (s.size : Int) > 2000
 ·exact Ev.congr (fun k => by rw [if_pos h1]) (Ev.now _)
 refine Ev.congr (fun k => by rw [if_neg h1]) (Ev.bind (lex_ev s (by omega)) (Ev.bind (rcut_ev s (by omega)) ?_))
 have hlen := lexS_len (bytesOf s)
 rw [size_of] at hlen
 cases hl : lexS (bytesOf s) with
 | mk ws o =>
  rw [hl] at hlen
  cases o with
  | some e =>
   have he := lexS_err (bytes_of s) hl
   refine Ev.congr (fun k => if_neg (show ¬ e.1 = 0 from he.1)) (Ev.bind (ref_fault_ev s (by omega) (e.2 : Int) e.1) ?_)
   refine Ev.congr (fun k => if_pos (by simp [cutR])) ?_
   exact Ev.now _
  | none =>
   refine Ev.congr (fun k => if_pos (show (0 : Int) = 0 from rfl)) (Ev.congr (fun k => if_neg (show ¬ (!((0 : Int) == 0) || (!((0 : Int) == 0) || (!((0 : Int) == 0) || (!((0 : Int) == 0))))) = true by decide)) ?_)
   show Ev (fun k => dragomanlaw7_JlexCuts.j0 k (ws.map toW) (ws.map toV) (((ws.map toW).length : Int) != ((ws.map toV).length : Int))) true
   rw [show (((ws.map toW).length : Int) != ((ws.map toV).length : Int)) = false by simp]
   exact Ev.step (fun k => by rw [dragomanlaw7_JlexCuts.j0, if_neg Bool.false_ne_true]; rfl) (cuts_l0 ws (by have : ws.length ≤ s.size + 1 := hlen; omega) _ 0 (Nat.zero_le _) rfl)
end Go.Proofs.YtoanbmggffkmgaaDoor.Pure
end
