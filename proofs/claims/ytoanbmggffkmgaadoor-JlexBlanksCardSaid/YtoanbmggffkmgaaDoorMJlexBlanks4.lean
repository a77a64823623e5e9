/- The parts of this claim's proof, in one text: what each Go function answers and that its call comes to it; plain facts of lists of numbers. Conditions as each theorem names them. -/
import Derived.ArgAppend
import Derived.Below
import Derived.BigQuiet
import Derived.Deep.AppendLies
import Derived.Deep.CutBlock
import Derived.Deep.DeepCutAuto
import Derived.Deep.Draws
import Derived.Deep.LoopGhost
import Derived.Deep.OwnRows
import Derived.Deep.QuietTactic
import Derived.Deep.RegionHeld3
import Derived.KernelRfl
import Derived.Laws.BitsLemmas
import Derived.Laws.BytesArg
import Derived.Laws.IdiomCopy
import Derived.Laws.MakeOwn
import Derived.Laws.OwnMore
import Derived.Laws.Rows
import Derived.Laws.Slices
import Derived.Lib.AppendStr
import Derived.Lib.Bytealg
import Derived.Lib.Bytes
import Derived.Lib.ConvBytes
import Derived.Lib.Hide
import Derived.Maps.AppendAt
import Derived.OrdersHeld
import Derived.Outline
import Derived.OwnWalk
import Derived.RowKit
import Derived.RowKit3
import Derived.Shelf.Bits.Mul64
import Derived.Shelf.LaysM
import Derived.Shelf.Small.Strs
import Derived.Shelf.Small.Utf8
import Derived.Shelf.Strings.AsciiSet
import Derived.Shelf.Strings.Builder1
import Derived.Shelf.Strings.Builder2
import Derived.Shelf.Strings.BuilderF
import Derived.Shelf.Strings.Count
import Derived.Shelf.Strings.IndexAny
import Derived.Shelf.Strings.IndexAnyAll
import Derived.Shelf.Strings.Prefix
import Derived.Shelf.Strings.Repeat
import Derived.Shelf.Strings.Runes
import Derived.Shelf.Strings.Search1
import Derived.Shelf.Strings.Search2
import Derived.Shelf.Strings.Search3
import Derived.Shelf.Strings.Shaped
import Derived.Shelf.Strings.SlTrimAscii
import Derived.Shelf.Strings.Trim
import Derived.Shelf.Unicode.DecodeSlow
import Derived.Tactics
import Derived.WalkKit
import Derived.WideLaws
import Derived.Test.YtoanbmggffkmgaaDoorProg
import Derived.Test.YtoanbmggffkmgaaDoorWApart
import Derived.Test.YtoanbmggffkmgaaDoorWArr
import Derived.Test.YtoanbmggffkmgaaDoorWAt
import Derived.Test.YtoanbmggffkmgaaDoorWEqStruct
import Derived.Test.YtoanbmggffkmgaaDoorWFoot
import Derived.Test.YtoanbmggffkmgaaDoorWFootNe
import Derived.Test.YtoanbmggffkmgaaDoorWFour
import Derived.Test.YtoanbmggffkmgaaDoorWGuard
import Derived.Test.YtoanbmggffkmgaaDoorWInv
import Derived.Test.YtoanbmggffkmgaaDoorWInvWords
import Derived.Test.YtoanbmggffkmgaaDoorWKept
import Derived.Test.YtoanbmggffkmgaaDoorWLast
import Derived.Test.YtoanbmggffkmgaaDoorWMake0
import Derived.Test.YtoanbmggffkmgaaDoorWMore
import Derived.Test.YtoanbmggffkmgaaDoorWN
import Derived.Test.YtoanbmggffkmgaaDoorWNEv
import Derived.Test.YtoanbmggffkmgaaDoorWQPut
import Derived.Test.YtoanbmggffkmgaaDoorWRepsOne
import Derived.Test.YtoanbmggffkmgaaDoorWShare
import Derived.Test.YtoanbmggffkmgaaDoorWTab
import Derived.Test.YtoanbmggffkmgaaDoorWWords
import Derived.Test.YtoanbmggffkmgaaDoorWZeros
import Derived.Test.YtoanbmggffkmgaaDoorMJlexBlanks1
import Derived.Test.YtoanbmggffkmgaaDoorMJlexBlanks2
import Derived.Test.YtoanbmggffkmgaaDoorMJlexBlanks3
section
namespace Go.Proofs.YtoanbmggffkmgaaDoor.La
open Go.RowKit Go.Proofs.YtoanbmggffkmgaaDoor.P Go.Proofs.YtoanbmggffkmgaaDoorW.PrintWords Go.Proofs.YtoanbmggffkmgaaDoorW.PrintLast Go.Proofs.YtoanbmggffkmgaaDoorW.PrintMore
def blankS : List Int := [32, 9, 10, 13]
def signS : List Int := [123, 125, 91, 93, 58, 44]
def digitS : List Int := [48, 49, 50, 51, 52, 53, 54, 55, 56, 57, 43, 45, 46, 101, 69]
def smallS : List Int := [97, 98, 99, 100, 101, 102, 103, 104, 105, 106, 107, 108, 109, 110, 111, 112, 113, 114, 115, 116, 117, 118, 119, 120, 121, 122]
def nameS (l : List Int) : Prop := l = [116, 114, 117, 101] ∨ l = [102, 97, 108, 115, 101] ∨ l = [110, 117, 108, 108]
instance (l : List Int) : Decidable (nameS l) := by unfold nameS; infer_instance
/-- The word at a place: an error and where; or its kind, its text, where it goes on. -/
def wd (L : List Int) (i : Nat) : (Int × Nat) ⊕ (Int × List Int × Nat) :=
  if inSet signS (L.getD i 0) = true then .inr (1, [L.getD i 0], i + 1)
  else if L.getD i 0 = 34 then
    (if (jbody L (L.length + 1) (i + 1) []).1 = true then
      (if (jbody L (L.length + 1) (i + 1) []).2.1.length > 4096 then .inl (2, i) else .inr (2, (jbody L (L.length + 1) (i + 1) []).2.1, (jbody L (L.length + 1) (i + 1) []).2.2))
    else .inl (4, (jbody L (L.length + 1) (i + 1) []).2.2))
  else if 97 ≤ L.getD i 0 ∧ L.getD i 0 ≤ 122 then
    (if nameS ((L.drop i).take (wh smallS (L.drop i))) then .inr (4, (L.drop i).take (wh smallS (L.drop i)), i + wh smallS (L.drop i)) else .inl (4, i))
  else if wh digitS (L.drop i) = 0 then .inl (4, i)
  else if numb ((L.drop i).take (wh digitS (L.drop i))) = 0 then .inr (3, (L.drop i).take (wh digitS (L.drop i)), i + wh digitS (L.drop i))
  else .inl (numb ((L.drop i).take (wh digitS (L.drop i))), i)
/-- A text's words from a place on, or its first fault. -/
def cutS (L : List Int) : Nat → Nat → List (Int × List Int × Nat) → List (Int × List Int × Nat) × Option (Int × Nat)
  | 0, _, acc => (acc, none)
  | k + 1, i, acc =>
    if L.length ≤ i then (acc ++ [(0, [], L.length)], none)
    else match wd L i with
      | .inl e => ([], some e)
      | .inr x => cutS L k (x.2.2 + wh blankS (L.drop x.2.2)) (acc ++ [(x.1, x.2.1, i)])
/-- How jlex.word tells it. -/
def wordR (i : Nat) : (Int × Nat) ⊕ (Int × List Int × Nat) → Int × ByteArray × Int × Int × Int × Int
  | .inl e => (0, ⟨#[]⟩, 0, 0, e.1, (e.2 : Int))
  | .inr x => (x.1, strOfNums x.2.1, (i : Int), (x.2.2 : Int), 0, 0)
theorem lt81 (s : ByteArray) (n : Nat) (h : s.size = n) (hn : n < 4294967281) : s.size < 4294967281 := by omega
theorem whileB (s : ByteArray) (hs : s.size ≤ 140737488355328) : jlex_while.f s (⟨#[32, 9, 10, 13]⟩ : ByteArray) = some (wh blankS (bytesOf s) : Int) :=
  while_eq s _ hs (lt81 _ 4 rfl (by omega)) (by decide)
theorem whileS (s : ByteArray) (hs : s.size ≤ 140737488355328) : jlex_while.f s (⟨#[97, 98, 99, 100, 101, 102, 103, 104, 105, 106, 107, 108, 109, 110, 111, 112, 113, 114, 115, 116, 117, 118, 119, 120, 121, 122]⟩ : ByteArray) = some (wh smallS (bytesOf s) : Int) :=
  while_eq s _ hs (lt81 _ 26 rfl (by omega)) (by decide)
theorem whileD (s : ByteArray) (hs : s.size ≤ 140737488355328) : jlex_while.f s (⟨#[48, 49, 50, 51, 52, 53, 54, 55, 56, 57, 43, 45, 46, 101, 69]⟩ : ByteArray) = some (wh digitS (bytesOf s) : Int) :=
  while_eq s _ hs (lt81 _ 15 rfl (by omega)) (by decide)
theorem idx_in (l : List Int) (c : Int) : idx l c ≥ 0 ↔ inSet l c = true := by
  induction l with
  | nil => simp [idx, inSet]
  | cons b l ih =>
    have hge := idx_ge l c
    unfold inSet at ih ⊢
    rw [List.any_cons, Bool.or_eq_true, ← ih, beq_iff_eq, idx]
    by_cases h : b = c
    · rw [if_pos h]; simp [h]
    · rw [if_neg h]
      split <;> omega
theorem sign_idx {c : Int} (h0 : 0 ≤ c) (h1 : c < 256) : ∃ j, strings_IndexByte.f (⟨#[123, 125, 91, 93, 58, 44]⟩ : ByteArray) c = some j ∧ (j ≥ 0 ↔ inSet signS c = true) := by
  unfold strings_IndexByte.f
  rw [if_pos (And.intro h0 h1)]
  refine ⟨_, rfl, ?_⟩
  rw [show bytesOf (⟨#[123, 125, 91, 93, 58, 44]⟩ : ByteArray) = signS from rfl]
  exact idx_in signS c
theorem ascii_take (cs l : List Int) (hc : ∀ x ∈ cs, x < 128) : ascii (l.take (wh cs l)) = true := by
  induction l with
  | nil => rfl
  | cons b l ih =>
    simp only [wh]
    split
    · rename_i hb
      unfold ascii at ih ⊢
      rw [List.take_succ_cons, List.all_cons, ih, Bool.and_true]
      refine decide_eq_true ?_
      unfold inSet at hb
      obtain ⟨c, hcs, hcb⟩ := List.any_eq_true.1 hb
      have := hc c hcs
      have : c = b := by simpa using hcb
      omega
    · rfl
theorem strOf_eq (s : ByteArray) {l : List Int} (h : bytesOf s = l) : s = strOfNums l := by rw [← h, strOfNums_of]
theorem name_iff (s : ByteArray) (l : List Int) (h : bytesOf s = l) : (s.toList = ([116, 114, 117, 101] : List UInt8) ↔ l = [116, 114, 117, 101]) ∧ (s.toList = ([102, 97, 108, 115, 101] : List UInt8) ↔ l = [102, 97, 108, 115, 101]) ∧ (s.toList = ([110, 117, 108, 108] : List UInt8) ↔ l = [110, 117, 108, 108]) := by
  have h1 := toList_eq_iff s (⟨#[116, 114, 117, 101]⟩ : ByteArray)
  have h2 := toList_eq_iff s (⟨#[102, 97, 108, 115, 101]⟩ : ByteArray)
  have h3 := toList_eq_iff s (⟨#[110, 117, 108, 108]⟩ : ByteArray)
  rw [h] at h1 h2 h3
  rw [toList_data' ⟨#[116, 114, 117, 101]⟩] at h1
  rw [toList_data' ⟨#[102, 97, 108, 115, 101]⟩] at h2
  rw [toList_data' ⟨#[110, 117, 108, 108]⟩] at h3
  exact ⟨h1, h2, h3⟩
theorem jbody_bound (L : List Int) (hL : Bytes L) (k : Nat) : ∀ (i : Nat) (acc : List Int), (jbody L k i acc).1 = true → i ≤ L.length → i < (jbody L k i acc).2.2 ∧ (jbody L k i acc).2.2 ≤ L.length := by
  induction k with
  | zero => intro i acc h _; simp [jbody] at h
  | succ k ih =>
    intro i acc h hi
    unfold jbody at h ⊢
    split at h
    · simp at h
    · rename_i h1
      rw [if_neg h1]
      split at h
      · rename_i h2
        rw [if_pos h2]
        simp only
        omega
      · rename_i h2
        rw [if_neg h2]
        split at h
        · simp at h
        · rename_i h3
          rw [if_neg h3]
          split at h
          · rename_i h4
            rw [if_pos h4]
            cases hj : jesc (L.drop i) with
            | none => rw [hj] at h; simp at h
            | some p =>
              rw [hj] at h
              simp only at h ⊢
              have hp := jesc_len hj
              rw [List.length_drop] at hp
              have := ih _ _ h (by omega)
              omega
          · rename_i h4
            rw [if_neg h4]
            split at h
            · rename_i h5
              rw [if_pos h5]
              have hb := tk_bound (L.drop i) (hL.drop i)
              rw [List.length_drop] at hb
              have := ih _ _ h (by omega)
              omega
            · simp at h
theorem jbody_where (L : List Int) (hL : Bytes L) (k : Nat) : ∀ (i : Nat) (acc : List Int), i ≤ L.length → (jbody L k i acc).2.2 ≤ L.length := by
  induction k with
  | zero => intro i acc hi; exact hi
  | succ k ih =>
    intro i acc hi
    unfold jbody
    split
    · exact Nat.le_refl _
    · split
      · show i + 1 ≤ _; omega
      · split
        · exact hi
        · split
          · cases hj : jesc (L.drop i) with
            | none => exact hi
            | some p =>
              have hp := jesc_len hj
              rw [List.length_drop] at hp
              exact ih _ _ (by omega)
          · split
            · have hb := tk_bound (L.drop i) (hL.drop i)
              rw [List.length_drop] at hb
              exact ih _ _ (by omega)
            · exact hi
theorem drop_cons' {L : List Int} {i : Nat} (h : i < L.length) : L.drop i = L.getD i 0 :: L.drop (i + 1) := by
  rw [List.drop_eq_getElem_cons h, List.getD_eq_getElem?_getD, List.getElem?_eq_getElem h]
  rfl
theorem bt_nat' (s : ByteArray) (i : Nat) : bt s (i : Int) = (bytesOf s).getD i 0 := by rw [bt_get]; rfl
/-- What a string says is of bytes. -/
theorem jesc_good {l : List Int} {p : Int × Nat} (h : jesc l = some p) : good p.1 := by
  unfold jesc at h
  split at h
  · cases h
  · split at h
    · rename_i h1
      obtain rfl := Option.some.inj h
      obtain ⟨x, hx⟩ := Option.isSome_iff_exists.1 h1
      rw [hx]
      exact shortJ_good hx
    · split at h
      · cases h
      · split at h
        · split at h
          · rename_i hg
            obtain rfl := Option.some.inj h
            exact hg
          · cases h
        · split at h
          · cases h
          · rename_i h3 h4
            obtain rfl := Option.some.inj h
            have hx := digs4_bound l 2
            have hy := digs4_bound l 8
            have h5 : ¬ (digsAt l 8 4).getD 0 < 56320 := fun e => h4 (.inr (.inr (.inl e)))
            have h6 : ¬ (digsAt l 8 4).getD 0 > 57343 := fun e => h4 (.inr (.inr (.inr e)))
            refine good_iff.2 ?_
            simp only
            omega
theorem jbody_bytes (L : List Int) (k : Nat) : ∀ (i : Nat) (acc : List Int), Bytes acc → (jbody L k i acc).1 = true → Bytes (jbody L k i acc).2.1 := by
  induction k with
  | zero => intro i acc _ h; simp [jbody] at h
  | succ k ih =>
    intro i acc ha h
    unfold jbody at h ⊢
    split at h
    · simp at h
    · rename_i h1
      rw [if_neg h1]
      split at h
      · rename_i h2
        rw [if_pos h2]
        exact ha
      · rename_i h2
        rw [if_neg h2]
        split at h
        · simp at h
        · rename_i h3
          rw [if_neg h3]
          split at h
          · rename_i h4
            rw [if_pos h4]
            cases hj : jesc (L.drop i) with
            | none => rw [hj] at h; simp at h
            | some p =>
              rw [hj] at h
              simp only at h ⊢
              exact ih _ _ (ha.append (enc_bytes (jesc_good hj))) h
          · rename_i h4
            rw [if_neg h4]
            split at h
            · rename_i h5
              rw [if_pos h5]
              exact ih _ _ (ha.append (enc0_bytes _)) h
            · simp at h
theorem word_ev (s : ByteArray) (hs : s.size ≤ 65536) (i : Nat) (hi : i < s.size) : Ev (fun k => jlex_word.f k s (i : Int)) (wordR i (wd (bytesOf s) i)) := by
  have hy : bytesOf (s.extract i s.size) = (bytesOf s).drop i := bytesOf_drop s i
  have hyz : (s.extract i s.size).size = s.size - i := size_drop s i
  have hb : bt (s.extract i s.size) 0 = (bytesOf s).getD i 0 := by
    rw [bt_get, hy, drop_cons' (by rw [size_of]; exact hi)]
    rfl
  have hrange := bt_range s (i : Int)
  rw [bt_nat'] at hrange
  obtain ⟨j, hj, hsign⟩ := sign_idx (c := (bytesOf s).getD i 0) (by omega) (by omega)
  have step1 : ∀ k, jlex_word.f k s (i : Int) = (if j ≥ 0 then (some (1, (s.extract i s.size).extract 0 1, (i : Int), wrap64 ((i : Int) + 1), 0, 0)) else (if ((bytesOf s).getD i 0) = 34 then ((esc_Unquote.f s (i : Int)).bind fun bt208 => (if bt208.2.2 ≥ 0 then (some (0, (⟨#[]⟩ : ByteArray), 0, 0, 4, bt208.2.2)) else (if (bt208.1.size : Int) > 4096 then (some (0, (⟨#[]⟩ : ByteArray), 0, 0, 2, (i : Int))) else (some (2, bt208.1, (i : Int), bt208.2.1, 0, 0))))) else (if ((bytesOf s).getD i 0) ≥ 97 then (jlex_word.j0 k (i : Int) (s.extract i s.size) (decide (((bytesOf s).getD i 0) ≤ 122))) else (jlex_word.j0 k (i : Int) (s.extract i s.size) false)))) := by
    intro k
    rw [jlex_word.f, if_pos (by omega), if_pos (by omega), Int.toNat_natCast, if_pos (by omega), hb, hj, Option.bind_some, if_pos (show (0 : Nat) ≤ 1 by decide), if_pos (show (1 : Int) ≤ ((s.extract i s.size).size : Int) by omega)]
  refine Ev.congr step1 ?_
  unfold wd
  by_cases h1 : inSet signS ((bytesOf s).getD i 0) = true
  · rw [if_pos h1]
    refine Ev.congr (fun k => by rw [if_pos (hsign.2 h1)]) ?_
    have he : (s.extract i s.size).extract 0 1 = strOfNums [(bytesOf s).getD i 0] := strOf_eq _ (by
      rw [bytesOf_take, hy, drop_cons' (by rw [size_of]; exact hi)]
      rfl)
    rw [he, wrap_id (by omega) (by omega)]
    exact Ev.now _
  · rw [if_neg h1]
    have hj0 : ¬ j ≥ 0 := fun e => h1 (hsign.1 e)
    by_cases h2 : (bytesOf s).getD i 0 = 34
    · rw [if_pos h2]
      refine Ev.congr (fun k => by rw [if_neg hj0, if_pos h2]) ?_
      have hu : esc_Unquote.f s (i : Int) = some (unqT (bytesOf s) (i : Int)) := if_pos (by omega)
      have hun : unqT (bytesOf s) (i : Int) = (if (jbody (bytesOf s) ((bytesOf s).length + 1) (i + 1) []).1 = true then (strOfNums (jbody (bytesOf s) ((bytesOf s).length + 1) (i + 1) []).2.1, ((jbody (bytesOf s) ((bytesOf s).length + 1) (i + 1) []).2.2 : Int), -1) else (⟨#[]⟩, 0, ((jbody (bytesOf s) ((bytesOf s).length + 1) (i + 1) []).2.2 : Int))) := by
        unfold unqT
        rw [Int.toNat_natCast, if_neg (by rw [size_of]; rintro (h | h | h) <;> first | omega | exact h h2)]
        generalize jbody (bytesOf s) ((bytesOf s).length + 1) (i + 1) [] = q
        obtain ⟨b, bs, m⟩ := q
        cases b <;> rfl
      have hbd := jbody_where (bytesOf s) (bytes_of s) ((bytesOf s).length + 1) (i + 1) [] (by rw [size_of]; omega)
      have hsz := fun h => (jbody_bytes (bytesOf s) ((bytesOf s).length + 1) (i + 1) [] (fun x hx => by cases hx) h)
      rw [hu, hun]
      generalize jbody (bytesOf s) ((bytesOf s).length + 1) (i + 1) [] = q at hbd hsz
      obtain ⟨b, bs, m⟩ := q
      cases b with
      | false =>
        simp only [Bool.false_eq_true, if_false, Option.bind_some]
        refine Ev.congr (fun k => by rw [if_pos (by show (0 : Int) ≤ (m : Int); omega)]) ?_
        exact Ev.now _
      | true =>
        simp only [if_true, Option.bind_some]
        refine Ev.congr (fun k => by rw [if_neg (by decide)]) ?_
        rw [size_strOfNums (hsz rfl)]
        dsimp only
        by_cases h3 : bs.length > 4096
        · refine Ev.congr (fun k => by rw [if_pos (by omega)]) ?_
          rw [if_pos h3]
          exact Ev.now _
        · refine Ev.congr (fun k => by rw [if_neg (by omega)]) ?_
          rw [if_neg h3]
          exact Ev.now _
    · rw [if_neg h2]
      have hy2 : (s.extract i s.size).size ≤ 140737488355328 := by omega
      generalize s.extract i s.size = y at hy hyz hy2
      have htk : ∀ n : Nat, n ≤ y.size → bytesOf (y.extract 0 n) = ((bytesOf s).drop i).take n := fun n _ => by rw [bytesOf_take, hy]
      by_cases h3 : 97 ≤ (bytesOf s).getD i 0 ∧ (bytesOf s).getD i 0 ≤ 122
      · rw [if_pos h3]
        refine Ev.congr (fun k => by rw [if_neg hj0, if_neg h2, if_pos h3.1, decide_eq_true h3.2]) ?_
        have hwl := wh_le smallS ((bytesOf s).drop i)
        rw [List.length_drop, size_of] at hwl
        have hws := whileS y hy2
        rw [hy] at hws
        generalize wh smallS ((bytesOf s).drop i) = n at hwl hws
        have hbn := htk n (by omega)
        have hzn : (y.extract 0 n).size = n := size_take _ (by omega)
        have hn := name_iff (y.extract 0 n) _ hbn
        have hst := strOf_eq _ hbn
        have hfin : ∀ k, jlex_word.j0 (k + 1) (i : Int) y true = if nameS (((bytesOf s).drop i).take n) then some (4, y.extract 0 n, (i : Int), wrap64 ((i : Int) + (n : Int)), 0, 0) else some (0, (⟨#[]⟩ : ByteArray), 0, 0, 4, (i : Int)) := by
          intro k
          rw [jlex_word.j0, if_pos rfl, hws, Option.bind_some, if_pos (by omega), if_pos (by omega), Int.toNat_natCast, hzn]
          by_cases g1 : ((bytesOf s).drop i).take n = [116, 114, 117, 101]
          · rw [if_pos (hn.1.2 g1), if_pos (show nameS (((bytesOf s).drop i).take n) from .inl g1)]
          · rw [if_neg (fun e => g1 (hn.1.1 e))]
            by_cases g2 : ((bytesOf s).drop i).take n = [102, 97, 108, 115, 101]
            · rw [if_pos (hn.2.1.2 g2), if_pos (show nameS (((bytesOf s).drop i).take n) from .inr (.inl g2))]
            · rw [if_neg (fun e => g2 (hn.2.1.1 e))]
              by_cases g3 : ((bytesOf s).drop i).take n = [110, 117, 108, 108]
              · rw [if_pos (hn.2.2.2 g3), if_pos (show nameS (((bytesOf s).drop i).take n) from .inr (.inr g3))]
              · rw [if_neg (fun e => g3 (hn.2.2.1 e)), if_neg (by rintro (e | e | e); exact g1 e; exact g2 e; exact g3 e)]
        refine Ev.step hfin ?_
        by_cases g : nameS (((bytesOf s).drop i).take n)
        · rw [if_pos g, if_pos g]
          rw [hst, wrap_id (by omega) (by omega)]
          exact Ev.now _
        · rw [if_neg g, if_neg g]
          exact Ev.now _
      · rw [if_neg h3]
        have hwl := wh_le digitS ((bytesOf s).drop i)
        rw [List.length_drop, size_of] at hwl
        have hasc := ascii_take digitS ((bytesOf s).drop i) (by decide)
        have hwd := whileD y hy2
        rw [hy] at hwd
        generalize wh digitS ((bytesOf s).drop i) = n at hwl hwd hasc
        have hbn := htk n (by omega)
        have hzn : (y.extract 0 n).size = n := size_take _ (by omega)
        have hst := strOf_eq _ hbn
        have hnil : (y.extract 0 n).toList = ([] : List UInt8) ↔ n = 0 := by
          rw [toList_nil_iff, ← List.length_eq_zero_iff, size_of, hzn]
        have hnum := number_ev (y.extract 0 n) (by rw [hbn]; exact hasc)
        rw [hbn] at hnum
        have key : Ev (fun k => jlex_word.j0 k (i : Int) y false) (wordR i (if n = 0 then .inl (4, i) else if numb (((bytesOf s).drop i).take n) = 0 then .inr (3, ((bytesOf s).drop i).take n, i + n) else .inl (numb (((bytesOf s).drop i).take n), i))) := by
          refine Ev.step (fun k => by rw [jlex_word.j0, if_neg (by decide), hwd, Option.bind_some, if_pos (by omega), if_pos (by omega), Int.toNat_natCast, hzn]) ?_
          by_cases g : n = 0
          · rw [if_pos g]
            refine Ev.congr (fun k => by rw [if_pos (hnil.2 g)]) ?_
            exact Ev.now _
          · rw [if_neg g]
            refine Ev.congr (fun k => by rw [if_neg (fun e => g (hnil.1 e))]) (Ev.bind hnum ?_)
            by_cases g2 : numb (((bytesOf s).drop i).take n) = 0
            · rw [if_pos g2, if_pos g2]
              rw [hst, wrap_id (by omega) (by omega)]
              exact Ev.now _
            · rw [if_neg g2, if_neg g2]
              exact Ev.now _
        by_cases h4 : 97 ≤ (bytesOf s).getD i 0
        · have h5 : ¬ (bytesOf s).getD i 0 ≤ 122 := fun e => h3 ⟨h4, e⟩
          exact Ev.congr (fun k => by rw [if_neg hj0, if_neg h2, if_pos h4, decide_eq_false h5]) key
        · exact Ev.congr (fun k => by rw [if_neg hj0, if_neg h2, if_neg (by omega)]) key
/-- A word ends behind its beginning, within the text. -/
theorem wd_inr {L : List Int} (hL : Bytes L) {i : Nat} (hi : i < L.length) {x : Int × List Int × Nat} (h : wd L i = .inr x) : i < x.2.2 ∧ x.2.2 ≤ L.length := by
  unfold wd at h
  split at h
  · injection h with h; subst h; show i < i + 1 ∧ i + 1 ≤ _; omega
  · split at h
    · split at h
      · rename_i h3
        have hb := jbody_bound L hL _ (i + 1) [] h3 (by omega)
        split at h
        · cases h
        · injection h with h; subst h; show i < (jbody L (L.length + 1) (i + 1) []).2.2 ∧ (jbody L (L.length + 1) (i + 1) []).2.2 ≤ _; omega
      · cases h
    · split at h
      · split at h
        · rename_i h4
          have hw := wh_le smallS (L.drop i)
          rw [List.length_drop] at hw
          injection h with h
          subst h
          show i < i + _ ∧ i + _ ≤ _
          have : wh smallS (L.drop i) ≠ 0 := fun e => by
            rw [e, List.take_zero] at h4
            unfold nameS at h4
            simp at h4
          omega
        · cases h
      · split at h
        · cases h
        · split at h
          · have hw := wh_le digitS (L.drop i)
            rw [List.length_drop] at hw
            injection h with h
            subst h
            show i < i + _ ∧ i + _ ≤ _
            omega
          · cases h
/-- A fault has an error, and lies within the text. -/
theorem wd_inl {L : List Int} (hL : Bytes L) {i : Nat} (hi : i < L.length) {e : Int × Nat} (h : wd L i = .inl e) : e.1 ≠ 0 ∧ e.2 ≤ L.length := by
  unfold wd at h
  split at h
  · cases h
  · split at h
    · split at h
      · split at h
        · injection h with h; subst h; exact ⟨by simp, by show i ≤ _; omega⟩
        · cases h
      · injection h with h; subst h
        exact ⟨by simp, jbody_where L hL _ _ _ (by omega)⟩
    · split at h
      · split at h
        · cases h
        · injection h with h; subst h; exact ⟨by simp, by show i ≤ _; omega⟩
      · split at h
        · injection h with h; subst h; exact ⟨by simp, by show i ≤ _; omega⟩
        · split at h
          · cases h
          · rename_i h9
            injection h with h; subst h; exact ⟨h9, by show i ≤ _; omega⟩
def toW (x : Int × List Int × Nat) : S30 := ⟨x.1, strOfNums x.2.1, (x.2.2 : Int)⟩
/-- How jlex.Cut tells it. -/
def cutR (s : ByteArray) (o : List (Int × List Int × Nat) × Option (Int × Nat)) : List S30 × Int × Int × Int × Int :=
  match o.2 with
  | none => (o.1.map toW, 0, 0, 0, 0)
  | some e => ([], e.1, (clamp s.size (e.2 : Int) : Int), lineOf ((bytesOf s).take (clamp s.size (e.2 : Int))), colOf ((bytesOf s).take (clamp s.size (e.2 : Int))))
theorem cut_l0 (s : ByteArray) (hs : s.size ≤ 65536) (n : Nat) : ∀ (i K : Nat) (acc : List (Int × List Int × Nat)), i ≤ s.size → s.size - i = n → n < K → acc.length ≤ i →
    Ev (fun k => jlex_Cut.l0 k s (acc.map toW) (i : Int)) (cutR s (cutS (bytesOf s) K i acc)) := by
  induction n using Nat.strongRecOn with
  | _ n ih =>
  intro i K acc hi hn hK hacc
  obtain ⟨K, rfl⟩ : ∃ m, K = m + 1 := ⟨K - 1, by omega⟩
  rw [cutS, size_of]
  by_cases h : i < s.size
  · rw [if_neg (by omega)]
    refine Ev.step (fun k => by rw [jlex_Cut.l0, if_pos (by omega)]) (Ev.bind (word_ev s hs i h) ?_)
    cases hw : wd (bytesOf s) i with
    | inl e =>
      have he := wd_inl (bytes_of s) (by rw [size_of]; exact h) hw
      refine Ev.congr (fun k => by rw [wordR, if_neg he.1]) (Ev.bind (fault_ev s (by omega) (e.2 : Int) e.1) ?_)
      exact Ev.now _
    | inr x =>
      have hx := wd_inr (bytes_of s) (by rw [size_of]; exact h) hw
      rw [size_of] at hx
      have hwh := whileB (s.extract x.2.2 s.size) (by rw [size_drop]; omega)
      rw [bytesOf_drop] at hwh
      have hwl := wh_le blankS ((bytesOf s).drop x.2.2)
      rw [List.length_drop, size_of] at hwl
      have hj : (acc.map toW) ++ [(⟨x.1, strOfNums x.2.1, (i : Int)⟩ : S30)] = (acc ++ [(x.1, x.2.1, i)]).map toW := by simp [toW]
      have r0 : (wordR i (.inr x)).2.2.2.2.1 = 0 := rfl
      have r1 : (wordR i (.inr x)).2.2.2.1 = (x.2.2 : Int) := rfl
      have r2 : (0 : Int) ≤ (wordR i (.inr x)).2.2.2.1 := by rw [r1]; omega
      have r3 : (wordR i (.inr x)).2.2.2.1 ≤ (s.size : Int) := by rw [r1]; omega
      have r4 : (wordR i (.inr x)).1 = x.1 := rfl
      have r5 : (wordR i (.inr x)).2.1 = strOfNums x.2.1 := rfl
      have r6 : (wordR i (.inr x)).2.2.1 = (i : Int) := rfl
      refine Ev.congr (fun k => by
        rw [if_pos r0, if_pos (by rw [List.length_map]; omega), if_pos r2, if_pos r3, r1, Int.toNat_natCast, hwh, Option.bind_some, wrap_id (by omega) (by omega), r4, r5, r6, hj, show (x.2.2 : Int) + (wh blankS ((bytesOf s).drop x.2.2) : Int) = ((x.2.2 + wh blankS ((bytesOf s).drop x.2.2) : Nat) : Int) by omega]) ?_
      exact ih (s.size - (x.2.2 + wh blankS ((bytesOf s).drop x.2.2))) (by omega) _ K _ (by omega) rfl (by omega) (by rw [List.length_append, List.length_singleton]; omega)
  · obtain rfl : i = s.size := by omega
    rw [if_pos (Nat.le_refl _)]
    refine Ev.step (fun k => by rw [jlex_Cut.l0, if_neg (by omega), if_pos (by rw [List.length_map]; omega)]) ?_
    have hj : (acc.map toW) ++ [(⟨0, ⟨#[]⟩, (s.size : Int)⟩ : S30)] = (acc ++ [(0, [], s.size)]).map toW := by
      rw [List.map_append]
      rfl
    rw [hj]
    exact Ev.now _
/-- What Judge tells. -/
def judgeS (L : List Int) : Option (Int × Nat) := (bad L).map fun p => (3, p)
theorem judge_ev (s : ByteArray) (hs : s.size ≤ 65536) : Ev (fun k => jlex_Judge.f k s) ((cutR s ([], judgeS (bytesOf s))).2) := by
  refine Ev.congr (fun k => by rw [jlex_Judge.f, if_neg (by omega)]) (Ev.bind (valid_ev s (by omega)) ?_)
  unfold judgeS
  cases hb : bad (bytesOf s) with
  | none =>
    simp only [badR, if_true]
    exact Ev.now _
  | some p =>
    simp only [badR, Bool.false_eq_true, if_false, Nat.zero_add]
    refine (Ev.bind (fault_ev s (by omega) (p : Int) 3) ?_)
    exact Ev.now _
/-- A text's words, or its first fault. -/
def lexS (L : List Int) : List (Int × List Int × Nat) × Option (Int × Nat) :=
  match judgeS L with
  | some e => ([], some e)
  | none => cutS L (L.length + 1) (wh blankS L) []
theorem lex_ev (s : ByteArray) (hs : s.size ≤ 65536) : Ev (fun k => jlex_Cut.f k s) (cutR s (lexS (bytesOf s))) := by
  refine Ev.congr (fun k => by rw [jlex_Cut.f]) (Ev.bind (judge_ev s hs) ?_)
  unfold lexS
  cases hj : judgeS (bytesOf s) with
  | none =>
    have hw := whileB s (by omega)
    have hwl := wh_le blankS (bytesOf s)
    rw [size_of] at hwl
    simp only [cutR, if_true, hw, Option.bind_some]
    exact cut_l0 s hs _ _ _ [] hwl rfl (by rw [size_of]; omega) (Nat.zero_le _)
  | some e =>
    have he : e.1 = 3 := by
      unfold judgeS at hj
      obtain ⟨p, _, rfl⟩ := Option.map_eq_some_iff.1 hj
      rfl
    have r0 : ¬ (cutR s ([], some e)).2.1 = 0 := by
      show ¬ e.1 = 0
      rw [he]
      decide
    refine Ev.congr (fun k => by rw [if_neg r0]) ?_
    exact Ev.now _
end Go.Proofs.YtoanbmggffkmgaaDoor.La
end
section
namespace Go.Proofs.YtoanbmggffkmgaaDoor.La
open Go.RowKit Go.Proofs.YtoanbmggffkmgaaDoor.P Go.Proofs.YtoanbmggffkmgaaDoorW.PrintWords Go.Proofs.YtoanbmggffkmgaaDoorW.PrintLast Go.Proofs.YtoanbmggffkmgaaDoorW.PrintMore
/-- The words of a text from a place on. -/
inductive Wds (L : List Int) : Nat → List (Int × List Int × Nat) → Prop
  | last : Wds L L.length [(0, [], L.length)]
  | word {i : Nat} {x : Int × List Int × Nat} {ws : List (Int × List Int × Nat)} : i < L.length → wd L i = .inr x → Wds L (x.2.2 + wh blankS (L.drop x.2.2)) ws → Wds L i ((x.1, x.2.1, i) :: ws)
theorem cutS_wds {L : List Int} (hL : Bytes L) (k : Nat) : ∀ (i : Nat) (acc r : List (Int × List Int × Nat)), i ≤ L.length → L.length - i < k → cutS L k i acc = (r, none) → ∃ ws, r = acc ++ ws ∧ Wds L i ws := by
  induction k with
  | zero => intro i acc r _ h; omega
  | succ k ih =>
    intro i acc r hi hk h
    rw [cutS] at h
    by_cases hlt : L.length ≤ i
    · rw [if_pos hlt] at h
      obtain rfl : i = L.length := by omega
      exact ⟨_, (Prod.mk.inj h).1.symm, .last⟩
    · rw [if_neg hlt] at h
      cases hw : wd L i with
      | inl e => rw [hw] at h; cases (Prod.mk.inj h).2
      | inr x =>
        rw [hw] at h
        have hx := wd_inr hL (by omega) hw
        have hwl := wh_le blankS (L.drop x.2.2)
        rw [List.length_drop] at hwl
        obtain ⟨ws, rfl, hws⟩ := ih _ _ _ (by omega) (by omega) h
        exact ⟨(x.1, x.2.1, i) :: ws, by rw [List.append_assoc]; rfl, .word (by omega) hw hws⟩
theorem wds_cutS {L : List Int} (hL : Bytes L) {i : Nat} {ws : List (Int × List Int × Nat)} (h : Wds L i ws) : ∀ (k : Nat) (acc : List (Int × List Int × Nat)), L.length - i < k → cutS L k i acc = (acc ++ ws, none) := by
  induction h with
  | last =>
    intro k acc hk
    obtain ⟨k, rfl⟩ : ∃ m, k = m + 1 := ⟨k - 1, by omega⟩
    rw [cutS, if_pos (Nat.le_refl _)]
  | @word i x ws hi hw h ih =>
    intro k acc hk
    obtain ⟨k, rfl⟩ : ∃ m, k = m + 1 := ⟨k - 1, by omega⟩
    have hx := wd_inr hL hi hw
    rw [cutS, if_neg (by omega), hw]
    simp only
    rw [ih k _ (by omega), List.append_assoc]
    rfl
/-- A fault has an error. -/
theorem cutS_err {L : List Int} (hL : Bytes L) (k : Nat) : ∀ (i : Nat) (acc r : List (Int × List Int × Nat)) (e : Int × Nat), i ≤ L.length → cutS L k i acc = (r, some e) → e.1 ≠ 0 ∧ e.2 ≤ L.length ∧ r = [] := by
  induction k with
  | zero => intro i acc r e _ h; rw [cutS] at h; cases (Prod.mk.inj h).2
  | succ k ih =>
    intro i acc r e hi h
    rw [cutS] at h
    by_cases hlt : L.length ≤ i
    · rw [if_pos hlt] at h
      cases (Prod.mk.inj h).2
    · rw [if_neg hlt] at h
      cases hw : wd L i with
      | inl e2 =>
        rw [hw] at h
        obtain ⟨h1, h2⟩ := Prod.mk.inj h
        obtain rfl := Option.some.inj h2
        exact ⟨(wd_inl hL (by omega) hw).1, (wd_inl hL (by omega) hw).2, h1.symm⟩
      | inr x =>
        rw [hw] at h
        have hx := wd_inr hL (by omega) hw
        have hwl := wh_le blankS (L.drop x.2.2)
        rw [List.length_drop] at hwl
        exact ih _ _ _ _ (by omega) h
theorem lexS_err {L : List Int} (hL : Bytes L) {r : List (Int × List Int × Nat)} {e : Int × Nat} (h : lexS L = (r, some e)) : e.1 ≠ 0 ∧ e.2 ≤ L.length ∧ r = [] := by
  unfold lexS at h
  cases hj : judgeS L with
  | some e2 =>
    rw [hj] at h
    unfold judgeS at hj
    obtain ⟨p, hp, rfl⟩ := Option.map_eq_some_iff.1 hj
    obtain ⟨h1, h2⟩ := Prod.mk.inj h
    obtain rfl := Option.some.inj h2
    have := bad_bound L hL hp
    exact ⟨by simp, by show p ≤ _; omega, h1.symm⟩
  | none =>
    rw [hj] at h
    exact cutS_err hL _ _ _ _ _ (wh_le blankS L) h
theorem lexS_ok {L : List Int} (hL : Bytes L) {r : List (Int × List Int × Nat)} (h : lexS L = (r, none)) : bad L = none ∧ Wds L (wh blankS L) r := by
  unfold lexS at h
  cases hj : judgeS L with
  | some e2 => rw [hj] at h; cases (Prod.mk.inj h).2
  | none =>
    rw [hj] at h
    obtain ⟨ws, rfl, hws⟩ := cutS_wds hL _ _ _ _ (wh_le blankS L) (by omega) h
    unfold judgeS at hj
    exact ⟨Option.map_eq_none_iff.1 hj, hws⟩
/-- Of a letter of more bytes each is 128 at least. -/
theorem enc_high {r : Int} (h : 128 ≤ r) (hg : good r) : ∀ b ∈ enc r, 128 ≤ b := by
  have hg' := good_iff.1 hg
  unfold enc
  rw [if_neg (by omega)]
  intro b hb
  split at hb
  · simp at hb; omega
  · split at hb
    · simp at hb; omega
    · simp at hb; omega
theorem enc_low {r : Int} (h : r < 128) : enc r = [r] := by unfold enc; rw [if_pos h]
end Go.Proofs.YtoanbmggffkmgaaDoor.La
end
section
namespace Go.Proofs.YtoanbmggffkmgaaDoor.La
open Go.RowKit Go.Proofs.YtoanbmggffkmgaaDoor.P Go.Proofs.YtoanbmggffkmgaaDoorW.PrintWords Go.Proofs.YtoanbmggffkmgaaDoorW.PrintLast Go.Proofs.YtoanbmggffkmgaaDoorW.PrintMore
/-- A text of letters, cut ahead of a byte below 128 (or at its end): both parts are letters. -/
theorem bad_cut (L : List Int) (hL : Bytes L) (h : bad L = none) : ∀ a b : List Int, L = a ++ b → (∀ c t, b = c :: t → c < 128) → bad a = none ∧ bad b = none := by
  refine text_induction (P := fun L => ∀ a b : List Int, L = a ++ b → (∀ c t, b = c :: t → c < 128) → bad a = none ∧ bad b = none) ?_ ?_ L hL h
  · intro a b hab _
    obtain ⟨rfl, rfl⟩ := List.append_eq_nil_iff.1 hab.symm
    exact ⟨bad_nil, bad_nil⟩
  · intro r m hr hm _ ih a b hab hb
    cases a with
    | nil =>
      rw [List.nil_append] at hab
      refine ⟨bad_nil, ?_⟩
      rw [← hab, bad_enc hr, hm]
      rfl
    | cons x a' =>
      by_cases hlen : (enc r).length ≤ (x :: a').length
      · have e1 : (x :: a').take (enc r).length = enc r := by
          have := congrArg (List.take (enc r).length) hab
          rw [List.take_left, List.take_append_of_le_length hlen] at this
          exact this.symm
        have e2 : m = (x :: a').drop (enc r).length ++ b := by
          have := congrArg (List.drop (enc r).length) hab
          rw [List.drop_left, List.drop_append_of_le_length hlen] at this
          exact this
        obtain ⟨h1, h2⟩ := ih _ _ e2 hb
        refine ⟨?_, h2⟩
        rw [← List.take_append_drop (enc r).length (x :: a'), e1, bad_enc hr, h1]
        rfl
      · exfalso
        have hl := (enc_len r).2
        have hge : 128 ≤ r := by
          rcases Int.lt_or_le r 128 with h | h
          · rw [enc_low h] at hlen; simp at hlen
          · exact h
        have hi : (x :: a').length < (enc r).length := by omega
        have hne : b ≠ [] := by
          intro e
          subst e
          have := congrArg List.length hab
          rw [List.append_nil, List.length_append] at this
          omega
        obtain ⟨c, t, rfl⟩ : ∃ c t, b = c :: t := by cases b with
          | nil => exact absurd rfl hne
          | cons c t => exact ⟨c, t, rfl⟩
        have hc := hb c t rfl
        have e3 : (enc r ++ m)[(x :: a').length]? = some c := by
          rw [hab, List.getElem?_append_right (Nat.le_refl _), Nat.sub_self]
          rfl
        rw [List.getElem?_append_left hi] at e3
        have := enc_high hge hr c (List.mem_of_getElem? e3)
        omega
theorem hexI_take {l : List Int} {i n : Nat} (m : List Int) (h : (digsAt l i n).isSome = true) {k : Nat} (hk : i + n ≤ k) : digsAt (l.take k ++ m) i n = digsAt l i n := by
  have hl := digsAt_len h
  unfold digsAt
  rw [if_pos hl, if_pos (by rw [List.length_append, List.length_take]; omega)]
  congr 1
  rw [List.drop_append_of_le_length (by rw [List.length_take]; omega), List.take_append_of_le_length (by rw [List.length_drop, List.length_take]; omega), List.drop_take, List.take_take, Nat.min_eq_left (by omega)]
theorem getD_take {l m : List Int} {i k : Nat} (hi : i < k) (hl : i < l.length) : (l.take k ++ m).getD i 0 = l.getD i 0 := by
  rw [List.getD_eq_getElem?_getD, List.getD_eq_getElem?_getD, List.getElem?_append_left (by rw [List.length_take]; omega), List.getElem?_take_of_lt hi]
/-- An escape is the same whatever stands behind it. -/
theorem jesc_take {l : List Int} {p : Int × Nat} (m : List Int) (h : jesc l = some p) : jesc (l.take p.2 ++ m) = some p := by
  have hlen := jesc_len h
  have hll : (l.take p.2 ++ m).length = p.2 + m.length := by rw [List.length_append, List.length_take, Nat.min_eq_left hlen.2.1]
  have hg1 : (l.take p.2 ++ m).getD 1 0 = l.getD 1 0 := getD_take (by omega) (by omega)
  unfold jesc at h
  split at h
  · cases h
  · unfold jesc
    rw [if_neg (by omega), hg1]
    split at h
    · rename_i h1
      rw [if_pos h1]
      exact h
    · rename_i h1
      rw [if_neg h1]
      split at h
      · cases h
      · rename_i h2
        have h3 : (digsAt l 2 4).isSome = true := by
          cases hd : (digsAt l 2 4).isSome
          · exact absurd (.inr hd) h2
          · rfl
        split at h
        · rename_i h4
          split at h
          · rename_i hg
            obtain rfl := Option.some.inj h
            rw [hexI_take m h3 (by show 2 + 4 ≤ 6; omega), if_neg h2, if_pos h4, if_pos hg]
          · cases h
        · rename_i h4
          split at h
          · cases h
          · rename_i h5
            have h6 : (digsAt l 8 4).isSome = true := by
              cases hd : (digsAt l 8 4).isSome
              · exact absurd (.inl hd) h5
              · rfl
            have hl8 := digsAt_len h6
            obtain rfl := Option.some.inj h
            have e6 : ((l.take 12 ++ m).drop 6).take 2 = (l.drop 6).take 2 := by
              rw [List.drop_append_of_le_length (by rw [List.length_take]; omega), List.take_append_of_le_length (by rw [List.length_drop, List.length_take]; omega), List.drop_take, List.take_take, Nat.min_eq_left (by omega)]
            show (if (l.getD 1 0 ≠ 117 ∨ (digsAt (l.take 12 ++ m) 2 4).isSome = false) then _ else _) = _
            rw [hexI_take m h3 (by omega), hexI_take m h6 (by omega), e6, if_neg h2, if_neg h4, if_neg h5]
theorem tk_take {l : List Int} (hl : Bytes l) (m : List Int) (h : (tk l).2 > 0) : tk (l.take (tk l).2.toNat ++ m) = tk l := by
  rcases tk_inv l hl with e | ⟨hg, hn, q, hm⟩
  · rw [e] at h; simp at h
  · have e1 : l.take (tk l).2.toNat = enc (tk l).1 := by
      rw [hn, Int.toNat_natCast]
      have : l.take (enc (tk l).1).length = (enc (tk l).1 ++ q).take (enc (tk l).1).length := by rw [← hm]
      rw [this, List.take_left]
    rw [e1, tk_enc hg, ← hn]
theorem drop_take_split {l : List Int} {a b : Nat} (h : a ≤ b) (_hb : b ≤ l.length) : l.take b = l.take a ++ (l.drop a).take (b - a) := by
  rw [← List.take_append_drop a (l.take b), List.take_take, Nat.min_eq_left h, List.drop_take]
theorem jbody_succ (L : List Int) (k i : Nat) (acc : List Int) : jbody L (k + 1) i acc =
    if L.length ≤ i then (false, [], L.length)
    else if L.getD i 0 = 34 then (true, acc, i + 1)
    else if L.getD i 0 < 32 then (false, [], i)
    else if L.getD i 0 = 92 then (match jesc (L.drop i) with | none => (false, [], i) | some p => jbody L k (i + p.2) (acc ++ enc p.1))
    else if (tk (L.drop i)).2 > 0 then jbody L k (i + (tk (L.drop i)).2.toNat) (acc ++ enc0 (tk (L.drop i)).1)
    else (false, [], i) := rfl
/-- A string is the same wherever it stands. -/
theorem jbody_loc {L : List Int} (hL : Bytes L) (k : Nat) : ∀ (p : Nat) (acc : List Int), (jbody L k p acc).1 = true → p ≤ L.length → ∀ (L' : List Int) (q : Nat) (m : List Int) (k' : Nat), k ≤ k' → q ≤ L'.length →
    L'.drop q = (L.drop p).take ((jbody L k p acc).2.2 - p) ++ m → jbody L' k' q acc = (true, (jbody L k p acc).2.1, q + ((jbody L k p acc).2.2 - p)) := by
  induction k with
  | zero => intro p acc h; simp [jbody] at h
  | succ k ih =>
    intro p acc h hp L' q m k' hk hq hd
    obtain ⟨k', rfl⟩ : ∃ n, k' = n + 1 := ⟨k' - 1, by omega⟩
    have hb := jbody_bound L hL (k + 1) p acc h hp
    have hlen : q + ((jbody L (k + 1) p acc).2.2 - p) ≤ L'.length := by
      have := congrArg List.length hd
      rw [List.length_drop, List.length_append, List.length_take, List.length_drop] at this
      omega
    have hg : ∀ j, j < (jbody L (k + 1) p acc).2.2 - p → L'.getD (q + j) 0 = L.getD (p + j) 0 := by
      intro j hj
      have e1 : (L'.drop q).getD j 0 = L'.getD (q + j) 0 := by simp [List.getD_eq_getElem?_getD, List.getElem?_drop]
      have e2 : (L.drop p).getD j 0 = L.getD (p + j) 0 := by simp [List.getD_eq_getElem?_getD, List.getElem?_drop]
      rw [← e1, ← e2, hd, getD_take hj (by rw [List.length_drop]; omega)]
    have hg0 := hg 0 (by omega)
    rw [Nat.add_zero, Nat.add_zero] at hg0
    rw [jbody_succ L] at h hb hd hlen ⊢
    rw [jbody_succ L']
    rw [if_neg (show ¬ L'.length ≤ q by omega), hg0]
    by_cases h1 : L.length ≤ p
    · rw [if_pos h1] at h; cases h
    · rw [if_neg h1] at h hb hd hlen ⊢
      by_cases h2 : L.getD p 0 = 34
      · rw [if_pos h2] at h ⊢
        rw [if_pos h2]
        show (true, acc, q + 1) = (true, acc, q + (p + 1 - p))
        rw [show p + 1 - p = 1 by omega]
      · rw [if_neg h2] at h hb hd hlen ⊢
        rw [if_neg h2]
        by_cases h3 : L.getD p 0 < 32
        · rw [if_pos h3] at h; cases h
        · rw [if_neg h3] at h hb hd hlen ⊢
          rw [if_neg h3]
          by_cases h4 : L.getD p 0 = 92
          · rw [if_pos h4] at h hb hd hlen ⊢
            rw [if_pos h4]
            cases hj : jesc (L.drop p) with
            | none => rw [hj] at h; cases h
            | some x =>
              rw [hj] at h hb hd hlen
              simp only at h hb hd hlen ⊢
              have hx := jesc_len hj
              rw [List.length_drop] at hx
              have hb2 := jbody_bound L hL k (p + x.2) (acc ++ enc x.1) h (by omega)
              generalize hR : jbody L k (p + x.2) (acc ++ enc x.1) = R at h hb hd hlen hb2 ⊢
              have hsplit := drop_take_split (l := L.drop p) (a := x.2) (b := R.2.2 - p) (by omega) (by rw [List.length_drop]; omega)
              rw [hsplit, List.append_assoc] at hd
              have e1 : jesc (L'.drop q) = some x := by rw [hd]; exact jesc_take _ hj
              rw [e1]
              simp only
              have hd2 : L'.drop (q + x.2) = (L.drop (p + x.2)).take (R.2.2 - (p + x.2)) ++ m := by
                rw [← List.drop_drop, hd, List.drop_left' (by rw [List.length_take, List.length_drop]; omega), List.drop_drop, show R.2.2 - p - x.2 = R.2.2 - (p + x.2) by omega]
              have := ih (p + x.2) (acc ++ enc x.1) (by rw [hR]; exact h) (by omega) L' (q + x.2) m k' (by omega) (by omega) (by rw [hR]; exact hd2)
              rw [hR] at this
              rw [this, show q + x.2 + (R.2.2 - (p + x.2)) = q + (R.2.2 - p) by omega]
          · rw [if_neg h4] at h hb hd hlen ⊢
            rw [if_neg h4]
            by_cases h5 : (tk (L.drop p)).2 > 0
            · rw [if_pos h5] at h hb hd hlen ⊢
              have hx := tk_bound (L.drop p) (hL.drop p)
              rw [List.length_drop] at hx
              have hb2 := jbody_bound L hL k (p + (tk (L.drop p)).2.toNat) _ h (by omega)
              generalize hR : jbody L k (p + (tk (L.drop p)).2.toNat) (acc ++ enc0 (tk (L.drop p)).1) = R at h hb hd hlen hb2 ⊢
              have hsplit := drop_take_split (l := L.drop p) (a := (tk (L.drop p)).2.toNat) (b := R.2.2 - p) (by omega) (by rw [List.length_drop]; omega)
              rw [hsplit, List.append_assoc] at hd
              have e1 : tk (L'.drop q) = tk (L.drop p) := by rw [hd]; exact tk_take (hL.drop p) _ h5
              rw [e1, if_pos h5]
              have hd2 : L'.drop (q + (tk (L.drop p)).2.toNat) = (L.drop (p + (tk (L.drop p)).2.toNat)).take (R.2.2 - (p + (tk (L.drop p)).2.toNat)) ++ m := by
                rw [← List.drop_drop, hd, List.drop_left' (by rw [List.length_take, List.length_drop]; omega), List.drop_drop, show R.2.2 - p - (tk (L.drop p)).2.toNat = R.2.2 - (p + (tk (L.drop p)).2.toNat) by omega]
              have := ih (p + (tk (L.drop p)).2.toNat) _ (by rw [hR]; exact h) (by omega) L' (q + (tk (L.drop p)).2.toNat) m k' (by omega) (by omega) (by rw [hR]; exact hd2)
              rw [hR] at this
              rw [this, show q + (tk (L.drop p)).2.toNat + (R.2.2 - (p + (tk (L.drop p)).2.toNat)) = q + (R.2.2 - p) by omega]
            · rw [if_neg h5] at h; cases h
end Go.Proofs.YtoanbmggffkmgaaDoor.La
end
section
namespace Go.Proofs.YtoanbmggffkmgaaDoor.Pure
open Go.RowKit Go.Proofs.YtoanbmggffkmgaaDoor.P Go.Proofs.YtoanbmggffkmgaaDoor.La Go.Proofs.YtoanbmggffkmgaaDoorW.PrintWords Go.Proofs.YtoanbmggffkmgaaDoorW.PrintLast
theorem jbody_fuel (L : List Int) (k : Nat) : ∀ (k' p : Nat) (acc : List Int), L.length - p < k → L.length - p < k' → jbody L k p acc = jbody L k' p acc := by
  induction k with
  | zero => intro k' p acc h; omega
  | succ k ih =>
    intro k' p acc h h'
    obtain ⟨k', rfl⟩ : ∃ n, k' = n + 1 := ⟨k' - 1, by omega⟩
    rw [jbody_succ L k, jbody_succ L k']
    by_cases h1 : L.length ≤ p
    · rw [if_pos h1, if_pos h1]
    · rw [if_neg h1, if_neg h1]
      by_cases h2 : L.getD p 0 = 34
      · rw [if_pos h2, if_pos h2]
      · rw [if_neg h2, if_neg h2]
        by_cases h3 : L.getD p 0 < 32
        · rw [if_pos h3, if_pos h3]
        · rw [if_neg h3, if_neg h3]
          by_cases h4 : L.getD p 0 = 92
          · rw [if_pos h4, if_pos h4]
            cases hj : jesc (L.drop p) with
            | none => rfl
            | some x =>
              have hx := jesc_len hj
              exact ih _ _ _ (by omega) (by omega)
          · rw [if_neg h4, if_neg h4]
            by_cases h5 : (tk (L.drop p)).2 > 0
            · rw [if_pos h5, if_pos h5]
              exact ih _ _ _ (by omega) (by omega)
            · rw [if_neg h5, if_neg h5]
theorem wh_run {cs l m : List Int} {c : Int} (hc : inSet cs c = false) : wh cs (l.take (wh cs l) ++ c :: m) = wh cs l := by
  induction l with
  | nil => simp [wh, hc]
  | cons b l ih =>
    simp only [wh]
    split
    · rename_i hb
      rw [List.take_succ_cons, List.cons_append]
      simp only [wh, hb, if_true]
      rw [ih]
    · simp [wh, hc]
theorem blank_no {c : Int} (h : inSet blankS c = true) : inSet smallS c = false ∧ inSet digitS c = false := by
  have : c = 32 ∨ c = 9 ∨ c = 10 ∨ c = 13 := by
    unfold inSet blankS at h
    simp at h
    omega
  rcases this with rfl | rfl | rfl | rfl <;> exact ⟨by rfl, by rfl⟩
/-- A word's first byte. -/
theorem wd_first {L : List Int} {i : Nat} {x : Int × List Int × Nat} (h : wd L i = .inr x) : inSet blankS (L.getD i 0) = false ∧ L.getD i 0 < 128 := by
  have key : ∀ c : Int, (inSet signS c = true ∨ c = 34 ∨ (97 ≤ c ∧ c ≤ 122) ∨ inSet digitS c = true) → inSet blankS c = false ∧ c < 128 := by
    intro c hc
    have hc2 : c = 123 ∨ c = 125 ∨ c = 91 ∨ c = 93 ∨ c = 58 ∨ c = 44 ∨ c = 34 ∨ (97 ≤ c ∧ c ≤ 122) ∨ (48 ≤ c ∧ c ≤ 57) ∨ c = 43 ∨ c = 45 ∨ c = 46 ∨ c = 69 := by
      rcases hc with h | h | h | h
      · unfold inSet signS at h; simp at h; omega
      · omega
      · omega
      · unfold inSet digitS at h; simp at h; omega
    refine ⟨?_, by omega⟩
    rw [Bool.eq_false_iff]
    unfold inSet blankS
    simp
    omega
  refine key _ ?_
  unfold wd at h
  by_cases h1 : inSet signS (L.getD i 0) = true
  · exact .inl h1
  · rw [if_neg h1] at h
    by_cases h2 : L.getD i 0 = 34
    · exact .inr (.inl h2)
    · rw [if_neg h2] at h
      by_cases h3 : 97 ≤ L.getD i 0 ∧ L.getD i 0 ≤ 122
      · exact .inr (.inr (.inl h3))
      · rw [if_neg h3] at h
        by_cases h4 : wh digitS (L.drop i) = 0
        · rw [if_pos h4] at h; cases h
        · have := wh_in (cs := digitS) (l := L.drop i) (i := 0) (by omega)
          have e : (L.drop i).getD 0 0 = L.getD i 0 := by simp [List.getD_eq_getElem?_getD, List.getElem?_drop]
          rw [e] at this
          exact .inr (.inr (.inr this))
/-- A word is the same word wherever it stands, if a blank stands behind it. -/
theorem wd_loc {L : List Int} (hL : Bytes L) {i : Nat} (hi : i < L.length) {x : Int × List Int × Nat} (h : wd L i = .inr x) {L' : List Int} {q : Nat} {c : Int} {m : List Int} (hc : inSet blankS c = true) (hq : q ≤ L'.length)
    (hd : L'.drop q = (L.drop i).take (x.2.2 - i) ++ c :: m) : wd L' q = .inr (x.1, x.2.1, q + (x.2.2 - i)) := by
  have hx := wd_inr hL hi h
  have hlen : q + (x.2.2 - i) < L'.length := by
    have := congrArg List.length hd
    rw [List.length_drop, List.length_append, List.length_take, List.length_drop, List.length_cons] at this
    omega
  have h0 : L'.getD q 0 = L.getD i 0 := by
    have e1 : (L'.drop q).getD 0 0 = L'.getD q 0 := by simp [List.getD_eq_getElem?_getD, List.getElem?_drop]
    have e2 : (L.drop i).getD 0 0 = L.getD i 0 := by simp [List.getD_eq_getElem?_getD, List.getElem?_drop]
    rw [← e1, ← e2, hd, getD_take (by omega) (by rw [List.length_drop]; omega)]
  have hnb := blank_no hc
  have hrun : ∀ cs, inSet cs c = false → x.2.2 = i + wh cs (L.drop i) → wh cs (L'.drop q) = wh cs (L.drop i) ∧ (L'.drop q).take (wh cs (L.drop i)) = (L.drop i).take (wh cs (L.drop i)) := by
    intro cs hcs he
    have e : x.2.2 - i = wh cs (L.drop i) := by omega
    have hwl := wh_le cs (L.drop i)
    rw [e] at hd
    rw [hd]
    exact ⟨wh_run hcs, by rw [List.take_append_of_le_length (by rw [List.length_take]; omega), List.take_take, Nat.min_self]⟩
  unfold wd at h
  unfold wd
  rw [h0]
  by_cases h1 : inSet signS (L.getD i 0) = true
  · rw [if_pos h1] at h ⊢
    injection h with h
    subst h
    show Sum.inr (1, [L.getD i 0], q + 1) = Sum.inr (1, [L.getD i 0], q + (i + 1 - i))
    rw [show i + 1 - i = 1 by omega]
  · rw [if_neg h1] at h ⊢
    by_cases h2 : L.getD i 0 = 34
    · rw [if_pos h2] at h ⊢
      by_cases h3 : (jbody L (L.length + 1) (i + 1) []).1 = true
      · rw [if_pos h3] at h
        have hb := jbody_bound L hL _ (i + 1) [] h3 (by omega)
        have hloc := jbody_loc hL (L.length + 1) (i + 1) [] h3 (by omega) L' (q + 1) (c :: m) (L.length + L'.length + 2) (by omega) (by omega)
        generalize hR : jbody L (L.length + 1) (i + 1) [] = R at h h3 hb hloc
        by_cases h4 : R.2.1.length > 4096
        · rw [if_pos h4] at h; cases h
        · rw [if_neg h4] at h
          injection h with h
          subst h
          have hd1 : L'.drop (q + 1) = (L.drop (i + 1)).take (R.2.2 - (i + 1)) ++ c :: m := by
            have e1 : L'.drop (q + 1) = (L'.drop q).drop 1 := by rw [List.drop_drop]
            rw [e1, hd, List.drop_append_of_le_length (by rw [List.length_take, List.length_drop]; show 1 ≤ min (R.2.2 - i) _; omega), List.drop_take, List.drop_drop]
            show (L.drop (i + 1)).take (R.2.2 - i - 1) ++ c :: m = _
            rw [show R.2.2 - i - 1 = R.2.2 - (i + 1) by omega]
          have hj := hloc hd1
          have hf : jbody L' (L'.length + 1) (q + 1) [] = (true, R.2.1, q + 1 + (R.2.2 - (i + 1))) := by
            rw [← hj]
            exact jbody_fuel L' _ _ _ _ (by omega) (by omega)
          rw [hf, if_pos rfl]
          show (if R.2.1.length > 4096 then Sum.inl (2, q) else Sum.inr (2, R.2.1, q + 1 + (R.2.2 - (i + 1)))) = Sum.inr (2, R.2.1, q + (R.2.2 - i))
          rw [if_neg h4, show q + 1 + (R.2.2 - (i + 1)) = q + (R.2.2 - i) by omega]
      · rw [if_neg h3] at h; cases h
    · rw [if_neg h2] at h ⊢
      by_cases h3 : 97 ≤ L.getD i 0 ∧ L.getD i 0 ≤ 122
      · rw [if_pos h3] at h ⊢
        by_cases h4 : nameS ((L.drop i).take (wh smallS (L.drop i)))
        · rw [if_pos h4] at h
          injection h with h
          subst h
          obtain ⟨e1, e2⟩ := hrun smallS hnb.1 rfl
          rw [e1, e2, if_pos h4]
          show Sum.inr (4, _, q + wh smallS (L.drop i)) = Sum.inr (4, _, q + (i + wh smallS (L.drop i) - i))
          rw [show i + wh smallS (L.drop i) - i = wh smallS (L.drop i) by omega]
        · rw [if_neg h4] at h; cases h
      · rw [if_neg h3] at h ⊢
        by_cases h4 : wh digitS (L.drop i) = 0
        · rw [if_pos h4] at h; cases h
        · rw [if_neg h4] at h
          by_cases h5 : numb ((L.drop i).take (wh digitS (L.drop i))) = 0
          · rw [if_pos h5] at h
            injection h with h
            subst h
            obtain ⟨e1, e2⟩ := hrun digitS hnb.2 rfl
            rw [e1, e2, if_neg h4, if_pos h5]
            show Sum.inr (3, _, q + wh digitS (L.drop i)) = Sum.inr (3, _, q + (i + wh digitS (L.drop i) - i))
            rw [show i + wh digitS (L.drop i) - i = wh digitS (L.drop i) by omega]
          · rw [if_neg h5] at h; cases h
/-- The text that the law makes of words. -/
def joinW (L : List Int) : List (Int × List Int × Nat) → List Int
  | a :: b :: r => [32, 10] ++ ((L.drop a.2.2).take (b.2.2 - a.2.2) ++ ([9, 13] ++ joinW L (b :: r)))
  | _ => []
/-- Where words begin. -/
theorem wds_at {L : List Int} {i : Nat} {ws : List (Int × List Int × Nat)} (h : Wds L i ws) : i ≤ L.length ∧ (∃ a r, ws = a :: r ∧ a.2.2 = i) ∧ (∀ c t, L.drop i = c :: t → c < 128) := by
  cases h with
  | last => exact ⟨Nat.le_refl _, ⟨_, _, rfl, rfl⟩, fun c t e => by rw [List.drop_length] at e; cases e⟩
  | word hi hw h =>
    refine ⟨by omega, ⟨_, _, rfl, rfl⟩, fun c t e => ?_⟩
    rw [drop_cons' hi] at e
    injection e with e _
    rw [← e]
    exact (wd_first hw).2
theorem wh_take_blank (l : List Int) : ∀ x ∈ l.take (wh blankS l), inSet blankS x = true := by
  induction l with
  | nil => intro x hx; simp at hx
  | cons b l ih =>
    simp only [wh]
    split
    · rename_i hb
      intro x hx
      rw [List.take_succ_cons] at hx
      rcases List.mem_cons.1 hx with rfl | hx
      · exact hb
      · exact ih x hx
    · intro x hx; simp at hx
theorem wh_append {cs a b : List Int} (h : ∀ x ∈ a, inSet cs x = true) : wh cs (a ++ b) = a.length + wh cs b := by
  induction a with
  | nil => simp
  | cons x a ih =>
    simp only [List.cons_append, wh, h x List.mem_cons_self, if_true, List.length_cons]
    rw [ih (fun y hy => h y (List.mem_cons_of_mem _ hy))]
    omega
/-- The made text has the same words. -/
theorem join_words {L : List Int} (hL : Bytes L) {i : Nat} {ws : List (Int × List Int × Nat)} (h : Wds L i ws) : ∀ (L' : List Int), Bytes L' → ∀ q, q ≤ L'.length → L'.drop q = joinW L ws →
    ∃ ws', Wds L' (q + wh blankS (L'.drop q)) ws' ∧ ws'.map (fun w => (w.1, w.2.1)) = ws.map (fun w => (w.1, w.2.1)) := by
  induction h with
  | last =>
    intro L' _ q hq hd
    rw [hd]
    have : L'.length - q = 0 := by rw [← List.length_drop, hd]; rfl
    obtain rfl : q = L'.length := by omega
    exact ⟨[(0, [], L'.length)], Wds.last, rfl⟩
  | @word i x ws hi hw h ih =>
    intro L' hL' q hq hd
    have hx := wd_inr hL hi hw
    have hf := wd_first hw
    obtain ⟨hle, ⟨b, r, rfl, hb⟩, _⟩ := wds_at h
    have hwl := wh_le blankS (L.drop x.2.2)
    rw [List.length_drop] at hwl
    have hsplit : (L.drop i).take (b.2.2 - i) = (L.drop i).take (x.2.2 - i) ++ (L.drop x.2.2).take (wh blankS (L.drop x.2.2)) := by
      rw [drop_take_split (l := L.drop i) (a := x.2.2 - i) (b := b.2.2 - i) (by omega) (by rw [List.length_drop]; omega), List.drop_drop, show i + (x.2.2 - i) = x.2.2 by omega, show b.2.2 - i - (x.2.2 - i) = wh blankS (L.drop x.2.2) by omega]
    have hBm := wh_take_blank (L.drop x.2.2)
    have hBl : ((L.drop x.2.2).take (wh blankS (L.drop x.2.2))).length = wh blankS (L.drop x.2.2) := by rw [List.length_take, List.length_drop]; omega
    generalize hB : (L.drop x.2.2).take (wh blankS (L.drop x.2.2)) = B at hsplit hBm hBl
    have hWl : ((L.drop i).take (x.2.2 - i)).length = x.2.2 - i := by rw [List.length_take, List.length_drop]; omega
    have hd1 : L'.drop q = [32, 10] ++ ((L.drop i).take (x.2.2 - i) ++ (B ++ ([9, 13] ++ joinW L (b :: r)))) := by
      rw [hd]
      show [32, 10] ++ ((L.drop i).take (b.2.2 - i) ++ _) = _
      rw [hsplit, List.append_assoc]
    have hlenL : L'.length = q + (2 + ((x.2.2 - i) + (B.length + (2 + (joinW L (b :: r)).length)))) := by
      have := congrArg List.length hd1
      simp only [List.length_drop, List.length_append, hWl, List.length_cons, List.length_nil] at this
      omega
    have hd2 : L'.drop (q + 2) = (L.drop i).take (x.2.2 - i) ++ (B ++ ([9, 13] ++ joinW L (b :: r))) := by
      rw [← List.drop_drop, hd1]
      rfl
    have hwq : wh blankS (L'.drop q) = 2 := by
      have e0 : (L.drop i).take (x.2.2 - i) = L.getD i 0 :: ((L.drop (i + 1)).take (x.2.2 - i - 1)) := by
        rw [drop_cons' hi, show x.2.2 - i = (x.2.2 - i - 1) + 1 by omega, List.take_succ_cons]
        rfl
      rw [hd1, wh_append (by decide), e0, List.cons_append]
      simp only [wh, hf.1, Bool.false_eq_true, if_false]
      rfl
    obtain ⟨c, m, hcm, hc⟩ : ∃ c m, B ++ ([9, 13] ++ joinW L (b :: r)) = c :: m ∧ inSet blankS c = true := by
      cases B with
      | nil => exact ⟨9, _, rfl, by rfl⟩
      | cons y t => exact ⟨y, _, rfl, hBm y List.mem_cons_self⟩
    have hword := wd_loc hL hi hw (L' := L') (q := q + 2) hc (by omega) (by rw [hd2, hcm])
    have hd3 : L'.drop (q + 2 + (x.2.2 - i)) = B ++ ([9, 13] ++ joinW L (b :: r)) := by
      rw [← List.drop_drop, hd2, List.drop_left' hWl]
    have hd4 : L'.drop (q + 2 + (x.2.2 - i) + (B.length + 2)) = joinW L (b :: r) := by
      rw [← List.drop_drop, hd3, ← List.append_assoc, List.drop_left' (by simp)]
    obtain ⟨ws', hws', hm⟩ := ih L' hL' (q + 2 + (x.2.2 - i) + (B.length + 2)) (by omega) hd4
    have hwn : wh blankS (L'.drop (q + 2 + (x.2.2 - i))) = B.length + 2 + wh blankS (joinW L (b :: r)) := by
      rw [hd3, wh_append hBm, wh_append (by decide)]
      show B.length + (2 + _) = _
      omega
    refine ⟨(x.1, x.2.1, q + 2) :: ws', ?_, ?_⟩
    · rw [hwq]
      refine Wds.word (x := (x.1, x.2.1, q + 2 + (x.2.2 - i))) (by omega) hword ?_
      show Wds L' (q + 2 + (x.2.2 - i) + wh blankS (L'.drop (q + 2 + (x.2.2 - i)))) ws'
      rw [hwn]
      rw [hd4] at hws'
      rw [show q + 2 + (x.2.2 - i) + (B.length + 2 + wh blankS (joinW L (b :: r))) = q + 2 + (x.2.2 - i) + (B.length + 2) + wh blankS (joinW L (b :: r)) by omega]
      exact hws'
    · rw [List.map_cons, List.map_cons, hm]
theorem bad_ascii' {l : List Int} (h : ∀ x ∈ l, 0 ≤ x ∧ x < 128) : bad l = none := by
  induction l with
  | nil => exact bad_nil
  | cons x t ih =>
    have hx := h x List.mem_cons_self
    have := bad_enc (r := x) (good_iff.2 (by omega)) t
    rw [enc_low hx.2, ih (fun y hy => h y (List.mem_cons_of_mem _ hy))] at this
    exact this
theorem join_ok {L : List Int} (hL : Bytes L) (hbad : bad L = none) {i : Nat} {ws : List (Int × List Int × Nat)} (h : Wds L i ws) : bad (joinW L ws) = none ∧ Bytes (joinW L ws) ∧ ws.length ≤ L.length - i + 1 ∧ (joinW L ws).length ≤ (L.length - i) + 4 * (ws.length - 1) := by
  induction h with
  | last => exact ⟨bad_nil, (fun x hx => by cases hx), by simp, by simp [joinW]⟩
  | @word i x ws hi hw h ih =>
    obtain ⟨i1, i2, i3, i4⟩ := ih
    have hx := wd_inr hL hi hw
    have hf := wd_first hw
    obtain ⟨hle, ⟨b, r, rfl, hb⟩, hasc⟩ := wds_at h
    have hdi : bad (L.drop i) = none := by
      have := bad_cut L hL hbad (L.take i) (L.drop i) (List.take_append_drop i L).symm (fun c t e => by
        rw [drop_cons' hi] at e
        injection e with e _
        rw [← e]
        exact hf.2)
      exact this.2
    have hseg : bad ((L.drop i).take (b.2.2 - i)) = none := by
      have := bad_cut (L.drop i) (hL.drop i) hdi ((L.drop i).take (b.2.2 - i)) ((L.drop i).drop (b.2.2 - i)) (List.take_append_drop _ _).symm (fun c t e => by
        rw [List.drop_drop, show i + (b.2.2 - i) = b.2.2 by omega, hb] at e
        exact hasc c t e)
      exact this.1
    have hsb : Bytes ((L.drop i).take (b.2.2 - i)) := (hL.drop i).take _
    have e : joinW L ((x.1, x.2.1, i) :: b :: r) = [32, 10] ++ ((L.drop i).take (b.2.2 - i) ++ ([9, 13] ++ joinW L (b :: r))) := rfl
    have h913 : bad ([9, 13] ++ joinW L (b :: r)) = none := by
      rw [bad_join (by decide) (by exact bad_ascii' (by decide)), i1]
      rfl
    have h2 : bad ((L.drop i).take (b.2.2 - i) ++ ([9, 13] ++ joinW L (b :: r))) = none := by
      rw [bad_join hsb hseg, h913]
      rfl
    rw [e]
    refine ⟨?_, ?_, ?_, ?_⟩
    · rw [bad_join (by decide) (by exact bad_ascii' (by decide)), h2]
      rfl
    · refine Bytes.append (by intro y hy; simp at hy; omega) (hsb.append (Bytes.append (by intro y hy; simp at hy; omega) i2))
    · rw [List.length_cons]; omega
    · rw [hb] at *
      simp only [List.length_append, List.length_cons, List.length_nil, List.length_take, List.length_drop] at i4 ⊢
      omega
/-- The words read alike: the last loop. -/
theorem blanks_l1 (X Y : List S30) (hlen : Y.length = X.length) (hX : X.length ≤ 100000) (h : ∀ j : Nat, j < X.length → (rd_T30 Y (j : Int)).f0 = (rd_T30 X (j : Int)).f0 ∧ (rd_T30 Y (j : Int)).f1 = (rd_T30 X (j : Int)).f1) (n : Nat) : ∀ j : Nat, j ≤ X.length → X.length - j = n → Ev (fun k => dragomanlaw7_JlexBlanks.l1 k X Y (j : Int)) true := by
  induction n with
  | zero =>
    intro j hj hn
    exact Ev.step (fun k => by rw [dragomanlaw7_JlexBlanks.l1, if_neg (by omega)]) (Ev.now _)
  | succ n ih =>
    intro j hj hn
    obtain ⟨h1, h2⟩ := h j (by omega)
    refine Ev.step (fun k => by rw [dragomanlaw7_JlexBlanks.l1, if_pos (by omega), if_pos (by omega), if_pos (by omega), if_pos h1, if_pos (by rw [h2]), wrap_id (by omega) (by omega), show (j : Int) + 1 = ((j + 1 : Nat) : Int) by omega]) ?_
    exact ih (j + 1) (by omega) (by omega)
theorem blanks_end (s : ByteArray) (hs : s.size ≤ 1500) (hbad : bad (bytesOf s) = none) {i : Nat} {ws : List (Int × List Int × Nat)} (h : Wds (bytesOf s) i ws) (x5 : ByteArray) (hx : bytesOf x5 = joinW (bytesOf s) ws) (j : Int) (hj : ¬ wrap64 (j + 1) < ((ws.map toW).length : Int)) :
    Ev (fun k => dragomanlaw7_JlexBlanks.l0 k s (ws.map toW) x5 j) true := by
  obtain ⟨o1, o2, o3, o4⟩ := join_ok (bytes_of s) hbad h
  rw [size_of] at o3 o4
  have hz : x5.size ≤ 10000 := by rw [← size_of, hx]; omega
  obtain ⟨ws', hws', hm⟩ := join_words (bytes_of s) h (bytesOf x5) (bytes_of x5) 0 (Nat.zero_le _) (by rw [List.drop_zero, hx])
  have hlex : lexS (bytesOf x5) = (ws', none) := by
    unfold lexS judgeS
    rw [hx, o1, Option.map_none]
    simp only
    rw [List.drop_zero, Nat.zero_add, hx] at hws'
    rw [wds_cutS o2 hws' _ _ (by omega), List.nil_append]
  have hlen : ws'.length = ws.length := by
    have := congrArg List.length hm
    simpa using this
  have hlexe := lex_ev x5 (by omega)
  rw [hlex] at hlexe
  refine Ev.step (fun k => by rw [dragomanlaw7_JlexBlanks.l0, if_neg hj]) (Ev.bind hlexe ?_)
  have hc : ¬ (!((cutR x5 (ws', none)).2.1 == 0) || (!((cutR x5 (ws', none)).2.2.1 == 0) || (!((cutR x5 (ws', none)).2.2.2.1 == 0) || (!((cutR x5 (ws', none)).2.2.2.2 == 0))))) = true := by
    show ¬ (!((0 : Int) == 0) || (!((0 : Int) == 0) || (!((0 : Int) == 0) || (!((0 : Int) == 0))))) = true
    decide
  have e1 : (cutR x5 (ws', none)).1 = ws'.map toW := rfl
  refine Ev.congr (fun k => by rw [if_neg hc, e1]) ?_
  have hl2 : (((ws'.map toW).length : Int) != ((ws.map toW).length : Int)) = false := by
    rw [List.length_map, List.length_map, hlen]
    simp
  refine Ev.congr (fun k => by rw [hl2]) (Ev.step (fun k => by rw [dragomanlaw7_JlexBlanks.j1, if_neg (by decide)]) ?_)
  refine blanks_l1 _ _ (by simp [hlen]) (by rw [List.length_map]; omega) (fun t ht => ?_) _ 0 (Nat.zero_le _) rfl
  rw [List.length_map] at ht
  have ht2 : t < ws'.length := by omega
  have e2 : ∀ (l : List (Int × List Int × Nat)) (hl : t < l.length), rd_T30 (l.map toW) (t : Int) = toW l[t] := by
    intro l hl
    unfold rd_T30
    rw [Int.toNat_natCast, List.getD_eq_getElem?_getD, List.getElem?_map, List.getElem?_eq_getElem hl]
    rfl
  rw [e2 ws ht, e2 ws' ht2]
  have e3 := congrArg (fun l => l[t]?) hm
  simp only [List.getElem?_map, List.getElem?_eq_getElem ht, List.getElem?_eq_getElem ht2, Option.map_some] at e3
  have e4 := Option.some.inj e3
  obtain ⟨e5, e6⟩ := Prod.mk.inj e4
  exact ⟨e5, congrArg strOfNums e6⟩
theorem rd_mid (pre : List S30) (x y : S30) (post : List S30) : rd_T30 (pre ++ x :: y :: post) (pre.length : Int) = x ∧ rd_T30 (pre ++ x :: y :: post) ((pre.length + 1 : Nat) : Int) = y := by
  unfold rd_T30
  rw [Int.toNat_natCast, Int.toNat_natCast, List.getD_eq_getElem?_getD, List.getD_eq_getElem?_getD, List.getElem?_append_right (Nat.le_refl _), Nat.sub_self, List.getElem?_append_right (by omega), show pre.length + 1 - pre.length = 1 by omega]
  exact ⟨rfl, rfl⟩
theorem blanks_l0 (s : ByteArray) (hs : s.size ≤ 1500) (hbad : bad (bytesOf s) = none) {i0 : Nat} {all : List (Int × List Int × Nat)} (h0 : Wds (bytesOf s) i0 all) {i : Nat} {ws : List (Int × List Int × Nat)} (h : Wds (bytesOf s) i ws) : ∀ (pre : List (Int × List Int × Nat)) (x5 : ByteArray), all = pre ++ ws → bytesOf x5 ++ joinW (bytesOf s) ws = joinW (bytesOf s) all →
    Ev (fun k => dragomanlaw7_JlexBlanks.l0 k s (all.map toW) x5 (pre.length : Int)) true := by
  obtain ⟨o1, o2, o3, o4⟩ := join_ok (bytes_of s) hbad h0
  rw [size_of] at o3 o4
  induction h with
  | last =>
    intro pre x5 hall hx
    have hpl : all.length = pre.length + 1 := by rw [hall]; simp
    refine blanks_end s hs hbad h0 x5 (by rw [← hx]; simp [joinW]) _ ?_
    rw [wrap_id (by omega) (by omega), List.length_map]
    omega
  | @word i x ws hi hw h ih =>
    intro pre x5 hall hx
    have hxb := wd_inr (bytes_of s) hi hw
    obtain ⟨hle, ⟨b, r, rfl, hb⟩, _⟩ := wds_at h
    rw [size_of] at hxb hle
    have hmid := rd_mid (pre.map toW) (toW (x.1, x.2.1, i)) (toW b) (r.map toW)
    have hX : all.map toW = pre.map toW ++ toW (x.1, x.2.1, i) :: toW b :: r.map toW := by rw [hall]; simp
    rw [← hX, List.length_map] at hmid
    have hpl : all.length = pre.length + (r.length + 2) := by rw [hall]; simp
    have hwr := Lib.hid (show wrap64 ((pre.length : Int) + 1) = ((pre.length + 1 : Nat) : Int) by rw [wrap_id (by omega) (by omega)]; omega)
    have hxlen : x5.size ≤ 10000 := by
      have := congrArg List.length hx
      rw [List.length_append, size_of] at this
      omega
    have f1 : (rd_T30 (all.map toW) (pre.length : Int)).f2 = (i : Int) := by rw [hmid.1]; rfl
    have f2 : (rd_T30 (all.map toW) ((pre.length + 1 : Nat) : Int)).f2 = (b.2.2 : Int) := by rw [hmid.2]; rfl
    have hseg : (s.extract i b.2.2).size = b.2.2 - i := by rw [← size_of, bytesOf_extract, List.length_drop, List.length_take, size_of]; omega
    have z1 : (⟨#[32, 10]⟩ : ByteArray).size = 2 := rfl
    have z2 : (x5 ++ (⟨#[32, 10]⟩ : ByteArray)).size = x5.size + 2 := by rw [size_append', z1]
    have z3 : ((x5 ++ (⟨#[32, 10]⟩ : ByteArray)) ++ s.extract i b.2.2).size = x5.size + 2 + (b.2.2 - i) := by rw [size_append', z2, hseg]
    have hil : i < s.size := by rw [← size_of]; exact hi
    refine Ev.step (fun k => by rw [dragomanlaw7_JlexBlanks.l0, hwr.out, if_pos (by rw [List.length_map]; omega), if_pos (by omega), if_pos (by omega), if_pos (by rw [List.length_map]; omega), if_pos (by omega), f1, f2, if_pos (by omega), if_pos (by omega), if_pos (by omega), Int.toNat_natCast, Int.toNat_natCast, z2, hseg, if_pos (by omega), z3, if_pos (by omega)]) ?_
    have := ih (pre ++ [(x.1, x.2.1, i)]) (((x5 ++ (⟨#[32, 10]⟩ : ByteArray)) ++ s.extract i b.2.2) ++ (⟨#[9, 13]⟩ : ByteArray)) (by rw [hall, List.append_assoc]; rfl) (by
      rw [← hx, bytesOf_append, bytesOf_append, bytesOf_append, bytesOf_extract, List.drop_take]
      show ((bytesOf x5 ++ [32, 10]) ++ _ ++ [9, 13]) ++ _ = bytesOf x5 ++ ([32, 10] ++ (((bytesOf s).drop i).take (b.2.2 - i) ++ ([9, 13] ++ joinW (bytesOf s) (b :: r))))
      simp only [List.append_assoc])
    rw [List.length_append, List.length_singleton] at this
    exact this
theorem JlexBlanks : dragomanlaw7_JlexBlanks.Pure := by
  intro s _
  refine Ev.rounds (Ev.congr (fun k => by rw [dragomanlaw7_JlexBlanks.f, dragomanlaw7_awake.f, Option.bind_some, if_pos rfl]) ?_)
  by_cases h1 : (s.size : Int) > 1500
  · exact Ev.congr (fun k => by rw [if_pos h1]) (Ev.now _)
  · refine Ev.congr (fun k => by rw [if_neg h1]) (Ev.bind (lex_ev s (by omega)) ?_)
    cases hl : lexS (bytesOf s) with
    | mk ws o =>
      cases o with
      | some e =>
        have he := lexS_err (bytes_of s) hl
        have hc : (!((cutR s (ws, some e)).2.1 == 0) || (!((cutR s (ws, some e)).2.2.1 == 0) || (!((cutR s (ws, some e)).2.2.2.1 == 0) || (!((cutR s (ws, some e)).2.2.2.2 == 0))))) = true := by
          rw [show (cutR s (ws, some e)).2.1 = e.1 from rfl, beq_eq_false_iff_ne.2 he.1]
          rfl
        exact Ev.congr (fun k => by rw [if_pos hc]) (Ev.now _)
      | none =>
        have hok := lexS_ok (bytes_of s) hl
        have hc : ¬ (!((cutR s (ws, none)).2.1 == 0) || (!((cutR s (ws, none)).2.2.1 == 0) || (!((cutR s (ws, none)).2.2.2.1 == 0) || (!((cutR s (ws, none)).2.2.2.2 == 0))))) = true := by
          show ¬ (!((0 : Int) == 0) || (!((0 : Int) == 0) || (!((0 : Int) == 0) || (!((0 : Int) == 0))))) = true
          decide
        refine Ev.congr (fun k => by rw [if_neg hc]) ?_
        exact blanks_l0 s (by omega) hok.1 hok.2 hok.2 [] ⟨#[]⟩ rfl rfl
end Go.Proofs.YtoanbmggffkmgaaDoor.Pure
end
