/- The parts of this claim's proof, in one text: what each Go function answers and that its call comes to it; plain facts of lists of numbers. Conditions as each theorem names them. -/
import Derived.ArgAppend
import Derived.Below
import Derived.BigQuiet
import Derived.Deep.AppendLies
import Derived.Deep.CutBlock
import Derived.Deep.DeepCutAuto
import Derived.Deep.Draws
import Derived.Deep.LoopGhost
import Derived.Deep.OwnRows
import Derived.Deep.QuietTactic
import Derived.Deep.RegionHeld3
import Derived.KernelRfl
import Derived.Laws.BitsLemmas
import Derived.Laws.BytesArg
import Derived.Laws.IdiomCopy
import Derived.Laws.MakeOwn
import Derived.Laws.OwnMore
import Derived.Laws.Rows
import Derived.Laws.Slices
import Derived.Lib.AppendStr
import Derived.Lib.Bytealg
import Derived.Lib.Bytes
import Derived.Lib.ConvBytes
import Derived.Lib.Hide
import Derived.Maps.AppendAt
import Derived.OrdersHeld
import Derived.Outline
import Derived.OwnWalk
import Derived.RowKit
import Derived.RowKit3
import Derived.Shelf.Bits.Mul64
import Derived.Shelf.LaysM
import Derived.Shelf.Small.Strs
import Derived.Shelf.Small.Utf8
import Derived.Shelf.Strings.AsciiSet
import Derived.Shelf.Strings.Builder1
import Derived.Shelf.Strings.Builder2
import Derived.Shelf.Strings.BuilderF
import Derived.Shelf.Strings.Count
import Derived.Shelf.Strings.IndexAny
import Derived.Shelf.Strings.IndexAnyAll
import Derived.Shelf.Strings.Prefix
import Derived.Shelf.Strings.Repeat
import Derived.Shelf.Strings.Runes
import Derived.Shelf.Strings.Search1
import Derived.Shelf.Strings.Search2
import Derived.Shelf.Strings.Search3
import Derived.Shelf.Strings.Shaped
import Derived.Shelf.Strings.SlTrimAscii
import Derived.Shelf.Strings.Trim
import Derived.Shelf.Unicode.DecodeSlow
import Derived.Tactics
import Derived.WalkKit
import Derived.WideLaws
import Derived.Test.YtoanbmggffkmgaaDoorProg
import Derived.Test.YtoanbmggffkmgaaDoorWApart
import Derived.Test.YtoanbmggffkmgaaDoorWArr
import Derived.Test.YtoanbmggffkmgaaDoorWAt
import Derived.Test.YtoanbmggffkmgaaDoorWEqStruct
import Derived.Test.YtoanbmggffkmgaaDoorWFoot
import Derived.Test.YtoanbmggffkmgaaDoorWFootNe
import Derived.Test.YtoanbmggffkmgaaDoorWFour
import Derived.Test.YtoanbmggffkmgaaDoorWGuard
import Derived.Test.YtoanbmggffkmgaaDoorWInv
import Derived.Test.YtoanbmggffkmgaaDoorWInvWords
import Derived.Test.YtoanbmggffkmgaaDoorWKept
import Derived.Test.YtoanbmggffkmgaaDoorWLast
import Derived.Test.YtoanbmggffkmgaaDoorWMake0
import Derived.Test.YtoanbmggffkmgaaDoorWMore
import Derived.Test.YtoanbmggffkmgaaDoorWN
import Derived.Test.YtoanbmggffkmgaaDoorWNEv
import Derived.Test.YtoanbmggffkmgaaDoorWQPut
import Derived.Test.YtoanbmggffkmgaaDoorWRepsOne
import Derived.Test.YtoanbmggffkmgaaDoorWShare
import Derived.Test.YtoanbmggffkmgaaDoorWTab
import Derived.Test.YtoanbmggffkmgaaDoorWWords
import Derived.Test.YtoanbmggffkmgaaDoorWZeros
import Derived.Test.YtoanbmggffkmgaaDoorMJlexPlaces1
import Derived.Test.YtoanbmggffkmgaaDoorMJlexPlaces2
import Derived.Test.YtoanbmggffkmgaaDoorMJlexPlaces3
section
namespace Go.Proofs.YtoanbmggffkmgaaDoor.La
open Go.RowKit Go.Proofs.YtoanbmggffkmgaaDoor.P Go.Proofs.YtoanbmggffkmgaaDoorW.PrintWords Go.Proofs.YtoanbmggffkmgaaDoorW.PrintLast Go.Proofs.YtoanbmggffkmgaaDoorW.PrintMore
def blankS : List Int := [32, 9, 10, 13]
def signS : List Int := [123, 125, 91, 93, 58, 44]
def digitS : List Int := [48, 49, 50, 51, 52, 53, 54, 55, 56, 57, 43, 45, 46, 101, 69]
def smallS : List Int := [97, 98, 99, 100, 101, 102, 103, 104, 105, 106, 107, 108, 109, 110, 111, 112, 113, 114, 115, 116, 117, 118, 119, 120, 121, 122]
def nameS (l : List Int) : Prop := l = [116, 114, 117, 101] ∨ l = [102, 97, 108, 115, 101] ∨ l = [110, 117, 108, 108]
instance (l : List Int) : Decidable (nameS l) := by unfold nameS; infer_instance
/-- The word at a place: an error and where; or its kind, its text, where it goes on. -/
def wd (L : List Int) (i : Nat) : (Int × Nat) ⊕ (Int × List Int × Nat) :=
  if inSet signS (L.getD i 0) = true then .inr (1, [L.getD i 0], i + 1)
  else if L.getD i 0 = 34 then
    (if (jbody L (L.length + 1) (i + 1) []).1 = true then
      (if (jbody L (L.length + 1) (i + 1) []).2.1.length > 4096 then .inl (2, i) else .inr (2, (jbody L (L.length + 1) (i + 1) []).2.1, (jbody L (L.length + 1) (i + 1) []).2.2))
    else .inl (4, (jbody L (L.length + 1) (i + 1) []).2.2))
  else if 97 ≤ L.getD i 0 ∧ L.getD i 0 ≤ 122 then
    (if nameS ((L.drop i).take (wh smallS (L.drop i))) then .inr (4, (L.drop i).take (wh smallS (L.drop i)), i + wh smallS (L.drop i)) else .inl (4, i))
  else if wh digitS (L.drop i) = 0 then .inl (4, i)
  else if numb ((L.drop i).take (wh digitS (L.drop i))) = 0 then .inr (3, (L.drop i).take (wh digitS (L.drop i)), i + wh digitS (L.drop i))
  else .inl (numb ((L.drop i).take (wh digitS (L.drop i))), i)
/-- A text's words from a place on, or its first fault. -/
def cutS (L : List Int) : Nat → Nat → List (Int × List Int × Nat) → List (Int × List Int × Nat) × Option (Int × Nat)
  | 0, _, acc => (acc, none)
  | k + 1, i, acc =>
    if L.length ≤ i then (acc ++ [(0, [], L.length)], none)
    else match wd L i with
      | .inl e => ([], some e)
      | .inr x => cutS L k (x.2.2 + wh blankS (L.drop x.2.2)) (acc ++ [(x.1, x.2.1, i)])
/-- How jlex.word tells it. -/
def wordR (i : Nat) : (Int × Nat) ⊕ (Int × List Int × Nat) → Int × ByteArray × Int × Int × Int × Int
  | .inl e => (0, ⟨#[]⟩, 0, 0, e.1, (e.2 : Int))
  | .inr x => (x.1, strOfNums x.2.1, (i : Int), (x.2.2 : Int), 0, 0)
theorem lt81 (s : ByteArray) (n : Nat) (h : s.size = n) (hn : n < 4294967281) : s.size < 4294967281 := by omega
theorem whileB (s : ByteArray) (hs : s.size ≤ 140737488355328) : jlex_while.f s (⟨#[32, 9, 10, 13]⟩ : ByteArray) = some (wh blankS (bytesOf s) : Int) :=
  while_eq s _ hs (lt81 _ 4 rfl (by omega)) (by decide)
theorem whileS (s : ByteArray) (hs : s.size ≤ 140737488355328) : jlex_while.f s (⟨#[97, 98, 99, 100, 101, 102, 103, 104, 105, 106, 107, 108, 109, 110, 111, 112, 113, 114, 115, 116, 117, 118, 119, 120, 121, 122]⟩ : ByteArray) = some (wh smallS (bytesOf s) : Int) :=
  while_eq s _ hs (lt81 _ 26 rfl (by omega)) (by decide)
theorem whileD (s : ByteArray) (hs : s.size ≤ 140737488355328) : jlex_while.f s (⟨#[48, 49, 50, 51, 52, 53, 54, 55, 56, 57, 43, 45, 46, 101, 69]⟩ : ByteArray) = some (wh digitS (bytesOf s) : Int) :=
  while_eq s _ hs (lt81 _ 15 rfl (by omega)) (by decide)
theorem idx_in (l : List Int) (c : Int) : idx l c ≥ 0 ↔ inSet l c = true := by
  induction l with
  | nil => simp [idx, inSet]
  | cons b l ih =>
    have hge := idx_ge l c
    unfold inSet at ih ⊢
    rw [List.any_cons, Bool.or_eq_true, ← ih, beq_iff_eq, idx]
    by_cases h : b = c
    · rw [if_pos h]; simp [h]
    · rw [if_neg h]
      split <;> omega
theorem sign_idx {c : Int} (h0 : 0 ≤ c) (h1 : c < 256) : ∃ j, strings_IndexByte.f (⟨#[123, 125, 91, 93, 58, 44]⟩ : ByteArray) c = some j ∧ (j ≥ 0 ↔ inSet signS c = true) := by
  unfold strings_IndexByte.f
  rw [if_pos (And.intro h0 h1)]
  refine ⟨_, rfl, ?_⟩
  rw [show bytesOf (⟨#[123, 125, 91, 93, 58, 44]⟩ : ByteArray) = signS from rfl]
  exact idx_in signS c
theorem ascii_take (cs l : List Int) (hc : ∀ x ∈ cs, x < 128) : ascii (l.take (wh cs l)) = true := by
  induction l with
  | nil => rfl
  | cons b l ih =>
    simp only [wh]
    split
    · rename_i hb
      unfold ascii at ih ⊢
      rw [List.take_succ_cons, List.all_cons, ih, Bool.and_true]
      refine decide_eq_true ?_
      unfold inSet at hb
      obtain ⟨c, hcs, hcb⟩ := List.any_eq_true.1 hb
      have := hc c hcs
      have : c = b := by simpa using hcb
      omega
    · rfl
theorem strOf_eq (s : ByteArray) {l : List Int} (h : bytesOf s = l) : s = strOfNums l := by rw [← h, strOfNums_of]
theorem name_iff (s : ByteArray) (l : List Int) (h : bytesOf s = l) : (s.toList = ([116, 114, 117, 101] : List UInt8) ↔ l = [116, 114, 117, 101]) ∧ (s.toList = ([102, 97, 108, 115, 101] : List UInt8) ↔ l = [102, 97, 108, 115, 101]) ∧ (s.toList = ([110, 117, 108, 108] : List UInt8) ↔ l = [110, 117, 108, 108]) := by
  have h1 := toList_eq_iff s (⟨#[116, 114, 117, 101]⟩ : ByteArray)
  have h2 := toList_eq_iff s (⟨#[102, 97, 108, 115, 101]⟩ : ByteArray)
  have h3 := toList_eq_iff s (⟨#[110, 117, 108, 108]⟩ : ByteArray)
  rw [h] at h1 h2 h3
  rw [toList_data' ⟨#[116, 114, 117, 101]⟩] at h1
  rw [toList_data' ⟨#[102, 97, 108, 115, 101]⟩] at h2
  rw [toList_data' ⟨#[110, 117, 108, 108]⟩] at h3
  exact ⟨h1, h2, h3⟩
theorem jbody_bound (L : List Int) (hL : Bytes L) (k : Nat) : ∀ (i : Nat) (acc : List Int), (jbody L k i acc).1 = true → i ≤ L.length → i < (jbody L k i acc).2.2 ∧ (jbody L k i acc).2.2 ≤ L.length := by
  induction k with
  | zero => intro i acc h _; simp [jbody] at h
  | succ k ih =>
    intro i acc h hi
    unfold jbody at h ⊢
    split at h
    · simp at h
    · rename_i h1
      rw [if_neg h1]
      split at h
      · rename_i h2
        rw [if_pos h2]
        simp only
        omega
      · rename_i h2
        rw [if_neg h2]
        split at h
        · simp at h
        · rename_i h3
          rw [if_neg h3]
          split at h
          · rename_i h4
            rw [if_pos h4]
            cases hj : jesc (L.drop i) with
            | none => rw [hj] at h; simp at h
            | some p =>
              rw [hj] at h
              simp only at h ⊢
              have hp := jesc_len hj
              rw [List.length_drop] at hp
              have := ih _ _ h (by omega)
              omega
          · rename_i h4
            rw [if_neg h4]
            split at h
            · rename_i h5
              rw [if_pos h5]
              have hb := tk_bound (L.drop i) (hL.drop i)
              rw [List.length_drop] at hb
              have := ih _ _ h (by omega)
              omega
            · simp at h
theorem jbody_where (L : List Int) (hL : Bytes L) (k : Nat) : ∀ (i : Nat) (acc : List Int), i ≤ L.length → (jbody L k i acc).2.2 ≤ L.length := by
  induction k with
  | zero => intro i acc hi; exact hi
  | succ k ih =>
    intro i acc hi
    unfold jbody
    split
    · exact Nat.le_refl _
    · split
      · show i + 1 ≤ _; omega
      · split
        · exact hi
        · split
          · cases hj : jesc (L.drop i) with
            | none => exact hi
            | some p =>
              have hp := jesc_len hj
              rw [List.length_drop] at hp
              exact ih _ _ (by omega)
          · split
            · have hb := tk_bound (L.drop i) (hL.drop i)
              rw [List.length_drop] at hb
              exact ih _ _ (by omega)
            · exact hi
theorem drop_cons' {L : List Int} {i : Nat} (h : i < L.length) : L.drop i = L.getD i 0 :: L.drop (i + 1) := by
  rw [List.drop_eq_getElem_cons h, List.getD_eq_getElem?_getD, List.getElem?_eq_getElem h]
  rfl
theorem bt_nat' (s : ByteArray) (i : Nat) : bt s (i : Int) = (bytesOf s).getD i 0 := by rw [bt_get]; rfl
/-- What a string says is of bytes. -/
theorem jesc_good {l : List Int} {p : Int × Nat} (h : jesc l = some p) : good p.1 := by
  unfold jesc at h
  split at h
  · cases h
  · split at h
    · rename_i h1
      obtain rfl := Option.some.inj h
      obtain ⟨x, hx⟩ := Option.isSome_iff_exists.1 h1
      rw [hx]
      exact shortJ_good hx
    · split at h
      · cases h
      · split at h
        · split at h
          · rename_i hg
            obtain rfl := Option.some.inj h
            exact hg
          · cases h
        · split at h
          · cases h
          · rename_i h3 h4
            obtain rfl := Option.some.inj h
            have hx := digs4_bound l 2
            have hy := digs4_bound l 8
            have h5 : ¬ (digsAt l 8 4).getD 0 < 56320 := fun e => h4 (.inr (.inr (.inl e)))
            have h6 : ¬ (digsAt l 8 4).getD 0 > 57343 := fun e => h4 (.inr (.inr (.inr e)))
            refine good_iff.2 ?_
            simp only
            omega
theorem jbody_bytes (L : List Int) (k : Nat) : ∀ (i : Nat) (acc : List Int), Bytes acc → (jbody L k i acc).1 = true → Bytes (jbody L k i acc).2.1 := by
  induction k with
  | zero => intro i acc _ h; simp [jbody] at h
  | succ k ih =>
    intro i acc ha h
    unfold jbody at h ⊢
    split at h
    · simp at h
    · rename_i h1
      rw [if_neg h1]
      split at h
      · rename_i h2
        rw [if_pos h2]
        exact ha
      · rename_i h2
        rw [if_neg h2]
        split at h
        · simp at h
        · rename_i h3
          rw [if_neg h3]
          split at h
          · rename_i h4
            rw [if_pos h4]
            cases hj : jesc (L.drop i) with
            | none => rw [hj] at h; simp at h
            | some p =>
              rw [hj] at h
              simp only at h ⊢
              exact ih _ _ (ha.append (enc_bytes (jesc_good hj))) h
          · rename_i h4
            rw [if_neg h4]
            split at h
            · rename_i h5
              rw [if_pos h5]
              exact ih _ _ (ha.append (enc0_bytes _)) h
            · simp at h
theorem word_ev (s : ByteArray) (hs : s.size ≤ 65536) (i : Nat) (hi : i < s.size) : Ev (fun k => jlex_word.f k s (i : Int)) (wordR i (wd (bytesOf s) i)) := by
  have hy : bytesOf (s.extract i s.size) = (bytesOf s).drop i := bytesOf_drop s i
  have hyz : (s.extract i s.size).size = s.size - i := size_drop s i
  have hb : bt (s.extract i s.size) 0 = (bytesOf s).getD i 0 := by
    rw [bt_get, hy, drop_cons' (by rw [size_of]; exact hi)]
    rfl
  have hrange := bt_range s (i : Int)
  rw [bt_nat'] at hrange
  obtain ⟨j, hj, hsign⟩ := sign_idx (c := (bytesOf s).getD i 0) (by omega) (by omega)
  have step1 : ∀ k, jlex_word.f k s (i : Int) = (if j ≥ 0 then (some (1, (s.extract i s.size).extract 0 1, (i : Int), wrap64 ((i : Int) + 1), 0, 0)) else (if ((bytesOf s).getD i 0) = 34 then ((esc_Unquote.f s (i : Int)).bind fun bt208 => (if bt208.2.2 ≥ 0 then (some (0, (⟨#[]⟩ : ByteArray), 0, 0, 4, bt208.2.2)) else (if (bt208.1.size : Int) > 4096 then (some (0, (⟨#[]⟩ : ByteArray), 0, 0, 2, (i : Int))) else (some (2, bt208.1, (i : Int), bt208.2.1, 0, 0))))) else (if ((bytesOf s).getD i 0) ≥ 97 then (jlex_word.j0 k (i : Int) (s.extract i s.size) (decide (((bytesOf s).getD i 0) ≤ 122))) else (jlex_word.j0 k (i : Int) (s.extract i s.size) false)))) := by
    intro k
    rw [jlex_word.f, if_pos (by omega), if_pos (by omega), Int.toNat_natCast, if_pos (by omega), hb, hj, Option.bind_some, if_pos (show (0 : Nat) ≤ 1 by decide), if_pos (show (1 : Int) ≤ ((s.extract i s.size).size : Int) by omega)]
  refine Ev.congr step1 ?_
  unfold wd
  by_cases h1 : inSet signS ((bytesOf s).getD i 0) = true
  · rw [if_pos h1]
    refine Ev.congr (fun k => by rw [if_pos (hsign.2 h1)]) ?_
    have he : (s.extract i s.size).extract 0 1 = strOfNums [(bytesOf s).getD i 0] := strOf_eq _ (by
      rw [bytesOf_take, hy, drop_cons' (by rw [size_of]; exact hi)]
      rfl)
    rw [he, wrap_id (by omega) (by omega)]
    exact Ev.now _
  · rw [if_neg h1]
    have hj0 : ¬ j ≥ 0 := fun e => h1 (hsign.1 e)
    by_cases h2 : (bytesOf s).getD i 0 = 34
    · rw [if_pos h2]
      refine Ev.congr (fun k => by rw [if_neg hj0, if_pos h2]) ?_
      have hu : esc_Unquote.f s (i : Int) = some (unqT (bytesOf s) (i : Int)) := if_pos (by omega)
      have hun : unqT (bytesOf s) (i : Int) = (if (jbody (bytesOf s) ((bytesOf s).length + 1) (i + 1) []).1 = true then (strOfNums (jbody (bytesOf s) ((bytesOf s).length + 1) (i + 1) []).2.1, ((jbody (bytesOf s) ((bytesOf s).length + 1) (i + 1) []).2.2 : Int), -1) else (⟨#[]⟩, 0, ((jbody (bytesOf s) ((bytesOf s).length + 1) (i + 1) []).2.2 : Int))) := by
        unfold unqT
        rw [Int.toNat_natCast, if_neg (by rw [size_of]; rintro (h | h | h) <;> first | omega | exact h h2)]
        generalize jbody (bytesOf s) ((bytesOf s).length + 1) (i + 1) [] = q
        obtain ⟨b, bs, m⟩ := q
        cases b <;> rfl
      have hbd := jbody_where (bytesOf s) (bytes_of s) ((bytesOf s).length + 1) (i + 1) [] (by rw [size_of]; omega)
      have hsz := fun h => (jbody_bytes (bytesOf s) ((bytesOf s).length + 1) (i + 1) [] (fun x hx => by cases hx) h)
      rw [hu, hun]
      generalize jbody (bytesOf s) ((bytesOf s).length + 1) (i + 1) [] = q at hbd hsz
      obtain ⟨b, bs, m⟩ := q
      cases b with
      | false =>
        simp only [Bool.false_eq_true, if_false, Option.bind_some]
        refine Ev.congr (fun k => by rw [if_pos (by show (0 : Int) ≤ (m : Int); omega)]) ?_
        exact Ev.now _
      | true =>
        simp only [if_true, Option.bind_some]
        refine Ev.congr (fun k => by rw [if_neg (by decide)]) ?_
        rw [size_strOfNums (hsz rfl)]
        dsimp only
        by_cases h3 : bs.length > 4096
        · refine Ev.congr (fun k => by rw [if_pos (by omega)]) ?_
          rw [if_pos h3]
          exact Ev.now _
        · refine Ev.congr (fun k => by rw [if_neg (by omega)]) ?_
          rw [if_neg h3]
          exact Ev.now _
    · rw [if_neg h2]
      have hy2 : (s.extract i s.size).size ≤ 140737488355328 := by omega
      generalize s.extract i s.size = y at hy hyz hy2
      have htk : ∀ n : Nat, n ≤ y.size → bytesOf (y.extract 0 n) = ((bytesOf s).drop i).take n := fun n _ => by rw [bytesOf_take, hy]
      by_cases h3 : 97 ≤ (bytesOf s).getD i 0 ∧ (bytesOf s).getD i 0 ≤ 122
      · rw [if_pos h3]
        refine Ev.congr (fun k => by rw [if_neg hj0, if_neg h2, if_pos h3.1, decide_eq_true h3.2]) ?_
        have hwl := wh_le smallS ((bytesOf s).drop i)
        rw [List.length_drop, size_of] at hwl
        have hws := whileS y hy2
        rw [hy] at hws
        generalize wh smallS ((bytesOf s).drop i) = n at hwl hws
        have hbn := htk n (by omega)
        have hzn : (y.extract 0 n).size = n := size_take _ (by omega)
        have hn := name_iff (y.extract 0 n) _ hbn
        have hst := strOf_eq _ hbn
        have hfin : ∀ k, jlex_word.j0 (k + 1) (i : Int) y true = if nameS (((bytesOf s).drop i).take n) then some (4, y.extract 0 n, (i : Int), wrap64 ((i : Int) + (n : Int)), 0, 0) else some (0, (⟨#[]⟩ : ByteArray), 0, 0, 4, (i : Int)) := by
          intro k
          rw [jlex_word.j0, if_pos rfl, hws, Option.bind_some, if_pos (by omega), if_pos (by omega), Int.toNat_natCast, hzn]
          by_cases g1 : ((bytesOf s).drop i).take n = [116, 114, 117, 101]
          · rw [if_pos (hn.1.2 g1), if_pos (show nameS (((bytesOf s).drop i).take n) from .inl g1)]
          · rw [if_neg (fun e => g1 (hn.1.1 e))]
            by_cases g2 : ((bytesOf s).drop i).take n = [102, 97, 108, 115, 101]
            · rw [if_pos (hn.2.1.2 g2), if_pos (show nameS (((bytesOf s).drop i).take n) from .inr (.inl g2))]
            · rw [if_neg (fun e => g2 (hn.2.1.1 e))]
              by_cases g3 : ((bytesOf s).drop i).take n = [110, 117, 108, 108]
              · rw [if_pos (hn.2.2.2 g3), if_pos (show nameS (((bytesOf s).drop i).take n) from .inr (.inr g3))]
              · rw [if_neg (fun e => g3 (hn.2.2.1 e)), if_neg (by rintro (e | e | e); exact g1 e; exact g2 e; exact g3 e)]
        refine Ev.step hfin ?_
        by_cases g : nameS (((bytesOf s).drop i).take n)
        · rw [if_pos g, if_pos g]
          rw [hst, wrap_id (by omega) (by omega)]
          exact Ev.now _
        · rw [if_neg g, if_neg g]
          exact Ev.now _
      · rw [if_neg h3]
        have hwl := wh_le digitS ((bytesOf s).drop i)
        rw [List.length_drop, size_of] at hwl
        have hasc := ascii_take digitS ((bytesOf s).drop i) (by decide)
        have hwd := whileD y hy2
        rw [hy] at hwd
        generalize wh digitS ((bytesOf s).drop i) = n at hwl hwd hasc
        have hbn := htk n (by omega)
        have hzn : (y.extract 0 n).size = n := size_take _ (by omega)
        have hst := strOf_eq _ hbn
        have hnil : (y.extract 0 n).toList = ([] : List UInt8) ↔ n = 0 := by
          rw [toList_nil_iff, ← List.length_eq_zero_iff, size_of, hzn]
        have hnum := number_ev (y.extract 0 n) (by rw [hbn]; exact hasc)
        rw [hbn] at hnum
        have key : Ev (fun k => jlex_word.j0 k (i : Int) y false) (wordR i (if n = 0 then .inl (4, i) else if numb (((bytesOf s).drop i).take n) = 0 then .inr (3, ((bytesOf s).drop i).take n, i + n) else .inl (numb (((bytesOf s).drop i).take n), i))) := by
          refine Ev.step (fun k => by rw [jlex_word.j0, if_neg (by decide), hwd, Option.bind_some, if_pos (by omega), if_pos (by omega), Int.toNat_natCast, hzn]) ?_
          by_cases g : n = 0
          · rw [if_pos g]
            refine Ev.congr (fun k => by rw [if_pos (hnil.2 g)]) ?_
            exact Ev.now _
          · rw [if_neg g]
            refine Ev.congr (fun k => by rw [if_neg (fun e => g (hnil.1 e))]) (Ev.bind hnum ?_)
            by_cases g2 : numb (((bytesOf s).drop i).take n) = 0
            · rw [if_pos g2, if_pos g2]
              rw [hst, wrap_id (by omega) (by omega)]
              exact Ev.now _
            · rw [if_neg g2, if_neg g2]
              exact Ev.now _
        by_cases h4 : 97 ≤ (bytesOf s).getD i 0
        · have h5 : ¬ (bytesOf s).getD i 0 ≤ 122 := fun e => h3 ⟨h4, e⟩
          exact Ev.congr (fun k => by rw [if_neg hj0, if_neg h2, if_pos h4, decide_eq_false h5]) key
        · exact Ev.congr (fun k => by rw [if_neg hj0, if_neg h2, if_neg (by omega)]) key
/-- A word ends behind its beginning, within the text. -/
theorem wd_inr {L : List Int} (hL : Bytes L) {i : Nat} (hi : i < L.length) {x : Int × List Int × Nat} (h : wd L i = .inr x) : i < x.2.2 ∧ x.2.2 ≤ L.length := by
  unfold wd at h
  split at h
  · injection h with h; subst h; show i < i + 1 ∧ i + 1 ≤ _; omega
  · split at h
    · split at h
      · rename_i h3
        have hb := jbody_bound L hL _ (i + 1) [] h3 (by omega)
        split at h
        · cases h
        · injection h with h; subst h; show i < (jbody L (L.length + 1) (i + 1) []).2.2 ∧ (jbody L (L.length + 1) (i + 1) []).2.2 ≤ _; omega
      · cases h
    · split at h
      · split at h
        · rename_i h4
          have hw := wh_le smallS (L.drop i)
          rw [List.length_drop] at hw
          injection h with h
          subst h
          show i < i + _ ∧ i + _ ≤ _
          have : wh smallS (L.drop i) ≠ 0 := fun e => by
            rw [e, List.take_zero] at h4
            unfold nameS at h4
            simp at h4
          omega
        · cases h
      · split at h
        · cases h
        · split at h
          · have hw := wh_le digitS (L.drop i)
            rw [List.length_drop] at hw
            injection h with h
            subst h
            show i < i + _ ∧ i + _ ≤ _
            omega
          · cases h
/-- A fault has an error, and lies within the text. -/
theorem wd_inl {L : List Int} (hL : Bytes L) {i : Nat} (hi : i < L.length) {e : Int × Nat} (h : wd L i = .inl e) : e.1 ≠ 0 ∧ e.2 ≤ L.length := by
  unfold wd at h
  split at h
  · cases h
  · split at h
    · split at h
      · split at h
        · injection h with h; subst h; exact ⟨by simp, by show i ≤ _; omega⟩
        · cases h
      · injection h with h; subst h
        exact ⟨by simp, jbody_where L hL _ _ _ (by omega)⟩
    · split at h
      · split at h
        · cases h
        · injection h with h; subst h; exact ⟨by simp, by show i ≤ _; omega⟩
      · split at h
        · injection h with h; subst h; exact ⟨by simp, by show i ≤ _; omega⟩
        · split at h
          · cases h
          · rename_i h9
            injection h with h; subst h; exact ⟨h9, by show i ≤ _; omega⟩
def toW (x : Int × List Int × Nat) : S30 := ⟨x.1, strOfNums x.2.1, (x.2.2 : Int)⟩
/-- How jlex.Cut tells it. -/
def cutR (s : ByteArray) (o : List (Int × List Int × Nat) × Option (Int × Nat)) : List S30 × Int × Int × Int × Int :=
  match o.2 with
  | none => (o.1.map toW, 0, 0, 0, 0)
  | some e => ([], e.1, (clamp s.size (e.2 : Int) : Int), lineOf ((bytesOf s).take (clamp s.size (e.2 : Int))), colOf ((bytesOf s).take (clamp s.size (e.2 : Int))))
theorem cut_l0 (s : ByteArray) (hs : s.size ≤ 65536) (n : Nat) : ∀ (i K : Nat) (acc : List (Int × List Int × Nat)), i ≤ s.size → s.size - i = n → n < K → acc.length ≤ i →
    Ev (fun k => jlex_Cut.l0 k s (acc.map toW) (i : Int)) (cutR s (cutS (bytesOf s) K i acc)) := by
  induction n using Nat.strongRecOn with
  | _ n ih =>
  intro i K acc hi hn hK hacc
  obtain ⟨K, rfl⟩ : ∃ m, K = m + 1 := ⟨K - 1, by omega⟩
  rw [cutS, size_of]
  by_cases h : i < s.size
  · rw [if_neg (by omega)]
    refine Ev.step (fun k => by rw [jlex_Cut.l0, if_pos (by omega)]) (Ev.bind (word_ev s hs i h) ?_)
    cases hw : wd (bytesOf s) i with
    | inl e =>
      have he := wd_inl (bytes_of s) (by rw [size_of]; exact h) hw
      refine Ev.congr (fun k => by rw [wordR, if_neg he.1]) (Ev.bind (fault_ev s (by omega) (e.2 : Int) e.1) ?_)
      exact Ev.now _
    | inr x =>
      have hx := wd_inr (bytes_of s) (by rw [size_of]; exact h) hw
      rw [size_of] at hx
      have hwh := whileB (s.extract x.2.2 s.size) (by rw [size_drop]; omega)
      rw [bytesOf_drop] at hwh
      have hwl := wh_le blankS ((bytesOf s).drop x.2.2)
      rw [List.length_drop, size_of] at hwl
      have hj : (acc.map toW) ++ [(⟨x.1, strOfNums x.2.1, (i : Int)⟩ : S30)] = (acc ++ [(x.1, x.2.1, i)]).map toW := by simp [toW]
      have r0 : (wordR i (.inr x)).2.2.2.2.1 = 0 := rfl
      have r1 : (wordR i (.inr x)).2.2.2.1 = (x.2.2 : Int) := rfl
      have r2 : (0 : Int) ≤ (wordR i (.inr x)).2.2.2.1 := by rw [r1]; omega
      have r3 : (wordR i (.inr x)).2.2.2.1 ≤ (s.size : Int) := by rw [r1]; omega
      have r4 : (wordR i (.inr x)).1 = x.1 := rfl
      have r5 : (wordR i (.inr x)).2.1 = strOfNums x.2.1 := rfl
      have r6 : (wordR i (.inr x)).2.2.1 = (i : Int) := rfl
      refine Ev.congr (fun k => by
        rw [if_pos r0, if_pos (by rw [List.length_map]; omega), if_pos r2, if_pos r3, r1, Int.toNat_natCast, hwh, Option.bind_some, wrap_id (by omega) (by omega), r4, r5, r6, hj, show (x.2.2 : Int) + (wh blankS ((bytesOf s).drop x.2.2) : Int) = ((x.2.2 + wh blankS ((bytesOf s).drop x.2.2) : Nat) : Int) by omega]) ?_
      exact ih (s.size - (x.2.2 + wh blankS ((bytesOf s).drop x.2.2))) (by omega) _ K _ (by omega) rfl (by omega) (by rw [List.length_append, List.length_singleton]; omega)
  · obtain rfl : i = s.size := by omega
    rw [if_pos (Nat.le_refl _)]
    refine Ev.step (fun k => by rw [jlex_Cut.l0, if_neg (by omega), if_pos (by rw [List.length_map]; omega)]) ?_
    have hj : (acc.map toW) ++ [(⟨0, ⟨#[]⟩, (s.size : Int)⟩ : S30)] = (acc ++ [(0, [], s.size)]).map toW := by
      rw [List.map_append]
      rfl
    rw [hj]
    exact Ev.now _
/-- What Judge tells. -/
def judgeS (L : List Int) : Option (Int × Nat) := (bad L).map fun p => (3, p)
theorem judge_ev (s : ByteArray) (hs : s.size ≤ 65536) : Ev (fun k => jlex_Judge.f k s) ((cutR s ([], judgeS (bytesOf s))).2) := by
  refine Ev.congr (fun k => by rw [jlex_Judge.f, if_neg (by omega)]) (Ev.bind (valid_ev s (by omega)) ?_)
  unfold judgeS
  cases hb : bad (bytesOf s) with
  | none =>
    simp only [badR, if_true]
    exact Ev.now _
  | some p =>
    simp only [badR, Bool.false_eq_true, if_false, Nat.zero_add]
    refine (Ev.bind (fault_ev s (by omega) (p : Int) 3) ?_)
    exact Ev.now _
/-- A text's words, or its first fault. -/
def lexS (L : List Int) : List (Int × List Int × Nat) × Option (Int × Nat) :=
  match judgeS L with
  | some e => ([], some e)
  | none => cutS L (L.length + 1) (wh blankS L) []
theorem lex_ev (s : ByteArray) (hs : s.size ≤ 65536) : Ev (fun k => jlex_Cut.f k s) (cutR s (lexS (bytesOf s))) := by
  refine Ev.congr (fun k => by rw [jlex_Cut.f]) (Ev.bind (judge_ev s hs) ?_)
  unfold lexS
  cases hj : judgeS (bytesOf s) with
  | none =>
    have hw := whileB s (by omega)
    have hwl := wh_le blankS (bytesOf s)
    rw [size_of] at hwl
    simp only [cutR, if_true, hw, Option.bind_some]
    exact cut_l0 s hs _ _ _ [] hwl rfl (by rw [size_of]; omega) (Nat.zero_le _)
  | some e =>
    have he : e.1 = 3 := by
      unfold judgeS at hj
      obtain ⟨p, _, rfl⟩ := Option.map_eq_some_iff.1 hj
      rfl
    have r0 : ¬ (cutR s ([], some e)).2.1 = 0 := by
      show ¬ e.1 = 0
      rw [he]
      decide
    refine Ev.congr (fun k => by rw [if_neg r0]) ?_
    exact Ev.now _
end Go.Proofs.YtoanbmggffkmgaaDoor.La
end
section
namespace Go.Proofs.YtoanbmggffkmgaaDoor.La
open Go.RowKit Go.Proofs.YtoanbmggffkmgaaDoor.P Go.Proofs.YtoanbmggffkmgaaDoorW.PrintWords Go.Proofs.YtoanbmggffkmgaaDoorW.PrintLast Go.Proofs.YtoanbmggffkmgaaDoorW.PrintMore
/-- The words of a text from a place on. -/
inductive Wds (L : List Int) : Nat → List (Int × List Int × Nat) → Prop
  | last : Wds L L.length [(0, [], L.length)]
  | word {i : Nat} {x : Int × List Int × Nat} {ws : List (Int × List Int × Nat)} : i < L.length → wd L i = .inr x → Wds L (x.2.2 + wh blankS (L.drop x.2.2)) ws → Wds L i ((x.1, x.2.1, i) :: ws)
theorem cutS_wds {L : List Int} (hL : Bytes L) (k : Nat) : ∀ (i : Nat) (acc r : List (Int × List Int × Nat)), i ≤ L.length → L.length - i < k → cutS L k i acc = (r, none) → ∃ ws, r = acc ++ ws ∧ Wds L i ws := by
  induction k with
  | zero => intro i acc r _ h; omega
  | succ k ih =>
    intro i acc r hi hk h
    rw [cutS] at h
    by_cases hlt : L.length ≤ i
    · rw [if_pos hlt] at h
      obtain rfl : i = L.length := by omega
      exact ⟨_, (Prod.mk.inj h).1.symm, .last⟩
    · rw [if_neg hlt] at h
      cases hw : wd L i with
      | inl e => rw [hw] at h; cases (Prod.mk.inj h).2
      | inr x =>
        rw [hw] at h
        have hx := wd_inr hL (by omega) hw
        have hwl := wh_le blankS (L.drop x.2.2)
        rw [List.length_drop] at hwl
        obtain ⟨ws, rfl, hws⟩ := ih _ _ _ (by omega) (by omega) h
        exact ⟨(x.1, x.2.1, i) :: ws, by rw [List.append_assoc]; rfl, .word (by omega) hw hws⟩
/-- A fault has an error. -/
theorem cutS_err {L : List Int} (hL : Bytes L) (k : Nat) : ∀ (i : Nat) (acc r : List (Int × List Int × Nat)) (e : Int × Nat), i ≤ L.length → cutS L k i acc = (r, some e) → e.1 ≠ 0 ∧ e.2 ≤ L.length ∧ r = [] := by
  induction k with
  | zero => intro i acc r e _ h; rw [cutS] at h; cases (Prod.mk.inj h).2
  | succ k ih =>
    intro i acc r e hi h
    rw [cutS] at h
    by_cases hlt : L.length ≤ i
    · rw [if_pos hlt] at h
      cases (Prod.mk.inj h).2
    · rw [if_neg hlt] at h
      cases hw : wd L i with
      | inl e2 =>
        rw [hw] at h
        obtain ⟨h1, h2⟩ := Prod.mk.inj h
        obtain rfl := Option.some.inj h2
        exact ⟨(wd_inl hL (by omega) hw).1, (wd_inl hL (by omega) hw).2, h1.symm⟩
      | inr x =>
        rw [hw] at h
        have hx := wd_inr hL (by omega) hw
        have hwl := wh_le blankS (L.drop x.2.2)
        rw [List.length_drop] at hwl
        exact ih _ _ _ _ (by omega) h
theorem lexS_err {L : List Int} (hL : Bytes L) {r : List (Int × List Int × Nat)} {e : Int × Nat} (h : lexS L = (r, some e)) : e.1 ≠ 0 ∧ e.2 ≤ L.length ∧ r = [] := by
  unfold lexS at h
  cases hj : judgeS L with
  | some e2 =>
    rw [hj] at h
    unfold judgeS at hj
    obtain ⟨p, hp, rfl⟩ := Option.map_eq_some_iff.1 hj
    obtain ⟨h1, h2⟩ := Prod.mk.inj h
    obtain rfl := Option.some.inj h2
    have := bad_bound L hL hp
    exact ⟨by simp, by show p ≤ _; omega, h1.symm⟩
  | none =>
    rw [hj] at h
    exact cutS_err hL _ _ _ _ _ (wh_le blankS L) h
theorem lexS_ok {L : List Int} (hL : Bytes L) {r : List (Int × List Int × Nat)} (h : lexS L = (r, none)) : bad L = none ∧ Wds L (wh blankS L) r := by
  unfold lexS at h
  cases hj : judgeS L with
  | some e2 => rw [hj] at h; cases (Prod.mk.inj h).2
  | none =>
    rw [hj] at h
    obtain ⟨ws, rfl, hws⟩ := cutS_wds hL _ _ _ _ (wh_le blankS L) (by omega) h
    unfold judgeS at hj
    exact ⟨Option.map_eq_none_iff.1 hj, hws⟩
/-- Digits of base 16. -/
def hexB (b : Int) : Prop := (48 ≤ b ∧ b ≤ 57) ∨ (97 ≤ b ∧ b ≤ 102) ∨ (65 ≤ b ∧ b ≤ 70)
theorem hexVal_hexB {b d : Int} (h : hexVal b = some d) : hexB b := by
  unfold hexVal at h
  unfold hexB
  (repeat' split at h) <;> first | (cases h; done) | omega
theorem hexI_hexB {l : List Int} {x v : Int} (h : hexI x l = some v) : ∀ b ∈ l, hexB b := by
  induction l generalizing x with
  | nil => intro b hb; cases hb
  | cons c l ih =>
    simp only [hexI] at h
    obtain ⟨d, hd, h⟩ := Option.bind_eq_some_iff.1 h
    intro b hb
    rcases List.mem_cons.1 hb with rfl | hb
    · exact hexVal_hexB hd
    · exact ih h b hb
theorem digsAt_hexB {l : List Int} {i n : Nat} (h : (digsAt l i n).isSome = true) : ∀ j, j < n → hexB (l.getD (i + j) 0) := by
  unfold digsAt at h
  split at h
  · rename_i hl
    obtain ⟨v, hv⟩ := Option.isSome_iff_exists.1 h
    intro j hj
    have := hexI_hexB hv (l.getD (i + j) 0) (by
      refine List.mem_of_getElem? (i := j) ?_
      rw [List.getElem?_take_of_lt hj, List.getElem?_drop, List.getD_eq_getElem?_getD, List.getElem?_eq_getElem (by omega)]
      rfl)
    exact this
  · cases h
/-- What an escape looks like. -/
theorem jesc_shape {l : List Int} {p : Int × Nat} (h : jesc l = some p) :
    (p.2 = 2) ∨ (p.2 = 6 ∧ ∀ j, j < 4 → hexB (l.getD (2 + j) 0)) ∨ (p.2 = 12 ∧ (∀ j, j < 4 → hexB (l.getD (2 + j) 0)) ∧ l.getD 6 0 = 92 ∧ l.getD 7 0 = 117 ∧ (∀ j, j < 4 → hexB (l.getD (8 + j) 0))) := by
  unfold jesc at h
  split at h
  · cases h
  · split at h
    · obtain rfl := Option.some.inj h
      exact .inl rfl
    · split at h
      · cases h
      · rename_i h2
        have h3 : (digsAt l 2 4).isSome = true := by
          cases hd : (digsAt l 2 4).isSome
          · exact absurd (.inr hd) h2
          · rfl
        split at h
        · split at h
          · obtain rfl := Option.some.inj h
            exact .inr (.inl ⟨rfl, digsAt_hexB h3⟩)
          · cases h
        · split at h
          · cases h
          · rename_i h5
            have h6 : (digsAt l 8 4).isSome = true := by
              cases hd : (digsAt l 8 4).isSome
              · exact absurd (.inl hd) h5
              · rfl
            have h8 : (l.drop 6).take 2 = [92, 117] := Classical.byContradiction fun e => h5 (.inr (.inl e))
            have hl := digsAt_len h6
            obtain rfl := Option.some.inj h
            have e1 : l.drop 6 = l.getD 6 0 :: l.getD 7 0 :: l.drop 8 := by rw [drop_cons' (by omega), drop_cons' (i := 7) (by omega)]
            rw [e1, List.take_succ_cons, List.take_succ_cons, List.take_zero] at h8
            injection h8 with h9 h10
            injection h10 with h10 _
            exact .inr (.inr ⟨rfl, digsAt_hexB h3, h9, h10, digsAt_hexB h6⟩)
/-- Of a letter of more bytes each is 128 at least. -/
theorem enc_high {r : Int} (h : 128 ≤ r) (hg : good r) : ∀ b ∈ enc r, 128 ≤ b := by
  have hg' := good_iff.1 hg
  unfold enc
  rw [if_neg (by omega)]
  intro b hb
  split at hb
  · simp at hb; omega
  · split at hb
    · simp at hb; omega
    · simp at hb; omega
theorem enc_low {r : Int} (h : r < 128) : enc r = [r] := by unfold enc; rw [if_pos h]
/-- A letter's bytes: one below 128, or all above. -/
theorem tk_bytes {l : List Int} (hl : Bytes l) (h : (tk l).2 > 0) : ((tk l).2 = 1 ∧ l.getD 0 0 < 128) ∨ (∀ j, j < (tk l).2.toNat → 128 ≤ l.getD j 0) := by
  rcases tk_inv l hl with e | ⟨hg, hn, m, hm⟩
  · rw [e] at h; simp at h
  · by_cases hr : (tk l).1 < 128
    · left
      rw [enc_low hr] at hn hm
      refine ⟨by rw [hn]; rfl, ?_⟩
      rw [hm]
      exact hr
    · right
      intro j hj
      have he := enc_high (by omega) hg
      have hj2 : j < (enc (tk l).1).length := by omega
      have hge : l.getD j 0 = (enc (tk l).1)[j] := by
        have : l[j]? = (enc (tk l).1)[j]? := by
          have e2 : l[j]? = (enc (tk l).1 ++ m)[j]? := by rw [← hm]
          rw [e2, List.getElem?_append_left hj2]
        rw [List.getD_eq_getElem?_getD, this, List.getElem?_eq_getElem hj2]
        rfl
      rw [hge]
      exact he _ (List.getElem_mem hj2)
end Go.Proofs.YtoanbmggffkmgaaDoor.La
end
section
namespace Go.Proofs.YtoanbmggffkmgaaDoor.Pure
open Go.RowKit Go.Proofs.YtoanbmggffkmgaaDoor.P Go.Proofs.YtoanbmggffkmgaaDoor.La Go.Proofs.YtoanbmggffkmgaaDoorW.PrintWords Go.Proofs.YtoanbmggffkmgaaDoorW.PrintLast
/-- A word's text stands where it is said to be, but for a string's. -/
theorem wd_text {L : List Int} {i : Nat} (hi : i < L.length) {x : Int × List Int × Nat} (h : wd L i = .inr x) :
    (x.1 = 2 ∧ L.getD i 0 = 34 ∧ (jbody L (L.length + 1) (i + 1) []).1 = true ∧ x.2.2 = (jbody L (L.length + 1) (i + 1) []).2.2) ∨ (x.1 ≠ 2 ∧ x.2.1 = (L.drop i).take x.2.1.length ∧ x.2.2 = i + x.2.1.length) := by
  have htk : ∀ n, n ≤ (L.drop i).length → (L.drop i).take n = (L.drop i).take ((L.drop i).take n).length := by
    intro n hn
    rw [List.length_take, Nat.min_eq_left hn]
  have hlen : ∀ n, n ≤ (L.drop i).length → ((L.drop i).take n).length = n := by
    intro n hn
    rw [List.length_take, Nat.min_eq_left hn]
  unfold wd at h
  split at h
  · injection h with h
    subst h
    refine .inr ⟨by simp, ?_, rfl⟩
    show [L.getD i 0] = (L.drop i).take 1
    rw [drop_cons' hi]
    rfl
  · split at h
    · rename_i h34
      split at h
      · rename_i h3
        split at h
        · cases h
        · injection h with h
          subst h
          exact .inl ⟨rfl, h34, h3, rfl⟩
      · cases h
    · split at h
      · split at h
        · injection h with h
          subst h
          exact .inr ⟨by simp, htk _ (wh_le _ _), by show _ = i + _; rw [hlen _ (wh_le _ _)]⟩
        · cases h
      · split at h
        · cases h
        · split at h
          · injection h with h
            subst h
            exact .inr ⟨by simp, htk _ (wh_le _ _), by show _ = i + _; rw [hlen _ (wh_le _ _)]⟩
          · cases h
theorem scan_skip (s : ByteArray) (hs : s.size ≤ 1500) (X : List S30) (idx : Int) (r : Bool) (m : Nat) : ∀ p : Nat, p + m ≤ s.size → (∀ j, j < m → (bytesOf s).getD (p + j) 0 ≠ 34 ∧ (bytesOf s).getD (p + j) 0 ≠ 92) →
    Ev (fun k => dragomanlaw7_JlexPlaces.l2 k s X ((p + m : Nat) : Int) idx) r → Ev (fun k => dragomanlaw7_JlexPlaces.l2 k s X (p : Int) idx) r := by
  induction m with
  | zero => intro p _ _ h; exact h
  | succ m ih =>
    intro p hp hb h
    have h0 := hb 0 (by omega)
    rw [Nat.add_zero, ← bt_nat'] at h0
    refine Ev.step (fun k => by rw [dragomanlaw7_JlexPlaces.l2, if_pos (by omega), if_pos (by omega), if_neg h0.1, if_neg h0.2, wrap_id (by omega) (by omega), show (p : Int) + 1 = ((p + 1 : Nat) : Int) by omega]) ?_
    refine ih (p + 1) (by omega) (fun j hj => ?_) (by rw [show p + 1 + m = p + (m + 1) by omega]; exact h)
    have := hb (j + 1) (by omega)
    rw [show p + 1 + j = p + (j + 1) by omega]
    exact this
theorem hexB_ne {b : Int} (h : hexB b) : b ≠ 34 ∧ b ≠ 92 := by unfold hexB at h; omega
theorem getD_drop' (l : List Int) (i j : Nat) : (l.drop i).getD j 0 = l.getD (i + j) 0 := by
  simp [List.getD_eq_getElem?_getD, List.getElem?_drop]
theorem scan_str (s : ByteArray) (hs : s.size ≤ 1500) (X : List S30) (idx : Int) (r : Bool) (k : Nat) : ∀ (p : Nat) (acc : List Int), (jbody (bytesOf s) k p acc).1 = true →
    Ev (fun n => dragomanlaw7_JlexPlaces.l0 n s X ((jbody (bytesOf s) k p acc).2.2 : Int) (wrap64 (idx + 1))) r → Ev (fun n => dragomanlaw7_JlexPlaces.l2 n s X (p : Int) idx) r := by
  induction k with
  | zero => intro p acc h; simp [jbody] at h
  | succ k ih =>
    intro p acc h hr
    unfold jbody at h hr
    by_cases h1 : (bytesOf s).length ≤ p
    · rw [if_pos h1] at h; cases h
    · rw [if_neg h1] at h hr
      rw [size_of] at h1
      by_cases h2 : (bytesOf s).getD p 0 = 34
      · rw [if_pos h2] at h hr
        rw [← bt_nat'] at h2
        refine Ev.step (fun n => by rw [dragomanlaw7_JlexPlaces.l2, if_pos (by omega), if_pos (by omega), if_pos h2, wrap_id (n := (p : Int) + 1) (by omega) (by omega), show (p : Int) + 1 = ((p + 1 : Nat) : Int) by omega]) ?_
        exact hr
      · rw [if_neg h2] at h hr
        by_cases h3 : (bytesOf s).getD p 0 < 32
        · rw [if_pos h3] at h; cases h
        · rw [if_neg h3] at h hr
          have h2b := h2
          rw [← bt_nat'] at h2b
          by_cases h4 : (bytesOf s).getD p 0 = 92
          · rw [if_pos h4] at h hr
            have h4b := h4
            rw [← bt_nat'] at h4b
            cases hj : jesc ((bytesOf s).drop p) with
            | none => rw [hj] at h; cases h
            | some q =>
              rw [hj] at h hr
              simp only at h hr
              have hrest := ih _ _ h hr
              have hlen := jesc_len hj
              rw [List.length_drop, size_of] at hlen
              refine Ev.step (fun n => by rw [dragomanlaw7_JlexPlaces.l2, if_pos (by omega), if_pos (by omega), if_neg h2b, if_pos h4b, wrap_id (n := (p : Int) + 1) (by omega) (by omega), wrap_id (by omega) (by omega), show (p : Int) + 1 + 1 = ((p + 2 : Nat) : Int) by omega]) ?_
              rcases jesc_shape hj with e | ⟨e, g⟩ | ⟨e, g, g6, g7, g8⟩
              · rw [e] at hrest; exact hrest
              · rw [e] at hrest hlen
                refine scan_skip s hs X idx r 4 (p + 2) (by omega) (fun j hj => ?_) hrest
                have := hexB_ne (g j hj)
                rw [getD_drop', ← Nat.add_assoc] at this
                exact this
              · rw [e] at hrest hlen
                have a6 : bt s ((p + 6 : Nat) : Int) = 92 := by rw [bt_nat', ← g6, getD_drop']
                refine scan_skip s hs X idx r 4 (p + 2) (by omega) (fun j hj => ?_) ?_
                · have := hexB_ne (g j hj)
                  rw [getD_drop', ← Nat.add_assoc] at this
                  exact this
                refine Ev.step (fun n => by rw [show p + 2 + 4 = p + 6 by omega, dragomanlaw7_JlexPlaces.l2, if_pos (by omega), if_pos (by omega), if_neg (by rw [a6]; decide), if_pos a6, wrap_id (n := ((p + 6 : Nat) : Int) + 1) (by omega) (by omega), wrap_id (by omega) (by omega), show ((p + 6 : Nat) : Int) + 1 + 1 = ((p + 8 : Nat) : Int) by omega]) ?_
                refine scan_skip s hs X idx r 4 (p + 8) (by omega) (fun j hj => ?_) (by rw [show p + 8 + 4 = p + 12 by omega]; exact hrest)
                have := hexB_ne (g8 j hj)
                rw [getD_drop', ← Nat.add_assoc] at this
                exact this
          · rw [if_neg h4] at h hr
            by_cases h5 : (tk ((bytesOf s).drop p)).2 > 0
            · rw [if_pos h5] at h hr
              have hrest := ih _ _ h hr
              have hbd := tk_bound ((bytesOf s).drop p) ((bytes_of s).drop p)
              rw [List.length_drop, size_of] at hbd
              refine scan_skip s hs X idx r (tk ((bytesOf s).drop p)).2.toNat p (by omega) (fun j hj => ?_) hrest
              rcases tk_bytes ((bytes_of s).drop p) h5 with ⟨e1, _⟩ | hall
              · obtain rfl : j = 0 := by omega
                exact ⟨h2, h4⟩
              · have := hall j hj
                rw [getD_drop'] at this
                omega
            · rw [if_neg h5] at h; cases h
theorem blank_skip (s : ByteArray) (hs : s.size ≤ 1500) (X : List S30) (idx : Nat) (hidx : idx < X.length) (i : Nat) (hX : (rd_T30 X (idx : Int)).f2 = (i : Int)) (hi : i ≤ s.size) (r : Bool) (m : Nat) : ∀ a : Nat, a + m = i → (∀ j, j < m → inSet blankS ((bytesOf s).getD (a + j) 0) = true) →
    Ev (fun k => dragomanlaw7_JlexPlaces.l1 k s X (i : Int) (idx : Int)) r → Ev (fun k => dragomanlaw7_JlexPlaces.l1 k s X (a : Int) (idx : Int)) r := by
  induction m with
  | zero => intro a ha _ h; obtain rfl : a = i := (by omega); exact h
  | succ m ih =>
    intro a ha hb h
    have h0 := hb 0 (by omega)
    rw [Nat.add_zero, ← bt_nat'] at h0
    have hrest := ih (a + 1) (by omega) (fun j hj => by
      have := hb (j + 1) (by omega)
      rw [show a + 1 + j = a + (j + 1) by omega]
      exact this) h
    have hset : bt s (a : Int) = 32 ∨ bt s (a : Int) = 9 ∨ bt s (a : Int) = 10 ∨ bt s (a : Int) = 13 := by
      unfold inSet blankS at h0
      simp at h0
      omega
    refine Ev.step (fun k => by rw [dragomanlaw7_JlexPlaces.l1, if_pos (by omega), if_pos (by omega), if_pos (by rw [hX]; omega), if_pos (by omega), if_pos (by omega), wrap_id (by omega) (by omega), show (a : Int) + 1 = ((a + 1 : Nat) : Int) by omega]) ?_
    by_cases c1 : bt s (a : Int) = 32
    · exact Ev.congr (fun k => by rw [if_pos c1]) hrest
    · by_cases c2 : bt s (a : Int) = 9
      · exact Ev.congr (fun k => by rw [if_neg c1, if_pos c2]) hrest
      · by_cases c3 : bt s (a : Int) = 10
        · exact Ev.congr (fun k => by rw [if_neg c1, if_neg c2, if_pos c3]) hrest
        · have c4 : bt s (a : Int) = 13 := by omega
          exact Ev.congr (fun k => by rw [if_neg c1, if_neg c2, if_neg c3, if_pos c4]) hrest
theorem rd_pre (pre : List S30) (x : S30) (post : List S30) : rd_T30 (pre ++ x :: post) (pre.length : Int) = x := by
  unfold rd_T30
  rw [Int.toNat_natCast, List.getD_eq_getElem?_getD, List.getElem?_append_right (Nat.le_refl _), Nat.sub_self]
  rfl
/-- A word that is no string, where it stands. -/
theorem plain_word (s : ByteArray) (hs : s.size ≤ 1500) (X : List S30) (idx : Nat) (hidx : idx < X.length) (i : Nat) (kd : Int) (tx : List Int) (hX : rd_T30 X (idx : Int) = ⟨kd, strOfNums tx, (i : Int)⟩) (hk : kd ≠ 2) (ht : tx = ((bytesOf s).drop i).take tx.length) (hi : i + tx.length ≤ s.size) (r : Bool)
    (h : Ev (fun k => dragomanlaw7_JlexPlaces.l0 k s X ((i + tx.length : Nat) : Int) (wrap64 ((idx : Int) + 1))) r) : Ev (fun k => dragomanlaw7_JlexPlaces.l1 k s X (i : Int) (idx : Int)) r := by
  have htb : Bytes tx := by rw [ht]; exact ((bytes_of s).drop i).take _
  have hz : (strOfNums tx).size = tx.length := size_strOfNums htb
  refine Ev.step (fun k => by rw [dragomanlaw7_JlexPlaces.l1, if_pos (by omega), if_pos (by omega), hX, if_neg (show ¬ (i : Int) < (⟨kd, strOfNums tx, (i : Int)⟩ : S30).f2 from by show ¬ (i : Int) < (i : Int); omega), if_pos (show (i : Int) = (⟨kd, strOfNums tx, (i : Int)⟩ : S30).f2 from rfl), if_neg (show ¬ (⟨kd, strOfNums tx, (i : Int)⟩ : S30).f0 = 2 from hk)]) ?_
  have hw : wrap64 ((i : Int) + (tx.length : Int)) = ((i + tx.length : Nat) : Int) := by rw [wrap_id (by omega) (by omega)]; omega
  have hf1 : (⟨kd, strOfNums tx, (i : Int)⟩ : S30).f1 = strOfNums tx := rfl
  refine Ev.step (fun k => by rw [dragomanlaw7_JlexPlaces.j2, if_neg (by decide), if_pos (by omega), if_pos (by omega), hX, if_neg (show ¬ (⟨kd, strOfNums tx, (i : Int)⟩ : S30).f0 = 2 from hk), hf1, hz, wrap_id (n := (s.size : Int) - (i : Int)) (by omega) (by omega), hw, if_neg (by omega), if_pos (by omega), if_pos (by omega), if_pos (by omega), if_pos (by
    rw [toList_eq_iff, strOfNums_bytes htb, Int.toNat_natCast, Int.toNat_natCast, bytesOf_extract, List.drop_take, show i + tx.length - i = tx.length by omega]
    exact ht.symm)]) ?_
  exact h
theorem places_l0 (s : ByteArray) (hs : s.size ≤ 1500) {i : Nat} {ws : List (Int × List Int × Nat)} (h : Wds (bytesOf s) i ws) : ∀ (pre : List S30) (a : Nat), a ≤ s.size → a + wh blankS ((bytesOf s).drop a) = i → pre.length ≤ a →
    Ev (fun k => dragomanlaw7_JlexPlaces.l0 k s (pre ++ ws.map toW) (a : Int) (pre.length : Int)) true := by
  have blanks : ∀ a j, j < wh blankS ((bytesOf s).drop a) → inSet blankS ((bytesOf s).getD (a + j) 0) = true := by
    intro a j hj
    have := wh_in hj
    rwa [getD_drop'] at this
  induction h with
  | last =>
    intro pre a ha hwa hpre
    rw [size_of] at hwa
    have hx := rd_pre pre (toW (0, [], (bytesOf s).length)) []
    have hlen : (pre ++ List.map toW [(0, [], (bytesOf s).length)]).length = pre.length + 1 := by simp
    rw [show [(toW (0, [], (bytesOf s).length))] = List.map toW [(0, [], (bytesOf s).length)] from rfl] at hx
    generalize pre ++ List.map toW [(0, [], (bytesOf s).length)] = X at hx hlen
    have hx2 : rd_T30 X (pre.length : Int) = ⟨0, strOfNums [], (s.size : Int)⟩ := by rw [hx, ← size_of]; rfl
    refine Ev.step (fun k => by rw [dragomanlaw7_JlexPlaces.l0, if_pos (by omega)]) ?_
    refine blank_skip s hs X pre.length (by omega) s.size (by rw [hx2]) (Nat.le_refl _) true (wh blankS ((bytesOf s).drop a)) a hwa (blanks a) ?_
    refine plain_word s hs X pre.length (by omega) s.size 0 [] hx2 (by decide) rfl (by simp) true ?_
    rw [wrap_id (by omega) (by omega)]
    refine Ev.step (fun k => by rw [dragomanlaw7_JlexPlaces.l0, if_neg (by omega)]) ?_
    rw [List.length_nil, Nat.add_zero, beq_self_eq_true]
    exact Ev.now _
  | @word i x ws hi hw h ih =>
    intro pre a ha hwa hpre
    have hxb := wd_inr (bytes_of s) hi hw
    rw [size_of] at hxb
    have hx := rd_pre pre (toW (x.1, x.2.1, i)) (ws.map toW)
    rw [show toW (x.1, x.2.1, i) :: ws.map toW = ((x.1, x.2.1, i) :: ws).map toW from rfl] at hx
    have hnext := ih (pre ++ [toW (x.1, x.2.1, i)]) x.2.2 (by omega) rfl (by rw [List.length_append, List.length_singleton]; omega)
    rw [List.append_assoc, show [toW (x.1, x.2.1, i)] ++ ws.map toW = ((x.1, x.2.1, i) :: ws).map toW from rfl] at hnext
    have hlen : pre.length < (pre ++ ((x.1, x.2.1, i) :: ws).map toW).length := by simp
    rw [List.length_append, List.length_singleton] at hnext
    generalize pre ++ ((x.1, x.2.1, i) :: ws).map toW = X at hx hlen hnext
    have hwr : wrap64 ((pre.length : Int) + 1) = ((pre.length + 1 : Nat) : Int) := by rw [wrap_id (by omega) (by omega)]; omega
    have hx2 : rd_T30 X (pre.length : Int) = ⟨x.1, strOfNums x.2.1, (i : Int)⟩ := hx
    refine Ev.step (fun k => by rw [dragomanlaw7_JlexPlaces.l0, if_pos (by omega)]) ?_
    rw [size_of] at hi
    refine blank_skip s hs X pre.length hlen i (by rw [hx2]) (by omega) true (wh blankS ((bytesOf s).drop a)) a hwa (blanks a) ?_
    rcases wd_text (by rw [size_of]; exact hi) hw with ⟨k2, h34, hj, hj2⟩ | ⟨k2, ht, hj⟩
    · rw [← bt_nat'] at h34
      refine Ev.step (fun k => by rw [dragomanlaw7_JlexPlaces.l1, if_pos (by omega), if_pos (by omega), hx2, if_neg (show ¬ (i : Int) < (⟨x.1, strOfNums x.2.1, (i : Int)⟩ : S30).f2 from by show ¬ (i : Int) < (i : Int); omega), if_pos (show (i : Int) = (⟨x.1, strOfNums x.2.1, (i : Int)⟩ : S30).f2 from rfl), if_pos (show (⟨x.1, strOfNums x.2.1, (i : Int)⟩ : S30).f0 = 2 from k2), if_pos (by omega), if_pos (by omega), h34]) ?_
      refine Ev.step (fun k => by rw [dragomanlaw7_JlexPlaces.j2, if_neg (by decide), if_pos (by omega), if_pos (by omega), hx2, if_pos (show (⟨x.1, strOfNums x.2.1, (i : Int)⟩ : S30).f0 = 2 from k2), wrap_id (n := (i : Int) + 1) (by omega) (by omega), show (i : Int) + 1 = ((i + 1 : Nat) : Int) by omega]) ?_
      refine scan_str s hs X _ true ((bytesOf s).length + 1) (i + 1) [] hj ?_
      rw [← hj2, hwr]
      exact hnext
    · refine plain_word s hs X pre.length hlen i x.1 x.2.1 hx2 k2 ht (by omega) true ?_
      rw [← hj, hwr]
      exact hnext
theorem JlexPlaces : dragomanlaw7_JlexPlaces.Pure := by
  intro s _
  refine Ev.rounds (Ev.congr (fun k => by rw [dragomanlaw7_JlexPlaces.f, dragomanlaw7_awake.f, Option.bind_some, if_pos rfl]) ?_)
  by_cases h1 : (s.size : Int) > 1500
  · exact Ev.congr (fun k => by rw [if_pos h1]) (Ev.now _)
  · refine Ev.congr (fun k => by rw [if_neg h1]) (Ev.bind (lex_ev s (by omega)) ?_)
    cases hl : lexS (bytesOf s) with
    | mk ws o =>
      cases o with
      | some e =>
        have he := lexS_err (bytes_of s) hl
        have hc : (!((cutR s (ws, some e)).2.1 == 0) || (!((cutR s (ws, some e)).2.2.1 == 0) || (!((cutR s (ws, some e)).2.2.2.1 == 0) || (!((cutR s (ws, some e)).2.2.2.2 == 0))))) = true := by
          rw [show (cutR s (ws, some e)).2.1 = e.1 from rfl, beq_eq_false_iff_ne.2 he.1]
          rfl
        exact Ev.congr (fun k => by rw [if_pos hc]) (Ev.now _)
      | none =>
        have hok := lexS_ok (bytes_of s) hl
        have hc : ¬ (!((cutR s (ws, none)).2.1 == 0) || (!((cutR s (ws, none)).2.2.1 == 0) || (!((cutR s (ws, none)).2.2.2.1 == 0) || (!((cutR s (ws, none)).2.2.2.2 == 0))))) = true := by
          show ¬ (!((0 : Int) == 0) || (!((0 : Int) == 0) || (!((0 : Int) == 0) || (!((0 : Int) == 0))))) = true
          decide
        refine Ev.congr (fun k => by rw [if_neg hc]) ?_
        exact places_l0 s (by omega) hok.2 [] 0 (by omega) (by rw [Nat.zero_add]; rfl) (Nat.le_refl _)
end Go.Proofs.YtoanbmggffkmgaaDoor.Pure
end
