/- The parts of this claim's proof, in one text: what each Go function answers and that its call comes to it; plain facts of lists of numbers. Conditions as each theorem names them. -/
import Derived.ArgAppend
import Derived.Below
import Derived.BigQuiet
import Derived.Deep.AppendLies
import Derived.Deep.CutBlock
import Derived.Deep.DeepCutAuto
import Derived.Deep.Draws
import Derived.Deep.LoopGhost
import Derived.Deep.OwnRows
import Derived.Deep.QuietTactic
import Derived.Deep.RegionHeld3
import Derived.KernelRfl
import Derived.Laws.BitsLemmas
import Derived.Laws.BytesArg
import Derived.Laws.IdiomCopy
import Derived.Laws.MakeOwn
import Derived.Laws.OwnMore
import Derived.Laws.Rows
import Derived.Laws.Slices
import Derived.Lib.AppendStr
import Derived.Lib.Bytealg
import Derived.Lib.Bytes
import Derived.Lib.ConvBytes
import Derived.Lib.Hide
import Derived.Maps.AppendAt
import Derived.OrdersHeld
import Derived.Outline
import Derived.OwnWalk
import Derived.RowKit
import Derived.RowKit3
import Derived.Shelf.Bits.Mul64
import Derived.Shelf.LaysM
import Derived.Shelf.Small.Strs
import Derived.Shelf.Small.Utf8
import Derived.Shelf.Strings.AsciiSet
import Derived.Shelf.Strings.Builder1
import Derived.Shelf.Strings.Builder2
import Derived.Shelf.Strings.BuilderF
import Derived.Shelf.Strings.Count
import Derived.Shelf.Strings.IndexAny
import Derived.Shelf.Strings.IndexAnyAll
import Derived.Shelf.Strings.Prefix
import Derived.Shelf.Strings.Repeat
import Derived.Shelf.Strings.Runes
import Derived.Shelf.Strings.Search1
import Derived.Shelf.Strings.Search2
import Derived.Shelf.Strings.Search3
import Derived.Shelf.Strings.Shaped
import Derived.Shelf.Strings.SlTrimAscii
import Derived.Shelf.Strings.Trim
import Derived.Shelf.Unicode.DecodeSlow
import Derived.Tactics
import Derived.WalkKit
import Derived.WideLaws
import Derived.Test.YtoanbmggffkmgaaDoorProg
import Derived.Test.YtoanbmggffkmgaaDoorWApart
import Derived.Test.YtoanbmggffkmgaaDoorWArr
import Derived.Test.YtoanbmggffkmgaaDoorWAt
import Derived.Test.YtoanbmggffkmgaaDoorWEqStruct
import Derived.Test.YtoanbmggffkmgaaDoorWFoot
import Derived.Test.YtoanbmggffkmgaaDoorWFootNe
import Derived.Test.YtoanbmggffkmgaaDoorWFour
import Derived.Test.YtoanbmggffkmgaaDoorWGuard
import Derived.Test.YtoanbmggffkmgaaDoorWInv
import Derived.Test.YtoanbmggffkmgaaDoorWInvWords
import Derived.Test.YtoanbmggffkmgaaDoorWKept
import Derived.Test.YtoanbmggffkmgaaDoorWLast
import Derived.Test.YtoanbmggffkmgaaDoorWMake0
import Derived.Test.YtoanbmggffkmgaaDoorWMore
import Derived.Test.YtoanbmggffkmgaaDoorWN
import Derived.Test.YtoanbmggffkmgaaDoorWNEv
import Derived.Test.YtoanbmggffkmgaaDoorWQPut
import Derived.Test.YtoanbmggffkmgaaDoorWRepsOne
import Derived.Test.YtoanbmggffkmgaaDoorWShare
import Derived.Test.YtoanbmggffkmgaaDoorWTab
import Derived.Test.YtoanbmggffkmgaaDoorWWords
import Derived.Test.YtoanbmggffkmgaaDoorWZeros
import Derived.Test.YtoanbmggffkmgaaDoorMJlexKnown1
import Derived.Test.YtoanbmggffkmgaaDoorMJlexKnown2
import Derived.Test.YtoanbmggffkmgaaDoorMJlexKnown3
import Derived.Test.YtoanbmggffkmgaaDoorMJlexKnown4
section
namespace Go.Proofs.YtoanbmggffkmgaaDoor.La
/-- Where the last line begins. -/
def lst : List Int → Nat
  | [] => 0
  | b :: t => if 0 < lst t then lst t + 1 else if b = 10 then 1 else 0
def nl (l : List Int) : Nat := cntB l 10
theorem lst_le (l : List Int) : lst l ≤ l.length := by
  induction l with
  | nil => simp [lst]
  | cons b t ih => simp only [lst, List.length_cons]; (repeat' split) <;> omega
theorem lst_append (a b : List Int) : lst (a ++ b) = if 0 < lst b then a.length + lst b else lst a := by
  induction a with
  | nil => simp [lst]
  | cons x a ih =>
    simp only [List.cons_append, lst, ih, List.length_cons]
    by_cases h : 0 < lst b
    · simp only [if_pos h]
      rw [if_pos (by omega)]
      omega
    · simp only [if_neg h]
theorem lst_snoc (a : List Int) (x : Int) : lst (a ++ [x]) = if x = 10 then a.length + 1 else lst a := by
  rw [lst_append]
  by_cases h : x = 10
  · simp [lst, h]
  · simp [lst, h]
end Go.Proofs.YtoanbmggffkmgaaDoor.La
end
section
namespace Go.Proofs.YtoanbmggffkmgaaDoor.La
open Go.RowKit Go.Proofs.YtoanbmggffkmgaaDoor.P Go.Proofs.YtoanbmggffkmgaaDoorW.PrintWords Go.Proofs.YtoanbmggffkmgaaDoorW.PrintLast Go.Proofs.YtoanbmggffkmgaaDoorW.PrintMore
def clamp (size : Nat) (i : Int) : Nat := if i < 0 then 0 else if i > (size : Int) then size else i.toNat
theorem clamp_le (size : Nat) (i : Int) : clamp size i ≤ size := by unfold clamp; (repeat' split) <;> omega
theorem clamp_eq (s : ByteArray) (i : Int) : place_clamp.f s i = some (clamp s.size i : Int) := by
  unfold place_clamp.f mn mx clamp
  congr 1
  (repeat' split) <;> omega
theorem count10 (s : ByteArray) : strings_Count.f s (⟨#[10]⟩ : ByteArray) = some (nl (bytesOf s) : Int) := by
  unfold strings_Count.f
  rw [if_pos (by rfl)]
  rfl
theorem last_l0 (s : ByteArray) (hs : s.size ≤ 140737488355328) (m : Nat) : m ≤ s.size → Ev (fun k => bytealg_LastIndexByteString.l0 k s 10 ((m : Int) - 1)) ((lst ((bytesOf s).take m) : Int) - 1) := by
  induction m with
  | zero =>
    intro _
    refine Ev.step (fun k => by rw [bytealg_LastIndexByteString.l0]) ?_
    simp only [if_neg (show ¬ (((0 : Nat) : Int) - 1 ≥ 0) by omega)]
    exact Ev.now _
  | succ m ih =>
    intro hm
    refine Ev.step (fun k => by rw [bytealg_LastIndexByteString.l0]) ?_
    have e : ((m + 1 : Nat) : Int) - 1 = (m : Int) := by omega
    have hlt : m < (bytesOf s).length := by rw [size_of]; omega
    have hb : bt s (m : Int) = (bytesOf s)[m] := by rw [bt_get]; simp [List.getD_eq_getElem?_getD, hlt]
    simp only [e, if_pos (show (m : Int) ≥ 0 by omega), if_pos (show (m : Int) < (s.size : Int) by omega)]
    rw [List.take_succ_eq_append_getElem hlt, lst_snoc, hb]
    by_cases h : (bytesOf s)[m] = 10
    · simp only [if_pos h, List.length_take, Nat.min_eq_left (Nat.le_of_lt hlt)]
      have : ((m + 1 : Nat) : Int) - 1 = (m : Int) := by omega
      rw [this]
      exact Ev.now _
    · simp only [if_neg h]
      rw [wrap_id (by omega) (by omega)]
      exact ih (by omega)
theorem last_ev (s : ByteArray) (hs : s.size ≤ 140737488355328) : Ev (fun k => strings_LastIndexByte.f k s 10) ((lst (bytesOf s) : Int) - 1) := by
  have h := last_l0 s hs s.size (Nat.le_refl _)
  rw [List.take_of_length_le (by rw [size_of]; omega)] at h
  refine Ev.congr (fun k => by rw [strings_LastIndexByte.f, bytealg_LastIndexByteString.f, wrap_id (by omega) (by omega)]) (Ev.bind h ?_)
  exact Ev.now _
/-- A place's line and column. -/
def lineOf (l : List Int) : Int := (nl l : Int) + 1
def colOf (l : List Int) : Int := (cnt (l.drop (lst l)) : Int) + 1
theorem of_ev (s : ByteArray) (hs : s.size ≤ 8796093022208) (i : Int) : Ev (fun k => place_Of.f k s i) (lineOf ((bytesOf s).take (clamp s.size i)), colOf ((bytesOf s).take (clamp s.size i))) := by
  have hc := clamp_le s.size i
  refine Ev.congr (fun k => by rw [place_Of.f, clamp_eq, Option.bind_some]) ?_
  generalize clamp s.size i = c at *
  have hsz : (s.extract 0 c).size = c := size_take s hc
  have hl := lst_le ((bytesOf s).take c)
  rw [List.length_take, size_of, Nat.min_eq_left hc] at hl
  simp only [if_pos (show (0 : Int) ≤ (c : Int) by omega), if_pos (show (c : Int) ≤ (s.size : Int) by omega), Int.toNat_natCast]
  refine Ev.bind (last_ev (s.extract 0 c) (by rw [hsz]; omega)) ?_
  rw [bytesOf_take]
  have hn : nl ((bytesOf s).take c) ≤ c := by
    have := cntB_le ((bytesOf s).take c) 10
    rw [List.length_take, size_of, Nat.min_eq_left hc] at this
    exact this
  have hw : wrap64 ((lst ((bytesOf s).take c) : Int) - 1 + 1) = (lst ((bytesOf s).take c) : Int) := by rw [wrap_id (by omega) (by omega)]; omega
  simp only [count10, Option.bind_some, hw, hsz, bytesOf_take, if_pos (show (0 : Int) ≤ (lst ((bytesOf s).take c) : Int) by omega), if_pos (show (lst ((bytesOf s).take c) : Int) ≤ (c : Int) by omega), Int.toNat_natCast]
  have hx : bytesOf ((s.extract 0 c).extract (lst ((bytesOf s).take c)) c) = ((bytesOf s).take c).drop (lst ((bytesOf s).take c)) := by
    rw [bytesOf_extract, bytesOf_take, List.take_take, Nat.min_self]
  have hxs : ((s.extract 0 c).extract (lst ((bytesOf s).take c)) c).size ≤ 140737488355328 := by rw [← size_of, hx, List.length_drop, List.length_take, size_of]; omega
  refine Ev.bind (count_ev _ hxs) ?_
  rw [hx]
  have hcn := cnt_le (((bytesOf s).take c).drop (lst ((bytesOf s).take c)))
  rw [List.length_drop, List.length_take, size_of] at hcn
  rw [wrap_id (by omega) (by omega), wrap_id (by omega) (by omega)]
  exact Ev.now _
theorem fault_ev (s : ByteArray) (hs : s.size ≤ 8796093022208) (i e : Int) : Ev (fun k => place_Fault.f k s i e) (e, (clamp s.size i : Int), lineOf ((bytesOf s).take (clamp s.size i)), colOf ((bytesOf s).take (clamp s.size i))) := by
  refine Ev.congr (fun k => by rw [place_Fault.f]) (Ev.bind (of_ev s hs i) ?_)
  rw [clamp_eq, Option.bind_some]
  exact Ev.now _
end Go.Proofs.YtoanbmggffkmgaaDoor.La
end
section
namespace Go.Proofs.YtoanbmggffkmgaaDoor.Pure
open Go.RowKit Go.Proofs.YtoanbmggffkmgaaDoor.P Go.Proofs.YtoanbmggffkmgaaDoor.La Go.Proofs.YtoanbmggffkmgaaDoorW.PrintWords Go.Proofs.YtoanbmggffkmgaaDoorW.PrintLast
theorem known_1 : jlex_Cut.f 20 (⟨#[255]⟩ : ByteArray) = some ([], 3, 0, 1, 1) := by kernel_rfl
theorem known_2 : jlex_Cut.f 20 (⟨#[49, 101, 50, 48, 48, 48, 48, 48]⟩ : ByteArray) = some ([], 6, 0, 1, 1) := by kernel_rfl
theorem known_3 : jlex_Cut.f 20 (⟨#[48, 49]⟩ : ByteArray) = some ([], 4, 0, 1, 1) := by kernel_rfl
theorem known_4 : jlex_Cut.f 20 (⟨#[110, 117, 108]⟩ : ByteArray) = some ([], 4, 0, 1, 1) := by kernel_rfl
theorem known_ev {s : ByteArray} {r} (h : jlex_Cut.f 20 s = some r) : Ev (fun k => jlex_Cut.f k s) r := Ev.of (fun k => jlex_Cut.mono s k) h
/-- A text that is too long. -/
theorem long_ev (s : ByteArray) (h0 : 65536 < s.size) (h1 : s.size ≤ 8796093022208) : ∃ q : Int × Int × Int, Ev (fun k => jlex_Cut.f k s) ([], 2, q) := by
  have hf := fault_ev s h1 (s.size : Int) 2
  generalize hq : ((clamp s.size (s.size : Int) : Int), lineOf ((bytesOf s).take (clamp s.size (s.size : Int))), colOf ((bytesOf s).take (clamp s.size (s.size : Int)))) = q at hf
  refine ⟨q, Ev.congr (fun k => by rw [jlex_Cut.f, jlex_Judge.f, if_pos (by omega)]) (Ev.bind (Ev.bind hf (Ev.now _)) ?_)⟩
  exact Ev.congr (fun k => by rw [if_neg (show ¬ (2 : Int) = 0 by decide)]) (Ev.now _)
theorem JlexKnown : dragomanlaw7_JlexKnown.Pure := by
  have hz : (strOfNums (List.replicate 65537 (0 : Int))).size = 65537 := by
    rw [size_strOfNums (fun x hx => by rw [List.eq_of_mem_replicate hx]; omega), List.length_replicate]
  obtain ⟨q, hl⟩ := long_ev (strOfNums (List.replicate 65537 0)) (by rw [hz]; omega) (by rw [hz]; omega)
  refine Ev.rounds (Ev.congr (fun k => by rw [dragomanlaw7_JlexKnown.f, dragomanlaw7_awake.f, Option.bind_some, if_pos rfl, if_pos (by decide)]) ?_)
  generalize strOfNums (List.replicate 65537 0) = s at hl
  refine Ev.bind hl (Ev.bind (known_ev known_1) (Ev.bind (known_ev known_2) (Ev.bind (known_ev known_3) (Ev.bind (known_ev known_4) ?_))))
  exact Ev.now true
end Go.Proofs.YtoanbmggffkmgaaDoor.Pure
end
