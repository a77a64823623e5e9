/- What strings.IndexByte and strings.Count (of one byte) answer, told by lists of numbers, and that their calls come to it; on condition that the byte is one, the text that is counted has one byte. -/
import Derived.Test.YtagjfnjfhflahaaLaStr
import Derived.Test.YtagjfnjfhflahaaHaShelf
import Derived.WalkKit
namespace Go.Proofs.Ytagjfnjfhflahaa.P
open Go.RowKit Go.Proofs.Ytagjfnjfhflahaa.La Go.Proofs.YtagjfnjfhflahaaW.PrintWords Go.Proofs.YtagjfnjfhflahaaW.PrintLast Go.Proofs.YtagjfnjfhflahaaW.PrintMore

def strings_IndexByte.f (a0 : ByteArray) (a1 : Int) : Option Int := if 0 ≤ a1 ∧ a1 < 256 then some (idx (bytesOf a0) a1) else none
theorem strings_IndexByte.calls (a0 : ByteArray) (a1 : Int) (r : Int) (w : World) (h : strings_IndexByte.f a0 a1 = some r) :
    Calls Try.prog 37 #[.string a0, .int .u8 a1] w fun e w' => e = .returned (.int .i64 r) ∧ Drawn0 w w' := by
  unfold strings_IndexByte.f at h
  split at h
  · rename_i hc
    obtain rfl := Option.some.inj h
    refine (Try.strings_IndexByte a0 a1 w).mono fun e w' he => ?_
    obtain ⟨rfl, rfl⟩ := he
    exact ⟨by rw [idx_of _ hc.1 hc.2]; rfl, Drawn0.refl _⟩
  · cases h

def strings_Count.f (a0 a1 : ByteArray) : Option Int := if a1.size = 1 then some (cntB (bytesOf a0) (bt a1 0) : Int) else none
theorem strings_Count.calls (a0 a1 : ByteArray) (r : Int) (w : World) (h : strings_Count.f a0 a1 = some r) :
    Calls Try.prog 36 #[.string a0, .string a1] w fun e w' => e = .returned (.int .i64 r) ∧ Drawn0 w w' := by
  unfold strings_Count.f at h
  split at h
  · rename_i hc
    obtain rfl := Option.some.inj h
    have hb := bt_range a1 0
    have ha : a1 = ⟨#[(bt a1 0).toNat.toUInt8]⟩ := by
      apply bytesOf_inj
      have hl : (bytesOf a1).length = 1 := by rw [size_of, hc]
      match hm : bytesOf a1, hl with
      | [x], _ =>
        have h1 : bt a1 0 = x := by rw [bt_get, hm]; rfl
        have h2 := bytes_of a1 x (by rw [hm]; exact List.mem_cons_self)
        rw [h1]
        simp only [bytesOf_data, List.map_cons, List.map_nil, u8_of h2.1 h2.2]
    have := Try.strings_Count_one a0 (bt a1 0).toNat.toUInt8 w
    rw [← ha] at this
    refine this.mono fun e w' he => ?_
    obtain ⟨rfl, rfl⟩ := he
    exact ⟨by rw [cntB_of _ hb.1 (by omega)]; rfl, Drawn0.refl _⟩
  · cases h

end Go.Proofs.Ytagjfnjfhflahaa.P
