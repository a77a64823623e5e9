/- Machine side of this seat: what each Go function answers, and that its call comes to it; printed by a program of this claim. -/
import Derived.Test.YtagjfnjfhflahaaPx0
import Derived.Test.YtagjfnjfhflahaaPxutfCount
import Derived.Test.YtagjfnjfhflahaaPxplaceclamp
import Derived.Test.YtagjfnjfhflahaaPxstringsLastIndexByte
import Derived.Test.YtagjfnjfhflahaaHaStrs
namespace Go.Proofs.Ytagjfnjfhflahaa.P
open Go.RowKit Go.Proofs.YtagjfnjfhflahaaW.PrintWords Go.Proofs.YtagjfnjfhflahaaW.PrintLast Go.Proofs.YtagjfnjfhflahaaW.PrintMore
attribute [local go_sem] max2_int min2_int max_two min_two max_three min_three max_four min_four   -- for this text's walks alone
set_option linter.unusedVariables false
set_option linter.unusedSimpArgs false

/-! ### place_Of: function 25 -/
def place_Of.f (k : Nat) (a0 : ByteArray) (a1 : Int) : Option (Int × Int) := (place_clamp.f a0 a1).bind fun t238 => (if 0 ≤ t238 then (if t238 ≤ (a0.size : Int) then ((strings_LastIndexByte.f k (a0.extract 0 (t238 : Int).toNat) 10).bind fun t239 => ((strings_Count.f (a0.extract 0 (t238 : Int).toNat) (⟨#[10]⟩ : ByteArray)).bind fun t240 => (if 0 ≤ (wrap64 (t239 + 1)) then (if (wrap64 (t239 + 1)) ≤ ((a0.extract 0 (t238 : Int).toNat).size : Int) then ((utf_Count.f k ((a0.extract 0 (t238 : Int).toNat).extract ((wrap64 (t239 + 1)) : Int).toNat (a0.extract 0 (t238 : Int).toNat).size)).bind fun t241 => (some (wrap64 (t240 + 1), wrap64 (t241 + 1)))) else (none)) else (none)))) else (none)) else (none))
theorem place_Of.mono : ∀ a0 a1 k, LeO (place_Of.f k a0 a1) (place_Of.f (k + 1) a0 a1) := by
  intro a0 a1 k
  unfold place_Of.f
  repeat' first
      | (with_reducible exact strings_LastIndexByte.mono _ _ _)
      | (with_reducible exact utf_Count.mono _ _)
      | (with_reducible exact LeO.refl _)
      | (with_reducible exact LeO.none _)
      | (with_reducible refine LeO.ite ?_ ?_)
      | (with_reducible refine LeO.bind ?_ (fun _ => ?_))
      | exact strings_LastIndexByte.mono _ _ _
      | exact utf_Count.mono _ _
      | exact LeO.none _
      | refine LeO.ite ?_ ?_
      | refine LeO.bind ?_ (fun _ => ?_)
def place_Of.T3 : Bool × List (List Nat × List Nat) := (true, [([], []), ([0], [0]), ([1], [1]), ([], []), ([], []), ([3, 4], [3, 4]), ([5, 1], [5]), ([6], [6]), ([2, 6, 0, 1, 2], [2]), ([7, 8, 0, 1, 2, 3, 4, 5, 6, 7, 8], [7])])
def place_Of.B3 : List Nat := [0, 1, 3, 0, 0, 24, 59, 123, 127, 511]
theorem place_Of.tab3 : rtab .any (opsOf Try.f25 3) = place_Of.T3 := by kernel_rfl
theorem place_Of.bits3 : waitsOk place_Of.T3.2 place_Of.B3 = true := by kernel_rfl
set_option maxHeartbeats 8000000 in
set_option maxRecDepth 100000 in
theorem place_Of.calls (k : Nat) (a0 : ByteArray) (a1 : Int) (r1 : Int) (r2 : Int) (w : World) (h : place_Of.f k a0 a1 = some (r1, r2)) :
    Calls Try.prog 25 #[.string a0, .int .i64 a1] w fun e w' => e = .returned (.tuple #[.int .i64 r1, .int .i64 r2]) ∧ Below w.heap.size w w' := by
  have HB := Aside0.mk (Below.refl w.heap.size w)
  have H : ((place_clamp.f a0 a1).bind fun t238 => (if 0 ≤ t238 then (if t238 ≤ (a0.size : Int) then ((strings_LastIndexByte.f k (a0.extract 0 (t238 : Int).toNat) 10).bind fun t239 => ((strings_Count.f (a0.extract 0 (t238 : Int).toNat) (⟨#[10]⟩ : ByteArray)).bind fun t240 => (if 0 ≤ (wrap64 (t239 + 1)) then (if (wrap64 (t239 + 1)) ≤ ((a0.extract 0 (t238 : Int).toNat).size : Int) then ((utf_Count.f k ((a0.extract 0 (t238 : Int).toNat).extract ((wrap64 (t239 + 1)) : Int).toNat (a0.extract 0 (t238 : Int).toNat).size)).bind fun t241 => (some (wrap64 (t240 + 1), wrap64 (t241 + 1)))) else (none)) else (none)))) else (none)) else (none))) = some (r1, r2) := h
  clear h
  replace H := Option.bind_eq_some_iff.mp H
  obtain ⟨t238, A30, H⟩ := H
  replace H : (if 0 ≤ t238 then (if t238 ≤ (a0.size : Int) then ((strings_LastIndexByte.f k (a0.extract 0 (t238 : Int).toNat) 10).bind fun t239 => ((strings_Count.f (a0.extract 0 (t238 : Int).toNat) (⟨#[10]⟩ : ByteArray)).bind fun t240 => (if 0 ≤ (wrap64 (t239 + 1)) then (if (wrap64 (t239 + 1)) ≤ ((a0.extract 0 (t238 : Int).toNat).size : Int) then ((utf_Count.f k ((a0.extract 0 (t238 : Int).toNat).extract ((wrap64 (t239 + 1)) : Int).toNat (a0.extract 0 (t238 : Int).toNat).size)).bind fun t241 => (some (wrap64 (t240 + 1), wrap64 (t241 + 1)))) else (none)) else (none)))) else (none)) else (none)) = some (r1, r2) := H
  have A3 := Aside0.mk A30
  clear A30
  by_cases c4 : 0 ≤ t238
  · rw [if_pos c4] at H
    have c4b0 := eq_true c4
    have c4b1 : decide (0 ≤ t238) = true := decide_eq_true c4
    clear c4
    by_cases c5 : t238 ≤ (a0.size : Int)
    · rw [if_pos c5] at H
      have c5b0 := eq_true c5
      have c5b1 : decide (t238 ≤ (a0.size : Int)) = true := decide_eq_true c5
      clear c5
      replace H := Option.bind_eq_some_iff.mp H
      obtain ⟨t239, A60, H⟩ := H
      replace H : ((strings_Count.f (a0.extract 0 (t238 : Int).toNat) (⟨#[10]⟩ : ByteArray)).bind fun t240 => (if 0 ≤ (wrap64 (t239 + 1)) then (if (wrap64 (t239 + 1)) ≤ ((a0.extract 0 (t238 : Int).toNat).size : Int) then ((utf_Count.f k ((a0.extract 0 (t238 : Int).toNat).extract ((wrap64 (t239 + 1)) : Int).toNat (a0.extract 0 (t238 : Int).toNat).size)).bind fun t241 => (some (wrap64 (t240 + 1), wrap64 (t241 + 1)))) else (none)) else (none))) = some (r1, r2) := H
      have A6 := Aside0.mk A60
      clear A60
      replace H := Option.bind_eq_some_iff.mp H
      obtain ⟨t240, A70, H⟩ := H
      replace H : (if 0 ≤ (wrap64 (t239 + 1)) then (if (wrap64 (t239 + 1)) ≤ ((a0.extract 0 (t238 : Int).toNat).size : Int) then ((utf_Count.f k ((a0.extract 0 (t238 : Int).toNat).extract ((wrap64 (t239 + 1)) : Int).toNat (a0.extract 0 (t238 : Int).toNat).size)).bind fun t241 => (some (wrap64 (t240 + 1), wrap64 (t241 + 1)))) else (none)) else (none)) = some (r1, r2) := H
      have A7 := Aside0.mk A70
      clear A70
      obtain ⟨ji8, hji8⟩ : ∃ j_ : Int, (wrap64 (t239 + 1)) = j_ := ⟨_, rfl⟩
      replace H : (if 0 ≤ (ji8) then (if (ji8) ≤ ((a0.extract 0 (t238 : Int).toNat).size : Int) then ((utf_Count.f k ((a0.extract 0 (t238 : Int).toNat).extract ((ji8) : Int).toNat (a0.extract 0 (t238 : Int).toNat).size)).bind fun t241 => (some (wrap64 (t240 + 1), wrap64 (t241 + 1)))) else (none)) else (none)) = some (r1, r2) := by first | (rw [hji8] at H; exact H) | (simp only [hji8] at H ⊢; exact H)
      (try rw [hji8] at A3)
      (try rw [hji8] at A6)
      (try rw [hji8] at A7)
      have hji8w : (IntKind.i64.wrap (t239 + 1)) = ji8 := (i64_w _).trans hji8
      by_cases c9 : 0 ≤ (ji8)
      · rw [if_pos c9] at H
        have c9b0 := eq_true c9
        have c9b1 : decide (0 ≤ (ji8)) = true := decide_eq_true c9
        clear c9
        by_cases c10 : (ji8) ≤ ((a0.extract 0 (t238 : Int).toNat).size : Int)
        · rw [if_pos c10] at H
          have c10b0 := eq_true c10
          have c10b1 : decide ((ji8) ≤ ((a0.extract 0 (t238 : Int).toNat).size : Int)) = true := decide_eq_true c10
          have c10x : (ji8 ≤ max t238 0) = True := eq_true (by have h1_ := of_decide_eq_true c10b1; rw [ByteArray.size_extract] at h1_; have h2_ := of_decide_eq_true c5b1; omega)
          clear c10
          replace H := Option.bind_eq_some_iff.mp H
          obtain ⟨t241, A110, H⟩ := H
          replace H : (some (wrap64 (t240 + 1), wrap64 (t241 + 1))) = some (r1, r2) := H
          have A11 := Aside0.mk A110
          clear A110
          simp only [Option.some.injEq, Prod.mk.injEq] at H
          obtain ⟨rfl, rfl⟩ := H
          go_enter Try.func25, Try.ntmps25
          try go_wp2_with (first | ((with_reducible refine gate_callee (f := 34) rfl ?_); refine goesL_ (some 11) rfl rfl Try.func34 (by kernel_rfl) rfl #[.string a0, .int .i64 a1] rfl (by (try simp only [List.map_toArray, List.map_cons, List.map_nil]); first | done | rfl | (simp only [List.length_drop, List.length_take]; rfl)) ?_; (with_reducible refine (place_clamp.calls a0 a1 t238 _ A3.out).mono ?_); rintro e w12 ⟨rfl, hb⟩; refine ⟨_, rfl, ?_⟩; have n0_ := Aside0.mk (below_step (by repeat (first | (with_reducible first | exact HB.out | apply below_alloc | apply pw_below_drewN | apply below_drew1) | exact HB.out)) hb); clear HB; have HB := n0_; clear n0_; (try clear hb); (try clear hb2); (try clear hk); (try clear hi)) | ((with_reducible refine gate_callee (f := 35) rfl ?_); refine goesL_ (some 14) rfl rfl Try.func35 (by kernel_rfl) rfl #[.string (a0.extract 0 (t238 : Int).toNat), .int .u8 10] rfl (by (try simp only [List.map_toArray, List.map_cons, List.map_nil]); first | done | rfl | (simp only [List.length_drop, List.length_take]; rfl)) ?_; (with_reducible refine (strings_LastIndexByte.calls k (a0.extract 0 (t238 : Int).toNat) 10 t239 _ A6.out).mono ?_); rintro e w' ⟨rfl, ⟨nd, rfl⟩⟩; refine ⟨_, rfl, ?_⟩))
          (try (rw [drewN_self w12]; generalize hq_ : World.drewN w12 _ = w12; have n0_ : Aside0 (Below w.heap.size w w12) := ⟨by rw [← hq_]; exact (by repeat (first | (with_reducible first | exact HB.out | apply below_alloc | apply pw_below_drewN | apply below_drew1) | exact HB.out))⟩; clear HB hq_; have HB := n0_; clear n0_))
          have n0_ := Aside0.mk (below_drew1 HB.out)
          clear HB
          have HB := n0_
          clear n0_
          refine start_ (n := 10) (S := fun w' => True) (ds := []) #[false, false, false, false, false, false, false, false, false, false] (by kernel_rfl) rfl rfl trivial (fun hHeld => ?_); refine with_tabW place_Of.tab3 place_Of.bits3 (fun HT_ HW_ => ?_)
          generalize w12.drew = w13 at HB hHeld ⊢
          refine pure_ (i := 0) (N := some 16) (v := ?_) (a' := ?_) #[true, false, false, false, false, false, false, false, false, false] rfl rfl (any_of HT_.out (by kernel_rfl)) (fun _ _ _ h => h) (Or.inl ⟨by rfl, ?_⟩) ?_ ?_
          rotate_left
          · intro w'
            go_simp
            with_reducible rfl
          rotate_left
          · simp only [Act.put, List.setIfInBounds_toArray, List.set_cons_zero, List.set_cons_succ, i64_w, i32_w]
            rfl
          refine pure_ (i := 3) (N := some 19) (v := ?_) (a' := ?_) #[true, false, false, true, false, false, false, false, false, false] rfl rfl (any_of HT_.out (by kernel_rfl)) (fun _ _ _ h => h) (Or.inl ⟨by rfl, ?_⟩) ?_ ?_
          rotate_left
          · intro w'
            go_simp
            with_reducible rfl
          rotate_left
          · simp only [Act.put, List.setIfInBounds_toArray, List.set_cons_zero, List.set_cons_succ, i64_w, i32_w]
            rfl
          refine pure_ (i := 4) (N := some 20) (v := ?_) (a' := ?_) #[true, false, false, true, true, false, false, false, false, false] rfl rfl (any_of HT_.out (by kernel_rfl)) (fun _ _ _ h => h) (Or.inl ⟨by rfl, ?_⟩) ?_ ?_
          rotate_left
          · intro w'
            go_simp
            with_reducible rfl
          rotate_left
          · simp only [Act.put, List.setIfInBounds_toArray, List.set_cons_zero, List.set_cons_succ, i64_w, i32_w]
            rfl
          refine pure_ (i := 5) (N := some 21) (v := ?_) (a' := ?_) #[true, false, false, true, true, true, false, false, false, false] rfl rfl (any_of HT_.out (by kernel_rfl)) (fun _ _ _ h => h) (Or.inl ⟨by rfl, ?_⟩) ?_ ?_
          rotate_left
          · intro w'
            go_simp
            with_reducible rfl
          rotate_left
          · simp only [Act.put, List.setIfInBounds_toArray, List.set_cons_zero, List.set_cons_succ, i64_w, i32_w]
            rfl
          refine one_ (i := 1) (N := some 17) #[true, true, false, true, true, true, false, false, false, false] rfl rfl (one_of HT_.out (by kernel_rfl)) (by decide) (fun K hK => ?_)
          refine goes_ Try.func36 (by kernel_rfl) rfl #[.string (a0.extract 0 (t238 : Int).toNat), .string (⟨#[10]⟩ : ByteArray)] (by rfl) rfl rfl (by (try simp only [List.map_toArray, List.map_cons, List.map_nil]); first | done | rfl | (simp only [List.length_drop, List.length_take]; rfl)) ?_
          with_reducible refine (strings_Count.calls (a0.extract 0 (t238 : Int).toNat) (⟨#[10]⟩ : ByteArray) t240 _ A7.out).mono ?_
          rintro e w' ⟨rfl, ⟨nd, rfl⟩⟩
          refine ⟨_, rfl, ?_⟩
          refine hK.out _ _ trivial (fun hHeld => ?_)
          clear hK K
          refine norm_ (a' := ?_) ?_ ?_
          rotate_left
          · show Act.put _ (some 17) _ = _
            simp only [Act.put, List.setIfInBounds_toArray, List.set_cons_zero, List.set_cons_succ, i64_w, i32_w]
            rfl
          refine pure_ (i := 2) (N := some 18) (v := ?_) (a' := ?_) #[true, true, true, true, true, true, false, false, false, false] rfl rfl (any_of HT_.out (by kernel_rfl)) (fun _ _ _ h => h) (Or.inl ⟨by rfl, ?_⟩) ?_ ?_
          rotate_left
          · intro w'
            go_simp
            with_reducible rfl
          rotate_left
          · simp only [Act.put, List.setIfInBounds_toArray, List.set_cons_zero, List.set_cons_succ, i64_w, i32_w]
            rfl
          refine one_ (i := 6) (N := some 22) #[true, true, true, true, true, true, true, false, false, false] rfl rfl (one_of HT_.out (by kernel_rfl)) (by decide) (fun K hK => ?_)
          refine goes_ Try.func21 (by kernel_rfl) rfl #[.string ((a0.extract 0 (t238 : Int).toNat).extract ((ji8) : Int).toNat (a0.extract 0 (t238 : Int).toNat).size)] (by rfl) rfl rfl (by (try simp only [List.map_toArray, List.map_cons, List.map_nil]); first | done | (rw [show (a0.extract 0 (t238 : Int).toNat).size = (t238 : Int).toNat from (by rw [ByteArray.size_extract]; have h2_ := of_decide_eq_true c5b1; have h1_ := of_decide_eq_true c4b1; omega)]; rfl) | (simp only [hji8]; rfl) | rfl | (simp only [List.length_drop, List.length_take]; rfl)) ?_
          with_reducible refine (utf_Count.calls k ((a0.extract 0 (t238 : Int).toNat).extract ((ji8) : Int).toNat (a0.extract 0 (t238 : Int).toNat).size) t241 _ A11.out).mono ?_
          rintro e w14 ⟨rfl, hb⟩
          refine ⟨_, rfl, ?_⟩
          have n0_ := Aside0.mk (below_step (by repeat (first | (with_reducible first | exact HB.out | apply below_alloc | apply pw_below_drewN | apply below_drew1) | exact HB.out)) hb)
          clear HB
          have HB := n0_
          clear n0_
          (try clear hb)
          (try clear hb2)
          (try clear hk)
          (try clear hi)
          refine hK.out _ _ trivial (fun hHeld => ?_)
          clear hK K
          refine norm_ (a' := ?_) ?_ ?_
          rotate_left
          · show Act.put _ (some 22) _ = _
            simp only [Act.put, List.setIfInBounds_toArray, List.set_cons_zero, List.set_cons_succ, i64_w, i32_w]
            rfl
          refine pure_ (i := 7) (N := some 23) (v := ?_) (a' := ?_) #[true, true, true, true, true, true, true, true, false, false] rfl rfl (any_of HT_.out (by kernel_rfl)) (fun _ _ _ h => h) (Or.inl ⟨by rfl, ?_⟩) ?_ ?_
          rotate_left
          · intro w'
            go_simp
            with_reducible rfl
          rotate_left
          · simp only [Act.put, List.setIfInBounds_toArray, List.set_cons_zero, List.set_cons_succ, i64_w, i32_w]
            rfl
          refine pure_ (i := 8) (N := some 4) (v := ?_) (a' := ?_) #[true, true, true, true, true, true, true, true, true, false] rfl rfl (any_of HT_.out (by kernel_rfl)) (fun _ _ _ h => h) (Or.inl ⟨by rfl, ?_⟩) ?_ ?_
          rotate_left
          · intro w'
            go_simp
            with_reducible rfl
          rotate_left
          · simp only [Act.put, List.setIfInBounds_toArray, List.set_cons_zero, List.set_cons_succ, i64_w, i32_w]
            rfl
          refine pure_ (i := 9) (N := some 5) (v := ?_) (a' := ?_) #[true, true, true, true, true, true, true, true, true, true] rfl rfl (any_of HT_.out (by kernel_rfl)) (fun _ _ _ h => h) (Or.inl ⟨by rfl, ?_⟩) ?_ ?_
          rotate_left
          · intro w'
            go_simp
            with_reducible rfl
          rotate_left
          · simp only [Act.put, List.setIfInBounds_toArray, List.set_cons_zero, List.set_cons_succ, i64_w, i32_w]
            rfl
          refine done_ (done_of HT_.out (by kernel_rfl)) ?_
          try go_wp2
          go_ret2
          exact ⟨by first | rfl | (simp [errW_none, errW_some] <;> rfl) | (simp [*, errW_none, errW_some, bne]; done) | (simp only [← hji8]; first | rfl | (simp [errW_none, errW_some] <;> rfl)) | (simp [*, errW_none, errW_some] <;> rfl), by repeat (first | (with_reducible first | exact HB.out | apply below_alloc | apply pw_below_drewN | apply below_drew1) | exact HB.out)⟩
        · rw [if_neg c10] at H
          exact absurd H (by simp)
      · rw [if_neg c9] at H
        exact absurd H (by simp)
    · rw [if_neg c5] at H
      exact absurd H (by simp)
  · rw [if_neg c4] at H
    exact absurd H (by simp)

end Go.Proofs.Ytagjfnjfhflahaa.P
