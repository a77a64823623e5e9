/- Machine side of this seat: what each Go function answers, and that its call comes to it; printed by a program of this claim. -/
import Derived.Test.YtagjfnjfhflahaaPx0
import Derived.Test.YtagjfnjfhflahaaPxdragomanref1
import Derived.Test.YtagjfnjfhflahaaPxplace
import Derived.Test.YtagjfnjfhflahaaHaAwake2
namespace Go.Proofs.Ytagjfnjfhflahaa.P
open Go.RowKit Go.Proofs.YtagjfnjfhflahaaW.PrintWords Go.Proofs.YtagjfnjfhflahaaW.PrintLast Go.Proofs.YtagjfnjfhflahaaW.PrintMore
attribute [local go_sem] max2_int min2_int max_two min_two max_three min_three max_four min_four   -- for this text's walks alone
set_option linter.unusedVariables false
set_option linter.unusedSimpArgs false

/-! ### dragomanlaw2_PlaceBack: function 10 -/
def dragomanlaw2_PlaceBack.j0 : Nat → ByteArray → Int → Bool → Option (Bool)
  | 0, _, _, _ => none
  | k + 1, x0, x1, x36 => if x36 = true then (some true) else ((place_Of.f k x0 x1).bind fun bt285 => ((place_Begin.f k x0 bt285.1).bind fun bt287 => (if bt287.2 = true then (if bt287.1 > x1 then (some false) else (if 0 ≤ bt287.1 then (if bt287.1 ≤ (x0.size : Int) then ((dragomanref1_Starts.f k (x0.extract (bt287.1 : Int).toNat x0.size)).bind fun t289 => (if (wrap64 (bt285.2 - 1)) < (t289.length : Int) then (if 0 ≤ (wrap64 (bt285.2 - 1)) then (some ((wrap64 ((rd t289 (wrap64 (bt285.2 - 1))) + bt287.1)) == x1)) else (none)) else (some false))) else (none)) else (none))) else (some false))))
def dragomanlaw2_PlaceBack.f (k : Nat) (a0 : ByteArray) (a1 : Int) : Option (Bool) := (dragomanlaw2_awake.f).bind fun t282 => (if t282 = true then (if (a0.size : Int) > 300 then (dragomanlaw2_PlaceBack.j0 k a0 a1 true) else (if a1 < 0 then (dragomanlaw2_PlaceBack.j0 k a0 a1 true) else (if a1 > (a0.size : Int) then (dragomanlaw2_PlaceBack.j0 k a0 a1 true) else ((dragomanref1_Valid.f k a0).bind fun t283 => (if t283 ≥ 0 then (dragomanlaw2_PlaceBack.j0 k a0 a1 true) else (if 0 ≤ a1 then (if a1 ≤ (a0.size : Int) then ((dragomanref1_Valid.f k (a0.extract 0 (a1 : Int).toNat)).bind fun t284 => (dragomanlaw2_PlaceBack.j0 k a0 a1 (decide (t284 ≥ 0)))) else (none)) else (none))))))) else (some false))
theorem dragomanlaw2_PlaceBack.mono_l : ∀ k, (∀ y0 y1 y2, LeO (dragomanlaw2_PlaceBack.j0 k y0 y1 y2) (dragomanlaw2_PlaceBack.j0 (k + 1) y0 y1 y2))
  | 0 => fun _ _ _ r h => by simp [dragomanlaw2_PlaceBack.j0] at h
  | k + 1 => by
    have ih0 := dragomanlaw2_PlaceBack.mono_l k
    · intro y0 y1 y2
      unfold dragomanlaw2_PlaceBack.j0
      repeat' first
      | (with_reducible exact ih0 _ _ _)
      | (with_reducible exact dragomanref1_Starts.mono _ _)
      | (with_reducible exact dragomanref1_Valid.mono _ _)
      | (with_reducible exact place_Begin.mono _ _ _)
      | (with_reducible exact place_Of.mono _ _ _)
      | (with_reducible exact LeO.refl _)
      | (with_reducible exact LeO.none _)
      | (with_reducible refine LeO.ite ?_ ?_)
      | (with_reducible refine LeO.bind ?_ (fun _ => ?_))
      | exact ih0 _ _ _
      | exact dragomanref1_Starts.mono _ _
      | exact dragomanref1_Valid.mono _ _
      | exact place_Begin.mono _ _ _
      | exact place_Of.mono _ _ _
      | exact LeO.none _
      | refine LeO.ite ?_ ?_
      | refine LeO.bind ?_ (fun _ => ?_)
theorem dragomanlaw2_PlaceBack.mono : ∀ a0 a1 k, LeO (dragomanlaw2_PlaceBack.f k a0 a1) (dragomanlaw2_PlaceBack.f (k + 1) a0 a1) := by
  intro a0 a1 k
  have ih0 := dragomanlaw2_PlaceBack.mono_l k
  unfold dragomanlaw2_PlaceBack.f
  repeat' first
      | (with_reducible exact ih0 _ _ _)
      | (with_reducible exact dragomanref1_Starts.mono _ _)
      | (with_reducible exact dragomanref1_Valid.mono _ _)
      | (with_reducible exact place_Begin.mono _ _ _)
      | (with_reducible exact place_Of.mono _ _ _)
      | (with_reducible exact LeO.refl _)
      | (with_reducible exact LeO.none _)
      | (with_reducible refine LeO.ite ?_ ?_)
      | (with_reducible refine LeO.bind ?_ (fun _ => ?_))
      | exact ih0 _ _ _
      | exact dragomanref1_Starts.mono _ _
      | exact dragomanref1_Valid.mono _ _
      | exact place_Begin.mono _ _ _
      | exact place_Of.mono _ _ _
      | exact LeO.none _
      | refine LeO.ite ?_ ?_
      | refine LeO.bind ?_ (fun _ => ?_)
set_option maxHeartbeats 8000000 in
set_option maxRecDepth 100000 in
theorem dragomanlaw2_PlaceBack.calls (k : Nat) (a0 : ByteArray) (a1 : Int) (r : Bool) (w : World) (h : dragomanlaw2_PlaceBack.f k a0 a1 = some r) :
    Calls Try.prog 10 #[.string a0, .int .i64 a1] w fun e w' => e = .returned (.bool r) ∧ Below w.heap.size w w' := by
  have HB := Aside0.mk (Below.refl w.heap.size w)
  have H : ((dragomanlaw2_awake.f).bind fun t282 => (if t282 = true then (if (a0.size : Int) > 300 then (dragomanlaw2_PlaceBack.j0 k a0 a1 true) else (if a1 < 0 then (dragomanlaw2_PlaceBack.j0 k a0 a1 true) else (if a1 > (a0.size : Int) then (dragomanlaw2_PlaceBack.j0 k a0 a1 true) else ((dragomanref1_Valid.f k a0).bind fun t283 => (if t283 ≥ 0 then (dragomanlaw2_PlaceBack.j0 k a0 a1 true) else (if 0 ≤ a1 then (if a1 ≤ (a0.size : Int) then ((dragomanref1_Valid.f k (a0.extract 0 (a1 : Int).toNat)).bind fun t284 => (dragomanlaw2_PlaceBack.j0 k a0 a1 (decide (t284 ≥ 0)))) else (none)) else (none))))))) else (some false))) = some r := h
  clear h
  replace H := Option.bind_eq_some_iff.mp H
  obtain ⟨t282, A30, H⟩ := H
  replace H : (if t282 = true then (if (a0.size : Int) > 300 then (dragomanlaw2_PlaceBack.j0 k a0 a1 true) else (if a1 < 0 then (dragomanlaw2_PlaceBack.j0 k a0 a1 true) else (if a1 > (a0.size : Int) then (dragomanlaw2_PlaceBack.j0 k a0 a1 true) else ((dragomanref1_Valid.f k a0).bind fun t283 => (if t283 ≥ 0 then (dragomanlaw2_PlaceBack.j0 k a0 a1 true) else (if 0 ≤ a1 then (if a1 ≤ (a0.size : Int) then ((dragomanref1_Valid.f k (a0.extract 0 (a1 : Int).toNat)).bind fun t284 => (dragomanlaw2_PlaceBack.j0 k a0 a1 (decide (t284 ≥ 0)))) else (none)) else (none))))))) else (some false)) = some r := H
  have A3 := Aside0.mk A30
  clear A30
  by_cases c4 : t282 = true
  · subst c4
    have H1 : (if (a0.size : Int) > 300 then (dragomanlaw2_PlaceBack.j0 k a0 a1 true) else (if a1 < 0 then (dragomanlaw2_PlaceBack.j0 k a0 a1 true) else (if a1 > (a0.size : Int) then (dragomanlaw2_PlaceBack.j0 k a0 a1 true) else ((dragomanref1_Valid.f k a0).bind fun t283 => (if t283 ≥ 0 then (dragomanlaw2_PlaceBack.j0 k a0 a1 true) else (if 0 ≤ a1 then (if a1 ≤ (a0.size : Int) then ((dragomanref1_Valid.f k (a0.extract 0 (a1 : Int).toNat)).bind fun t284 => (dragomanlaw2_PlaceBack.j0 k a0 a1 (decide (t284 ≥ 0)))) else (none)) else (none))))))) = some r := by rw [if_pos rfl] at H; exact H
    clear H
    have H := H1
    clear H1
    have HC5 := Aside0.mk H
    clear H
    go_enter Try.func10, Try.ntmps10
    go_upto_region 3 with (first | ((with_reducible refine gate_callee (f := 24) rfl ?_); refine goesL_ (some 10) rfl rfl Try.func24 (by kernel_rfl) rfl #[] rfl (by (try simp only [List.map_toArray, List.map_cons, List.map_nil]); first | done | rfl | (simp only [List.length_drop, List.length_take]; rfl)) ?_; (with_reducible refine (dragomanlaw2_awake.calls  true _ A3.out).mono ?_); rintro e w6 ⟨rfl, hb⟩; refine ⟨_, rfl, ?_⟩; have n0_ := Aside0.mk (below_step (by repeat (first | (with_reducible first | exact HB.out | apply below_alloc | apply pw_below_drewN | apply below_drew1) | exact HB.out)) hb); clear HB; have HB := n0_; clear n0_; (try clear hb); (try clear hb2); (try clear hk); (try clear hi)))
    (try simp only [Act.put, List.setIfInBounds_toArray, List.set_cons_zero, List.set_cons_succ])
    go_cut [36] (fun v36 wc => ∃ (kq : Nat) (x36_4 : Bool), v36 = .bool x36_4 ∧ Aside0 (dragomanlaw2_PlaceBack.j0 kq a0 a1 x36_4 = some r) ∧ Aside0 (kq ≤ k) ∧ Aside0 (Below w.heap.size w wc))
    case first =>
      have H := HC5.out
      clear HC5
      by_cases c7 : (a0.size : Int) > 300
      · rw [if_pos c7] at H
        have c7b0 : decide (300 < (a0.size : Int)) = true := decide_eq_true c7
        have c7b1 : decide (300 < a0.size) = true := decide_eq_true (by omega)
        clear c7
        (first | rw [c7b0] | (simp only [i64_w, i32_w]; rw [c7b0]) | skip)
        have H' := Aside0.mk H
        clear H
        go_wp2
        go_meet
        case rel => exact ⟨_, (true), (by first | rfl | (simp; done) | (simp [*]; done)), H', ⟨by first | omega | exact Nat.le_refl _⟩, ⟨by repeat (first | (with_reducible first | exact HB.out | apply below_alloc | apply pw_below_drewN | apply below_drew1) | exact HB.out)⟩⟩
      · rw [if_neg c7] at H
        have c7b0 : decide (300 < (a0.size : Int)) = false := decide_eq_false c7
        have c7b1 : decide (300 < a0.size) = false := decide_eq_false (by omega)
        clear c7
        (first | rw [c7b0] | (simp only [i64_w, i32_w]; rw [c7b0]) | skip)
        by_cases c8 : a1 < 0
        · rw [if_pos c8] at H
          have c8b0 : decide (a1 < 0) = true := decide_eq_true c8
          clear c8
          have H' := Aside0.mk H
          clear H
          go_wp2
          go_meet
          case rel => exact ⟨_, (true), (by first | rfl | (simp; done) | (simp [*]; done)), H', ⟨by first | omega | exact Nat.le_refl _⟩, ⟨by repeat (first | (with_reducible first | exact HB.out | apply below_alloc | apply pw_below_drewN | apply below_drew1) | exact HB.out)⟩⟩
        · rw [if_neg c8] at H
          have c8b0 : decide (a1 < 0) = false := decide_eq_false c8
          clear c8
          by_cases c9 : a1 > (a0.size : Int)
          · rw [if_pos c9] at H
            have c9b0 : decide ((a0.size : Int) < a1) = true := decide_eq_true c9
            clear c9
            have H' := Aside0.mk H
            clear H
            go_wp2
            go_meet
            case rel => exact ⟨_, (true), (by first | rfl | (simp; done) | (simp [*]; done)), H', ⟨by first | omega | exact Nat.le_refl _⟩, ⟨by repeat (first | (with_reducible first | exact HB.out | apply below_alloc | apply pw_below_drewN | apply below_drew1) | exact HB.out)⟩⟩
          · rw [if_neg c9] at H
            have c9b0 : decide ((a0.size : Int) < a1) = false := decide_eq_false c9
            clear c9
            replace H := Option.bind_eq_some_iff.mp H
            obtain ⟨t283, A100, H⟩ := H
            replace H : (if t283 ≥ 0 then (dragomanlaw2_PlaceBack.j0 k a0 a1 true) else (if 0 ≤ a1 then (if a1 ≤ (a0.size : Int) then ((dragomanref1_Valid.f k (a0.extract 0 (a1 : Int).toNat)).bind fun t284 => (dragomanlaw2_PlaceBack.j0 k a0 a1 (decide (t284 ≥ 0)))) else (none)) else (none))) = some r := H
            have A10 := Aside0.mk A100
            clear A100
            by_cases c11 : t283 ≥ 0
            · rw [if_pos c11] at H
              have c11b0 : decide (0 ≤ t283) = true := decide_eq_true c11
              clear c11
              have H' := Aside0.mk H
              clear H
              go_wp2_with (first | (go_at_call 19; (with_reducible refine (dragomanref1_Valid.calls k a0 t283 _ A10.out).mono ?_); rintro e w12 ⟨rfl, hb⟩; have n0_ := Aside0.mk (below_step (by repeat (first | (with_reducible first | exact HB.out | apply below_alloc | apply pw_below_drewN | apply below_drew1) | exact HB.out)) hb); clear HB; have HB := n0_; clear n0_; (try clear hb); (try clear hb2); (try clear hk); (try clear hi)))
              go_meet
              case rel => exact ⟨_, (true), (by first | rfl | (simp; done) | (simp [*]; done)), H', ⟨by first | omega | exact Nat.le_refl _⟩, ⟨by repeat (first | (with_reducible first | exact HB.out | apply below_alloc | apply pw_below_drewN | apply below_drew1) | exact HB.out)⟩⟩
            · rw [if_neg c11] at H
              have c11b0 : decide (0 ≤ t283) = false := decide_eq_false c11
              clear c11
              by_cases c13 : 0 ≤ a1
              · rw [if_pos c13] at H
                have c13b0 := eq_true c13
                have c13b1 : decide (0 ≤ a1) = true := decide_eq_true c13
                clear c13
                by_cases c14 : a1 ≤ (a0.size : Int)
                · rw [if_pos c14] at H
                  have c14b0 := eq_true c14
                  have c14b1 : decide (a1 ≤ (a0.size : Int)) = true := decide_eq_true c14
                  clear c14
                  replace H := Option.bind_eq_some_iff.mp H
                  obtain ⟨t284, A150, H⟩ := H
                  replace H : (dragomanlaw2_PlaceBack.j0 k a0 a1 (decide (t284 ≥ 0))) = some r := H
                  have A15 := Aside0.mk A150
                  clear A150
                  have H' := Aside0.mk H
                  clear H
                  go_wp2_with (first | (go_at_call 19; (with_reducible refine (dragomanref1_Valid.calls k a0 t283 _ A10.out).mono ?_); rintro e w16 ⟨rfl, hb⟩; have n0_ := Aside0.mk (below_step (by repeat (first | (with_reducible first | exact HB.out | apply below_alloc | apply pw_below_drewN | apply below_drew1) | exact HB.out)) hb); clear HB; have HB := n0_; clear n0_; (try clear hb); (try clear hb2); (try clear hk); (try clear hi)) | (go_at_call 19; (with_reducible refine (dragomanref1_Valid.calls k (a0.extract 0 (a1 : Int).toNat) t284 _ A15.out).mono ?_); rintro e w17 ⟨rfl, hb⟩; have n0_ := Aside0.mk (below_step (by repeat (first | (with_reducible first | exact HB.out | apply below_alloc | apply pw_below_drewN | apply below_drew1) | exact HB.out)) hb); clear HB; have HB := n0_; clear n0_; (try clear hb); (try clear hb2); (try clear hk); (try clear hi)))
                  go_meet
                  case rel => exact ⟨_, (decide (t284 ≥ 0)), (by first | rfl | (simp; done) | (simp [*]; done)), H', ⟨by first | omega | exact Nat.le_refl _⟩, ⟨by repeat (first | (with_reducible first | exact HB.out | apply below_alloc | apply pw_below_drewN | apply below_drew1) | exact HB.out)⟩⟩
                · rw [if_neg c14] at H
                  exact absurd H (by simp)
              · rw [if_neg c13] at H
                exact absurd H (by simp)
    case rest =>
      clear HC5
      try clear c1
      try clear c2
      try clear p2
      try clear c4
      try clear c7
      try clear c7b0
      try clear c7b1
      try clear c8
      try clear c8b0
      try clear c9
      try clear c9b0
      try clear c10
      try clear c11
      try clear c11b0
      try clear c13
      try clear c13b0
      try clear c13b1
      try clear c14
      try clear c14b0
      try clear c14b1
      obtain ⟨kq, x36_4, rfl, HA, HJ4, HB⟩ := hcut
      cases kq with
      | zero => exact absurd HA.out (by simp [dragomanlaw2_PlaceBack.j0])
      | succ kj4 =>
        have H := HA.out
        clear HA
        simp only [dragomanlaw2_PlaceBack.j0] at H
        by_cases c18 : x36_4 = true
        · subst c18
          have H1 : (some true) = some r := by rw [if_pos rfl] at H; exact H
          clear H
          have H := H1
          clear H1
          obtain rfl := Option.some.inj H
          go_wp2
          go_ret
          exact ⟨by first | rfl | (simp [errW_none, errW_some] <;> rfl) | (simp [*, errW_none, errW_some, bne]; done) | (simp [*, errW_none, errW_some] <;> rfl), by repeat (first | (with_reducible first | exact HB.out | apply below_alloc | apply pw_below_drewN | apply below_drew1) | exact HB.out)⟩
        · replace c18 := Bool.eq_false_iff.mpr c18
          subst c18
          have H1 : ((place_Of.f kj4 a0 a1).bind fun bt285 => ((place_Begin.f kj4 a0 bt285.1).bind fun bt287 => (if bt287.2 = true then (if bt287.1 > a1 then (some false) else (if 0 ≤ bt287.1 then (if bt287.1 ≤ (a0.size : Int) then ((dragomanref1_Starts.f kj4 (a0.extract (bt287.1 : Int).toNat a0.size)).bind fun t289 => (if (wrap64 (bt285.2 - 1)) < (t289.length : Int) then (if 0 ≤ (wrap64 (bt285.2 - 1)) then (some ((wrap64 ((rd t289 (wrap64 (bt285.2 - 1))) + bt287.1)) == a1)) else (none)) else (some false))) else (none)) else (none))) else (some false)))) = some r := by rw [if_neg (show ¬ (false = true) by decide)] at H; exact H
          clear H
          have H := H1
          clear H1
          replace H := Option.bind_eq_some_iff.mp H
          obtain ⟨⟨t285, t286⟩, A190, H⟩ := H
          replace H : ((place_Begin.f kj4 a0 t285).bind fun bt287 => (if bt287.2 = true then (if bt287.1 > a1 then (some false) else (if 0 ≤ bt287.1 then (if bt287.1 ≤ (a0.size : Int) then ((dragomanref1_Starts.f kj4 (a0.extract (bt287.1 : Int).toNat a0.size)).bind fun t289 => (if (wrap64 (t286 - 1)) < (t289.length : Int) then (if 0 ≤ (wrap64 (t286 - 1)) then (some ((wrap64 ((rd t289 (wrap64 (t286 - 1))) + bt287.1)) == a1)) else (none)) else (some false))) else (none)) else (none))) else (some false))) = some r := H
          have A19 := Aside0.mk A190
          clear A190
          replace H := Option.bind_eq_some_iff.mp H
          obtain ⟨⟨t287, t288⟩, A200, H⟩ := H
          replace H : (if t288 = true then (if t287 > a1 then (some false) else (if 0 ≤ t287 then (if t287 ≤ (a0.size : Int) then ((dragomanref1_Starts.f kj4 (a0.extract (t287 : Int).toNat a0.size)).bind fun t289 => (if (wrap64 (t286 - 1)) < (t289.length : Int) then (if 0 ≤ (wrap64 (t286 - 1)) then (some ((wrap64 ((rd t289 (wrap64 (t286 - 1))) + t287)) == a1)) else (none)) else (some false))) else (none)) else (none))) else (some false)) = some r := H
          have A20 := Aside0.mk A200
          clear A200
          by_cases c21 : t288 = true
          · subst c21
            have H1 : (if t287 > a1 then (some false) else (if 0 ≤ t287 then (if t287 ≤ (a0.size : Int) then ((dragomanref1_Starts.f kj4 (a0.extract (t287 : Int).toNat a0.size)).bind fun t289 => (if (wrap64 (t286 - 1)) < (t289.length : Int) then (if 0 ≤ (wrap64 (t286 - 1)) then (some ((wrap64 ((rd t289 (wrap64 (t286 - 1))) + t287)) == a1)) else (none)) else (some false))) else (none)) else (none))) = some r := by rw [if_pos rfl] at H; exact H
            clear H
            have H := H1
            clear H1
            by_cases c22 : t287 > a1
            · rw [if_pos c22] at H
              have c22b0 : decide (a1 < t287) = true := decide_eq_true c22
              clear c22
              obtain rfl := Option.some.inj H
              go_wp2_with (first | ((with_reducible refine gate_callee (f := 25) rfl ?_); refine goesL_ (some 40) rfl rfl Try.func25 (by kernel_rfl) rfl #[.string a0, .int .i64 a1] rfl (by (try simp only [List.map_toArray, List.map_cons, List.map_nil]); first | done | rfl | (simp only [List.length_drop, List.length_take]; rfl)) ?_; (with_reducible refine (place_Of.calls kj4 a0 a1 t285 t286 _ A19.out).mono ?_); rintro e w23 ⟨rfl, hb⟩; refine ⟨_, rfl, ?_⟩; have n0_ := Aside0.mk (below_step (by repeat (first | (with_reducible first | exact HB.out | apply below_alloc | apply pw_below_drewN | apply below_drew1) | exact HB.out)) hb); clear HB; have HB := n0_; clear n0_; (try clear hb); (try clear hb2); (try clear hk); (try clear hi)) | ((with_reducible refine gate_callee (f := 26) rfl ?_); refine goesL_ (some 46) rfl rfl Try.func26 (by kernel_rfl) rfl #[.string a0, .int .i64 t285] rfl (by (try simp only [List.map_toArray, List.map_cons, List.map_nil]); first | done | rfl | (simp only [List.length_drop, List.length_take]; rfl)) ?_; (with_reducible refine (place_Begin.calls kj4 a0 t285 t287 true _ A20.out).mono ?_); rintro e w' ⟨rfl, ⟨nd, rfl⟩⟩; refine ⟨_, rfl, ?_⟩))
              go_ret
              exact ⟨by first | rfl | (simp [errW_none, errW_some] <;> rfl) | (simp [*, errW_none, errW_some, bne]; done) | (simp [*, errW_none, errW_some] <;> rfl), by repeat (first | (with_reducible first | exact HB.out | apply below_alloc | apply pw_below_drewN | apply below_drew1) | exact HB.out)⟩
            · rw [if_neg c22] at H
              have c22b0 : decide (a1 < t287) = false := decide_eq_false c22
              clear c22
              by_cases c24 : 0 ≤ t287
              · rw [if_pos c24] at H
                have c24b0 := eq_true c24
                have c24b1 : decide (0 ≤ t287) = true := decide_eq_true c24
                clear c24
                by_cases c25 : t287 ≤ (a0.size : Int)
                · rw [if_pos c25] at H
                  have c25b0 := eq_true c25
                  have c25b1 : decide (t287 ≤ (a0.size : Int)) = true := decide_eq_true c25
                  clear c25
                  replace H := Option.bind_eq_some_iff.mp H
                  obtain ⟨t289, A260, H⟩ := H
                  replace H : (if (wrap64 (t286 - 1)) < (t289.length : Int) then (if 0 ≤ (wrap64 (t286 - 1)) then (some ((wrap64 ((rd t289 (wrap64 (t286 - 1))) + t287)) == a1)) else (none)) else (some false)) = some r := H
                  have A26 := Aside0.mk A260
                  clear A260
                  by_cases c27 : (wrap64 (t286 - 1)) < (t289.length : Int)
                  · rw [if_pos c27] at H
                    have c27b0 : decide ((wrap64 (t286 - 1)) < (t289.length : Int)) = true := decide_eq_true c27
                    clear c27
                    obtain ⟨ji28, hji28⟩ : ∃ j_ : Int, (wrap64 (t286 - 1)) = j_ := ⟨_, rfl⟩
                    replace H : (if 0 ≤ (ji28) then (some ((wrap64 ((rd t289 (ji28)) + t287)) == a1)) else (none)) = some r := by first | (rw [hji28] at H; exact H) | (simp only [hji28] at H ⊢; exact H)
                    (try rw [hji28] at c27b0)
                    (try rw [hji28] at A19)
                    (try rw [hji28] at A20)
                    (try rw [hji28] at A26)
                    have hji28w : (IntKind.i64.wrap (t286 - 1)) = ji28 := (i64_w _).trans hji28
                    by_cases c29 : 0 ≤ (ji28)
                    · rw [if_pos c29] at H
                      have c29b0 : decide (0 ≤ (ji28)) = true := decide_eq_true c29
                      clear c29
                      obtain rfl := Option.some.inj H
                      go_wp2_with (first | ((with_reducible refine gate_callee (f := 25) rfl ?_); refine goesL_ (some 40) rfl rfl Try.func25 (by kernel_rfl) rfl #[.string a0, .int .i64 a1] rfl (by (try simp only [List.map_toArray, List.map_cons, List.map_nil]); first | done | rfl | (simp only [List.length_drop, List.length_take]; rfl)) ?_; (with_reducible refine (place_Of.calls kj4 a0 a1 t285 t286 _ A19.out).mono ?_); rintro e w30 ⟨rfl, hb⟩; refine ⟨_, rfl, ?_⟩; have n0_ := Aside0.mk (below_step (by repeat (first | (with_reducible first | exact HB.out | apply below_alloc | apply pw_below_drewN | apply below_drew1) | exact HB.out)) hb); clear HB; have HB := n0_; clear n0_; (try clear hb); (try clear hb2); (try clear hk); (try clear hi)) | ((with_reducible refine gate_callee (f := 26) rfl ?_); refine goesL_ (some 46) rfl rfl Try.func26 (by kernel_rfl) rfl #[.string a0, .int .i64 t285] rfl (by (try simp only [List.map_toArray, List.map_cons, List.map_nil]); first | done | rfl | (simp only [List.length_drop, List.length_take]; rfl)) ?_; (with_reducible refine (place_Begin.calls kj4 a0 t285 t287 true _ A20.out).mono ?_); rintro e w' ⟨rfl, ⟨nd, rfl⟩⟩; refine ⟨_, rfl, ?_⟩) | ((with_reducible refine gate_callee (f := 20) rfl ?_); refine goesL_ (some 59) rfl rfl Try.func20 (by kernel_rfl) rfl #[.string (a0.extract (t287 : Int).toNat a0.size)] rfl (by (try simp only [List.map_toArray, List.map_cons, List.map_nil]); first | done | rfl | (simp only [List.length_drop, List.length_take]; rfl)) ?_; (with_reducible refine (dragomanref1_Starts.calls kj4 (a0.extract (t287 : Int).toNat a0.size) t289 _ A26.out).mono ?_); rintro e w31 ⟨v290, rfl, ho0, hb⟩; refine ⟨_, rfl, ?_⟩; have n0_ := Aside0.mk (Kd.R_lower ho0 (below_size (by repeat (first | (with_reducible first | exact HB.out | apply below_alloc | apply pw_below_drewN | apply below_drew1) | exact HB.out)))); have n1_ := Aside0.mk (below_step (by repeat (first | (with_reducible first | exact HB.out | apply below_alloc | apply pw_below_drewN | apply below_drew1) | exact HB.out)) hb); clear HB; have HO291 := n0_; have HB := n1_; clear n0_ n1_; (try clear hb); (try clear hb2); (try clear hk); (try clear hi); (try clear ho0); obtain ⟨Ao32, co32, eo32⟩ := Kd.R_slice HO291.out; subst eo32; have p292 : 0 ≤ ((ji28) : Int) := of_decide_eq_true (by first | (with_reducible assumption) | assumption); have q292 : (ji28) < (t289.length : Int) := of_decide_eq_true (by first | (with_reducible assumption) | assumption); obtain ⟨ad292, e292, hx292_0⟩ := Kd.at_int (Kd.R_reads' HO291.out).2.2 (ji28) p292 q292; cases e292; replace p292 := eq_true p292; replace q292 := eq_true q292))
                      go_ret
                      exact ⟨by first | rfl | (simp [errW_none, errW_some] <;> rfl) | (simp [*, errW_none, errW_some, bne]; done) | (simp only [← hji28]; first | rfl | (simp [errW_none, errW_some] <;> rfl)) | (simp [*, errW_none, errW_some] <;> rfl), by repeat (first | (with_reducible first | exact HB.out | apply below_alloc | apply pw_below_drewN | apply below_drew1) | exact HB.out)⟩
                    · rw [if_neg c29] at H
                      exact absurd H (by simp)
                  · rw [if_neg c27] at H
                    have c27b0 : decide ((wrap64 (t286 - 1)) < (t289.length : Int)) = false := decide_eq_false c27
                    clear c27
                    obtain rfl := Option.some.inj H
                    go_wp2_with (first | ((with_reducible refine gate_callee (f := 25) rfl ?_); refine goesL_ (some 40) rfl rfl Try.func25 (by kernel_rfl) rfl #[.string a0, .int .i64 a1] rfl (by (try simp only [List.map_toArray, List.map_cons, List.map_nil]); first | done | rfl | (simp only [List.length_drop, List.length_take]; rfl)) ?_; (with_reducible refine (place_Of.calls kj4 a0 a1 t285 t286 _ A19.out).mono ?_); rintro e w33 ⟨rfl, hb⟩; refine ⟨_, rfl, ?_⟩; have n0_ := Aside0.mk (below_step (by repeat (first | (with_reducible first | exact HB.out | apply below_alloc | apply pw_below_drewN | apply below_drew1) | exact HB.out)) hb); clear HB; have HB := n0_; clear n0_; (try clear hb); (try clear hb2); (try clear hk); (try clear hi)) | ((with_reducible refine gate_callee (f := 26) rfl ?_); refine goesL_ (some 46) rfl rfl Try.func26 (by kernel_rfl) rfl #[.string a0, .int .i64 t285] rfl (by (try simp only [List.map_toArray, List.map_cons, List.map_nil]); first | done | rfl | (simp only [List.length_drop, List.length_take]; rfl)) ?_; (with_reducible refine (place_Begin.calls kj4 a0 t285 t287 true _ A20.out).mono ?_); rintro e w' ⟨rfl, ⟨nd, rfl⟩⟩; refine ⟨_, rfl, ?_⟩) | ((with_reducible refine gate_callee (f := 20) rfl ?_); refine goesL_ (some 59) rfl rfl Try.func20 (by kernel_rfl) rfl #[.string (a0.extract (t287 : Int).toNat a0.size)] rfl (by (try simp only [List.map_toArray, List.map_cons, List.map_nil]); first | done | rfl | (simp only [List.length_drop, List.length_take]; rfl)) ?_; (with_reducible refine (dragomanref1_Starts.calls kj4 (a0.extract (t287 : Int).toNat a0.size) t289 _ A26.out).mono ?_); rintro e w34 ⟨v290, rfl, ho0, hb⟩; refine ⟨_, rfl, ?_⟩; have n0_ := Aside0.mk (Kd.R_lower ho0 (below_size (by repeat (first | (with_reducible first | exact HB.out | apply below_alloc | apply pw_below_drewN | apply below_drew1) | exact HB.out)))); have n1_ := Aside0.mk (below_step (by repeat (first | (with_reducible first | exact HB.out | apply below_alloc | apply pw_below_drewN | apply below_drew1) | exact HB.out)) hb); clear HB; have HO291 := n0_; have HB := n1_; clear n0_ n1_; (try clear hb); (try clear hb2); (try clear hk); (try clear hi); (try clear ho0); obtain ⟨Ao35, co35, eo35⟩ := Kd.R_slice HO291.out; subst eo35))
                    go_ret
                    exact ⟨by first | rfl | (simp [errW_none, errW_some] <;> rfl) | (simp [*, errW_none, errW_some, bne]; done) | (simp [*, errW_none, errW_some] <;> rfl), by repeat (first | (with_reducible first | exact HB.out | apply below_alloc | apply pw_below_drewN | apply below_drew1) | exact HB.out)⟩
                · rw [if_neg c25] at H
                  exact absurd H (by simp)
              · rw [if_neg c24] at H
                exact absurd H (by simp)
          · replace c21 := Bool.eq_false_iff.mpr c21
            subst c21
            have H1 : (some false) = some r := by rw [if_neg (show ¬ (false = true) by decide)] at H; exact H
            clear H
            have H := H1
            clear H1
            obtain rfl := Option.some.inj H
            go_wp2_with (first | ((with_reducible refine gate_callee (f := 25) rfl ?_); refine goesL_ (some 40) rfl rfl Try.func25 (by kernel_rfl) rfl #[.string a0, .int .i64 a1] rfl (by (try simp only [List.map_toArray, List.map_cons, List.map_nil]); first | done | rfl | (simp only [List.length_drop, List.length_take]; rfl)) ?_; (with_reducible refine (place_Of.calls kj4 a0 a1 t285 t286 _ A19.out).mono ?_); rintro e w36 ⟨rfl, hb⟩; refine ⟨_, rfl, ?_⟩; have n0_ := Aside0.mk (below_step (by repeat (first | (with_reducible first | exact HB.out | apply below_alloc | apply pw_below_drewN | apply below_drew1) | exact HB.out)) hb); clear HB; have HB := n0_; clear n0_; (try clear hb); (try clear hb2); (try clear hk); (try clear hi)) | ((with_reducible refine gate_callee (f := 26) rfl ?_); refine goesL_ (some 46) rfl rfl Try.func26 (by kernel_rfl) rfl #[.string a0, .int .i64 t285] rfl (by (try simp only [List.map_toArray, List.map_cons, List.map_nil]); first | done | rfl | (simp only [List.length_drop, List.length_take]; rfl)) ?_; (with_reducible refine (place_Begin.calls kj4 a0 t285 t287 false _ A20.out).mono ?_); rintro e w' ⟨rfl, ⟨nd, rfl⟩⟩; refine ⟨_, rfl, ?_⟩))
            go_ret
            exact ⟨by first | rfl | (simp [errW_none, errW_some] <;> rfl) | (simp [*, errW_none, errW_some, bne]; done) | (simp [*, errW_none, errW_some] <;> rfl), by repeat (first | (with_reducible first | exact HB.out | apply below_alloc | apply pw_below_drewN | apply below_drew1) | exact HB.out)⟩
  · replace c4 := Bool.eq_false_iff.mpr c4
    subst c4
    have H1 : (some false) = some r := by rw [if_neg (show ¬ (false = true) by decide)] at H; exact H
    clear H
    have H := H1
    clear H1
    obtain rfl := Option.some.inj H
    go_enter Try.func10, Try.ntmps10
    go_wp2_with (first | ((with_reducible refine gate_callee (f := 24) rfl ?_); refine goesL_ (some 10) rfl rfl Try.func24 (by kernel_rfl) rfl #[] rfl (by (try simp only [List.map_toArray, List.map_cons, List.map_nil]); first | done | rfl | (simp only [List.length_drop, List.length_take]; rfl)) ?_; (with_reducible refine (dragomanlaw2_awake.calls  false _ A3.out).mono ?_); rintro e w37 ⟨rfl, hb⟩; refine ⟨_, rfl, ?_⟩; have n0_ := Aside0.mk (below_step (by repeat (first | (with_reducible first | exact HB.out | apply below_alloc | apply pw_below_drewN | apply below_drew1) | exact HB.out)) hb); clear HB; have HB := n0_; clear n0_; (try clear hb); (try clear hb2); (try clear hk); (try clear hi)))
    go_ret
    exact ⟨by first | rfl | (simp [errW_none, errW_some] <;> rfl) | (simp [*, errW_none, errW_some, bne]; done) | (simp [*, errW_none, errW_some] <;> rfl), by repeat (first | (with_reducible first | exact HB.out | apply below_alloc | apply pw_below_drewN | apply below_drew1) | exact HB.out)⟩

/-- THE ONE PURE STATEMENT of dragomanlaw2_PlaceBack: yours. -/
def dragomanlaw2_PlaceBack.Pure : Prop := ∀ (a0 : ByteArray) (a1 : Int), a0.size ≤ 140737488351232 → (Lit.int .i64 a1).wf = true → ∃ k, dragomanlaw2_PlaceBack.f k a0 a1 = some true
theorem dragomanlaw2_PlaceBack.walk (P : dragomanlaw2_PlaceBack.Pure) (a0 : ByteArray) (a1 : Int) (w : World) (w0 : a0.size ≤ 140737488351232) (w1 : (Lit.int .i64 a1).wf = true) :
    Calls Try.prog 10 #[.string a0, .int .i64 a1] w fun e w' => e = .returned (.bool true) ∧ Below w.heap.size w w' := by
  obtain ⟨k, h⟩ := P a0 a1 w0 w1
  refine (dragomanlaw2_PlaceBack.calls k a0 a1 true w h).mono ?_
  rintro e w' ⟨rfl, hd⟩
  exact ⟨rfl, hd⟩

end Go.Proofs.Ytagjfnjfhflahaa.P
