/- Machine side of this seat: what each Go function answers, and that its call comes to it; printed by a program of this claim. -/
import Derived.Test.YtagjfnjfhflahaaPx0
import Derived.Test.YtagjfnjfhflahaaPxdragomanref1
import Derived.Test.YtagjfnjfhflahaaPxplace
import Derived.Test.YtagjfnjfhflahaaHaAwake2
namespace Go.Proofs.Ytagjfnjfhflahaa.P
open Go.RowKit Go.Proofs.YtagjfnjfhflahaaW.PrintWords Go.Proofs.YtagjfnjfhflahaaW.PrintLast Go.Proofs.YtagjfnjfhflahaaW.PrintMore
attribute [local go_sem] max2_int min2_int max_two min_two max_three min_three max_four min_four   -- for this text's walks alone
set_option linter.unusedVariables false
set_option linter.unusedSimpArgs false

/-! ### dragomanlaw2_PlaceSteps: function 11 -/
mutual
def dragomanlaw2_PlaceSteps.j0 : Nat → ByteArray → Bool → Option (Bool)
  | 0, _, _ => none
  | k + 1, x0, x18 => if x18 = true then (some true) else ((dragomanref1_Starts.f k x0).bind fun t295 => (dragomanlaw2_PlaceSteps.l0 k x0 t295 1 1 0))
def dragomanlaw2_PlaceSteps.l0 : Nat → ByteArray → List Int → Int → Int → Int → Option (Bool)
  | 0, _, _, _, _, _ => none
  | k + 1, x0, x3, x4, x5, x6 => if x6 < (x3.length : Int) then (if 0 ≤ x6 then ((place_Of.f k x0 (rd x3 x6)).bind fun bt300 => (if bt300.1 = x4 then (dragomanlaw2_PlaceSteps.j2 k x0 x3 x4 x5 x6 (bt300.2 != x5)) else (dragomanlaw2_PlaceSteps.j2 k x0 x3 x4 x5 x6 true))) else (none)) else ((place_Lines.f x0).bind fun t298 => (some (t298 == x4)))
def dragomanlaw2_PlaceSteps.j2 : Nat → ByteArray → List Int → Int → Int → Int → Bool → Option (Bool)
  | 0, _, _, _, _, _, _ => none
  | k + 1, x0, x3, x4, x5, x6, x43 => if x43 = true then (some false) else (if (wrap64 (x6 + 1)) < (x3.length : Int) then (if 0 ≤ x6 then (if x6 < (x3.length : Int) then (if 0 ≤ (rd x3 x6) then (if (rd x3 x6) < (x0.size : Int) then (if (bt x0 (rd x3 x6)) = 10 then (dragomanlaw2_PlaceSteps.l0 k x0 x3 (wrap64 (x4 + 1)) (0 + 1) (wrap64 (x6 + 1))) else (dragomanlaw2_PlaceSteps.l0 k x0 x3 x4 (wrap64 (x5 + 1)) (wrap64 (x6 + 1)))) else (none)) else (none)) else (none)) else (none)) else (dragomanlaw2_PlaceSteps.l0 k x0 x3 x4 (wrap64 (x5 + 1)) (wrap64 (x6 + 1))))
end
def dragomanlaw2_PlaceSteps.f (k : Nat) (a0 : ByteArray) : Option (Bool) := (dragomanlaw2_awake.f).bind fun t293 => (if t293 = true then (if (a0.size : Int) > 200 then (dragomanlaw2_PlaceSteps.j0 k a0 true) else ((dragomanref1_Valid.f k a0).bind fun t294 => (dragomanlaw2_PlaceSteps.j0 k a0 (decide (t294 ≥ 0))))) else (some false))
theorem dragomanlaw2_PlaceSteps.mono_l : ∀ k, (∀ y0 y1, LeO (dragomanlaw2_PlaceSteps.j0 k y0 y1) (dragomanlaw2_PlaceSteps.j0 (k + 1) y0 y1)) ∧ (∀ y0 y1 y2 y3 y4, LeO (dragomanlaw2_PlaceSteps.l0 k y0 y1 y2 y3 y4) (dragomanlaw2_PlaceSteps.l0 (k + 1) y0 y1 y2 y3 y4)) ∧ (∀ y0 y1 y2 y3 y4 y5, LeO (dragomanlaw2_PlaceSteps.j2 k y0 y1 y2 y3 y4 y5) (dragomanlaw2_PlaceSteps.j2 (k + 1) y0 y1 y2 y3 y4 y5))
  | 0 => ⟨fun _ _ r h => by simp [dragomanlaw2_PlaceSteps.j0] at h, fun _ _ _ _ _ r h => by simp [dragomanlaw2_PlaceSteps.l0] at h, fun _ _ _ _ _ _ r h => by simp [dragomanlaw2_PlaceSteps.j2] at h⟩
  | k + 1 => by
    obtain ⟨ih0, ih1, ih2⟩ := dragomanlaw2_PlaceSteps.mono_l k
    refine ⟨?_, ?_, ?_⟩
    · intro y0 y1
      unfold dragomanlaw2_PlaceSteps.j0
      repeat' first
      | (with_reducible exact ih0 _ _)
      | (with_reducible exact ih1 _ _ _ _ _)
      | (with_reducible exact ih2 _ _ _ _ _ _)
      | (with_reducible exact dragomanref1_Starts.mono _ _)
      | (with_reducible exact dragomanref1_Valid.mono _ _)
      | (with_reducible exact place_Of.mono _ _ _)
      | (with_reducible exact LeO.refl _)
      | (with_reducible exact LeO.none _)
      | (with_reducible refine LeO.ite ?_ ?_)
      | (with_reducible refine LeO.bind ?_ (fun _ => ?_))
      | exact ih0 _ _
      | exact ih1 _ _ _ _ _
      | exact ih2 _ _ _ _ _ _
      | exact dragomanref1_Starts.mono _ _
      | exact dragomanref1_Valid.mono _ _
      | exact place_Of.mono _ _ _
      | exact LeO.none _
      | refine LeO.ite ?_ ?_
      | refine LeO.bind ?_ (fun _ => ?_)
    · intro y0 y1 y2 y3 y4
      unfold dragomanlaw2_PlaceSteps.l0
      repeat' first
      | (with_reducible exact ih0 _ _)
      | (with_reducible exact ih1 _ _ _ _ _)
      | (with_reducible exact ih2 _ _ _ _ _ _)
      | (with_reducible exact dragomanref1_Starts.mono _ _)
      | (with_reducible exact dragomanref1_Valid.mono _ _)
      | (with_reducible exact place_Of.mono _ _ _)
      | (with_reducible exact LeO.refl _)
      | (with_reducible exact LeO.none _)
      | (with_reducible refine LeO.ite ?_ ?_)
      | (with_reducible refine LeO.bind ?_ (fun _ => ?_))
      | exact ih0 _ _
      | exact ih1 _ _ _ _ _
      | exact ih2 _ _ _ _ _ _
      | exact dragomanref1_Starts.mono _ _
      | exact dragomanref1_Valid.mono _ _
      | exact place_Of.mono _ _ _
      | exact LeO.none _
      | refine LeO.ite ?_ ?_
      | refine LeO.bind ?_ (fun _ => ?_)
    · intro y0 y1 y2 y3 y4 y5
      unfold dragomanlaw2_PlaceSteps.j2
      repeat' first
      | (with_reducible exact ih0 _ _)
      | (with_reducible exact ih1 _ _ _ _ _)
      | (with_reducible exact ih2 _ _ _ _ _ _)
      | (with_reducible exact dragomanref1_Starts.mono _ _)
      | (with_reducible exact dragomanref1_Valid.mono _ _)
      | (with_reducible exact place_Of.mono _ _ _)
      | (with_reducible exact LeO.refl _)
      | (with_reducible exact LeO.none _)
      | (with_reducible refine LeO.ite ?_ ?_)
      | (with_reducible refine LeO.bind ?_ (fun _ => ?_))
      | exact ih0 _ _
      | exact ih1 _ _ _ _ _
      | exact ih2 _ _ _ _ _ _
      | exact dragomanref1_Starts.mono _ _
      | exact dragomanref1_Valid.mono _ _
      | exact place_Of.mono _ _ _
      | exact LeO.none _
      | refine LeO.ite ?_ ?_
      | refine LeO.bind ?_ (fun _ => ?_)
theorem dragomanlaw2_PlaceSteps.mono : ∀ a0 k, LeO (dragomanlaw2_PlaceSteps.f k a0) (dragomanlaw2_PlaceSteps.f (k + 1) a0) := by
  intro a0 k
  obtain ⟨ih0, ih1, ih2⟩ := dragomanlaw2_PlaceSteps.mono_l k
  unfold dragomanlaw2_PlaceSteps.f
  repeat' first
      | (with_reducible exact ih0 _ _)
      | (with_reducible exact ih1 _ _ _ _ _)
      | (with_reducible exact ih2 _ _ _ _ _ _)
      | (with_reducible exact dragomanref1_Starts.mono _ _)
      | (with_reducible exact dragomanref1_Valid.mono _ _)
      | (with_reducible exact place_Of.mono _ _ _)
      | (with_reducible exact LeO.refl _)
      | (with_reducible exact LeO.none _)
      | (with_reducible refine LeO.ite ?_ ?_)
      | (with_reducible refine LeO.bind ?_ (fun _ => ?_))
      | exact ih0 _ _
      | exact ih1 _ _ _ _ _
      | exact ih2 _ _ _ _ _ _
      | exact dragomanref1_Starts.mono _ _
      | exact dragomanref1_Valid.mono _ _
      | exact place_Of.mono _ _ _
      | exact LeO.none _
      | refine LeO.ite ?_ ?_
      | refine LeO.bind ?_ (fun _ => ?_)
set_option maxHeartbeats 8000000 in
set_option maxRecDepth 100000 in
theorem dragomanlaw2_PlaceSteps.calls (k : Nat) (a0 : ByteArray) (r : Bool) (w : World) (h : dragomanlaw2_PlaceSteps.f k a0 = some r) :
    Calls Try.prog 11 #[.string a0] w fun e w' => e = .returned (.bool r) ∧ Below w.heap.size w w' := by
  have HB := Aside0.mk (Below.refl w.heap.size w)
  have H : ((dragomanlaw2_awake.f).bind fun t293 => (if t293 = true then (if (a0.size : Int) > 200 then (dragomanlaw2_PlaceSteps.j0 k a0 true) else ((dragomanref1_Valid.f k a0).bind fun t294 => (dragomanlaw2_PlaceSteps.j0 k a0 (decide (t294 ≥ 0))))) else (some false))) = some r := h
  clear h
  replace H := Option.bind_eq_some_iff.mp H
  obtain ⟨t293, A20, H⟩ := H
  replace H : (if t293 = true then (if (a0.size : Int) > 200 then (dragomanlaw2_PlaceSteps.j0 k a0 true) else ((dragomanref1_Valid.f k a0).bind fun t294 => (dragomanlaw2_PlaceSteps.j0 k a0 (decide (t294 ≥ 0))))) else (some false)) = some r := H
  have A2 := Aside0.mk A20
  clear A20
  by_cases c3 : t293 = true
  · subst c3
    have H1 : (if (a0.size : Int) > 200 then (dragomanlaw2_PlaceSteps.j0 k a0 true) else ((dragomanref1_Valid.f k a0).bind fun t294 => (dragomanlaw2_PlaceSteps.j0 k a0 (decide (t294 ≥ 0))))) = some r := by rw [if_pos rfl] at H; exact H
    clear H
    have H := H1
    clear H1
    have HC4 := Aside0.mk H
    clear H
    go_enter Try.func11, Try.ntmps11
    go_upto_region 3 with (first | ((with_reducible refine gate_callee (f := 24) rfl ?_); refine goesL_ (some 9) rfl rfl Try.func24 (by kernel_rfl) rfl #[] rfl (by (try simp only [List.map_toArray, List.map_cons, List.map_nil]); first | done | rfl | (simp only [List.length_drop, List.length_take]; rfl)) ?_; (with_reducible refine (dragomanlaw2_awake.calls  true _ A2.out).mono ?_); rintro e w5 ⟨rfl, hb⟩; refine ⟨_, rfl, ?_⟩; have n0_ := Aside0.mk (below_step (by repeat (first | (with_reducible first | exact HB.out | apply below_alloc | apply pw_below_drewN | apply below_drew1) | exact HB.out)) hb); clear HB; have HB := n0_; clear n0_; (try clear hb); (try clear hb2); (try clear hk); (try clear hi)))
    (try simp only [Act.put, List.setIfInBounds_toArray, List.set_cons_zero, List.set_cons_succ])
    go_cut [18] (fun v18 wc => ∃ (kq : Nat) (x18_3 : Bool), v18 = .bool x18_3 ∧ Aside0 (dragomanlaw2_PlaceSteps.j0 kq a0 x18_3 = some r) ∧ Aside0 (kq ≤ k) ∧ Aside0 (Below w.heap.size w wc))
    case first =>
      have H := HC4.out
      clear HC4
      by_cases c6 : (a0.size : Int) > 200
      · rw [if_pos c6] at H
        have c6b0 : decide (200 < (a0.size : Int)) = true := decide_eq_true c6
        have c6b1 : decide (200 < a0.size) = true := decide_eq_true (by omega)
        clear c6
        (first | rw [c6b0] | (simp only [i64_w, i32_w]; rw [c6b0]) | skip)
        have H' := Aside0.mk H
        clear H
        go_wp2
        go_meet
        case rel => exact ⟨_, (true), (by first | rfl | (simp; done) | (simp [*]; done)), H', ⟨by first | omega | exact Nat.le_refl _⟩, ⟨by repeat (first | (with_reducible first | exact HB.out | apply below_alloc | apply pw_below_drewN | apply below_drew1) | exact HB.out)⟩⟩
      · rw [if_neg c6] at H
        have c6b0 : decide (200 < (a0.size : Int)) = false := decide_eq_false c6
        have c6b1 : decide (200 < a0.size) = false := decide_eq_false (by omega)
        clear c6
        (first | rw [c6b0] | (simp only [i64_w, i32_w]; rw [c6b0]) | skip)
        replace H := Option.bind_eq_some_iff.mp H
        obtain ⟨t294, A70, H⟩ := H
        replace H : (dragomanlaw2_PlaceSteps.j0 k a0 (decide (t294 ≥ 0))) = some r := H
        have A7 := Aside0.mk A70
        clear A70
        have H' := Aside0.mk H
        clear H
        go_wp2_with (first | (go_at_call 19; (with_reducible refine (dragomanref1_Valid.calls k a0 t294 _ A7.out).mono ?_); rintro e w8 ⟨rfl, hb⟩; have n0_ := Aside0.mk (below_step (by repeat (first | (with_reducible first | exact HB.out | apply below_alloc | apply pw_below_drewN | apply below_drew1) | exact HB.out)) hb); clear HB; have HB := n0_; clear n0_; (try clear hb); (try clear hb2); (try clear hk); (try clear hi)))
        go_meet
        case rel => exact ⟨_, (decide (t294 ≥ 0)), (by first | rfl | (simp; done) | (simp [*]; done)), H', ⟨by first | omega | exact Nat.le_refl _⟩, ⟨by repeat (first | (with_reducible first | exact HB.out | apply below_alloc | apply pw_below_drewN | apply below_drew1) | exact HB.out)⟩⟩
    case rest =>
      clear HC4
      try clear c1
      try clear c2
      try clear p2
      try clear c3
      try clear c6
      try clear c6b0
      try clear c6b1
      obtain ⟨kq, x18_3, rfl, HA, HJ3, HB⟩ := hcut
      cases kq with
      | zero => exact absurd HA.out (by simp [dragomanlaw2_PlaceSteps.j0])
      | succ kj3 =>
        have H := HA.out
        clear HA
        simp only [dragomanlaw2_PlaceSteps.j0] at H
        by_cases c9 : x18_3 = true
        · subst c9
          have H1 : (some true) = some r := by rw [if_pos rfl] at H; exact H
          clear H
          have H := H1
          clear H1
          obtain rfl := Option.some.inj H
          go_wp2
          go_ret
          exact ⟨by first | rfl | (simp [errW_none, errW_some] <;> rfl) | (simp [*, errW_none, errW_some, bne]; done) | (simp [*, errW_none, errW_some] <;> rfl), by repeat (first | (with_reducible first | exact HB.out | apply below_alloc | apply pw_below_drewN | apply below_drew1) | exact HB.out)⟩
        · replace c9 := Bool.eq_false_iff.mpr c9
          subst c9
          have H1 : ((dragomanref1_Starts.f kj3 a0).bind fun t295 => (dragomanlaw2_PlaceSteps.l0 kj3 a0 t295 1 1 0)) = some r := by rw [if_neg (show ¬ (false = true) by decide)] at H; exact H
          clear H
          have H := H1
          clear H1
          replace H := Option.bind_eq_some_iff.mp H
          obtain ⟨t295, A100, H⟩ := H
          replace H : (dragomanlaw2_PlaceSteps.l0 kj3 a0 t295 1 1 0) = some r := H
          have A10 := Aside0.mk A100
          clear A100
          have H' := Aside0.mk H
          clear H
          go_wp2_with (first | ((with_reducible refine gate_callee (f := 20) rfl ?_); refine goesL_ (some 20) rfl rfl Try.func20 (by kernel_rfl) rfl #[.string a0] rfl (by (try simp only [List.map_toArray, List.map_cons, List.map_nil]); first | done | rfl | (simp only [List.length_drop, List.length_take]; rfl)) ?_; (with_reducible refine (dragomanref1_Starts.calls kj3 a0 t295 _ A10.out).mono ?_); rintro e w11 ⟨v296, rfl, ho0, hb⟩; refine ⟨_, rfl, ?_⟩; have n0_ := Aside0.mk (Kd.R_lower ho0 (below_size (by repeat (first | (with_reducible first | exact HB.out | apply below_alloc | apply pw_below_drewN | apply below_drew1) | exact HB.out)))); have n1_ := Aside0.mk (below_step (by repeat (first | (with_reducible first | exact HB.out | apply below_alloc | apply pw_below_drewN | apply below_drew1) | exact HB.out)) hb); clear HB; have HO297 := n0_; have HB := n1_; clear n0_ n1_; (try clear hb); (try clear hb2); (try clear hk); (try clear hi); (try clear ho0)))
          go_loopg [4, 5, 6] kj3 (fun kq v4 v5 v6 w' => ∃ (x4_2 : Int) (x5_2 : Int) (x6_2 : Int), v4 = .int .i64 x4_2 ∧ v5 = .int .i64 x5_2 ∧ v6 = .int .i64 x6_2 ∧ Aside0 (dragomanlaw2_PlaceSteps.l0 kq a0 t295 x4_2 x5_2 x6_2 = some r) ∧ Aside0 (kq ≤ kj3) ∧ Aside0 (Kd.R (Kd.int .i64) 3 w' w.heap.size (fun _ => True) v296 t295) ∧ Aside0 (Below w.heap.size w w'))
          case atStart => exact ⟨(1), (1), (0), (by first | rfl | (simp; done) | (simp [*]; done)), (by first | rfl | (simp; done) | (simp [*]; done)), (by first | rfl | (simp; done) | (simp [*]; done)), H', ⟨Nat.le_refl _⟩, ⟨by (with_reducible repeat (first | apply Kd.R_alloc | apply Kd.R_drewN | apply Kd.R_drew)); exact HO297.out⟩, ⟨by repeat (first | (with_reducible first | exact HB.out | apply below_alloc | apply pw_below_drewN | apply below_drew1) | exact HB.out)⟩⟩
          case round =>
            clear H'
            try clear c1
            try clear c2
            try clear p2
            try clear c3
            try clear c6
            try clear c6b0
            try clear c6b1
            try clear c9
            try clear c11
            try clear p2
            obtain ⟨x4_2, x5_2, x6_2, rfl, rfl, rfl, HA, HK2, HO_3, HB⟩ := hrel
            cases gk with
            | zero => exact absurd HA.out (by simp [dragomanlaw2_PlaceSteps.l0])
            | succ k2 =>
              have H := HA.out
              clear HA
              simp only [dragomanlaw2_PlaceSteps.l0] at H
              by_cases c12 : x6_2 < (t295.length : Int)
              · rw [if_pos c12] at H
                have c12b0 : decide (x6_2 < (t295.length : Int)) = true := decide_eq_true c12
                clear c12
                by_cases c13 : 0 ≤ x6_2
                · rw [if_pos c13] at H
                  have c13b0 : decide (0 ≤ x6_2) = true := decide_eq_true c13
                  clear c13
                  replace H := Option.bind_eq_some_iff.mp H
                  obtain ⟨⟨t300, t301⟩, A140, H⟩ := H
                  replace H : (if t300 = x4_2 then (dragomanlaw2_PlaceSteps.j2 k2 a0 t295 x4_2 x5_2 x6_2 (t301 != x5_2)) else (dragomanlaw2_PlaceSteps.j2 k2 a0 t295 x4_2 x5_2 x6_2 true)) = some r := H
                  have A14 := Aside0.mk A140
                  clear A140
                  have HC15 := Aside0.mk H
                  clear H
                  obtain ⟨Ao16, co16, eo16⟩ := Kd.R_slice HO_3.out
                  subst eo16
                  have p299 : 0 ≤ (x6_2 : Int) := of_decide_eq_true (by first | (with_reducible assumption) | assumption)
                  have q299 : x6_2 < (t295.length : Int) := of_decide_eq_true (by first | (with_reducible assumption) | assumption)
                  obtain ⟨ad299, e299, hx299_0⟩ := Kd.at_int (Kd.R_reads' HO_3.out).2.2 x6_2 p299 q299
                  cases e299
                  replace p299 := eq_true p299
                  replace q299 := eq_true q299
                  go_upto_region 11 with (first | ((with_reducible refine gate_callee (f := 25) rfl ?_); refine goesL_ (some 33) rfl rfl Try.func25 (by kernel_rfl) rfl #[.string a0, .int .i64 (rd t295 x6_2)] rfl (by (try simp only [List.map_toArray, List.map_cons, List.map_nil]); first | done | rfl | (simp only [List.length_drop, List.length_take]; rfl)) ?_; (with_reducible refine (place_Of.calls k2 a0 (rd t295 x6_2) t300 t301 _ A14.out).mono ?_); rintro e w17 ⟨rfl, hb⟩; refine ⟨_, rfl, ?_⟩; have n0_ := Aside0.mk (Kd.R_below (by (with_reducible repeat (first | apply Kd.R_alloc | apply Kd.R_drewN | apply Kd.R_drew)); exact HO_3.out) hb); have n1_ := Aside0.mk (below_step (by repeat (first | (with_reducible first | exact HB.out | apply below_alloc | apply pw_below_drewN | apply below_drew1) | exact HB.out)) hb); clear HO_3; clear HB; have HO_3 := n0_; have HB := n1_; clear n0_ n1_; (try clear hb); (try clear hb2); (try clear hk); (try clear hi)))
                  (try simp only [Act.put, List.setIfInBounds_toArray, List.set_cons_zero, List.set_cons_succ])
                  go_cut [43] (fun v43 wc => ∃ (kq : Nat) (x43_14 : Bool), v43 = .bool x43_14 ∧ Aside0 (dragomanlaw2_PlaceSteps.j2 kq a0 t295 x4_2 x5_2 x6_2 x43_14 = some r) ∧ Aside0 (kq ≤ k2) ∧ Aside0 (Kd.R (Kd.int .i64) 3 wc w.heap.size (fun _ => True) (.slice (some ad299) t295.length co16) t295) ∧ Aside0 (Below w.heap.size w wc))
                  case first =>
                    have H := HC15.out
                    clear HC15
                    by_cases c18 : t300 = x4_2
                    · rw [if_pos c18] at H
                      have c18b0 : (t300 == x4_2) = true := beq_iff_eq.mpr c18
                      have c18b1 : (t300 != x4_2) = false := bne_eq_false_iff_eq.mpr c18
                      clear c18
                      (first | rw [c18b0] | (simp only [i64_w, i32_w]; rw [c18b0]) | skip)
                      have H' := Aside0.mk H
                      clear H
                      go_wp2
                      go_meet
                      case rel => exact ⟨_, ((t301 != x5_2)), (by first | rfl | (simp; done) | (simp [*]; done)), H', ⟨by have := HJ3.out; have := HK2.out; first | omega | exact Nat.le_refl _⟩, ⟨by (with_reducible repeat (first | apply Kd.R_alloc | apply Kd.R_drewN | apply Kd.R_drew)); exact HO_3.out⟩, ⟨by repeat (first | (with_reducible first | exact HB.out | apply below_alloc | apply pw_below_drewN | apply below_drew1) | exact HB.out)⟩⟩
                    · rw [if_neg c18] at H
                      have c18b0 : (t300 == x4_2) = false := beq_eq_false_iff_ne.mpr c18
                      have c18b1 : (t300 != x4_2) = true := bne_iff_ne.mpr c18
                      (first | rw [c18b0] | (simp only [i64_w, i32_w]; rw [c18b0]) | skip)
                      have H' := Aside0.mk H
                      clear H
                      go_wp2
                      go_meet
                      case rel => exact ⟨_, (true), (by first | rfl | (simp; done) | (simp [*]; done)), H', ⟨by have := HJ3.out; have := HK2.out; first | omega | exact Nat.le_refl _⟩, ⟨by (with_reducible repeat (first | apply Kd.R_alloc | apply Kd.R_drewN | apply Kd.R_drew)); exact HO_3.out⟩, ⟨by repeat (first | (with_reducible first | exact HB.out | apply below_alloc | apply pw_below_drewN | apply below_drew1) | exact HB.out)⟩⟩
                  case rest =>
                    clear HC15
                    try clear c1
                    try clear c2
                    try clear p2
                    try clear q2
                    try clear hx2
                    try clear c3
                    try clear c6
                    try clear c6b0
                    try clear c6b1
                    try clear c9
                    try clear c11
                    try clear c12
                    try clear c12b0
                    try clear c13
                    try clear c13b0
                    try clear c18
                    try clear c18b0
                    try clear c18b1
                    try clear hx299_0
                    try clear p2
                    try clear p299
                    try clear q299
                    obtain ⟨kq, x43_14, rfl, HA, HJ14, HO_3, HB⟩ := hcut
                    cases kq with
                    | zero => exact absurd HA.out (by simp [dragomanlaw2_PlaceSteps.j2])
                    | succ kj14 =>
                      have H := HA.out
                      clear HA
                      simp only [dragomanlaw2_PlaceSteps.j2] at H
                      by_cases c19 : x43_14 = true
                      · subst c19
                        have H1 : (some false) = some r := by rw [if_pos rfl] at H; exact H
                        clear H
                        have H := H1
                        clear H1
                        obtain rfl := Option.some.inj H
                        go_wp2
                        go_ret
                        exact ⟨by first | rfl | (simp [errW_none, errW_some] <;> rfl) | (simp [*, errW_none, errW_some, bne]; done) | (simp [*, errW_none, errW_some] <;> rfl), by repeat (first | (with_reducible first | exact HB.out | apply below_alloc | apply pw_below_drewN | apply below_drew1) | exact HB.out)⟩
                      · replace c19 := Bool.eq_false_iff.mpr c19
                        subst c19
                        have H1 : (if (wrap64 (x6_2 + 1)) < (t295.length : Int) then (if 0 ≤ x6_2 then (if x6_2 < (t295.length : Int) then (if 0 ≤ (rd t295 x6_2) then (if (rd t295 x6_2) < (a0.size : Int) then (if (bt a0 (rd t295 x6_2)) = 10 then (dragomanlaw2_PlaceSteps.l0 kj14 a0 t295 (wrap64 (x4_2 + 1)) (0 + 1) (wrap64 (x6_2 + 1))) else (dragomanlaw2_PlaceSteps.l0 kj14 a0 t295 x4_2 (wrap64 (x5_2 + 1)) (wrap64 (x6_2 + 1)))) else (none)) else (none)) else (none)) else (none)) else (dragomanlaw2_PlaceSteps.l0 kj14 a0 t295 x4_2 (wrap64 (x5_2 + 1)) (wrap64 (x6_2 + 1)))) = some r := by rw [if_neg (show ¬ (false = true) by decide)] at H; exact H
                        clear H
                        have H := H1
                        clear H1
                        by_cases c20 : (wrap64 (x6_2 + 1)) < (t295.length : Int)
                        · rw [if_pos c20] at H
                          have c20b0 : decide ((wrap64 (x6_2 + 1)) < (t295.length : Int)) = true := decide_eq_true c20
                          clear c20
                          by_cases c21 : 0 ≤ x6_2
                          · rw [if_pos c21] at H
                            have c21b0 : decide (0 ≤ x6_2) = true := decide_eq_true c21
                            clear c21
                            by_cases c22 : x6_2 < (t295.length : Int)
                            · rw [if_pos c22] at H
                              have c22b0 : decide (x6_2 < (t295.length : Int)) = true := decide_eq_true c22
                              clear c22
                              by_cases c23 : 0 ≤ (rd t295 x6_2)
                              · rw [if_pos c23] at H
                                have c23b0 : decide (0 ≤ (rd t295 x6_2)) = true := decide_eq_true c23
                                clear c23
                                by_cases c24 : (rd t295 x6_2) < (a0.size : Int)
                                · rw [if_pos c24] at H
                                  have c24b0 : decide ((rd t295 x6_2) < (a0.size : Int)) = true := decide_eq_true c24
                                  clear c24
                                  by_cases c26 : (bt a0 (rd t295 x6_2)) = 10
                                  · rw [if_pos c26] at H
                                    have c26b0 : ((bt a0 (rd t295 x6_2)) == 10) = true := beq_iff_eq.mpr c26
                                    have c26b1 : ((bt a0 (rd t295 x6_2)) != 10) = false := bne_eq_false_iff_eq.mpr c26
                                    clear c26
                                    have H' := Aside0.mk H
                                    clear H
                                    have p302 : 0 ≤ (x6_2 : Int) := of_decide_eq_true (by first | (with_reducible assumption) | assumption)
                                    have q302 : x6_2 < (t295.length : Int) := of_decide_eq_true (by first | (with_reducible assumption) | assumption)
                                    obtain ⟨ad302, e302, hx302_0⟩ := Kd.at_int (Kd.R_reads' HO_3.out).2.2 x6_2 p302 q302
                                    obtain rfl : ad299 = ad302 := (by injection e302)
                                    replace p302 := eq_true p302
                                    replace q302 := eq_true q302
                                    have p25 : 0 ≤ ((rd t295 x6_2) : Int) := of_decide_eq_true (by first | (with_reducible assumption) | assumption)
                                    have q25 : (rd t295 x6_2) < (a0.size : Int) := of_decide_eq_true (by first | (with_reducible assumption) | assumption)
                                    have hx25 := bt_at a0 (rd t295 x6_2)
                                    replace p25 := eq_true p25
                                    replace q25 := eq_true q25
                                    go_wp2
                                    go_roundg kj14
                                    case measure => have := HJ3.out; have := HK2.out; have := HJ14.out; omega
                                    case rel => exact ⟨(wrap64 (x4_2 + 1)), (0 + 1), (wrap64 (x6_2 + 1)), (by first | rfl | (simp; done) | (simp [*]; done)), (by first | rfl | (simp; done) | (simp [*]; done)), (by first | rfl | (simp; done) | (simp [*]; done)), H', ⟨by have := HJ3.out; have := HK2.out; have := HJ14.out; omega⟩, ⟨by (with_reducible repeat (first | apply Kd.R_alloc | apply Kd.R_drewN | apply Kd.R_drew)); exact HO_3.out⟩, ⟨by repeat (first | (with_reducible first | exact HB.out | apply below_alloc | apply pw_below_drewN | apply below_drew1) | exact HB.out)⟩⟩
                                  · rw [if_neg c26] at H
                                    have c26b0 : ((bt a0 (rd t295 x6_2)) == 10) = false := beq_eq_false_iff_ne.mpr c26
                                    have c26b1 : ((bt a0 (rd t295 x6_2)) != 10) = true := bne_iff_ne.mpr c26
                                    have H' := Aside0.mk H
                                    clear H
                                    have p302 : 0 ≤ (x6_2 : Int) := of_decide_eq_true (by first | (with_reducible assumption) | assumption)
                                    have q302 : x6_2 < (t295.length : Int) := of_decide_eq_true (by first | (with_reducible assumption) | assumption)
                                    obtain ⟨ad302, e302, hx302_0⟩ := Kd.at_int (Kd.R_reads' HO_3.out).2.2 x6_2 p302 q302
                                    obtain rfl : ad299 = ad302 := (by injection e302)
                                    replace p302 := eq_true p302
                                    replace q302 := eq_true q302
                                    have p25 : 0 ≤ ((rd t295 x6_2) : Int) := of_decide_eq_true (by first | (with_reducible assumption) | assumption)
                                    have q25 : (rd t295 x6_2) < (a0.size : Int) := of_decide_eq_true (by first | (with_reducible assumption) | assumption)
                                    have hx25 := bt_at a0 (rd t295 x6_2)
                                    replace p25 := eq_true p25
                                    replace q25 := eq_true q25
                                    go_wp2
                                    go_roundg kj14
                                    case measure => have := HJ3.out; have := HK2.out; have := HJ14.out; omega
                                    case rel => exact ⟨(x4_2), (wrap64 (x5_2 + 1)), (wrap64 (x6_2 + 1)), (by first | rfl | (simp; done) | (simp [*]; done)), (by first | rfl | (simp; done) | (simp [*]; done)), (by first | rfl | (simp; done) | (simp [*]; done)), H', ⟨by have := HJ3.out; have := HK2.out; have := HJ14.out; omega⟩, ⟨by (with_reducible repeat (first | apply Kd.R_alloc | apply Kd.R_drewN | apply Kd.R_drew)); exact HO_3.out⟩, ⟨by repeat (first | (with_reducible first | exact HB.out | apply below_alloc | apply pw_below_drewN | apply below_drew1) | exact HB.out)⟩⟩
                                · rw [if_neg c24] at H
                                  exact absurd H (by simp)
                              · rw [if_neg c23] at H
                                exact absurd H (by simp)
                            · rw [if_neg c22] at H
                              exact absurd H (by simp)
                          · rw [if_neg c21] at H
                            exact absurd H (by simp)
                        · rw [if_neg c20] at H
                          have c20b0 : decide ((wrap64 (x6_2 + 1)) < (t295.length : Int)) = false := decide_eq_false c20
                          clear c20
                          have H' := Aside0.mk H
                          clear H
                          go_wp2
                          go_roundg kj14
                          case measure => have := HJ3.out; have := HK2.out; have := HJ14.out; omega
                          case rel => exact ⟨(x4_2), (wrap64 (x5_2 + 1)), (wrap64 (x6_2 + 1)), (by first | rfl | (simp; done) | (simp [*]; done)), (by first | rfl | (simp; done) | (simp [*]; done)), (by first | rfl | (simp; done) | (simp [*]; done)), H', ⟨by have := HJ3.out; have := HK2.out; have := HJ14.out; omega⟩, ⟨by (with_reducible repeat (first | apply Kd.R_alloc | apply Kd.R_drewN | apply Kd.R_drew)); exact HO_3.out⟩, ⟨by repeat (first | (with_reducible first | exact HB.out | apply below_alloc | apply pw_below_drewN | apply below_drew1) | exact HB.out)⟩⟩
                · rw [if_neg c13] at H
                  exact absurd H (by simp)
              · rw [if_neg c12] at H
                have c12b0 : decide (x6_2 < (t295.length : Int)) = false := decide_eq_false c12
                clear c12
                replace H := Option.bind_eq_some_iff.mp H
                obtain ⟨t298, A270, H⟩ := H
                replace H : (some (t298 == x4_2)) = some r := H
                have A27 := Aside0.mk A270
                clear A270
                obtain rfl := Option.some.inj H
                obtain ⟨Ao28, co28, eo28⟩ := Kd.R_slice HO_3.out
                subst eo28
                go_wp2_with (first | ((with_reducible refine gate_callee (f := 27) rfl ?_); refine goesL_ (some 63) rfl rfl Try.func27 (by kernel_rfl) rfl #[.string a0] rfl (by (try simp only [List.map_toArray, List.map_cons, List.map_nil]); first | done | rfl | (simp only [List.length_drop, List.length_take]; rfl)) ?_; (with_reducible refine (place_Lines.calls a0 t298 _ A27.out).mono ?_); rintro e w' ⟨rfl, ⟨nd, rfl⟩⟩; refine ⟨_, rfl, ?_⟩))
                go_ret
                exact ⟨by first | rfl | (simp [errW_none, errW_some] <;> rfl) | (simp [*, errW_none, errW_some, bne]; done) | (simp [*, errW_none, errW_some] <;> rfl), by repeat (first | (with_reducible first | exact HB.out | apply below_alloc | apply pw_below_drewN | apply below_drew1) | exact HB.out)⟩
  · replace c3 := Bool.eq_false_iff.mpr c3
    subst c3
    have H1 : (some false) = some r := by rw [if_neg (show ¬ (false = true) by decide)] at H; exact H
    clear H
    have H := H1
    clear H1
    obtain rfl := Option.some.inj H
    go_enter Try.func11, Try.ntmps11
    go_wp2_with (first | ((with_reducible refine gate_callee (f := 24) rfl ?_); refine goesL_ (some 9) rfl rfl Try.func24 (by kernel_rfl) rfl #[] rfl (by (try simp only [List.map_toArray, List.map_cons, List.map_nil]); first | done | rfl | (simp only [List.length_drop, List.length_take]; rfl)) ?_; (with_reducible refine (dragomanlaw2_awake.calls  false _ A2.out).mono ?_); rintro e w29 ⟨rfl, hb⟩; refine ⟨_, rfl, ?_⟩; have n0_ := Aside0.mk (below_step (by repeat (first | (with_reducible first | exact HB.out | apply below_alloc | apply pw_below_drewN | apply below_drew1) | exact HB.out)) hb); clear HB; have HB := n0_; clear n0_; (try clear hb); (try clear hb2); (try clear hk); (try clear hi)))
    go_ret
    exact ⟨by first | rfl | (simp [errW_none, errW_some] <;> rfl) | (simp [*, errW_none, errW_some, bne]; done) | (simp [*, errW_none, errW_some] <;> rfl), by repeat (first | (with_reducible first | exact HB.out | apply below_alloc | apply pw_below_drewN | apply below_drew1) | exact HB.out)⟩

/-- THE ONE PURE STATEMENT of dragomanlaw2_PlaceSteps: yours. -/
def dragomanlaw2_PlaceSteps.Pure : Prop := ∀ (a0 : ByteArray), a0.size ≤ 140737488351232 → ∃ k, dragomanlaw2_PlaceSteps.f k a0 = some true
theorem dragomanlaw2_PlaceSteps.walk (P : dragomanlaw2_PlaceSteps.Pure) (a0 : ByteArray) (w : World) (w0 : a0.size ≤ 140737488351232) :
    Calls Try.prog 11 #[.string a0] w fun e w' => e = .returned (.bool true) ∧ Below w.heap.size w w' := by
  obtain ⟨k, h⟩ := P a0 w0
  refine (dragomanlaw2_PlaceSteps.calls k a0 true w h).mono ?_
  rintro e w' ⟨rfl, hd⟩
  exact ⟨rfl, hd⟩

end Go.Proofs.Ytagjfnjfhflahaa.P
