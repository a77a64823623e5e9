/- Machine side of this seat: what each Go function answers, and that its call comes to it; printed by a program of this claim. -/
import Derived.Test.YtagjfnjfhflahaaPx0
import Derived.Test.YtagjfnjfhflahaaPxe1
import Derived.Test.YtagjfnjfhflahaaPxdragomanref1
import Derived.Test.YtagjfnjfhflahaaPxplace
import Derived.Test.YtagjfnjfhflahaaHaAwake2
namespace Go.Proofs.Ytagjfnjfhflahaa.P
open Go.RowKit Go.Proofs.YtagjfnjfhflahaaW.PrintWords Go.Proofs.YtagjfnjfhflahaaW.PrintLast Go.Proofs.YtagjfnjfhflahaaW.PrintMore
attribute [local go_sem] max2_int min2_int max_two min_two max_three min_three max_four min_four   -- for this text's walks alone
set_option linter.unusedVariables false
set_option linter.unusedSimpArgs false

attribute [local go_sem high] eqA42
/-! ### dragomanlaw2_PlaceSays: function 9 -/
mutual
def dragomanlaw2_PlaceSays.j0 : Nat → ByteArray → Int → Bool → Option (Bool)
  | 0, _, _, _ => none
  | k + 1, x0, x2, x54 => if x54 = true then (some false) else (dragomanlaw2_PlaceSays.l0 k x0 x2 1 0 (x2 == 1) 0)
def dragomanlaw2_PlaceSays.l0 : Nat → ByteArray → Int → Int → Int → Bool → Int → Option (Bool)
  | 0, _, _, _, _, _, _ => none
  | k + 1, x0, x2, x13, x14, x15, x16 => if x16 < (x0.size : Int) then (if 0 ≤ x16 then (if (bt x0 x16) = 10 then (if (wrap64 (x13 + 1)) = x2 then (dragomanlaw2_PlaceSays.l0 k x0 x2 (wrap64 (x13 + 1)) (wrap64 (x16 + 1)) true (wrap64 (x16 + 1))) else (dragomanlaw2_PlaceSays.l0 k x0 x2 (wrap64 (x13 + 1)) x14 x15 (wrap64 (x16 + 1)))) else (dragomanlaw2_PlaceSays.l0 k x0 x2 x13 x14 x15 (wrap64 (x16 + 1)))) else (none)) else ((place_Begin.f k x0 x2).bind fun bt279 => ((place_Lines.f x0).bind fun t281 => (if t281 = x13 then (if (bt279.2 == x15) = true then (some (bt279.1 == x14)) else (some false)) else (some false))))
end
def dragomanlaw2_PlaceSays.f (k : Nat) (a0 : ByteArray) (a1 : Int) (a2 : Int) (a3 : Int) : Option (Bool) := (dragomanlaw2_awake.f).bind fun t266 => (if t266 = true then (if (a0.size : Int) > 500 then (some true) else ((place_Of.f k a0 a1).bind fun bt267 => ((dragomanref1_Of.f k a0 a1).bind fun bt269 => (if bt267.1 = bt269.1 then (if bt267.2 = bt269.2 then ((place_Fault.f k a0 a1 a3).bind fun bt271 => ((dragomanref1_Fault.f k a0 a1 a3).bind fun bt275 => (dragomanlaw2_PlaceSays.j0 k a0 a2 (!(bt271.1 == bt275.1) || (!(bt271.2.1 == bt275.2.1) || (!(bt271.2.2.1 == bt275.2.2.1) || (!(bt271.2.2.2 == bt275.2.2.2)))))))) else (dragomanlaw2_PlaceSays.j0 k a0 a2 true)) else (dragomanlaw2_PlaceSays.j0 k a0 a2 true))))) else (some false))
theorem dragomanlaw2_PlaceSays.mono_l : ∀ k, (∀ y0 y1 y2, LeO (dragomanlaw2_PlaceSays.j0 k y0 y1 y2) (dragomanlaw2_PlaceSays.j0 (k + 1) y0 y1 y2)) ∧ (∀ y0 y1 y2 y3 y4 y5, LeO (dragomanlaw2_PlaceSays.l0 k y0 y1 y2 y3 y4 y5) (dragomanlaw2_PlaceSays.l0 (k + 1) y0 y1 y2 y3 y4 y5))
  | 0 => ⟨fun _ _ _ r h => by simp [dragomanlaw2_PlaceSays.j0] at h, fun _ _ _ _ _ _ r h => by simp [dragomanlaw2_PlaceSays.l0] at h⟩
  | k + 1 => by
    obtain ⟨ih0, ih1⟩ := dragomanlaw2_PlaceSays.mono_l k
    refine ⟨?_, ?_⟩
    · intro y0 y1 y2
      unfold dragomanlaw2_PlaceSays.j0
      repeat' first
      | (with_reducible exact ih0 _ _ _)
      | (with_reducible exact ih1 _ _ _ _ _ _)
      | (with_reducible exact dragomanref1_Fault.mono _ _ _ _)
      | (with_reducible exact dragomanref1_Of.mono _ _ _)
      | (with_reducible exact place_Begin.mono _ _ _)
      | (with_reducible exact place_Fault.mono _ _ _ _)
      | (with_reducible exact place_Of.mono _ _ _)
      | (with_reducible exact LeO.refl _)
      | (with_reducible exact LeO.none _)
      | (with_reducible refine LeO.ite ?_ ?_)
      | (with_reducible refine LeO.bind ?_ (fun _ => ?_))
      | exact ih0 _ _ _
      | exact ih1 _ _ _ _ _ _
      | exact dragomanref1_Fault.mono _ _ _ _
      | exact dragomanref1_Of.mono _ _ _
      | exact place_Begin.mono _ _ _
      | exact place_Fault.mono _ _ _ _
      | exact place_Of.mono _ _ _
      | exact LeO.none _
      | refine LeO.ite ?_ ?_
      | refine LeO.bind ?_ (fun _ => ?_)
    · intro y0 y1 y2 y3 y4 y5
      unfold dragomanlaw2_PlaceSays.l0
      repeat' first
      | (with_reducible exact ih0 _ _ _)
      | (with_reducible exact ih1 _ _ _ _ _ _)
      | (with_reducible exact dragomanref1_Fault.mono _ _ _ _)
      | (with_reducible exact dragomanref1_Of.mono _ _ _)
      | (with_reducible exact place_Begin.mono _ _ _)
      | (with_reducible exact place_Fault.mono _ _ _ _)
      | (with_reducible exact place_Of.mono _ _ _)
      | (with_reducible exact LeO.refl _)
      | (with_reducible exact LeO.none _)
      | (with_reducible refine LeO.ite ?_ ?_)
      | (with_reducible refine LeO.bind ?_ (fun _ => ?_))
      | exact ih0 _ _ _
      | exact ih1 _ _ _ _ _ _
      | exact dragomanref1_Fault.mono _ _ _ _
      | exact dragomanref1_Of.mono _ _ _
      | exact place_Begin.mono _ _ _
      | exact place_Fault.mono _ _ _ _
      | exact place_Of.mono _ _ _
      | exact LeO.none _
      | refine LeO.ite ?_ ?_
      | refine LeO.bind ?_ (fun _ => ?_)
theorem dragomanlaw2_PlaceSays.mono : ∀ a0 a1 a2 a3 k, LeO (dragomanlaw2_PlaceSays.f k a0 a1 a2 a3) (dragomanlaw2_PlaceSays.f (k + 1) a0 a1 a2 a3) := by
  intro a0 a1 a2 a3 k
  obtain ⟨ih0, ih1⟩ := dragomanlaw2_PlaceSays.mono_l k
  unfold dragomanlaw2_PlaceSays.f
  repeat' first
      | (with_reducible exact ih0 _ _ _)
      | (with_reducible exact ih1 _ _ _ _ _ _)
      | (with_reducible exact dragomanref1_Fault.mono _ _ _ _)
      | (with_reducible exact dragomanref1_Of.mono _ _ _)
      | (with_reducible exact place_Begin.mono _ _ _)
      | (with_reducible exact place_Fault.mono _ _ _ _)
      | (with_reducible exact place_Of.mono _ _ _)
      | (with_reducible exact LeO.refl _)
      | (with_reducible exact LeO.none _)
      | (with_reducible refine LeO.ite ?_ ?_)
      | (with_reducible refine LeO.bind ?_ (fun _ => ?_))
      | exact ih0 _ _ _
      | exact ih1 _ _ _ _ _ _
      | exact dragomanref1_Fault.mono _ _ _ _
      | exact dragomanref1_Of.mono _ _ _
      | exact place_Begin.mono _ _ _
      | exact place_Fault.mono _ _ _ _
      | exact place_Of.mono _ _ _
      | exact LeO.none _
      | refine LeO.ite ?_ ?_
      | refine LeO.bind ?_ (fun _ => ?_)
set_option maxHeartbeats 8000000 in
set_option maxRecDepth 100000 in
theorem dragomanlaw2_PlaceSays.calls (k : Nat) (a0 : ByteArray) (a1 : Int) (a2 : Int) (a3 : Int) (r : Bool) (w : World) (h : dragomanlaw2_PlaceSays.f k a0 a1 a2 a3 = some r) :
    Calls Try.prog 9 #[.string a0, .int .i64 a1, .int .i64 a2, .int .i64 a3] w fun e w' => e = .returned (.bool r) ∧ Below w.heap.size w w' := by
  have HB := Aside0.mk (Below.refl w.heap.size w)
  have H : ((dragomanlaw2_awake.f).bind fun t266 => (if t266 = true then (if (a0.size : Int) > 500 then (some true) else ((place_Of.f k a0 a1).bind fun bt267 => ((dragomanref1_Of.f k a0 a1).bind fun bt269 => (if bt267.1 = bt269.1 then (if bt267.2 = bt269.2 then ((place_Fault.f k a0 a1 a3).bind fun bt271 => ((dragomanref1_Fault.f k a0 a1 a3).bind fun bt275 => (dragomanlaw2_PlaceSays.j0 k a0 a2 (!(bt271.1 == bt275.1) || (!(bt271.2.1 == bt275.2.1) || (!(bt271.2.2.1 == bt275.2.2.1) || (!(bt271.2.2.2 == bt275.2.2.2)))))))) else (dragomanlaw2_PlaceSays.j0 k a0 a2 true)) else (dragomanlaw2_PlaceSays.j0 k a0 a2 true))))) else (some false))) = some r := h
  clear h
  replace H := Option.bind_eq_some_iff.mp H
  obtain ⟨t266, A50, H⟩ := H
  replace H : (if t266 = true then (if (a0.size : Int) > 500 then (some true) else ((place_Of.f k a0 a1).bind fun bt267 => ((dragomanref1_Of.f k a0 a1).bind fun bt269 => (if bt267.1 = bt269.1 then (if bt267.2 = bt269.2 then ((place_Fault.f k a0 a1 a3).bind fun bt271 => ((dragomanref1_Fault.f k a0 a1 a3).bind fun bt275 => (dragomanlaw2_PlaceSays.j0 k a0 a2 (!(bt271.1 == bt275.1) || (!(bt271.2.1 == bt275.2.1) || (!(bt271.2.2.1 == bt275.2.2.1) || (!(bt271.2.2.2 == bt275.2.2.2)))))))) else (dragomanlaw2_PlaceSays.j0 k a0 a2 true)) else (dragomanlaw2_PlaceSays.j0 k a0 a2 true))))) else (some false)) = some r := H
  have A5 := Aside0.mk A50
  clear A50
  by_cases c6 : t266 = true
  · subst c6
    have H1 : (if (a0.size : Int) > 500 then (some true) else ((place_Of.f k a0 a1).bind fun bt267 => ((dragomanref1_Of.f k a0 a1).bind fun bt269 => (if bt267.1 = bt269.1 then (if bt267.2 = bt269.2 then ((place_Fault.f k a0 a1 a3).bind fun bt271 => ((dragomanref1_Fault.f k a0 a1 a3).bind fun bt275 => (dragomanlaw2_PlaceSays.j0 k a0 a2 (!(bt271.1 == bt275.1) || (!(bt271.2.1 == bt275.2.1) || (!(bt271.2.2.1 == bt275.2.2.1) || (!(bt271.2.2.2 == bt275.2.2.2)))))))) else (dragomanlaw2_PlaceSays.j0 k a0 a2 true)) else (dragomanlaw2_PlaceSays.j0 k a0 a2 true))))) = some r := by rw [if_pos rfl] at H; exact H
    clear H
    have H := H1
    clear H1
    by_cases c7 : (a0.size : Int) > 500
    · rw [if_pos c7] at H
      have c7b0 : decide (500 < (a0.size : Int)) = true := decide_eq_true c7
      have c7b1 : decide (500 < a0.size) = true := decide_eq_true (by omega)
      clear c7
      obtain rfl := Option.some.inj H
      go_enter Try.func9, Try.ntmps9
      go_wp2_with (first | ((with_reducible refine gate_callee (f := 24) rfl ?_); refine goesL_ (some 19) rfl rfl Try.func24 (by kernel_rfl) rfl #[] rfl (by (try simp only [List.map_toArray, List.map_cons, List.map_nil]); first | done | rfl | (simp only [List.length_drop, List.length_take]; rfl)) ?_; (with_reducible refine (dragomanlaw2_awake.calls  true _ A5.out).mono ?_); rintro e w8 ⟨rfl, hb⟩; refine ⟨_, rfl, ?_⟩; have n0_ := Aside0.mk (below_step (by repeat (first | (with_reducible first | exact HB.out | apply below_alloc | apply pw_below_drewN | apply below_drew1) | exact HB.out)) hb); clear HB; have HB := n0_; clear n0_; (try clear hb); (try clear hb2); (try clear hk); (try clear hi)))
      go_ret
      exact ⟨by first | rfl | (simp [errW_none, errW_some] <;> rfl) | (simp [*, errW_none, errW_some, bne]; done) | (simp [*, errW_none, errW_some] <;> rfl), by repeat (first | (with_reducible first | exact HB.out | apply below_alloc | apply pw_below_drewN | apply below_drew1) | exact HB.out)⟩
    · rw [if_neg c7] at H
      have c7b0 : decide (500 < (a0.size : Int)) = false := decide_eq_false c7
      have c7b1 : decide (500 < a0.size) = false := decide_eq_false (by omega)
      clear c7
      replace H := Option.bind_eq_some_iff.mp H
      obtain ⟨⟨t267, t268⟩, A90, H⟩ := H
      replace H : ((dragomanref1_Of.f k a0 a1).bind fun bt269 => (if t267 = bt269.1 then (if t268 = bt269.2 then ((place_Fault.f k a0 a1 a3).bind fun bt271 => ((dragomanref1_Fault.f k a0 a1 a3).bind fun bt275 => (dragomanlaw2_PlaceSays.j0 k a0 a2 (!(bt271.1 == bt275.1) || (!(bt271.2.1 == bt275.2.1) || (!(bt271.2.2.1 == bt275.2.2.1) || (!(bt271.2.2.2 == bt275.2.2.2)))))))) else (dragomanlaw2_PlaceSays.j0 k a0 a2 true)) else (dragomanlaw2_PlaceSays.j0 k a0 a2 true))) = some r := H
      have A9 := Aside0.mk A90
      clear A90
      replace H := Option.bind_eq_some_iff.mp H
      obtain ⟨⟨t269, t270⟩, A100, H⟩ := H
      replace H : (if t267 = t269 then (if t268 = t270 then ((place_Fault.f k a0 a1 a3).bind fun bt271 => ((dragomanref1_Fault.f k a0 a1 a3).bind fun bt275 => (dragomanlaw2_PlaceSays.j0 k a0 a2 (!(bt271.1 == bt275.1) || (!(bt271.2.1 == bt275.2.1) || (!(bt271.2.2.1 == bt275.2.2.1) || (!(bt271.2.2.2 == bt275.2.2.2)))))))) else (dragomanlaw2_PlaceSays.j0 k a0 a2 true)) else (dragomanlaw2_PlaceSays.j0 k a0 a2 true)) = some r := H
      have A10 := Aside0.mk A100
      clear A100
      have HC11 := Aside0.mk H
      clear H
      go_enter Try.func9, Try.ntmps9
      go_upto_region 7 with (first | ((with_reducible refine gate_callee (f := 24) rfl ?_); refine goesL_ (some 19) rfl rfl Try.func24 (by kernel_rfl) rfl #[] rfl (by (try simp only [List.map_toArray, List.map_cons, List.map_nil]); first | done | rfl | (simp only [List.length_drop, List.length_take]; rfl)) ?_; (with_reducible refine (dragomanlaw2_awake.calls  true _ A5.out).mono ?_); rintro e w12 ⟨rfl, hb⟩; refine ⟨_, rfl, ?_⟩; have n0_ := Aside0.mk (below_step (by repeat (first | (with_reducible first | exact HB.out | apply below_alloc | apply pw_below_drewN | apply below_drew1) | exact HB.out)) hb); clear HB; have HB := n0_; clear n0_; (try clear hb); (try clear hb2); (try clear hk); (try clear hi)) | ((with_reducible refine gate_callee (f := 25) rfl ?_); refine goesL_ (some 27) rfl rfl Try.func25 (by kernel_rfl) rfl #[.string a0, .int .i64 a1] rfl (by (try simp only [List.map_toArray, List.map_cons, List.map_nil]); first | done | rfl | (simp only [List.length_drop, List.length_take]; rfl)) ?_; (with_reducible refine (place_Of.calls k a0 a1 t267 t268 _ A9.out).mono ?_); rintro e w13 ⟨rfl, hb⟩; refine ⟨_, rfl, ?_⟩; have n0_ := Aside0.mk (below_step (by repeat (first | (with_reducible first | exact HB.out | apply below_alloc | apply pw_below_drewN | apply below_drew1) | exact HB.out)) hb); clear HB; have HB := n0_; clear n0_; (try clear hb); (try clear hb2); (try clear hk); (try clear hi)) | ((with_reducible refine gate_callee (f := 28) rfl ?_); refine goesL_ (some 33) rfl rfl Try.func28 (by kernel_rfl) rfl #[.string a0, .int .i64 a1] rfl (by (try simp only [List.map_toArray, List.map_cons, List.map_nil]); first | done | rfl | (simp only [List.length_drop, List.length_take]; rfl)) ?_; (with_reducible refine (dragomanref1_Of.calls k a0 a1 t269 t270 _ A10.out).mono ?_); rintro e w14 ⟨rfl, hb⟩; refine ⟨_, rfl, ?_⟩; have n0_ := Aside0.mk (below_step (by repeat (first | (with_reducible first | exact HB.out | apply below_alloc | apply pw_below_drewN | apply below_drew1) | exact HB.out)) hb); clear HB; have HB := n0_; clear n0_; (try clear hb); (try clear hb2); (try clear hk); (try clear hi)))
      (try simp only [Act.put, List.setIfInBounds_toArray, List.set_cons_zero, List.set_cons_succ])
      go_cut [54] (fun v54 wc => ∃ (kq : Nat) (x54_10 : Bool), v54 = .bool x54_10 ∧ Aside0 (dragomanlaw2_PlaceSays.j0 kq a0 a2 x54_10 = some r) ∧ Aside0 (kq ≤ k) ∧ Aside0 (Below w.heap.size w wc))
      case first =>
        have H := HC11.out
        clear HC11
        by_cases c15 : t267 = t269
        · rw [if_pos c15] at H
          have c15b0 : (t267 == t269) = true := beq_iff_eq.mpr c15
          have c15b1 : (t267 != t269) = false := bne_eq_false_iff_eq.mpr c15
          clear c15
          (first | rw [c15b0] | (simp only [i64_w, i32_w]; rw [c15b0]) | skip)
          by_cases c16 : t268 = t270
          · rw [if_pos c16] at H
            have c16b0 : (t268 == t270) = true := beq_iff_eq.mpr c16
            have c16b1 : (t268 != t270) = false := bne_eq_false_iff_eq.mpr c16
            clear c16
            replace H := Option.bind_eq_some_iff.mp H
            obtain ⟨⟨t271, t272, t273, t274⟩, A170, H⟩ := H
            replace H : ((dragomanref1_Fault.f k a0 a1 a3).bind fun bt275 => (dragomanlaw2_PlaceSays.j0 k a0 a2 (!(t271 == bt275.1) || (!(t272 == bt275.2.1) || (!(t273 == bt275.2.2.1) || (!(t274 == bt275.2.2.2))))))) = some r := H
            have A17 := Aside0.mk A170
            clear A170
            replace H := Option.bind_eq_some_iff.mp H
            obtain ⟨⟨t275, t276, t277, t278⟩, A180, H⟩ := H
            replace H : (dragomanlaw2_PlaceSays.j0 k a0 a2 (!(t271 == t275) || (!(t272 == t276) || (!(t273 == t277) || (!(t274 == t278)))))) = some r := H
            have A18 := Aside0.mk A180
            clear A180
            have H' := Aside0.mk H
            clear H
            go_wp2_with (first | (go_at_call 29; (with_reducible refine (place_Fault.calls k a0 a1 a3 t271 t272 t273 t274 _ A17.out).mono ?_); rintro e w19 ⟨rfl, hb⟩; have n0_ := Aside0.mk (below_step (by repeat (first | (with_reducible first | exact HB.out | apply below_alloc | apply pw_below_drewN | apply below_drew1) | exact HB.out)) hb); clear HB; have HB := n0_; clear n0_; (try clear hb); (try clear hb2); (try clear hk); (try clear hi)) | (go_at_call 30; (with_reducible refine (dragomanref1_Fault.calls k a0 a1 a3 t275 t276 t277 t278 _ A18.out).mono ?_); rintro e w20 ⟨rfl, hb⟩; have n0_ := Aside0.mk (below_step (by repeat (first | (with_reducible first | exact HB.out | apply below_alloc | apply pw_below_drewN | apply below_drew1) | exact HB.out)) hb); clear HB; have HB := n0_; clear n0_; (try clear hb); (try clear hb2); (try clear hk); (try clear hi)))
            go_meet
            case rel => exact ⟨_, ((!(t271 == t275) || (!(t272 == t276) || (!(t273 == t277) || (!(t274 == t278)))))), (by first | rfl | (simp; done) | (simp [*]; done)), H', ⟨by first | omega | exact Nat.le_refl _⟩, ⟨by repeat (first | (with_reducible first | exact HB.out | apply below_alloc | apply pw_below_drewN | apply below_drew1) | exact HB.out)⟩⟩
          · rw [if_neg c16] at H
            have c16b0 : (t268 == t270) = false := beq_eq_false_iff_ne.mpr c16
            have c16b1 : (t268 != t270) = true := bne_iff_ne.mpr c16
            have H' := Aside0.mk H
            clear H
            go_wp2
            go_meet
            case rel => exact ⟨_, (true), (by first | rfl | (simp; done) | (simp [*]; done)), H', ⟨by first | omega | exact Nat.le_refl _⟩, ⟨by repeat (first | (with_reducible first | exact HB.out | apply below_alloc | apply pw_below_drewN | apply below_drew1) | exact HB.out)⟩⟩
        · rw [if_neg c15] at H
          have c15b0 : (t267 == t269) = false := beq_eq_false_iff_ne.mpr c15
          have c15b1 : (t267 != t269) = true := bne_iff_ne.mpr c15
          (first | rw [c15b0] | (simp only [i64_w, i32_w]; rw [c15b0]) | skip)
          have H' := Aside0.mk H
          clear H
          go_wp2
          go_meet
          case rel => exact ⟨_, (true), (by first | rfl | (simp; done) | (simp [*]; done)), H', ⟨by first | omega | exact Nat.le_refl _⟩, ⟨by repeat (first | (with_reducible first | exact HB.out | apply below_alloc | apply pw_below_drewN | apply below_drew1) | exact HB.out)⟩⟩
      case rest =>
        clear HC11
        try clear c1
        try clear c2
        try clear p2
        try clear c6
        try clear c7
        try clear c7b0
        try clear c7b1
        try clear c9
        try clear c15
        try clear c15b0
        try clear c15b1
        try clear c16
        try clear c16b0
        try clear c16b1
        obtain ⟨kq, x54_10, rfl, HA, HJ10, HB⟩ := hcut
        cases kq with
        | zero => exact absurd HA.out (by simp [dragomanlaw2_PlaceSays.j0])
        | succ kj10 =>
          have H := HA.out
          clear HA
          simp only [dragomanlaw2_PlaceSays.j0] at H
          by_cases c21 : x54_10 = true
          · subst c21
            have H1 : (some false) = some r := by rw [if_pos rfl] at H; exact H
            clear H
            have H := H1
            clear H1
            obtain rfl := Option.some.inj H
            go_wp2
            go_ret
            exact ⟨by first | rfl | (simp [errW_none, errW_some] <;> rfl) | (simp [*, errW_none, errW_some, bne]; done) | (simp [*, errW_none, errW_some] <;> rfl), by repeat (first | (with_reducible first | exact HB.out | apply below_alloc | apply pw_below_drewN | apply below_drew1) | exact HB.out)⟩
          · replace c21 := Bool.eq_false_iff.mpr c21
            subst c21
            have H1 : (dragomanlaw2_PlaceSays.l0 kj10 a0 a2 1 0 (a2 == 1) 0) = some r := by rw [if_neg (show ¬ (false = true) by decide)] at H; exact H
            clear H
            have H := H1
            clear H1
            have H' := Aside0.mk H
            clear H
            go_wp2
            go_loopg [13, 14, 15, 16] kj10 (fun kq v13 v14 v15 v16 w' => ∃ (x13_2 : Int) (x14_2 : Int) (x15_2 : Bool) (x16_2 : Int), v13 = .int .i64 x13_2 ∧ v14 = .int .i64 x14_2 ∧ v15 = .bool x15_2 ∧ v16 = .int .i64 x16_2 ∧ Aside0 (dragomanlaw2_PlaceSays.l0 kq a0 a2 x13_2 x14_2 x15_2 x16_2 = some r) ∧ Aside0 (kq ≤ kj10) ∧ Aside0 (Below w.heap.size w w'))
            case atStart => exact ⟨(1), (0), ((a2 == 1)), (0), (by first | rfl | (simp; done) | (simp [*]; done)), (by first | rfl | (simp; done) | (simp [*]; done)), (by first | rfl | (simp; done) | (simp [*]; done)), (by first | rfl | (simp; done) | (simp [*]; done)), H', ⟨Nat.le_refl _⟩, ⟨by repeat (first | (with_reducible first | exact HB.out | apply below_alloc | apply pw_below_drewN | apply below_drew1) | exact HB.out)⟩⟩
            case round =>
              clear H'
              try clear c1
              try clear c2
              try clear p2
              try clear c6
              try clear c7
              try clear c7b0
              try clear c7b1
              try clear c9
              try clear c15
              try clear c15b0
              try clear c15b1
              try clear c16
              try clear c16b0
              try clear c16b1
              try clear c21
              try clear p2
              obtain ⟨x13_2, x14_2, x15_2, x16_2, rfl, rfl, rfl, rfl, HA, HK2, HB⟩ := hrel
              cases gk with
              | zero => exact absurd HA.out (by simp [dragomanlaw2_PlaceSays.l0])
              | succ k2 =>
                have H := HA.out
                clear HA
                simp only [dragomanlaw2_PlaceSays.l0] at H
                by_cases c22 : x16_2 < (a0.size : Int)
                · rw [if_pos c22] at H
                  have c22b0 : decide (x16_2 < (a0.size : Int)) = true := decide_eq_true c22
                  clear c22
                  by_cases c23 : 0 ≤ x16_2
                  · rw [if_pos c23] at H
                    have c23b0 : decide (0 ≤ x16_2) = true := decide_eq_true c23
                    clear c23
                    by_cases c25 : (bt a0 x16_2) = 10
                    · rw [if_pos c25] at H
                      have c25b0 : ((bt a0 x16_2) == 10) = true := beq_iff_eq.mpr c25
                      have c25b1 : ((bt a0 x16_2) != 10) = false := bne_eq_false_iff_eq.mpr c25
                      clear c25
                      by_cases c26 : (wrap64 (x13_2 + 1)) = a2
                      · rw [if_pos c26] at H
                        have c26b0 : ((wrap64 (x13_2 + 1)) == a2) = true := beq_iff_eq.mpr c26
                        have c26b1 : ((wrap64 (x13_2 + 1)) != a2) = false := bne_eq_false_iff_eq.mpr c26
                        clear c26
                        have H' := Aside0.mk H
                        clear H
                        have p24 : 0 ≤ (x16_2 : Int) := of_decide_eq_true (by first | (with_reducible assumption) | assumption)
                        have q24 : x16_2 < (a0.size : Int) := of_decide_eq_true (by first | (with_reducible assumption) | assumption)
                        have hx24 := bt_at a0 x16_2
                        replace p24 := eq_true p24
                        replace q24 := eq_true q24
                        go_wp2
                        go_roundg k2
                        case measure => have := HJ10.out; have := HK2.out; omega
                        case rel => exact ⟨(wrap64 (x13_2 + 1)), (wrap64 (x16_2 + 1)), (true), (wrap64 (x16_2 + 1)), (by first | rfl | (simp; done) | (simp [*]; done)), (by first | rfl | (simp; done) | (simp [*]; done)), (by first | rfl | (simp; done) | (simp [*]; done)), (by first | rfl | (simp; done) | (simp [*]; done)), H', ⟨by have := HJ10.out; have := HK2.out; omega⟩, ⟨by repeat (first | (with_reducible first | exact HB.out | apply below_alloc | apply pw_below_drewN | apply below_drew1) | exact HB.out)⟩⟩
                      · rw [if_neg c26] at H
                        have c26b0 : ((wrap64 (x13_2 + 1)) == a2) = false := beq_eq_false_iff_ne.mpr c26
                        have c26b1 : ((wrap64 (x13_2 + 1)) != a2) = true := bne_iff_ne.mpr c26
                        have H' := Aside0.mk H
                        clear H
                        have p24 : 0 ≤ (x16_2 : Int) := of_decide_eq_true (by first | (with_reducible assumption) | assumption)
                        have q24 : x16_2 < (a0.size : Int) := of_decide_eq_true (by first | (with_reducible assumption) | assumption)
                        have hx24 := bt_at a0 x16_2
                        replace p24 := eq_true p24
                        replace q24 := eq_true q24
                        go_wp2
                        go_roundg k2
                        case measure => have := HJ10.out; have := HK2.out; omega
                        case rel => exact ⟨(wrap64 (x13_2 + 1)), (x14_2), (x15_2), (wrap64 (x16_2 + 1)), (by first | rfl | (simp; done) | (simp [*]; done)), (by first | rfl | (simp; done) | (simp [*]; done)), (by first | rfl | (simp; done) | (simp [*]; done)), (by first | rfl | (simp; done) | (simp [*]; done)), H', ⟨by have := HJ10.out; have := HK2.out; omega⟩, ⟨by repeat (first | (with_reducible first | exact HB.out | apply below_alloc | apply pw_below_drewN | apply below_drew1) | exact HB.out)⟩⟩
                    · rw [if_neg c25] at H
                      have c25b0 : ((bt a0 x16_2) == 10) = false := beq_eq_false_iff_ne.mpr c25
                      have c25b1 : ((bt a0 x16_2) != 10) = true := bne_iff_ne.mpr c25
                      have H' := Aside0.mk H
                      clear H
                      have p24 : 0 ≤ (x16_2 : Int) := of_decide_eq_true (by first | (with_reducible assumption) | assumption)
                      have q24 : x16_2 < (a0.size : Int) := of_decide_eq_true (by first | (with_reducible assumption) | assumption)
                      have hx24 := bt_at a0 x16_2
                      replace p24 := eq_true p24
                      replace q24 := eq_true q24
                      go_wp2
                      go_roundg k2
                      case measure => have := HJ10.out; have := HK2.out; omega
                      case rel => exact ⟨(x13_2), (x14_2), (x15_2), (wrap64 (x16_2 + 1)), (by first | rfl | (simp; done) | (simp [*]; done)), (by first | rfl | (simp; done) | (simp [*]; done)), (by first | rfl | (simp; done) | (simp [*]; done)), (by first | rfl | (simp; done) | (simp [*]; done)), H', ⟨by have := HJ10.out; have := HK2.out; omega⟩, ⟨by repeat (first | (with_reducible first | exact HB.out | apply below_alloc | apply pw_below_drewN | apply below_drew1) | exact HB.out)⟩⟩
                  · rw [if_neg c23] at H
                    exact absurd H (by simp)
                · rw [if_neg c22] at H
                  have c22b0 : decide (x16_2 < (a0.size : Int)) = false := decide_eq_false c22
                  clear c22
                  replace H := Option.bind_eq_some_iff.mp H
                  obtain ⟨⟨t279, t280⟩, A270, H⟩ := H
                  replace H : ((place_Lines.f a0).bind fun t281 => (if t281 = x13_2 then (if (t280 == x15_2) = true then (some (t279 == x14_2)) else (some false)) else (some false))) = some r := H
                  have A27 := Aside0.mk A270
                  clear A270
                  replace H := Option.bind_eq_some_iff.mp H
                  obtain ⟨t281, A280, H⟩ := H
                  replace H : (if t281 = x13_2 then (if (t280 == x15_2) = true then (some (t279 == x14_2)) else (some false)) else (some false)) = some r := H
                  have A28 := Aside0.mk A280
                  clear A280
                  by_cases c29 : t281 = x13_2
                  · rw [if_pos c29] at H
                    have c29b0 : (t281 == x13_2) = true := beq_iff_eq.mpr c29
                    have c29b1 : (t281 != x13_2) = false := bne_eq_false_iff_eq.mpr c29
                    clear c29
                    by_cases c30 : (t280 == x15_2) = true
                    · rw [if_pos c30] at H
                      have c30b0 : (t280 == x15_2) = true := c30
                      (try (have c30b1 : decide (t280 = x15_2) = true := by simpa using c30))
                      (try (have c30b2 : (t280 == x15_2) = true := by simpa using c30))
                      clear c30
                      obtain rfl := Option.some.inj H
                      go_wp2_with (first | ((with_reducible refine gate_callee (f := 26) rfl ?_); refine goesL_ (some 77) rfl rfl Try.func26 (by kernel_rfl) rfl #[.string a0, .int .i64 a2] rfl (by (try simp only [List.map_toArray, List.map_cons, List.map_nil]); first | done | rfl | (simp only [List.length_drop, List.length_take]; rfl)) ?_; (with_reducible refine (place_Begin.calls k2 a0 a2 t279 t280 _ A27.out).mono ?_); rintro e w' ⟨rfl, ⟨nd, rfl⟩⟩; refine ⟨_, rfl, ?_⟩) | ((with_reducible refine gate_callee (f := 27) rfl ?_); refine goesL_ (some 81) rfl rfl Try.func27 (by kernel_rfl) rfl #[.string a0] rfl (by (try simp only [List.map_toArray, List.map_cons, List.map_nil]); first | done | rfl | (simp only [List.length_drop, List.length_take]; rfl)) ?_; (with_reducible refine (place_Lines.calls a0 t281 _ A28.out).mono ?_); rintro e w' ⟨rfl, ⟨nd, rfl⟩⟩; refine ⟨_, rfl, ?_⟩))
                      go_ret
                      exact ⟨by first | rfl | (simp [errW_none, errW_some] <;> rfl) | (simp [*, errW_none, errW_some, bne]; done) | (simp [*, errW_none, errW_some] <;> rfl), by repeat (first | (with_reducible first | exact HB.out | apply below_alloc | apply pw_below_drewN | apply below_drew1) | exact HB.out)⟩
                    · rw [if_neg c30] at H
                      have c30b0 : (t280 == x15_2) = false := by simpa using c30
                      (try (have c30b1 : decide (t280 = x15_2) = false := by simpa using c30))
                      (try (have c30b2 : (t280 == x15_2) = false := by simpa using c30))
                      (try (have c30b3 : ¬ (t280 = x15_2) := by simpa using c30))
                      clear c30
                      obtain rfl := Option.some.inj H
                      go_wp2_with (first | ((with_reducible refine gate_callee (f := 26) rfl ?_); refine goesL_ (some 77) rfl rfl Try.func26 (by kernel_rfl) rfl #[.string a0, .int .i64 a2] rfl (by (try simp only [List.map_toArray, List.map_cons, List.map_nil]); first | done | rfl | (simp only [List.length_drop, List.length_take]; rfl)) ?_; (with_reducible refine (place_Begin.calls k2 a0 a2 t279 t280 _ A27.out).mono ?_); rintro e w' ⟨rfl, ⟨nd, rfl⟩⟩; refine ⟨_, rfl, ?_⟩) | ((with_reducible refine gate_callee (f := 27) rfl ?_); refine goesL_ (some 81) rfl rfl Try.func27 (by kernel_rfl) rfl #[.string a0] rfl (by (try simp only [List.map_toArray, List.map_cons, List.map_nil]); first | done | rfl | (simp only [List.length_drop, List.length_take]; rfl)) ?_; (with_reducible refine (place_Lines.calls a0 t281 _ A28.out).mono ?_); rintro e w' ⟨rfl, ⟨nd, rfl⟩⟩; refine ⟨_, rfl, ?_⟩))
                      go_ret
                      exact ⟨by first | rfl | (simp [errW_none, errW_some] <;> rfl) | (simp [*, errW_none, errW_some, bne]; done) | (simp [*, errW_none, errW_some] <;> rfl), by repeat (first | (with_reducible first | exact HB.out | apply below_alloc | apply pw_below_drewN | apply below_drew1) | exact HB.out)⟩
                  · rw [if_neg c29] at H
                    have c29b0 : (t281 == x13_2) = false := beq_eq_false_iff_ne.mpr c29
                    have c29b1 : (t281 != x13_2) = true := bne_iff_ne.mpr c29
                    obtain rfl := Option.some.inj H
                    go_wp2_with (first | ((with_reducible refine gate_callee (f := 26) rfl ?_); refine goesL_ (some 77) rfl rfl Try.func26 (by kernel_rfl) rfl #[.string a0, .int .i64 a2] rfl (by (try simp only [List.map_toArray, List.map_cons, List.map_nil]); first | done | rfl | (simp only [List.length_drop, List.length_take]; rfl)) ?_; (with_reducible refine (place_Begin.calls k2 a0 a2 t279 t280 _ A27.out).mono ?_); rintro e w' ⟨rfl, ⟨nd, rfl⟩⟩; refine ⟨_, rfl, ?_⟩) | ((with_reducible refine gate_callee (f := 27) rfl ?_); refine goesL_ (some 81) rfl rfl Try.func27 (by kernel_rfl) rfl #[.string a0] rfl (by (try simp only [List.map_toArray, List.map_cons, List.map_nil]); first | done | rfl | (simp only [List.length_drop, List.length_take]; rfl)) ?_; (with_reducible refine (place_Lines.calls a0 t281 _ A28.out).mono ?_); rintro e w' ⟨rfl, ⟨nd, rfl⟩⟩; refine ⟨_, rfl, ?_⟩))
                    go_ret
                    exact ⟨by first | rfl | (simp [errW_none, errW_some] <;> rfl) | (simp [*, errW_none, errW_some, bne]; done) | (simp [*, errW_none, errW_some] <;> rfl), by repeat (first | (with_reducible first | exact HB.out | apply below_alloc | apply pw_below_drewN | apply below_drew1) | exact HB.out)⟩
  · replace c6 := Bool.eq_false_iff.mpr c6
    subst c6
    have H1 : (some false) = some r := by rw [if_neg (show ¬ (false = true) by decide)] at H; exact H
    clear H
    have H := H1
    clear H1
    obtain rfl := Option.some.inj H
    go_enter Try.func9, Try.ntmps9
    go_wp2_with (first | ((with_reducible refine gate_callee (f := 24) rfl ?_); refine goesL_ (some 19) rfl rfl Try.func24 (by kernel_rfl) rfl #[] rfl (by (try simp only [List.map_toArray, List.map_cons, List.map_nil]); first | done | rfl | (simp only [List.length_drop, List.length_take]; rfl)) ?_; (with_reducible refine (dragomanlaw2_awake.calls  false _ A5.out).mono ?_); rintro e w31 ⟨rfl, hb⟩; refine ⟨_, rfl, ?_⟩; have n0_ := Aside0.mk (below_step (by repeat (first | (with_reducible first | exact HB.out | apply below_alloc | apply pw_below_drewN | apply below_drew1) | exact HB.out)) hb); clear HB; have HB := n0_; clear n0_; (try clear hb); (try clear hb2); (try clear hk); (try clear hi)))
    go_ret
    exact ⟨by first | rfl | (simp [errW_none, errW_some] <;> rfl) | (simp [*, errW_none, errW_some, bne]; done) | (simp [*, errW_none, errW_some] <;> rfl), by repeat (first | (with_reducible first | exact HB.out | apply below_alloc | apply pw_below_drewN | apply below_drew1) | exact HB.out)⟩

/-- THE ONE PURE STATEMENT of dragomanlaw2_PlaceSays: yours. -/
def dragomanlaw2_PlaceSays.Pure : Prop := ∀ (a0 : ByteArray) (a1 : Int) (a2 : Int) (a3 : Int), a0.size ≤ 140737488351232 → (Lit.int .i64 a1).wf = true → (Lit.int .i64 a2).wf = true → (Lit.int .i64 a3).wf = true → ∃ k, dragomanlaw2_PlaceSays.f k a0 a1 a2 a3 = some true
theorem dragomanlaw2_PlaceSays.walk (P : dragomanlaw2_PlaceSays.Pure) (a0 : ByteArray) (a1 : Int) (a2 : Int) (a3 : Int) (w : World) (w0 : a0.size ≤ 140737488351232) (w1 : (Lit.int .i64 a1).wf = true) (w2 : (Lit.int .i64 a2).wf = true) (w3 : (Lit.int .i64 a3).wf = true) :
    Calls Try.prog 9 #[.string a0, .int .i64 a1, .int .i64 a2, .int .i64 a3] w fun e w' => e = .returned (.bool true) ∧ Below w.heap.size w w' := by
  obtain ⟨k, h⟩ := P a0 a1 a2 a3 w0 w1 w2 w3
  refine (dragomanlaw2_PlaceSays.calls k a0 a1 a2 a3 true w h).mono ?_
  rintro e w' ⟨rfl, hd⟩
  exact ⟨rfl, hd⟩

end Go.Proofs.Ytagjfnjfhflahaa.P
