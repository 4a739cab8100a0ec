/- Functions of this seat as plain Lean functions, with the proof that the machine comes to what they say: by a scratch print with stubs. -/
import Derived.Test.YtkcpbglimpaieaaVx0
import Derived.Test.YtkcpbglimpaieaaVx1
import Derived.Test.YtkcpbglimpaieaaVx2
namespace Go.Proofs.Ytkcpbglimpaieaa.V
open Go.RowKit Go.Proofs.YtkcpbglimpaieaaW.PrintWords Go.Proofs.YtkcpbglimpaieaaW.PrintLast Go.Proofs.YtkcpbglimpaieaaW.PrintMore
attribute [local go_sem] max2_int min2_int max_two min_two max_three min_three max_four min_four   -- for this text's walks alone
set_option linter.unusedVariables false
set_option linter.unusedSimpArgs false

/-! ### platelayerlaw12_VictimGains: function 3 -/
mutual
def platelayerlaw12_VictimGains.j0 : Nat → Int → Int → Int → List (S29) → Bool → Option (Bool)
  | 0, _, _, _, _, _ => none
  | k + 1, x0, x1, x2, x3, x33 => if x33 = true then (some true) else ((victim_Choose.f k x0 x1 x2 x3).bind fun t192 => (platelayerlaw12_VictimGains.l0 k x1 x3 t192 0 x2 x3 (x3.length : Int) 0))
def platelayerlaw12_VictimGains.l0 : Nat → Int → List (S29) → List Int → Int → Int → List (S29) → Int → Int → Option (Bool)
  | 0, _, _, _, _, _, _, _, _ => none
  | k + 1, x1, x3, x9, x10, x11, x40, x41, x42 => if x42 < x41 then (if 0 ≤ x42 then (if x42 < (x40.length : Int) then (platelayerlaw12_VictimGains.l0 k x1 x3 x9 (wrap64 (x10 + ((rd_T29 x40 x42).f1))) x11 x40 x41 (wrap64 (x42 + 1))) else (none)) else (none)) else (platelayerlaw12_VictimGains.l1 k x1 x3 x9 x10 x11 x9 (x9.length : Int) 0)
def platelayerlaw12_VictimGains.l1 : Nat → Int → List (S29) → List Int → Int → Int → List Int → Int → Int → Option (Bool)
  | 0, _, _, _, _, _, _, _, _ => none
  | k + 1, x1, x3, x9, x10, x11, x51, x52, x53 => if x53 < x52 then (if 0 ≤ x53 then (if x53 < (x51.length : Int) then (platelayerlaw12_VictimGains.l2 k x1 x3 x9 x10 x11 (rd x51 x53) false x51 x52 x53 x3 (x3.length : Int) 0) else (none)) else (none)) else (if x1 = 0 then (none) else (if (x9.length : Int) > 0 then (if (wrap64 (Int.tdiv (wrap64 ((wrap64 (x11 + x1)) - 1)) x1)) ≥ (x9.length : Int) then (some false) else (if (wrap64 (Int.tdiv (wrap64 ((wrap64 (x11 + x1)) - 1)) x1)) > 3 then (some false) else (if (x9.length : Int) > (x3.length : Int) then (some false) else (some true)))) else (if (x3.length : Int) < 4 then (some true) else (some (decide ((wrap64 (2 * x10)) > (wrap64 ((x3.length : Int) * x1))))))))
def platelayerlaw12_VictimGains.l2 : Nat → Int → List (S29) → List Int → Int → Int → Int → Bool → List Int → Int → Int → List (S29) → Int → Int → Option (Bool)
  | 0, _, _, _, _, _, _, _, _, _, _, _, _, _ => none
  | k + 1, x1, x3, x9, x10, x11, x15, x16, x51, x52, x53, x57, x58, x59 => if x59 < x58 then (if 0 ≤ x59 then (if x59 < (x57.length : Int) then (if ((rd_T29 x57 x59).f0) = x15 then (platelayerlaw12_VictimGains.l2 k x1 x3 x9 x10 (wrap64 (x11 + ((rd_T29 x57 x59).f1))) x15 true x51 x52 x53 x57 x58 (wrap64 (x59 + 1))) else (platelayerlaw12_VictimGains.l2 k x1 x3 x9 x10 x11 x15 x16 x51 x52 x53 x57 x58 (wrap64 (x59 + 1)))) else (none)) else (none)) else (if x16 = true then (platelayerlaw12_VictimGains.l1 k x1 x3 x9 x10 x11 x51 x52 (wrap64 (x53 + 1))) else (some false))
end
def platelayerlaw12_VictimGains.f (k : Nat) (a0 : Int) (a1 : Int) (a2 : Int) (l3 : List (S29)) : Option (Bool) := (platelayerlaw12_awake.f k).bind fun t190 => (if t190 = true then ((platelayerlaw12_outside.f k a1 l3).bind fun t191 => (if t191 = true then (platelayerlaw12_VictimGains.j0 k a0 a1 a2 l3 true) else (if a2 < 0 then (platelayerlaw12_VictimGains.j0 k a0 a1 a2 l3 true) else (platelayerlaw12_VictimGains.j0 k a0 a1 a2 l3 (decide (a2 > a1)))))) else (some false))
theorem platelayerlaw12_VictimGains.mono_l : ∀ k, (∀ y0 y1 y2 y3 y4, LeO (platelayerlaw12_VictimGains.j0 k y0 y1 y2 y3 y4) (platelayerlaw12_VictimGains.j0 (k + 1) y0 y1 y2 y3 y4)) ∧ (∀ y0 y1 y2 y3 y4 y5 y6 y7, LeO (platelayerlaw12_VictimGains.l0 k y0 y1 y2 y3 y4 y5 y6 y7) (platelayerlaw12_VictimGains.l0 (k + 1) y0 y1 y2 y3 y4 y5 y6 y7)) ∧ (∀ y0 y1 y2 y3 y4 y5 y6 y7, LeO (platelayerlaw12_VictimGains.l1 k y0 y1 y2 y3 y4 y5 y6 y7) (platelayerlaw12_VictimGains.l1 (k + 1) y0 y1 y2 y3 y4 y5 y6 y7)) ∧ (∀ y0 y1 y2 y3 y4 y5 y6 y7 y8 y9 y10 y11 y12, LeO (platelayerlaw12_VictimGains.l2 k y0 y1 y2 y3 y4 y5 y6 y7 y8 y9 y10 y11 y12) (platelayerlaw12_VictimGains.l2 (k + 1) y0 y1 y2 y3 y4 y5 y6 y7 y8 y9 y10 y11 y12))
  | 0 => ⟨fun _ _ _ _ _ r h => by simp [platelayerlaw12_VictimGains.j0] at h, fun _ _ _ _ _ _ _ _ r h => by simp [platelayerlaw12_VictimGains.l0] at h, fun _ _ _ _ _ _ _ _ r h => by simp [platelayerlaw12_VictimGains.l1] at h, fun _ _ _ _ _ _ _ _ _ _ _ _ _ r h => by simp [platelayerlaw12_VictimGains.l2] at h⟩
  | k + 1 => by
    obtain ⟨ih0, ih1, ih2, ih3⟩ := platelayerlaw12_VictimGains.mono_l k
    refine ⟨?_, ?_, ?_, ?_⟩
    · intro y0 y1 y2 y3 y4
      unfold platelayerlaw12_VictimGains.j0
      repeat' first
      | (with_reducible exact ih0 _ _ _ _ _)
      | (with_reducible exact ih1 _ _ _ _ _ _ _ _)
      | (with_reducible exact ih2 _ _ _ _ _ _ _ _)
      | (with_reducible exact ih3 _ _ _ _ _ _ _ _ _ _ _ _ _)
      | (with_reducible exact platelayerlaw12_awake.mono _)
      | (with_reducible exact platelayerlaw12_outside.mono _ _ _)
      | (with_reducible exact victim_Choose.mono _ _ _ _ _)
      | (with_reducible exact LeO.refl _)
      | (with_reducible exact LeO.none _)
      | (with_reducible refine LeO.ite ?_ ?_)
      | (with_reducible refine LeO.bind ?_ (fun _ => ?_))
      | exact ih0 _ _ _ _ _
      | exact ih1 _ _ _ _ _ _ _ _
      | exact ih2 _ _ _ _ _ _ _ _
      | exact ih3 _ _ _ _ _ _ _ _ _ _ _ _ _
      | exact platelayerlaw12_awake.mono _
      | exact platelayerlaw12_outside.mono _ _ _
      | exact victim_Choose.mono _ _ _ _ _
      | exact LeO.none _
      | refine LeO.ite ?_ ?_
      | refine LeO.bind ?_ (fun _ => ?_)
    · intro y0 y1 y2 y3 y4 y5 y6 y7
      unfold platelayerlaw12_VictimGains.l0
      repeat' first
      | (with_reducible exact ih0 _ _ _ _ _)
      | (with_reducible exact ih1 _ _ _ _ _ _ _ _)
      | (with_reducible exact ih2 _ _ _ _ _ _ _ _)
      | (with_reducible exact ih3 _ _ _ _ _ _ _ _ _ _ _ _ _)
      | (with_reducible exact platelayerlaw12_awake.mono _)
      | (with_reducible exact platelayerlaw12_outside.mono _ _ _)
      | (with_reducible exact victim_Choose.mono _ _ _ _ _)
      | (with_reducible exact LeO.refl _)
      | (with_reducible exact LeO.none _)
      | (with_reducible refine LeO.ite ?_ ?_)
      | (with_reducible refine LeO.bind ?_ (fun _ => ?_))
      | exact ih0 _ _ _ _ _
      | exact ih1 _ _ _ _ _ _ _ _
      | exact ih2 _ _ _ _ _ _ _ _
      | exact ih3 _ _ _ _ _ _ _ _ _ _ _ _ _
      | exact platelayerlaw12_awake.mono _
      | exact platelayerlaw12_outside.mono _ _ _
      | exact victim_Choose.mono _ _ _ _ _
      | exact LeO.none _
      | refine LeO.ite ?_ ?_
      | refine LeO.bind ?_ (fun _ => ?_)
    · intro y0 y1 y2 y3 y4 y5 y6 y7
      unfold platelayerlaw12_VictimGains.l1
      repeat' first
      | (with_reducible exact ih0 _ _ _ _ _)
      | (with_reducible exact ih1 _ _ _ _ _ _ _ _)
      | (with_reducible exact ih2 _ _ _ _ _ _ _ _)
      | (with_reducible exact ih3 _ _ _ _ _ _ _ _ _ _ _ _ _)
      | (with_reducible exact platelayerlaw12_awake.mono _)
      | (with_reducible exact platelayerlaw12_outside.mono _ _ _)
      | (with_reducible exact victim_Choose.mono _ _ _ _ _)
      | (with_reducible exact LeO.refl _)
      | (with_reducible exact LeO.none _)
      | (with_reducible refine LeO.ite ?_ ?_)
      | (with_reducible refine LeO.bind ?_ (fun _ => ?_))
      | exact ih0 _ _ _ _ _
      | exact ih1 _ _ _ _ _ _ _ _
      | exact ih2 _ _ _ _ _ _ _ _
      | exact ih3 _ _ _ _ _ _ _ _ _ _ _ _ _
      | exact platelayerlaw12_awake.mono _
      | exact platelayerlaw12_outside.mono _ _ _
      | exact victim_Choose.mono _ _ _ _ _
      | exact LeO.none _
      | refine LeO.ite ?_ ?_
      | refine LeO.bind ?_ (fun _ => ?_)
    · intro y0 y1 y2 y3 y4 y5 y6 y7 y8 y9 y10 y11 y12
      unfold platelayerlaw12_VictimGains.l2
      repeat' first
      | (with_reducible exact ih0 _ _ _ _ _)
      | (with_reducible exact ih1 _ _ _ _ _ _ _ _)
      | (with_reducible exact ih2 _ _ _ _ _ _ _ _)
      | (with_reducible exact ih3 _ _ _ _ _ _ _ _ _ _ _ _ _)
      | (with_reducible exact platelayerlaw12_awake.mono _)
      | (with_reducible exact platelayerlaw12_outside.mono _ _ _)
      | (with_reducible exact victim_Choose.mono _ _ _ _ _)
      | (with_reducible exact LeO.refl _)
      | (with_reducible exact LeO.none _)
      | (with_reducible refine LeO.ite ?_ ?_)
      | (with_reducible refine LeO.bind ?_ (fun _ => ?_))
      | exact ih0 _ _ _ _ _
      | exact ih1 _ _ _ _ _ _ _ _
      | exact ih2 _ _ _ _ _ _ _ _
      | exact ih3 _ _ _ _ _ _ _ _ _ _ _ _ _
      | exact platelayerlaw12_awake.mono _
      | exact platelayerlaw12_outside.mono _ _ _
      | exact victim_Choose.mono _ _ _ _ _
      | exact LeO.none _
      | refine LeO.ite ?_ ?_
      | refine LeO.bind ?_ (fun _ => ?_)
theorem platelayerlaw12_VictimGains.mono : ∀ a0 a1 a2 a3 k, LeO (platelayerlaw12_VictimGains.f k a0 a1 a2 a3) (platelayerlaw12_VictimGains.f (k + 1) a0 a1 a2 a3) := by
  intro a0 a1 a2 a3 k
  obtain ⟨ih0, ih1, ih2, ih3⟩ := platelayerlaw12_VictimGains.mono_l k
  unfold platelayerlaw12_VictimGains.f
  repeat' first
      | (with_reducible exact ih0 _ _ _ _ _)
      | (with_reducible exact ih1 _ _ _ _ _ _ _ _)
      | (with_reducible exact ih2 _ _ _ _ _ _ _ _)
      | (with_reducible exact ih3 _ _ _ _ _ _ _ _ _ _ _ _ _)
      | (with_reducible exact platelayerlaw12_awake.mono _)
      | (with_reducible exact platelayerlaw12_outside.mono _ _ _)
      | (with_reducible exact victim_Choose.mono _ _ _ _ _)
      | (with_reducible exact LeO.refl _)
      | (with_reducible exact LeO.none _)
      | (with_reducible refine LeO.ite ?_ ?_)
      | (with_reducible refine LeO.bind ?_ (fun _ => ?_))
      | exact ih0 _ _ _ _ _
      | exact ih1 _ _ _ _ _ _ _ _
      | exact ih2 _ _ _ _ _ _ _ _
      | exact ih3 _ _ _ _ _ _ _ _ _ _ _ _ _
      | exact platelayerlaw12_awake.mono _
      | exact platelayerlaw12_outside.mono _ _ _
      | exact victim_Choose.mono _ _ _ _ _
      | exact LeO.none _
      | refine LeO.ite ?_ ?_
      | refine LeO.bind ?_ (fun _ => ?_)
set_option maxHeartbeats 8000000 in
set_option maxRecDepth 100000 in
theorem platelayerlaw12_VictimGains.calls (k : Nat) (a0 : Int) (a1 : Int) (a2 : Int) (A3 : Option Addr) (c3 : Nat) (l3 : List (S29)) (r : Bool) (w : World) (hr3 : Kd.C k29 w A3 l3.length l3) (hc3 : l3.length ≤ c3) (h : platelayerlaw12_VictimGains.f k a0 a1 a2 l3 = some r) :
    Calls Try.prog 3 #[.int .i64 a0, .int .i64 a1, .int .i64 a2, .slice A3 l3.length c3] w fun e w' => e = .returned (.bool r) ∧ Below w.heap.size w w' := by
  have hu29 := Try.underlying29
  have HR3 := Aside0.mk hr3
  have HC3 := Aside0.mk hc3
  clear hr3 hc3
  have HB := Aside0.mk (Below.refl w.heap.size w)
  have H : ((platelayerlaw12_awake.f k).bind fun t190 => (if t190 = true then ((platelayerlaw12_outside.f k a1 l3).bind fun t191 => (if t191 = true then (platelayerlaw12_VictimGains.j0 k a0 a1 a2 l3 true) else (if a2 < 0 then (platelayerlaw12_VictimGains.j0 k a0 a1 a2 l3 true) else (platelayerlaw12_VictimGains.j0 k a0 a1 a2 l3 (decide (a2 > a1)))))) else (some false))) = some r := h
  clear h
  replace H := Option.bind_eq_some_iff.mp H
  obtain ⟨t190, A50, H⟩ := H
  replace H : (if t190 = true then ((platelayerlaw12_outside.f k a1 l3).bind fun t191 => (if t191 = true then (platelayerlaw12_VictimGains.j0 k a0 a1 a2 l3 true) else (if a2 < 0 then (platelayerlaw12_VictimGains.j0 k a0 a1 a2 l3 true) else (platelayerlaw12_VictimGains.j0 k a0 a1 a2 l3 (decide (a2 > a1)))))) else (some false)) = some r := H
  have A5 := Aside0.mk A50
  clear A50
  by_cases c6 : t190 = true
  · subst c6
    have H1 : ((platelayerlaw12_outside.f k a1 l3).bind fun t191 => (if t191 = true then (platelayerlaw12_VictimGains.j0 k a0 a1 a2 l3 true) else (if a2 < 0 then (platelayerlaw12_VictimGains.j0 k a0 a1 a2 l3 true) else (platelayerlaw12_VictimGains.j0 k a0 a1 a2 l3 (decide (a2 > a1)))))) = some r := by rw [if_pos rfl] at H; exact H
    clear H
    have H := H1
    clear H1
    have HC7 := Aside0.mk H
    clear H
    go_enter Try.func3, Try.ntmps3
    go_upto_region 3 with (first | ((with_reducible refine gate_callee (f := 6) rfl ?_); refine goesL_ (some 20) rfl rfl Try.func6 (by kernel_rfl) rfl #[] rfl (by (try simp only [List.map_toArray, List.map_cons, List.map_nil]); first | done | rfl | (simp only [List.length_drop, List.length_take]; rfl)) ?_; (with_reducible refine (platelayerlaw12_awake.calls k  true _ A5.out).mono ?_); rintro e w8 ⟨rfl, hb⟩; refine ⟨_, rfl, ?_⟩; have n0_ := Aside0.mk (below_step (by repeat (first | (with_reducible first | exact HB.out | apply below_alloc | apply pw_below_drewN | apply below_drew1) | exact HB.out)) hb); clear HB; have HB := n0_; clear n0_; (try clear hb); (try clear hb2); (try clear hk); (try clear hi)))
    (try simp only [Act.put, List.setIfInBounds_toArray, List.set_cons_zero, List.set_cons_succ])
    go_cut [33] (fun v33 wc => ∃ (kq : Nat) (x33_6 : Bool), v33 = .bool x33_6 ∧ Aside0 (platelayerlaw12_VictimGains.j0 kq a0 a1 a2 l3 x33_6 = some r) ∧ Aside0 (kq ≤ k) ∧ Aside0 (Below w.heap.size w wc))
    case first =>
      have H := HC7.out
      clear HC7
      replace H := Option.bind_eq_some_iff.mp H
      obtain ⟨t191, A90, H⟩ := H
      replace H : (if t191 = true then (platelayerlaw12_VictimGains.j0 k a0 a1 a2 l3 true) else (if a2 < 0 then (platelayerlaw12_VictimGains.j0 k a0 a1 a2 l3 true) else (platelayerlaw12_VictimGains.j0 k a0 a1 a2 l3 (decide (a2 > a1))))) = some r := H
      have A9 := Aside0.mk A90
      clear A90
      by_cases c10 : t191 = true
      · subst c10
        have H1 : (platelayerlaw12_VictimGains.j0 k a0 a1 a2 l3 true) = some r := by rw [if_pos rfl] at H; exact H
        clear H
        have H := H1
        clear H1
        have H' := Aside0.mk H
        clear H
        go_wp2_with (first | ((with_reducible refine gate_callee (f := 7) rfl ?_); refine goesL_ (some 24) rfl rfl Try.func7 (by kernel_rfl) rfl #[.int .i64 a1, .slice A3 l3.length c3] rfl (by (try simp only [List.map_toArray, List.map_cons, List.map_nil]); first | done | rfl | (simp only [List.length_drop, List.length_take]; rfl)) ?_; (with_reducible refine (platelayerlaw12_outside.calls k a1 _ _ l3 true _ ?side1 ?side2 A9.out).mono ?_); (case side1 => repeat (first | exact (Kd.C_below HR3.out HB.out) | (with_reducible refine Kd.C_alloc ?_ _) | (with_reducible refine Kd.C_drewN ?_ _) | (with_reducible refine Kd.C_drew ?_))); (case side2 => exact HC3.out); rintro e w11 ⟨rfl, hb⟩; refine ⟨_, rfl, ?_⟩; have n0_ := Aside0.mk (below_step (by repeat (first | (with_reducible first | exact HB.out | apply below_alloc | apply pw_below_drewN | apply below_drew1) | exact HB.out)) hb); clear HB; have HB := n0_; clear n0_; (try clear hb); (try clear hb2); (try clear hk); (try clear hi)))
        go_meet
        case rel => exact ⟨_, (true), (by first | rfl | (simp; done) | (simp [*]; done)), H', ⟨by first | omega | exact Nat.le_refl _⟩, ⟨by repeat (first | (with_reducible first | exact HB.out | apply below_alloc | apply pw_below_drewN | apply below_drew1) | exact HB.out)⟩⟩
      · replace c10 := Bool.eq_false_iff.mpr c10
        subst c10
        have H1 : (if a2 < 0 then (platelayerlaw12_VictimGains.j0 k a0 a1 a2 l3 true) else (platelayerlaw12_VictimGains.j0 k a0 a1 a2 l3 (decide (a2 > a1)))) = some r := by rw [if_neg (show ¬ (false = true) by decide)] at H; exact H
        clear H
        have H := H1
        clear H1
        by_cases c12 : a2 < 0
        · rw [if_pos c12] at H
          have c12b0 : decide (a2 < 0) = true := decide_eq_true c12
          clear c12
          (first | rw [c12b0] | (simp only [i64_w, i32_w]; rw [c12b0]) | skip)
          have H' := Aside0.mk H
          clear H
          go_wp2_with (first | ((with_reducible refine gate_callee (f := 7) rfl ?_); refine goesL_ (some 24) rfl rfl Try.func7 (by kernel_rfl) rfl #[.int .i64 a1, .slice A3 l3.length c3] rfl (by (try simp only [List.map_toArray, List.map_cons, List.map_nil]); first | done | rfl | (simp only [List.length_drop, List.length_take]; rfl)) ?_; (with_reducible refine (platelayerlaw12_outside.calls k a1 _ _ l3 false _ ?side1 ?side2 A9.out).mono ?_); (case side1 => repeat (first | exact (Kd.C_below HR3.out HB.out) | (with_reducible refine Kd.C_alloc ?_ _) | (with_reducible refine Kd.C_drewN ?_ _) | (with_reducible refine Kd.C_drew ?_))); (case side2 => exact HC3.out); rintro e w13 ⟨rfl, hb⟩; refine ⟨_, rfl, ?_⟩; have n0_ := Aside0.mk (below_step (by repeat (first | (with_reducible first | exact HB.out | apply below_alloc | apply pw_below_drewN | apply below_drew1) | exact HB.out)) hb); clear HB; have HB := n0_; clear n0_; (try clear hb); (try clear hb2); (try clear hk); (try clear hi)))
          go_meet
          case rel => exact ⟨_, (true), (by first | rfl | (simp; done) | (simp [*]; done)), H', ⟨by first | omega | exact Nat.le_refl _⟩, ⟨by repeat (first | (with_reducible first | exact HB.out | apply below_alloc | apply pw_below_drewN | apply below_drew1) | exact HB.out)⟩⟩
        · rw [if_neg c12] at H
          have c12b0 : decide (a2 < 0) = false := decide_eq_false c12
          clear c12
          (first | rw [c12b0] | (simp only [i64_w, i32_w]; rw [c12b0]) | skip)
          have H' := Aside0.mk H
          clear H
          go_wp2_with (first | ((with_reducible refine gate_callee (f := 7) rfl ?_); refine goesL_ (some 24) rfl rfl Try.func7 (by kernel_rfl) rfl #[.int .i64 a1, .slice A3 l3.length c3] rfl (by (try simp only [List.map_toArray, List.map_cons, List.map_nil]); first | done | rfl | (simp only [List.length_drop, List.length_take]; rfl)) ?_; (with_reducible refine (platelayerlaw12_outside.calls k a1 _ _ l3 false _ ?side1 ?side2 A9.out).mono ?_); (case side1 => repeat (first | exact (Kd.C_below HR3.out HB.out) | (with_reducible refine Kd.C_alloc ?_ _) | (with_reducible refine Kd.C_drewN ?_ _) | (with_reducible refine Kd.C_drew ?_))); (case side2 => exact HC3.out); rintro e w14 ⟨rfl, hb⟩; refine ⟨_, rfl, ?_⟩; have n0_ := Aside0.mk (below_step (by repeat (first | (with_reducible first | exact HB.out | apply below_alloc | apply pw_below_drewN | apply below_drew1) | exact HB.out)) hb); clear HB; have HB := n0_; clear n0_; (try clear hb); (try clear hb2); (try clear hk); (try clear hi)))
          go_meet
          case rel => exact ⟨_, (decide (a2 > a1)), (by first | rfl | (simp; done) | (simp [*]; done)), H', ⟨by first | omega | exact Nat.le_refl _⟩, ⟨by repeat (first | (with_reducible first | exact HB.out | apply below_alloc | apply pw_below_drewN | apply below_drew1) | exact HB.out)⟩⟩
    case rest =>
      clear HC7
      try clear c1
      try clear p2
      try clear c3
      try clear c6
      try clear c7
      try clear c10
      try clear c12
      try clear c12b0
      obtain ⟨kq, x33_6, rfl, HA, HJ6, HB⟩ := hcut
      cases kq with
      | zero => exact absurd HA.out (by simp [platelayerlaw12_VictimGains.j0])
      | succ kj6 =>
        have H := HA.out
        clear HA
        simp only [platelayerlaw12_VictimGains.j0] at H
        by_cases c15 : x33_6 = true
        · subst c15
          have H1 : (some true) = some r := by rw [if_pos rfl] at H; exact H
          clear H
          have H := H1
          clear H1
          obtain rfl := Option.some.inj H
          go_wp2
          go_ret
          exact ⟨by first | rfl | (simp [errW_none, errW_some] <;> rfl) | (simp [*, errW_none, errW_some] <;> rfl), by repeat (first | (with_reducible first | exact HB.out | apply below_alloc | apply pw_below_drewN | apply below_drew1) | exact HB.out)⟩
        · replace c15 := Bool.eq_false_iff.mpr c15
          subst c15
          have H1 : ((victim_Choose.f kj6 a0 a1 a2 l3).bind fun t192 => (platelayerlaw12_VictimGains.l0 kj6 a1 l3 t192 0 a2 l3 (l3.length : Int) 0)) = some r := by rw [if_neg (show ¬ (false = true) by decide)] at H; exact H
          clear H
          have H := H1
          clear H1
          replace H := Option.bind_eq_some_iff.mp H
          obtain ⟨t192, A160, H⟩ := H
          replace H : (platelayerlaw12_VictimGains.l0 kj6 a1 l3 t192 0 a2 l3 (l3.length : Int) 0) = some r := H
          have A16 := Aside0.mk A160
          clear A160
          have H' := Aside0.mk H
          clear H
          go_wp2_with (first | ((with_reducible refine gate_callee (f := 8) rfl ?_); refine goesL_ (some 38) rfl rfl Try.func8 (by kernel_rfl) rfl #[.int .i64 a0, .int .i64 a1, .int .i64 a2, .slice A3 l3.length c3] rfl (by (try simp only [List.map_toArray, List.map_cons, List.map_nil]); first | done | rfl | (simp only [List.length_drop, List.length_take]; rfl)) ?_; (with_reducible refine (victim_Choose.calls kj6 a0 a1 a2 _ _ l3 t192 _ ?side1 ?side2 A16.out).mono ?_); (case side1 => repeat (first | exact (Kd.C_below HR3.out HB.out) | (with_reducible refine Kd.C_alloc ?_ _) | (with_reducible refine Kd.C_drewN ?_ _) | (with_reducible refine Kd.C_drew ?_))); (case side2 => exact HC3.out); rintro e w17 ⟨v193, rfl, ho0, hb⟩; refine ⟨_, rfl, ?_⟩; have n0_ := Aside0.mk (Kd.R_lower ho0 (below_size (by repeat (first | (with_reducible first | exact HB.out | apply below_alloc | apply pw_below_drewN | apply below_drew1) | exact HB.out)))); have n1_ := Aside0.mk (below_step (by repeat (first | (with_reducible first | exact HB.out | apply below_alloc | apply pw_below_drewN | apply below_drew1) | exact HB.out)) hb); clear HB; have HO194 := n0_; have HB := n1_; clear n0_ n1_; (try clear hb); (try clear hb2); (try clear hk); (try clear hi); (try clear ho0)))
          go_loopg [10, 42] kj6 (fun kq v10 v42 w' => ∃ (x10_2 : Int) (x42_2 : Int), v10 = .int .i64 x10_2 ∧ v42 = .int .i64 x42_2 ∧ Aside0 (platelayerlaw12_VictimGains.l0 kq a1 l3 t192 x10_2 a2 l3 (l3.length : Int) x42_2 = some r) ∧ Aside0 (kq ≤ kj6) ∧ Aside0 (Kd.R (Kd.int .i64) 3 w' w.heap.size (fun _ => True) v193 t192) ∧ Aside0 (Below w.heap.size w w'))
          case atStart => exact ⟨(0), (0), (by first | rfl | (simp; done) | (simp [*]; done)), (by first | rfl | (simp; done) | (simp [*]; done)), H', ⟨Nat.le_refl _⟩, ⟨by (with_reducible repeat (first | apply Kd.R_alloc | apply Kd.R_drewN | apply Kd.R_drew)); exact HO194.out⟩, ⟨by repeat (first | (with_reducible first | exact HB.out | apply below_alloc | apply pw_below_drewN | apply below_drew1) | exact HB.out)⟩⟩
          case round =>
            clear H'
            try clear c1
            try clear p2
            try clear c3
            try clear c6
            try clear c7
            try clear c8
            try clear c10
            try clear c12
            try clear c12b0
            try clear c15
            try clear p2
            obtain ⟨x10_2, x42_2, rfl, rfl, HA, HK2, HO_9, HB⟩ := hrel
            cases gk with
            | zero => exact absurd HA.out (by simp [platelayerlaw12_VictimGains.l0])
            | succ k2 =>
              have H := HA.out
              clear HA
              simp only [platelayerlaw12_VictimGains.l0] at H
              by_cases c18 : x42_2 < (l3.length : Int)
              · rw [if_pos c18] at H
                have c18b0 : decide (x42_2 < (l3.length : Int)) = true := decide_eq_true c18
                clear c18
                by_cases c19 : 0 ≤ x42_2
                · rw [if_pos c19] at H
                  have c19b0 : decide (0 ≤ x42_2) = true := decide_eq_true c19
                  clear c19
                  by_cases c20 : x42_2 < (l3.length : Int)
                  · rw [if_pos c20] at H
                    have c20b0 : decide (x42_2 < (l3.length : Int)) = true := decide_eq_true c20
                    clear c20
                    have H' := Aside0.mk H
                    clear H
                    have p195 : 0 ≤ (x42_2 : Int) := of_decide_eq_true (by first | (with_reducible assumption) | assumption)
                    have q195 : x42_2 < (l3.length : Int) := of_decide_eq_true (by first | (with_reducible assumption) | assumption)
                    obtain ⟨ad195, e195, hx195_0, hx195_1, hx195_2⟩ := at_T29 HR3.out x42_2 p195 q195
                    cases e195
                    replace hx195_0 := (HB.out.cell (World.block_lt_of_cell? w _ hx195_0)).trans hx195_0
                    replace hx195_1 := (HB.out.cell (World.block_lt_of_cell? w _ hx195_1)).trans hx195_1
                    replace hx195_2 := (HB.out.cell (World.block_lt_of_cell? w _ hx195_2)).trans hx195_2
                    replace p195 := eq_true p195
                    replace q195 := eq_true q195
                    go_wp2_with (first | ((with_reducible refine gate_dst (N := 13) rfl ?_); (try (refine gate_guard (by rfl) ?_; dsimp only)); refine box_event ?hg (N := 13) ?hd (cs := #[.int .i64 0, .int .i64 0, .int .u32 0]) (t := 29) ?hr ?_; (case hd => rfl); (case hg => rfl); (case hr => first | (go_simp; done) | (go_simp; rfl)); intro gb196 hg w21 hbox hb; have n0_ := Aside0.mk (Kd.R_below (by (with_reducible repeat (first | apply Kd.R_alloc | apply Kd.R_drewN | apply Kd.R_drew)); exact HO_9.out) hb); have n1_ := Aside0.mk (below_step (by repeat (first | (with_reducible first | exact HB.out | apply below_alloc | apply pw_below_drewN | apply below_drew1) | exact HB.out)) hb); have n2_ := Aside0.mk (hbox); have n3_ := Aside0.mk ((by rw [hg]; exact (below_size (by repeat (first | (with_reducible first | exact HB.out | apply below_alloc | apply pw_below_drewN | apply below_drew1) | exact HB.out))) : w.heap.size ≤ gb196)); have n4_ := Aside0.mk ((by rw [hg]; exact (below_size (by repeat (first | (with_reducible first | exact HB.out | apply below_alloc | apply pw_below_drewN | apply below_drew1) | exact HB.out))) : w.heap.size ≤ gb196)); clear HO_9; clear HB; have HO_9 := n0_; have HB := n1_; have BK196 := n2_; have GW196 := n3_; have GE196 := n4_; clear n0_ n1_ n2_ n3_ n4_; clear hb hbox hg; have hcz22_0 : w21.cell? ⟨gb196, 0, none⟩ = some (.int .i64 0) := (blk_cell BK196.out 0).trans rfl; have hcz22_1 : w21.cell? ⟨gb196, 1, none⟩ = some (.int .i64 0) := (blk_cell BK196.out 1).trans rfl; have hcz22_2 : w21.cell? ⟨gb196, 2, none⟩ = some (.int .u32 0) := (blk_cell BK196.out 2).trans rfl; have hfz22_0 := blk_frozen BK196.out 0; have hfz22_1 := blk_frozen BK196.out 1; have hfz22_2 := blk_frozen BK196.out 2))
                    go_roundg k2
                    case measure => have := HJ6.out; have := HK2.out; omega
                    case rel => exact ⟨(wrap64 (x10_2 + ((rd_T29 l3 x42_2).f1))), (wrap64 (x42_2 + 1)), (by first | rfl | (simp; done) | (simp [*]; done)), (by first | rfl | (simp; done) | (simp [*]; done)), H', ⟨by have := HJ6.out; have := HK2.out; omega⟩, ⟨by (with_reducible repeat (first | apply Kd.R_alloc | apply Kd.R_drewN | apply Kd.R_drew)); exact Kd.R_mono (Kd.R_far (p := ⟨gb196, 2, none⟩) (Kd.R_far (p := ⟨gb196, 1, none⟩) (Kd.R_far (p := ⟨gb196, 0, none⟩) (Kd.R_types HO_9.out BK196.out (by decide)) (fun _ hk => hk.2) (.int .i64 ((rd_T29 l3 x42_2).f0))) (fun _ hk => hk.2) (.int .i64 ((rd_T29 l3 x42_2).f1))) (fun _ hk => hk.2) (.int .u32 ((rd_T29 l3 x42_2).f2))) (fun _ hk => trivial)⟩, ⟨by repeat (first | (with_reducible first | exact HB.out | apply below_alloc | apply pw_below_drewN | apply below_drew1 | refine below_set ?_ GE196.out) | exact HB.out)⟩⟩
                  · rw [if_neg c20] at H
                    exact absurd H (by simp)
                · rw [if_neg c19] at H
                  exact absurd H (by simp)
              · rw [if_neg c18] at H
                have c18b0 : decide (x42_2 < (l3.length : Int)) = false := decide_eq_false c18
                clear c18
                have H' := Aside0.mk H
                clear H
                obtain ⟨Ao23, co23, eo23⟩ := Kd.R_slice HO_9.out
                subst eo23
                go_wp2
                go_loopg [11, 53] k2 (fun kq v11 v53 w' => ∃ (x11_3 : Int) (x53_3 : Int), v11 = .int .i64 x11_3 ∧ v53 = .int .i64 x53_3 ∧ Aside0 (platelayerlaw12_VictimGains.l1 kq a1 l3 t192 x10_2 x11_3 t192 (t192.length : Int) x53_3 = some r) ∧ Aside0 (kq ≤ k2) ∧ Aside0 (Kd.R (Kd.int .i64) 3 w' w.heap.size (fun _ => True) (.slice Ao23 t192.length co23) t192) ∧ Aside0 (Kd.R (Kd.int .i64) 3 w' w.heap.size (fun _ => True) (.slice Ao23 t192.length co23) t192) ∧ Aside0 (Below w.heap.size w w'))
                case atStart => exact ⟨(a2), (0), (by first | rfl | (simp; done) | (simp [*]; done)), (by first | rfl | (simp; done) | (simp [*]; done)), H', ⟨Nat.le_refl _⟩, ⟨by (with_reducible repeat (first | apply Kd.R_alloc | apply Kd.R_drewN | apply Kd.R_drew)); exact HO_9.out⟩, ⟨by (with_reducible repeat (first | apply Kd.R_alloc | apply Kd.R_drewN | apply Kd.R_drew)); exact HO_9.out⟩, ⟨by repeat (first | (with_reducible first | exact HB.out | apply below_alloc | apply pw_below_drewN | apply below_drew1) | exact HB.out)⟩⟩
                case round =>
                  clear H'
                  try clear c1
                  try clear p1
                  try clear q1
                  try clear hx1
                  try clear c2
                  try clear p2
                  try clear c3
                  try clear c6
                  try clear p6
                  try clear c7
                  try clear c8
                  try clear c10
                  try clear c12
                  try clear c12b0
                  try clear c15
                  try clear c18
                  try clear c18b0
                  try clear c19
                  try clear c19b0
                  try clear p19
                  try clear q19
                  try clear hx19
                  try clear c20
                  try clear c20b0
                  try clear hcz22_0
                  try clear hcz22_1
                  try clear hcz22_2
                  try clear hfz22_0
                  try clear hfz22_1
                  try clear hfz22_2
                  try clear hx195_0
                  try clear hx195_1
                  try clear hx195_2
                  try clear p195
                  try clear p2
                  try clear q195
                  obtain ⟨x11_3, x53_3, rfl, rfl, HA, HK3, HO_9, HO_51, HB⟩ := hrel
                  cases gk with
                  | zero => exact absurd HA.out (by simp [platelayerlaw12_VictimGains.l1])
                  | succ k3 =>
                    have H := HA.out
                    clear HA
                    simp only [platelayerlaw12_VictimGains.l1] at H
                    by_cases c24 : x53_3 < (t192.length : Int)
                    · rw [if_pos c24] at H
                      have c24b0 : decide (x53_3 < (t192.length : Int)) = true := decide_eq_true c24
                      clear c24
                      by_cases c25 : 0 ≤ x53_3
                      · rw [if_pos c25] at H
                        have c25b0 : decide (0 ≤ x53_3) = true := decide_eq_true c25
                        clear c25
                        by_cases c26 : x53_3 < (t192.length : Int)
                        · rw [if_pos c26] at H
                          have c26b0 : decide (x53_3 < (t192.length : Int)) = true := decide_eq_true c26
                          clear c26
                          have H' := Aside0.mk H
                          clear H
                          have p197 : 0 ≤ (x53_3 : Int) := of_decide_eq_true (by first | (with_reducible assumption) | assumption)
                          have q197 : x53_3 < (t192.length : Int) := of_decide_eq_true (by first | (with_reducible assumption) | assumption)
                          obtain ⟨ad197, e197, hx197_0⟩ := Kd.at_int (Kd.R_reads' HO_51.out).2.2 x53_3 p197 q197
                          cases e197
                          replace p197 := eq_true p197
                          replace q197 := eq_true q197
                          go_wp2
                          go_loopg [11, 16, 59] k3 (fun kq v11 v16 v59 w' => ∃ (x11_4 : Int) (x16_4 : Bool) (x59_4 : Int), v11 = .int .i64 x11_4 ∧ v16 = .bool x16_4 ∧ v59 = .int .i64 x59_4 ∧ Aside0 (platelayerlaw12_VictimGains.l2 kq a1 l3 t192 x10_2 x11_4 (rd t192 x53_3) x16_4 t192 (t192.length : Int) x53_3 l3 (l3.length : Int) x59_4 = some r) ∧ Aside0 (kq ≤ k3) ∧ Aside0 (Kd.R (Kd.int .i64) 3 w' w.heap.size (fun _ => True) (.slice (some ad197) t192.length co23) t192) ∧ Aside0 (Kd.R (Kd.int .i64) 3 w' w.heap.size (fun _ => True) (.slice (some ad197) t192.length co23) t192) ∧ Aside0 (Below w.heap.size w w'))
                          case atStart => exact ⟨(x11_3), (false), (0), (by first | rfl | (simp; done) | (simp [*]; done)), (by first | rfl | (simp; done) | (simp [*]; done)), (by first | rfl | (simp; done) | (simp [*]; done)), H', ⟨Nat.le_refl _⟩, ⟨by (with_reducible repeat (first | apply Kd.R_alloc | apply Kd.R_drewN | apply Kd.R_drew)); exact HO_9.out⟩, ⟨by (with_reducible repeat (first | apply Kd.R_alloc | apply Kd.R_drewN | apply Kd.R_drew)); exact HO_51.out⟩, ⟨by repeat (first | (with_reducible first | exact HB.out | apply below_alloc | apply pw_below_drewN | apply below_drew1) | exact HB.out)⟩⟩
                          case round =>
                            clear H'
                            try clear c1
                            try clear p1
                            try clear q1
                            try clear hx1
                            try clear c2
                            try clear p2
                            try clear c3
                            try clear c6
                            try clear p6
                            try clear c7
                            try clear c8
                            try clear c10
                            try clear c12
                            try clear c12b0
                            try clear c15
                            try clear c18
                            try clear c18b0
                            try clear c19
                            try clear c19b0
                            try clear p19
                            try clear q19
                            try clear hx19
                            try clear c20
                            try clear c20b0
                            try clear c24
                            try clear c24b0
                            try clear c25
                            try clear c25b0
                            try clear c26
                            try clear c26b0
                            try clear hcz22_0
                            try clear hcz22_1
                            try clear hcz22_2
                            try clear hfz22_0
                            try clear hfz22_1
                            try clear hfz22_2
                            try clear hx195_0
                            try clear hx195_1
                            try clear hx195_2
                            try clear hx197_0
                            try clear p1
                            try clear p19
                            try clear p195
                            try clear p197
                            try clear p2
                            try clear p6
                            try clear q1
                            try clear q19
                            try clear q195
                            try clear q197
                            obtain ⟨x11_4, x16_4, x59_4, rfl, rfl, rfl, HA, HK4, HO_9, HO_51, HB⟩ := hrel
                            cases gk with
                            | zero => exact absurd HA.out (by simp [platelayerlaw12_VictimGains.l2])
                            | succ k4 =>
                              have H := HA.out
                              clear HA
                              simp only [platelayerlaw12_VictimGains.l2] at H
                              by_cases c27 : x59_4 < (l3.length : Int)
                              · rw [if_pos c27] at H
                                have c27b0 : decide (x59_4 < (l3.length : Int)) = true := decide_eq_true c27
                                clear c27
                                by_cases c28 : 0 ≤ x59_4
                                · rw [if_pos c28] at H
                                  have c28b0 : decide (0 ≤ x59_4) = true := decide_eq_true c28
                                  clear c28
                                  by_cases c29 : x59_4 < (l3.length : Int)
                                  · rw [if_pos c29] at H
                                    have c29b0 : decide (x59_4 < (l3.length : Int)) = true := decide_eq_true c29
                                    clear c29
                                    by_cases c30 : ((rd_T29 l3 x59_4).f0) = (rd t192 x53_3)
                                    · rw [if_pos c30] at H
                                      have c30b0 : (((rd_T29 l3 x59_4).f0) == (rd t192 x53_3)) = true := beq_iff_eq.mpr c30
                                      have c30b1 : (((rd_T29 l3 x59_4).f0) != (rd t192 x53_3)) = false := bne_eq_false_iff_eq.mpr c30
                                      clear c30
                                      have H' := Aside0.mk H
                                      clear H
                                      have p198 : 0 ≤ (x59_4 : Int) := of_decide_eq_true (by first | (with_reducible assumption) | assumption)
                                      have q198 : x59_4 < (l3.length : Int) := of_decide_eq_true (by first | (with_reducible assumption) | assumption)
                                      obtain ⟨ad198, e198, hx198_0, hx198_1, hx198_2⟩ := at_T29 HR3.out x59_4 p198 q198
                                      cases e198
                                      replace hx198_0 := (HB.out.cell (World.block_lt_of_cell? w _ hx198_0)).trans hx198_0
                                      replace hx198_1 := (HB.out.cell (World.block_lt_of_cell? w _ hx198_1)).trans hx198_1
                                      replace hx198_2 := (HB.out.cell (World.block_lt_of_cell? w _ hx198_2)).trans hx198_2
                                      replace p198 := eq_true p198
                                      replace q198 := eq_true q198
                                      go_wp2_with (first | ((with_reducible refine gate_dst (N := 18) rfl ?_); (try (refine gate_guard (by rfl) ?_; dsimp only)); refine box_event ?hg (N := 18) ?hd (cs := #[.int .i64 0, .int .i64 0, .int .u32 0]) (t := 29) ?hr ?_; (case hd => rfl); (case hg => rfl); (case hr => first | (go_simp; done) | (go_simp; rfl)); intro gb199 hg w31 hbox hb; have n0_ := Aside0.mk (Kd.R_below (by (with_reducible repeat (first | apply Kd.R_alloc | apply Kd.R_drewN | apply Kd.R_drew)); exact HO_9.out) hb); have n1_ := Aside0.mk (Kd.R_below (by (with_reducible repeat (first | apply Kd.R_alloc | apply Kd.R_drewN | apply Kd.R_drew)); exact HO_51.out) hb); have n2_ := Aside0.mk (below_step (by repeat (first | (with_reducible first | exact HB.out | apply below_alloc | apply pw_below_drewN | apply below_drew1) | exact HB.out)) hb); have n3_ := Aside0.mk (hbox); have n4_ := Aside0.mk ((by rw [hg]; exact (below_size (by repeat (first | (with_reducible first | exact HB.out | apply below_alloc | apply pw_below_drewN | apply below_drew1) | exact HB.out))) : w.heap.size ≤ gb199)); have n5_ := Aside0.mk ((by rw [hg]; exact (below_size (by repeat (first | (with_reducible first | exact HB.out | apply below_alloc | apply pw_below_drewN | apply below_drew1) | exact HB.out))) : w.heap.size ≤ gb199)); clear HO_9; clear HO_51; clear HB; have HO_9 := n0_; have HO_51 := n1_; have HB := n2_; have BK199 := n3_; have GW199 := n4_; have GE199 := n5_; clear n0_ n1_ n2_ n3_ n4_ n5_; clear hb hbox hg; have hcz32_0 : w31.cell? ⟨gb199, 0, none⟩ = some (.int .i64 0) := (blk_cell BK199.out 0).trans rfl; have hcz32_1 : w31.cell? ⟨gb199, 1, none⟩ = some (.int .i64 0) := (blk_cell BK199.out 1).trans rfl; have hcz32_2 : w31.cell? ⟨gb199, 2, none⟩ = some (.int .u32 0) := (blk_cell BK199.out 2).trans rfl; have hfz32_0 := blk_frozen BK199.out 0; have hfz32_1 := blk_frozen BK199.out 1; have hfz32_2 := blk_frozen BK199.out 2))
                                      go_roundg k4
                                      case measure => have := HJ6.out; have := HK2.out; have := HK3.out; have := HK4.out; omega
                                      case rel => exact ⟨(wrap64 (x11_4 + ((rd_T29 l3 x59_4).f1))), (true), (wrap64 (x59_4 + 1)), (by first | rfl | (simp; done) | (simp [*]; done)), (by first | rfl | (simp; done) | (simp [*]; done)), (by first | rfl | (simp; done) | (simp [*]; done)), H', ⟨by have := HJ6.out; have := HK2.out; have := HK3.out; have := HK4.out; omega⟩, ⟨by (with_reducible repeat (first | apply Kd.R_alloc | apply Kd.R_drewN | apply Kd.R_drew)); exact Kd.R_mono (Kd.R_far (p := ⟨gb199, 2, none⟩) (Kd.R_far (p := ⟨gb199, 1, none⟩) (Kd.R_far (p := ⟨gb199, 0, none⟩) (Kd.R_types HO_9.out BK199.out (by decide)) (fun _ hk => hk.2) (.int .i64 ((rd_T29 l3 x59_4).f0))) (fun _ hk => hk.2) (.int .i64 ((rd_T29 l3 x59_4).f1))) (fun _ hk => hk.2) (.int .u32 ((rd_T29 l3 x59_4).f2))) (fun _ hk => trivial)⟩, ⟨by (with_reducible repeat (first | apply Kd.R_alloc | apply Kd.R_drewN | apply Kd.R_drew)); exact Kd.R_mono (Kd.R_far (p := ⟨gb199, 2, none⟩) (Kd.R_far (p := ⟨gb199, 1, none⟩) (Kd.R_far (p := ⟨gb199, 0, none⟩) (Kd.R_types HO_51.out BK199.out (by decide)) (fun _ hk => hk.2) (.int .i64 ((rd_T29 l3 x59_4).f0))) (fun _ hk => hk.2) (.int .i64 ((rd_T29 l3 x59_4).f1))) (fun _ hk => hk.2) (.int .u32 ((rd_T29 l3 x59_4).f2))) (fun _ hk => trivial)⟩, ⟨by repeat (first | (with_reducible first | exact HB.out | apply below_alloc | apply pw_below_drewN | apply below_drew1 | refine below_set ?_ GE199.out) | exact HB.out)⟩⟩
                                    · rw [if_neg c30] at H
                                      have c30b0 : (((rd_T29 l3 x59_4).f0) == (rd t192 x53_3)) = false := beq_eq_false_iff_ne.mpr c30
                                      have c30b1 : (((rd_T29 l3 x59_4).f0) != (rd t192 x53_3)) = true := bne_iff_ne.mpr c30
                                      have H' := Aside0.mk H
                                      clear H
                                      have p198 : 0 ≤ (x59_4 : Int) := of_decide_eq_true (by first | (with_reducible assumption) | assumption)
                                      have q198 : x59_4 < (l3.length : Int) := of_decide_eq_true (by first | (with_reducible assumption) | assumption)
                                      obtain ⟨ad198, e198, hx198_0, hx198_1, hx198_2⟩ := at_T29 HR3.out x59_4 p198 q198
                                      cases e198
                                      replace hx198_0 := (HB.out.cell (World.block_lt_of_cell? w _ hx198_0)).trans hx198_0
                                      replace hx198_1 := (HB.out.cell (World.block_lt_of_cell? w _ hx198_1)).trans hx198_1
                                      replace hx198_2 := (HB.out.cell (World.block_lt_of_cell? w _ hx198_2)).trans hx198_2
                                      replace p198 := eq_true p198
                                      replace q198 := eq_true q198
                                      go_wp2_with (first | ((with_reducible refine gate_dst (N := 18) rfl ?_); (try (refine gate_guard (by rfl) ?_; dsimp only)); refine box_event ?hg (N := 18) ?hd (cs := #[.int .i64 0, .int .i64 0, .int .u32 0]) (t := 29) ?hr ?_; (case hd => rfl); (case hg => rfl); (case hr => first | (go_simp; done) | (go_simp; rfl)); intro gb199 hg w33 hbox hb; have n0_ := Aside0.mk (Kd.R_below (by (with_reducible repeat (first | apply Kd.R_alloc | apply Kd.R_drewN | apply Kd.R_drew)); exact HO_9.out) hb); have n1_ := Aside0.mk (Kd.R_below (by (with_reducible repeat (first | apply Kd.R_alloc | apply Kd.R_drewN | apply Kd.R_drew)); exact HO_51.out) hb); have n2_ := Aside0.mk (below_step (by repeat (first | (with_reducible first | exact HB.out | apply below_alloc | apply pw_below_drewN | apply below_drew1) | exact HB.out)) hb); have n3_ := Aside0.mk (hbox); have n4_ := Aside0.mk ((by rw [hg]; exact (below_size (by repeat (first | (with_reducible first | exact HB.out | apply below_alloc | apply pw_below_drewN | apply below_drew1) | exact HB.out))) : w.heap.size ≤ gb199)); have n5_ := Aside0.mk ((by rw [hg]; exact (below_size (by repeat (first | (with_reducible first | exact HB.out | apply below_alloc | apply pw_below_drewN | apply below_drew1) | exact HB.out))) : w.heap.size ≤ gb199)); clear HO_9; clear HO_51; clear HB; have HO_9 := n0_; have HO_51 := n1_; have HB := n2_; have BK199 := n3_; have GW199 := n4_; have GE199 := n5_; clear n0_ n1_ n2_ n3_ n4_ n5_; clear hb hbox hg; have hcz34_0 : w33.cell? ⟨gb199, 0, none⟩ = some (.int .i64 0) := (blk_cell BK199.out 0).trans rfl; have hcz34_1 : w33.cell? ⟨gb199, 1, none⟩ = some (.int .i64 0) := (blk_cell BK199.out 1).trans rfl; have hcz34_2 : w33.cell? ⟨gb199, 2, none⟩ = some (.int .u32 0) := (blk_cell BK199.out 2).trans rfl; have hfz34_0 := blk_frozen BK199.out 0; have hfz34_1 := blk_frozen BK199.out 1; have hfz34_2 := blk_frozen BK199.out 2))
                                      go_roundg k4
                                      case measure => have := HJ6.out; have := HK2.out; have := HK3.out; have := HK4.out; omega
                                      case rel => exact ⟨(x11_4), (x16_4), (wrap64 (x59_4 + 1)), (by first | rfl | (simp; done) | (simp [*]; done)), (by first | rfl | (simp; done) | (simp [*]; done)), (by first | rfl | (simp; done) | (simp [*]; done)), H', ⟨by have := HJ6.out; have := HK2.out; have := HK3.out; have := HK4.out; omega⟩, ⟨by (with_reducible repeat (first | apply Kd.R_alloc | apply Kd.R_drewN | apply Kd.R_drew)); exact Kd.R_mono (Kd.R_far (p := ⟨gb199, 2, none⟩) (Kd.R_far (p := ⟨gb199, 1, none⟩) (Kd.R_far (p := ⟨gb199, 0, none⟩) (Kd.R_types HO_9.out BK199.out (by decide)) (fun _ hk => hk.2) (.int .i64 ((rd_T29 l3 x59_4).f0))) (fun _ hk => hk.2) (.int .i64 ((rd_T29 l3 x59_4).f1))) (fun _ hk => hk.2) (.int .u32 ((rd_T29 l3 x59_4).f2))) (fun _ hk => trivial)⟩, ⟨by (with_reducible repeat (first | apply Kd.R_alloc | apply Kd.R_drewN | apply Kd.R_drew)); exact Kd.R_mono (Kd.R_far (p := ⟨gb199, 2, none⟩) (Kd.R_far (p := ⟨gb199, 1, none⟩) (Kd.R_far (p := ⟨gb199, 0, none⟩) (Kd.R_types HO_51.out BK199.out (by decide)) (fun _ hk => hk.2) (.int .i64 ((rd_T29 l3 x59_4).f0))) (fun _ hk => hk.2) (.int .i64 ((rd_T29 l3 x59_4).f1))) (fun _ hk => hk.2) (.int .u32 ((rd_T29 l3 x59_4).f2))) (fun _ hk => trivial)⟩, ⟨by repeat (first | (with_reducible first | exact HB.out | apply below_alloc | apply pw_below_drewN | apply below_drew1 | refine below_set ?_ GE199.out) | exact HB.out)⟩⟩
                                  · rw [if_neg c29] at H
                                    exact absurd H (by simp)
                                · rw [if_neg c28] at H
                                  exact absurd H (by simp)
                              · rw [if_neg c27] at H
                                have c27b0 : decide (x59_4 < (l3.length : Int)) = false := decide_eq_false c27
                                clear c27
                                by_cases c35 : x16_4 = true
                                · subst c35
                                  have H1 : (platelayerlaw12_VictimGains.l1 k4 a1 l3 t192 x10_2 x11_4 t192 (t192.length : Int) (wrap64 (x53_3 + 1))) = some r := by rw [if_pos rfl] at H; exact H
                                  clear H
                                  have H := H1
                                  clear H1
                                  have H' := Aside0.mk H
                                  clear H
                                  go_wp2
                                  go_roundg k4
                                  case measure => have := HJ6.out; have := HK2.out; have := HK3.out; have := HK4.out; omega
                                  case rel => exact ⟨(x11_4), (wrap64 (x53_3 + 1)), (by first | rfl | (simp; done) | (simp [*]; done)), (by first | rfl | (simp; done) | (simp [*]; done)), H', ⟨by have := HJ6.out; have := HK2.out; have := HK3.out; have := HK4.out; omega⟩, ⟨by (with_reducible repeat (first | apply Kd.R_alloc | apply Kd.R_drewN | apply Kd.R_drew)); exact HO_9.out⟩, ⟨by (with_reducible repeat (first | apply Kd.R_alloc | apply Kd.R_drewN | apply Kd.R_drew)); exact HO_51.out⟩, ⟨by repeat (first | (with_reducible first | exact HB.out | apply below_alloc | apply pw_below_drewN | apply below_drew1) | exact HB.out)⟩⟩
                                · replace c35 := Bool.eq_false_iff.mpr c35
                                  subst c35
                                  have H1 : (some false) = some r := by rw [if_neg (show ¬ (false = true) by decide)] at H; exact H
                                  clear H
                                  have H := H1
                                  clear H1
                                  obtain rfl := Option.some.inj H
                                  go_wp2
                                  go_ret
                                  exact ⟨by first | rfl | (simp [errW_none, errW_some] <;> rfl) | (simp [*, errW_none, errW_some] <;> rfl), by repeat (first | (with_reducible first | exact HB.out | apply below_alloc | apply pw_below_drewN | apply below_drew1) | exact HB.out)⟩
                        · rw [if_neg c26] at H
                          exact absurd H (by simp)
                      · rw [if_neg c25] at H
                        exact absurd H (by simp)
                    · rw [if_neg c24] at H
                      have c24b0 : decide (x53_3 < (t192.length : Int)) = false := decide_eq_false c24
                      clear c24
                      by_cases c36 : a1 = 0
                      · rw [if_pos c36] at H
                        exact absurd H (by simp)
                      · rw [if_neg c36] at H
                        have c36b0 : (a1 == 0) = false := beq_eq_false_iff_ne.mpr c36
                        have c36b1 : (a1 != 0) = true := bne_iff_ne.mpr c36
                        by_cases c37 : (t192.length : Int) > 0
                        · rw [if_pos c37] at H
                          have c37b0 : decide (0 < (t192.length : Int)) = true := decide_eq_true c37
                          have c37b1 : decide (0 < t192.length) = true := decide_eq_true (by omega)
                          clear c37
                          by_cases c38 : (wrap64 (Int.tdiv (wrap64 ((wrap64 (x11_3 + a1)) - 1)) a1)) ≥ (t192.length : Int)
                          · rw [if_pos c38] at H
                            have c38b0 : decide ((t192.length : Int) ≤ (wrap64 (Int.tdiv (wrap64 ((wrap64 (x11_3 + a1)) - 1)) a1))) = true := decide_eq_true c38
                            clear c38
                            obtain rfl := Option.some.inj H
                            go_wp2
                            go_ret
                            exact ⟨by first | rfl | (simp [errW_none, errW_some] <;> rfl) | (simp [*, errW_none, errW_some] <;> rfl), by repeat (first | (with_reducible first | exact HB.out | apply below_alloc | apply pw_below_drewN | apply below_drew1) | exact HB.out)⟩
                          · rw [if_neg c38] at H
                            have c38b0 : decide ((t192.length : Int) ≤ (wrap64 (Int.tdiv (wrap64 ((wrap64 (x11_3 + a1)) - 1)) a1))) = false := decide_eq_false c38
                            clear c38
                            by_cases c39 : (wrap64 (Int.tdiv (wrap64 ((wrap64 (x11_3 + a1)) - 1)) a1)) > 3
                            · rw [if_pos c39] at H
                              have c39b0 : decide (3 < (wrap64 (Int.tdiv (wrap64 ((wrap64 (x11_3 + a1)) - 1)) a1))) = true := decide_eq_true c39
                              clear c39
                              obtain rfl := Option.some.inj H
                              go_wp2
                              go_ret
                              exact ⟨by first | rfl | (simp [errW_none, errW_some] <;> rfl) | (simp [*, errW_none, errW_some] <;> rfl), by repeat (first | (with_reducible first | exact HB.out | apply below_alloc | apply pw_below_drewN | apply below_drew1) | exact HB.out)⟩
                            · rw [if_neg c39] at H
                              have c39b0 : decide (3 < (wrap64 (Int.tdiv (wrap64 ((wrap64 (x11_3 + a1)) - 1)) a1))) = false := decide_eq_false c39
                              clear c39
                              by_cases c40 : (t192.length : Int) > (l3.length : Int)
                              · rw [if_pos c40] at H
                                have c40b0 : decide ((l3.length : Int) < (t192.length : Int)) = true := decide_eq_true c40
                                have c40b1 : decide (l3.length < t192.length) = true := decide_eq_true (Int.ofNat_lt.mp c40)
                                clear c40
                                obtain rfl := Option.some.inj H
                                go_wp2
                                go_ret
                                exact ⟨by first | rfl | (simp [errW_none, errW_some] <;> rfl) | (simp [*, errW_none, errW_some] <;> rfl), by repeat (first | (with_reducible first | exact HB.out | apply below_alloc | apply pw_below_drewN | apply below_drew1) | exact HB.out)⟩
                              · rw [if_neg c40] at H
                                have c40b0 : decide ((l3.length : Int) < (t192.length : Int)) = false := decide_eq_false c40
                                have c40b1 : decide (l3.length < t192.length) = false := decide_eq_false (fun h => c40 (Int.ofNat_lt.mpr h))
                                clear c40
                                obtain rfl := Option.some.inj H
                                go_wp2
                                go_ret
                                exact ⟨by first | rfl | (simp [errW_none, errW_some] <;> rfl) | (simp [*, errW_none, errW_some] <;> rfl), by repeat (first | (with_reducible first | exact HB.out | apply below_alloc | apply pw_below_drewN | apply below_drew1) | exact HB.out)⟩
                        · rw [if_neg c37] at H
                          have c37b0 : decide (0 < (t192.length : Int)) = false := decide_eq_false c37
                          have c37b1 : decide (0 < t192.length) = false := decide_eq_false (by omega)
                          clear c37
                          by_cases c41 : (l3.length : Int) < 4
                          · rw [if_pos c41] at H
                            have c41b0 : decide ((l3.length : Int) < 4) = true := decide_eq_true c41
                            have c41b1 : decide (l3.length < 4) = true := decide_eq_true (by omega)
                            clear c41
                            obtain rfl := Option.some.inj H
                            go_wp2
                            go_ret
                            exact ⟨by first | rfl | (simp [errW_none, errW_some] <;> rfl) | (simp [*, errW_none, errW_some] <;> rfl), by repeat (first | (with_reducible first | exact HB.out | apply below_alloc | apply pw_below_drewN | apply below_drew1) | exact HB.out)⟩
                          · rw [if_neg c41] at H
                            have c41b0 : decide ((l3.length : Int) < 4) = false := decide_eq_false c41
                            have c41b1 : decide (l3.length < 4) = false := decide_eq_false (by omega)
                            clear c41
                            obtain rfl := Option.some.inj H
                            go_wp2
                            go_ret
                            exact ⟨by first | rfl | (simp [errW_none, errW_some] <;> rfl) | (simp [*, errW_none, errW_some] <;> rfl), by repeat (first | (with_reducible first | exact HB.out | apply below_alloc | apply pw_below_drewN | apply below_drew1) | exact HB.out)⟩
  · replace c6 := Bool.eq_false_iff.mpr c6
    subst c6
    have H1 : (some false) = some r := by rw [if_neg (show ¬ (false = true) by decide)] at H; exact H
    clear H
    have H := H1
    clear H1
    obtain rfl := Option.some.inj H
    go_enter Try.func3, Try.ntmps3
    go_wp2_with (first | ((with_reducible refine gate_callee (f := 6) rfl ?_); refine goesL_ (some 20) rfl rfl Try.func6 (by kernel_rfl) rfl #[] rfl (by (try simp only [List.map_toArray, List.map_cons, List.map_nil]); first | done | rfl | (simp only [List.length_drop, List.length_take]; rfl)) ?_; (with_reducible refine (platelayerlaw12_awake.calls k  false _ A5.out).mono ?_); rintro e w42 ⟨rfl, hb⟩; refine ⟨_, rfl, ?_⟩; have n0_ := Aside0.mk (below_step (by repeat (first | (with_reducible first | exact HB.out | apply below_alloc | apply pw_below_drewN | apply below_drew1) | exact HB.out)) hb); clear HB; have HB := n0_; clear n0_; (try clear hb); (try clear hb2); (try clear hk); (try clear hi)))
    go_ret
    exact ⟨by first | rfl | (simp [errW_none, errW_some] <;> rfl) | (simp [*, errW_none, errW_some] <;> rfl), by repeat (first | (with_reducible first | exact HB.out | apply below_alloc | apply pw_below_drewN | apply below_drew1) | exact HB.out)⟩

end Go.Proofs.Ytkcpbglimpaieaa.V
