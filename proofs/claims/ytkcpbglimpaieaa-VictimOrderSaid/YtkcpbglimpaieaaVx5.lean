/- Functions of this seat as plain Lean functions, with the proof that the machine comes to what they say: by a scratch print with stubs. -/
import Derived.Test.YtkcpbglimpaieaaVx0
import Derived.Test.YtkcpbglimpaieaaVx1
import Derived.Test.YtkcpbglimpaieaaVx2
namespace Go.Proofs.Ytkcpbglimpaieaa.V
open Go.RowKit Go.Proofs.YtkcpbglimpaieaaW.PrintWords Go.Proofs.YtkcpbglimpaieaaW.PrintLast Go.Proofs.YtkcpbglimpaieaaW.PrintMore
attribute [local go_sem] max2_int min2_int max_two min_two max_three min_three max_four min_four   -- for this text's walks alone
set_option linter.unusedVariables false
set_option linter.unusedSimpArgs false

/-! ### platelayerlaw12_VictimOrder: function 4 -/
mutual
def platelayerlaw12_VictimOrder.j0 : Nat → Int → Int → Int → List (S29) → Int → Bool → Option (Bool)
  | 0, _, _, _, _, _, _ => none
  | k + 1, x0, x1, x2, x3, x4, x41 => if x41 = true then (some true) else ((some (([] : List (S29)) : List (S29))).bind fun y202 => (if 0 ≤ x4 then (if x4 ≤ (x3.length : Int) then ((some (x3.drop (x4 : Int).toNat : List (S29))).bind fun y205 => (if y202.length + y205.length < 5864062014805 then ((some (y202 ++ y205 : List (S29))).bind fun y209 => ((some (x3.take (x4 : Int).toNat : List (S29))).bind fun y212 => (if y209.length + y212.length < 5864062014805 then ((some (y209 ++ y212 : List (S29))).bind fun y216 => ((victim_Order.f k x0 x1 x3).bind fun t219 => ((victim_Order.f k x0 x1 y216).bind fun t222 => ((platelayerref08_Same.f k t219 t222).bind fun t225 => (if t225 = true then ((victim_Choose.f k x0 x1 x2 x3).bind fun t226 => ((victim_Choose.f k x0 x1 x2 y216).bind fun t229 => ((platelayerref08_Same.f k t226 t229).bind fun t232 => (if t232 = true then (platelayerlaw12_VictimOrder.j1 k x0 x3 t219 ((t219.length : Int) != (x3.length : Int))) else (platelayerlaw12_VictimOrder.j1 k x0 x3 t219 true))))) else (platelayerlaw12_VictimOrder.j1 k x0 x3 t219 true)))))) else (none)))) else (none))) else (none)) else (none)))
def platelayerlaw12_VictimOrder.j1 : Nat → Int → List (S29) → List Int → Bool → Option (Bool)
  | 0, _, _, _, _ => none
  | k + 1, x0, x3, x12, x82 => if x82 = true then (some false) else (platelayerlaw12_VictimOrder.l0 k x0 x3 0 x12 (x12.length : Int) 0)
def platelayerlaw12_VictimOrder.l0 : Nat → Int → List (S29) → Int → List Int → Int → Int → Option (Bool)
  | 0, _, _, _, _, _, _ => none
  | k + 1, x0, x3, x13, x83, x84, x85 => if x85 < x84 then (if 0 ≤ x85 then (if x85 < (x83.length : Int) then (platelayerlaw12_VictimOrder.l1 k x0 x3 x13 (rd x83 x85) 0 x83 x84 x85 x3 (x3.length : Int) 0) else (none)) else (none)) else (some true)
def platelayerlaw12_VictimOrder.l1 : Nat → Int → List (S29) → Int → Int → Int → List Int → Int → Int → List (S29) → Int → Int → Option (Bool)
  | 0, _, _, _, _, _, _, _, _, _, _, _ => none
  | k + 1, x0, x3, x13, x15, x16, x83, x84, x85, x89, x90, x91 => if x91 < x90 then (if 0 ≤ x91 then (if x91 < (x89.length : Int) then (if ((rd_T29 x89 x91).f0) = x15 then (if x0 = 0 then (if ((rd_T29 x89 x91).f1) < x13 then (some false) else (platelayerlaw12_VictimOrder.l1 k x0 x3 ((rd_T29 x89 x91).f1) x15 (wrap64 (x16 + 1)) x83 x84 x85 x89 x90 (wrap64 (x91 + 1)))) else (platelayerlaw12_VictimOrder.l1 k x0 x3 ((rd_T29 x89 x91).f1) x15 (wrap64 (x16 + 1)) x83 x84 x85 x89 x90 (wrap64 (x91 + 1)))) else (platelayerlaw12_VictimOrder.l1 k x0 x3 x13 x15 x16 x83 x84 x85 x89 x90 (wrap64 (x91 + 1)))) else (none)) else (none)) else (if x16 = 1 then (platelayerlaw12_VictimOrder.l0 k x0 x3 x13 x83 x84 (wrap64 (x85 + 1))) else (some false))
end
def platelayerlaw12_VictimOrder.f (k : Nat) (a0 : Int) (a1 : Int) (a2 : Int) (l3 : List (S29)) (a4 : Int) : Option (Bool) := (platelayerlaw12_awake.f k).bind fun t200 => (if t200 = true then ((platelayerlaw12_outside.f k a1 l3).bind fun t201 => (if t201 = true then (platelayerlaw12_VictimOrder.j0 k a0 a1 a2 l3 a4 true) else (if a2 < 0 then (platelayerlaw12_VictimOrder.j0 k a0 a1 a2 l3 a4 true) else (if a2 > 16 then (platelayerlaw12_VictimOrder.j0 k a0 a1 a2 l3 a4 true) else (if a4 < 0 then (platelayerlaw12_VictimOrder.j0 k a0 a1 a2 l3 a4 true) else (platelayerlaw12_VictimOrder.j0 k a0 a1 a2 l3 a4 (decide (a4 > (l3.length : Int))))))))) else (some false))
theorem platelayerlaw12_VictimOrder.mono_l : ∀ k, (∀ y0 y1 y2 y3 y4 y5, LeO (platelayerlaw12_VictimOrder.j0 k y0 y1 y2 y3 y4 y5) (platelayerlaw12_VictimOrder.j0 (k + 1) y0 y1 y2 y3 y4 y5)) ∧ (∀ y0 y1 y2 y3, LeO (platelayerlaw12_VictimOrder.j1 k y0 y1 y2 y3) (platelayerlaw12_VictimOrder.j1 (k + 1) y0 y1 y2 y3)) ∧ (∀ y0 y1 y2 y3 y4 y5, LeO (platelayerlaw12_VictimOrder.l0 k y0 y1 y2 y3 y4 y5) (platelayerlaw12_VictimOrder.l0 (k + 1) y0 y1 y2 y3 y4 y5)) ∧ (∀ y0 y1 y2 y3 y4 y5 y6 y7 y8 y9 y10, LeO (platelayerlaw12_VictimOrder.l1 k y0 y1 y2 y3 y4 y5 y6 y7 y8 y9 y10) (platelayerlaw12_VictimOrder.l1 (k + 1) y0 y1 y2 y3 y4 y5 y6 y7 y8 y9 y10))
  | 0 => ⟨fun _ _ _ _ _ _ r h => by simp [platelayerlaw12_VictimOrder.j0] at h, fun _ _ _ _ r h => by simp [platelayerlaw12_VictimOrder.j1] at h, fun _ _ _ _ _ _ r h => by simp [platelayerlaw12_VictimOrder.l0] at h, fun _ _ _ _ _ _ _ _ _ _ _ r h => by simp [platelayerlaw12_VictimOrder.l1] at h⟩
  | k + 1 => by
    obtain ⟨ih0, ih1, ih2, ih3⟩ := platelayerlaw12_VictimOrder.mono_l k
    refine ⟨?_, ?_, ?_, ?_⟩
    · intro y0 y1 y2 y3 y4 y5
      unfold platelayerlaw12_VictimOrder.j0
      repeat' first
      | (with_reducible exact ih0 _ _ _ _ _ _)
      | (with_reducible exact ih1 _ _ _ _)
      | (with_reducible exact ih2 _ _ _ _ _ _)
      | (with_reducible exact ih3 _ _ _ _ _ _ _ _ _ _ _)
      | (with_reducible exact platelayerlaw12_awake.mono _)
      | (with_reducible exact platelayerlaw12_outside.mono _ _ _)
      | (with_reducible exact platelayerref08_Same.mono _ _ _)
      | (with_reducible exact victim_Choose.mono _ _ _ _ _)
      | (with_reducible exact victim_Order.mono _ _ _ _)
      | (with_reducible exact LeO.refl _)
      | (with_reducible exact LeO.none _)
      | (with_reducible refine LeO.ite ?_ ?_)
      | (with_reducible refine LeO.bind ?_ (fun _ => ?_))
      | exact ih0 _ _ _ _ _ _
      | exact ih1 _ _ _ _
      | exact ih2 _ _ _ _ _ _
      | exact ih3 _ _ _ _ _ _ _ _ _ _ _
      | exact platelayerlaw12_awake.mono _
      | exact platelayerlaw12_outside.mono _ _ _
      | exact platelayerref08_Same.mono _ _ _
      | exact victim_Choose.mono _ _ _ _ _
      | exact victim_Order.mono _ _ _ _
      | exact LeO.none _
      | refine LeO.ite ?_ ?_
      | refine LeO.bind ?_ (fun _ => ?_)
    · intro y0 y1 y2 y3
      unfold platelayerlaw12_VictimOrder.j1
      repeat' first
      | (with_reducible exact ih0 _ _ _ _ _ _)
      | (with_reducible exact ih1 _ _ _ _)
      | (with_reducible exact ih2 _ _ _ _ _ _)
      | (with_reducible exact ih3 _ _ _ _ _ _ _ _ _ _ _)
      | (with_reducible exact platelayerlaw12_awake.mono _)
      | (with_reducible exact platelayerlaw12_outside.mono _ _ _)
      | (with_reducible exact platelayerref08_Same.mono _ _ _)
      | (with_reducible exact victim_Choose.mono _ _ _ _ _)
      | (with_reducible exact victim_Order.mono _ _ _ _)
      | (with_reducible exact LeO.refl _)
      | (with_reducible exact LeO.none _)
      | (with_reducible refine LeO.ite ?_ ?_)
      | (with_reducible refine LeO.bind ?_ (fun _ => ?_))
      | exact ih0 _ _ _ _ _ _
      | exact ih1 _ _ _ _
      | exact ih2 _ _ _ _ _ _
      | exact ih3 _ _ _ _ _ _ _ _ _ _ _
      | exact platelayerlaw12_awake.mono _
      | exact platelayerlaw12_outside.mono _ _ _
      | exact platelayerref08_Same.mono _ _ _
      | exact victim_Choose.mono _ _ _ _ _
      | exact victim_Order.mono _ _ _ _
      | exact LeO.none _
      | refine LeO.ite ?_ ?_
      | refine LeO.bind ?_ (fun _ => ?_)
    · intro y0 y1 y2 y3 y4 y5
      unfold platelayerlaw12_VictimOrder.l0
      repeat' first
      | (with_reducible exact ih0 _ _ _ _ _ _)
      | (with_reducible exact ih1 _ _ _ _)
      | (with_reducible exact ih2 _ _ _ _ _ _)
      | (with_reducible exact ih3 _ _ _ _ _ _ _ _ _ _ _)
      | (with_reducible exact platelayerlaw12_awake.mono _)
      | (with_reducible exact platelayerlaw12_outside.mono _ _ _)
      | (with_reducible exact platelayerref08_Same.mono _ _ _)
      | (with_reducible exact victim_Choose.mono _ _ _ _ _)
      | (with_reducible exact victim_Order.mono _ _ _ _)
      | (with_reducible exact LeO.refl _)
      | (with_reducible exact LeO.none _)
      | (with_reducible refine LeO.ite ?_ ?_)
      | (with_reducible refine LeO.bind ?_ (fun _ => ?_))
      | exact ih0 _ _ _ _ _ _
      | exact ih1 _ _ _ _
      | exact ih2 _ _ _ _ _ _
      | exact ih3 _ _ _ _ _ _ _ _ _ _ _
      | exact platelayerlaw12_awake.mono _
      | exact platelayerlaw12_outside.mono _ _ _
      | exact platelayerref08_Same.mono _ _ _
      | exact victim_Choose.mono _ _ _ _ _
      | exact victim_Order.mono _ _ _ _
      | exact LeO.none _
      | refine LeO.ite ?_ ?_
      | refine LeO.bind ?_ (fun _ => ?_)
    · intro y0 y1 y2 y3 y4 y5 y6 y7 y8 y9 y10
      unfold platelayerlaw12_VictimOrder.l1
      repeat' first
      | (with_reducible exact ih0 _ _ _ _ _ _)
      | (with_reducible exact ih1 _ _ _ _)
      | (with_reducible exact ih2 _ _ _ _ _ _)
      | (with_reducible exact ih3 _ _ _ _ _ _ _ _ _ _ _)
      | (with_reducible exact platelayerlaw12_awake.mono _)
      | (with_reducible exact platelayerlaw12_outside.mono _ _ _)
      | (with_reducible exact platelayerref08_Same.mono _ _ _)
      | (with_reducible exact victim_Choose.mono _ _ _ _ _)
      | (with_reducible exact victim_Order.mono _ _ _ _)
      | (with_reducible exact LeO.refl _)
      | (with_reducible exact LeO.none _)
      | (with_reducible refine LeO.ite ?_ ?_)
      | (with_reducible refine LeO.bind ?_ (fun _ => ?_))
      | exact ih0 _ _ _ _ _ _
      | exact ih1 _ _ _ _
      | exact ih2 _ _ _ _ _ _
      | exact ih3 _ _ _ _ _ _ _ _ _ _ _
      | exact platelayerlaw12_awake.mono _
      | exact platelayerlaw12_outside.mono _ _ _
      | exact platelayerref08_Same.mono _ _ _
      | exact victim_Choose.mono _ _ _ _ _
      | exact victim_Order.mono _ _ _ _
      | exact LeO.none _
      | refine LeO.ite ?_ ?_
      | refine LeO.bind ?_ (fun _ => ?_)
theorem platelayerlaw12_VictimOrder.mono : ∀ a0 a1 a2 a3 a4 k, LeO (platelayerlaw12_VictimOrder.f k a0 a1 a2 a3 a4) (platelayerlaw12_VictimOrder.f (k + 1) a0 a1 a2 a3 a4) := by
  intro a0 a1 a2 a3 a4 k
  obtain ⟨ih0, ih1, ih2, ih3⟩ := platelayerlaw12_VictimOrder.mono_l k
  unfold platelayerlaw12_VictimOrder.f
  repeat' first
      | (with_reducible exact ih0 _ _ _ _ _ _)
      | (with_reducible exact ih1 _ _ _ _)
      | (with_reducible exact ih2 _ _ _ _ _ _)
      | (with_reducible exact ih3 _ _ _ _ _ _ _ _ _ _ _)
      | (with_reducible exact platelayerlaw12_awake.mono _)
      | (with_reducible exact platelayerlaw12_outside.mono _ _ _)
      | (with_reducible exact platelayerref08_Same.mono _ _ _)
      | (with_reducible exact victim_Choose.mono _ _ _ _ _)
      | (with_reducible exact victim_Order.mono _ _ _ _)
      | (with_reducible exact LeO.refl _)
      | (with_reducible exact LeO.none _)
      | (with_reducible refine LeO.ite ?_ ?_)
      | (with_reducible refine LeO.bind ?_ (fun _ => ?_))
      | exact ih0 _ _ _ _ _ _
      | exact ih1 _ _ _ _
      | exact ih2 _ _ _ _ _ _
      | exact ih3 _ _ _ _ _ _ _ _ _ _ _
      | exact platelayerlaw12_awake.mono _
      | exact platelayerlaw12_outside.mono _ _ _
      | exact platelayerref08_Same.mono _ _ _
      | exact victim_Choose.mono _ _ _ _ _
      | exact victim_Order.mono _ _ _ _
      | exact LeO.none _
      | refine LeO.ite ?_ ?_
      | refine LeO.bind ?_ (fun _ => ?_)
def platelayerlaw12_VictimOrder.T5 : Bool × List (List Nat × List Nat) := (true, [([], []), ([], []), ([], []), ([1, 2], [1, 2]), ([0, 3], [0, 3]), ([], []), ([], []), ([5, 6], [5, 6]), ([4, 7, 4], [4, 7]), ([8, 8, 0, 1, 2, 3, 4, 5, 6, 7, 8], [8])])
def platelayerlaw12_VictimOrder.B5 : List Nat := [0, 0, 0, 6, 15, 0, 0, 96, 255, 511]
theorem platelayerlaw12_VictimOrder.tab5 : rtab .any (opsOf Try.f4 5) = platelayerlaw12_VictimOrder.T5 := by kernel_rfl
theorem platelayerlaw12_VictimOrder.bits5 : waitsOk platelayerlaw12_VictimOrder.T5.2 platelayerlaw12_VictimOrder.B5 = true := by kernel_rfl
set_option maxHeartbeats 8000000 in
set_option maxRecDepth 100000 in
theorem platelayerlaw12_VictimOrder.calls (k : Nat) (a0 : Int) (a1 : Int) (a2 : Int) (A3 : Option Addr) (c3 : Nat) (l3 : List (S29)) (a4 : Int) (r : Bool) (w : World) (hr3 : Kd.C k29 w A3 l3.length l3) (hc3 : l3.length ≤ c3) (h : platelayerlaw12_VictimOrder.f k a0 a1 a2 l3 a4 = some r) :
    Calls Try.prog 4 #[.int .i64 a0, .int .i64 a1, .int .i64 a2, .slice A3 l3.length c3, .int .i64 a4] w fun e w' => e = .returned (.bool r) ∧ Below w.heap.size w w' := by
  have hu29 := Try.underlying29
  have HR3 := Aside0.mk hr3
  have HC3 := Aside0.mk hc3
  clear hr3 hc3
  have HB := Aside0.mk (Below.refl w.heap.size w)
  have H : ((platelayerlaw12_awake.f k).bind fun t200 => (if t200 = true then ((platelayerlaw12_outside.f k a1 l3).bind fun t201 => (if t201 = true then (platelayerlaw12_VictimOrder.j0 k a0 a1 a2 l3 a4 true) else (if a2 < 0 then (platelayerlaw12_VictimOrder.j0 k a0 a1 a2 l3 a4 true) else (if a2 > 16 then (platelayerlaw12_VictimOrder.j0 k a0 a1 a2 l3 a4 true) else (if a4 < 0 then (platelayerlaw12_VictimOrder.j0 k a0 a1 a2 l3 a4 true) else (platelayerlaw12_VictimOrder.j0 k a0 a1 a2 l3 a4 (decide (a4 > (l3.length : Int))))))))) else (some false))) = some r := h
  clear h
  replace H := Option.bind_eq_some_iff.mp H
  obtain ⟨t200, A60, H⟩ := H
  replace H : (if t200 = true then ((platelayerlaw12_outside.f k a1 l3).bind fun t201 => (if t201 = true then (platelayerlaw12_VictimOrder.j0 k a0 a1 a2 l3 a4 true) else (if a2 < 0 then (platelayerlaw12_VictimOrder.j0 k a0 a1 a2 l3 a4 true) else (if a2 > 16 then (platelayerlaw12_VictimOrder.j0 k a0 a1 a2 l3 a4 true) else (if a4 < 0 then (platelayerlaw12_VictimOrder.j0 k a0 a1 a2 l3 a4 true) else (platelayerlaw12_VictimOrder.j0 k a0 a1 a2 l3 a4 (decide (a4 > (l3.length : Int))))))))) else (some false)) = some r := H
  have A6 := Aside0.mk A60
  clear A60
  by_cases c7 : t200 = true
  · subst c7
    have H1 : ((platelayerlaw12_outside.f k a1 l3).bind fun t201 => (if t201 = true then (platelayerlaw12_VictimOrder.j0 k a0 a1 a2 l3 a4 true) else (if a2 < 0 then (platelayerlaw12_VictimOrder.j0 k a0 a1 a2 l3 a4 true) else (if a2 > 16 then (platelayerlaw12_VictimOrder.j0 k a0 a1 a2 l3 a4 true) else (if a4 < 0 then (platelayerlaw12_VictimOrder.j0 k a0 a1 a2 l3 a4 true) else (platelayerlaw12_VictimOrder.j0 k a0 a1 a2 l3 a4 (decide (a4 > (l3.length : Int))))))))) = some r := by rw [if_pos rfl] at H; exact H
    clear H
    have H := H1
    clear H1
    have HC8 := Aside0.mk H
    clear H
    go_enter Try.func4, Try.ntmps4
    go_upto_region 3 with (first | ((with_reducible refine gate_callee (f := 6) rfl ?_); refine goesL_ (some 19) rfl rfl Try.func6 (by kernel_rfl) rfl #[] rfl (by (try simp only [List.map_toArray, List.map_cons, List.map_nil]); first | done | rfl | (simp only [List.length_drop, List.length_take]; rfl)) ?_; (with_reducible refine (platelayerlaw12_awake.calls k  true _ A6.out).mono ?_); rintro e w9 ⟨rfl, hb⟩; refine ⟨_, rfl, ?_⟩; have n0_ := Aside0.mk (below_step (by repeat (first | (with_reducible first | exact HB.out | apply below_alloc | apply pw_below_drewN | apply below_drew1) | exact HB.out)) hb); clear HB; have HB := n0_; clear n0_; (try clear hb); (try clear hb2); (try clear hk); (try clear hi)))
    (try simp only [Act.put, List.setIfInBounds_toArray, List.set_cons_zero, List.set_cons_succ])
    go_cut [41] (fun v41 wc => ∃ (kq : Nat) (x41_7 : Bool), v41 = .bool x41_7 ∧ Aside0 (platelayerlaw12_VictimOrder.j0 kq a0 a1 a2 l3 a4 x41_7 = some r) ∧ Aside0 (kq ≤ k) ∧ Aside0 (Below w.heap.size w wc))
    case first =>
      have H := HC8.out
      clear HC8
      replace H := Option.bind_eq_some_iff.mp H
      obtain ⟨t201, A100, H⟩ := H
      replace H : (if t201 = true then (platelayerlaw12_VictimOrder.j0 k a0 a1 a2 l3 a4 true) else (if a2 < 0 then (platelayerlaw12_VictimOrder.j0 k a0 a1 a2 l3 a4 true) else (if a2 > 16 then (platelayerlaw12_VictimOrder.j0 k a0 a1 a2 l3 a4 true) else (if a4 < 0 then (platelayerlaw12_VictimOrder.j0 k a0 a1 a2 l3 a4 true) else (platelayerlaw12_VictimOrder.j0 k a0 a1 a2 l3 a4 (decide (a4 > (l3.length : Int)))))))) = some r := H
      have A10 := Aside0.mk A100
      clear A100
      by_cases c11 : t201 = true
      · subst c11
        have H1 : (platelayerlaw12_VictimOrder.j0 k a0 a1 a2 l3 a4 true) = some r := by rw [if_pos rfl] at H; exact H
        clear H
        have H := H1
        clear H1
        have H' := Aside0.mk H
        clear H
        go_wp2_with (first | ((with_reducible refine gate_callee (f := 7) rfl ?_); refine goesL_ (some 23) rfl rfl Try.func7 (by kernel_rfl) rfl #[.int .i64 a1, .slice A3 l3.length c3] rfl (by (try simp only [List.map_toArray, List.map_cons, List.map_nil]); first | done | rfl | (simp only [List.length_drop, List.length_take]; rfl)) ?_; (with_reducible refine (platelayerlaw12_outside.calls k a1 _ _ l3 true _ ?side1 ?side2 A10.out).mono ?_); (case side1 => repeat (first | exact (Kd.C_below HR3.out HB.out) | (with_reducible refine Kd.C_alloc ?_ _) | (with_reducible refine Kd.C_drewN ?_ _) | (with_reducible refine Kd.C_drew ?_))); (case side2 => exact HC3.out); rintro e w12 ⟨rfl, hb⟩; refine ⟨_, rfl, ?_⟩; have n0_ := Aside0.mk (below_step (by repeat (first | (with_reducible first | exact HB.out | apply below_alloc | apply pw_below_drewN | apply below_drew1) | exact HB.out)) hb); clear HB; have HB := n0_; clear n0_; (try clear hb); (try clear hb2); (try clear hk); (try clear hi)))
        go_meet
        case rel => exact ⟨_, (true), (by first | rfl | (simp; done) | (simp [*]; done)), H', ⟨by first | omega | exact Nat.le_refl _⟩, ⟨by repeat (first | (with_reducible first | exact HB.out | apply below_alloc | apply pw_below_drewN | apply below_drew1) | exact HB.out)⟩⟩
      · replace c11 := Bool.eq_false_iff.mpr c11
        subst c11
        have H1 : (if a2 < 0 then (platelayerlaw12_VictimOrder.j0 k a0 a1 a2 l3 a4 true) else (if a2 > 16 then (platelayerlaw12_VictimOrder.j0 k a0 a1 a2 l3 a4 true) else (if a4 < 0 then (platelayerlaw12_VictimOrder.j0 k a0 a1 a2 l3 a4 true) else (platelayerlaw12_VictimOrder.j0 k a0 a1 a2 l3 a4 (decide (a4 > (l3.length : Int))))))) = some r := by rw [if_neg (show ¬ (false = true) by decide)] at H; exact H
        clear H
        have H := H1
        clear H1
        by_cases c13 : a2 < 0
        · rw [if_pos c13] at H
          have c13b0 : decide (a2 < 0) = true := decide_eq_true c13
          clear c13
          (first | rw [c13b0] | (simp only [i64_w, i32_w]; rw [c13b0]) | skip)
          have H' := Aside0.mk H
          clear H
          go_wp2_with (first | ((with_reducible refine gate_callee (f := 7) rfl ?_); refine goesL_ (some 23) rfl rfl Try.func7 (by kernel_rfl) rfl #[.int .i64 a1, .slice A3 l3.length c3] rfl (by (try simp only [List.map_toArray, List.map_cons, List.map_nil]); first | done | rfl | (simp only [List.length_drop, List.length_take]; rfl)) ?_; (with_reducible refine (platelayerlaw12_outside.calls k a1 _ _ l3 false _ ?side1 ?side2 A10.out).mono ?_); (case side1 => repeat (first | exact (Kd.C_below HR3.out HB.out) | (with_reducible refine Kd.C_alloc ?_ _) | (with_reducible refine Kd.C_drewN ?_ _) | (with_reducible refine Kd.C_drew ?_))); (case side2 => exact HC3.out); rintro e w14 ⟨rfl, hb⟩; refine ⟨_, rfl, ?_⟩; have n0_ := Aside0.mk (below_step (by repeat (first | (with_reducible first | exact HB.out | apply below_alloc | apply pw_below_drewN | apply below_drew1) | exact HB.out)) hb); clear HB; have HB := n0_; clear n0_; (try clear hb); (try clear hb2); (try clear hk); (try clear hi)))
          go_meet
          case rel => exact ⟨_, (true), (by first | rfl | (simp; done) | (simp [*]; done)), H', ⟨by first | omega | exact Nat.le_refl _⟩, ⟨by repeat (first | (with_reducible first | exact HB.out | apply below_alloc | apply pw_below_drewN | apply below_drew1) | exact HB.out)⟩⟩
        · rw [if_neg c13] at H
          have c13b0 : decide (a2 < 0) = false := decide_eq_false c13
          clear c13
          (first | rw [c13b0] | (simp only [i64_w, i32_w]; rw [c13b0]) | skip)
          by_cases c15 : a2 > 16
          · rw [if_pos c15] at H
            have c15b0 : decide (16 < a2) = true := decide_eq_true c15
            clear c15
            have H' := Aside0.mk H
            clear H
            go_wp2_with (first | ((with_reducible refine gate_callee (f := 7) rfl ?_); refine goesL_ (some 23) rfl rfl Try.func7 (by kernel_rfl) rfl #[.int .i64 a1, .slice A3 l3.length c3] rfl (by (try simp only [List.map_toArray, List.map_cons, List.map_nil]); first | done | rfl | (simp only [List.length_drop, List.length_take]; rfl)) ?_; (with_reducible refine (platelayerlaw12_outside.calls k a1 _ _ l3 false _ ?side1 ?side2 A10.out).mono ?_); (case side1 => repeat (first | exact (Kd.C_below HR3.out HB.out) | (with_reducible refine Kd.C_alloc ?_ _) | (with_reducible refine Kd.C_drewN ?_ _) | (with_reducible refine Kd.C_drew ?_))); (case side2 => exact HC3.out); rintro e w16 ⟨rfl, hb⟩; refine ⟨_, rfl, ?_⟩; have n0_ := Aside0.mk (below_step (by repeat (first | (with_reducible first | exact HB.out | apply below_alloc | apply pw_below_drewN | apply below_drew1) | exact HB.out)) hb); clear HB; have HB := n0_; clear n0_; (try clear hb); (try clear hb2); (try clear hk); (try clear hi)))
            go_meet
            case rel => exact ⟨_, (true), (by first | rfl | (simp; done) | (simp [*]; done)), H', ⟨by first | omega | exact Nat.le_refl _⟩, ⟨by repeat (first | (with_reducible first | exact HB.out | apply below_alloc | apply pw_below_drewN | apply below_drew1) | exact HB.out)⟩⟩
          · rw [if_neg c15] at H
            have c15b0 : decide (16 < a2) = false := decide_eq_false c15
            clear c15
            by_cases c17 : a4 < 0
            · rw [if_pos c17] at H
              have c17b0 : decide (a4 < 0) = true := decide_eq_true c17
              clear c17
              have H' := Aside0.mk H
              clear H
              go_wp2_with (first | ((with_reducible refine gate_callee (f := 7) rfl ?_); refine goesL_ (some 23) rfl rfl Try.func7 (by kernel_rfl) rfl #[.int .i64 a1, .slice A3 l3.length c3] rfl (by (try simp only [List.map_toArray, List.map_cons, List.map_nil]); first | done | rfl | (simp only [List.length_drop, List.length_take]; rfl)) ?_; (with_reducible refine (platelayerlaw12_outside.calls k a1 _ _ l3 false _ ?side1 ?side2 A10.out).mono ?_); (case side1 => repeat (first | exact (Kd.C_below HR3.out HB.out) | (with_reducible refine Kd.C_alloc ?_ _) | (with_reducible refine Kd.C_drewN ?_ _) | (with_reducible refine Kd.C_drew ?_))); (case side2 => exact HC3.out); rintro e w18 ⟨rfl, hb⟩; refine ⟨_, rfl, ?_⟩; have n0_ := Aside0.mk (below_step (by repeat (first | (with_reducible first | exact HB.out | apply below_alloc | apply pw_below_drewN | apply below_drew1) | exact HB.out)) hb); clear HB; have HB := n0_; clear n0_; (try clear hb); (try clear hb2); (try clear hk); (try clear hi)))
              go_meet
              case rel => exact ⟨_, (true), (by first | rfl | (simp; done) | (simp [*]; done)), H', ⟨by first | omega | exact Nat.le_refl _⟩, ⟨by repeat (first | (with_reducible first | exact HB.out | apply below_alloc | apply pw_below_drewN | apply below_drew1) | exact HB.out)⟩⟩
            · rw [if_neg c17] at H
              have c17b0 : decide (a4 < 0) = false := decide_eq_false c17
              clear c17
              have H' := Aside0.mk H
              clear H
              go_wp2_with (first | ((with_reducible refine gate_callee (f := 7) rfl ?_); refine goesL_ (some 23) rfl rfl Try.func7 (by kernel_rfl) rfl #[.int .i64 a1, .slice A3 l3.length c3] rfl (by (try simp only [List.map_toArray, List.map_cons, List.map_nil]); first | done | rfl | (simp only [List.length_drop, List.length_take]; rfl)) ?_; (with_reducible refine (platelayerlaw12_outside.calls k a1 _ _ l3 false _ ?side1 ?side2 A10.out).mono ?_); (case side1 => repeat (first | exact (Kd.C_below HR3.out HB.out) | (with_reducible refine Kd.C_alloc ?_ _) | (with_reducible refine Kd.C_drewN ?_ _) | (with_reducible refine Kd.C_drew ?_))); (case side2 => exact HC3.out); rintro e w19 ⟨rfl, hb⟩; refine ⟨_, rfl, ?_⟩; have n0_ := Aside0.mk (below_step (by repeat (first | (with_reducible first | exact HB.out | apply below_alloc | apply pw_below_drewN | apply below_drew1) | exact HB.out)) hb); clear HB; have HB := n0_; clear n0_; (try clear hb); (try clear hb2); (try clear hk); (try clear hi)))
              go_meet
              case rel => exact ⟨_, (decide (a4 > (l3.length : Int))), (by first | rfl | (simp; done) | (simp [*]; done)), H', ⟨by first | omega | exact Nat.le_refl _⟩, ⟨by repeat (first | (with_reducible first | exact HB.out | apply below_alloc | apply pw_below_drewN | apply below_drew1) | exact HB.out)⟩⟩
    case rest =>
      clear HC8
      try clear c1
      try clear p2
      try clear c3
      try clear c4
      try clear c6
      try clear c7
      try clear c11
      try clear c13
      try clear c13b0
      try clear c15
      try clear c15b0
      try clear c17
      try clear c17b0
      obtain ⟨kq, x41_7, rfl, HA, HJ7, HB⟩ := hcut
      cases kq with
      | zero => exact absurd HA.out (by simp [platelayerlaw12_VictimOrder.j0])
      | succ kj7 =>
        have H := HA.out
        clear HA
        simp only [platelayerlaw12_VictimOrder.j0] at H
        by_cases c20 : x41_7 = true
        · subst c20
          have H1 : (some true) = some r := by rw [if_pos rfl] at H; exact H
          clear H
          have H := H1
          clear H1
          obtain rfl := Option.some.inj H
          go_wp2
          go_ret
          exact ⟨by first | rfl | (simp [errW_none, errW_some] <;> rfl) | (simp [*, errW_none, errW_some] <;> rfl), by repeat (first | (with_reducible first | exact HB.out | apply below_alloc | apply pw_below_drewN | apply below_drew1) | exact HB.out)⟩
        · replace c20 := Bool.eq_false_iff.mpr c20
          subst c20
          have H1 : ((some (([] : List (S29)) : List (S29))).bind fun y202 => (if 0 ≤ a4 then (if a4 ≤ (l3.length : Int) then ((some (l3.drop (a4 : Int).toNat : List (S29))).bind fun y205 => (if y202.length + y205.length < 5864062014805 then ((some (y202 ++ y205 : List (S29))).bind fun y209 => ((some (l3.take (a4 : Int).toNat : List (S29))).bind fun y212 => (if y209.length + y212.length < 5864062014805 then ((some (y209 ++ y212 : List (S29))).bind fun y216 => ((victim_Order.f kj7 a0 a1 l3).bind fun t219 => ((victim_Order.f kj7 a0 a1 y216).bind fun t222 => ((platelayerref08_Same.f kj7 t219 t222).bind fun t225 => (if t225 = true then ((victim_Choose.f kj7 a0 a1 a2 l3).bind fun t226 => ((victim_Choose.f kj7 a0 a1 a2 y216).bind fun t229 => ((platelayerref08_Same.f kj7 t226 t229).bind fun t232 => (if t232 = true then (platelayerlaw12_VictimOrder.j1 kj7 a0 l3 t219 ((t219.length : Int) != (l3.length : Int))) else (platelayerlaw12_VictimOrder.j1 kj7 a0 l3 t219 true))))) else (platelayerlaw12_VictimOrder.j1 kj7 a0 l3 t219 true)))))) else (none)))) else (none))) else (none)) else (none))) = some r := by rw [if_neg (show ¬ (false = true) by decide)] at H; exact H
          clear H
          have H := H1
          clear H1
          obtain ⟨y202, hy202⟩ : ∃ y_ : List (S29), y_ = (([] : List (S29))) := ⟨_, rfl⟩
          replace H : (if 0 ≤ a4 then (if a4 ≤ (l3.length : Int) then ((some (l3.drop (a4 : Int).toNat : List (S29))).bind fun y205 => (if y202.length + y205.length < 5864062014805 then ((some (y202 ++ y205 : List (S29))).bind fun y209 => ((some (l3.take (a4 : Int).toNat : List (S29))).bind fun y212 => (if y209.length + y212.length < 5864062014805 then ((some (y209 ++ y212 : List (S29))).bind fun y216 => ((victim_Order.f kj7 a0 a1 l3).bind fun t219 => ((victim_Order.f kj7 a0 a1 y216).bind fun t222 => ((platelayerref08_Same.f kj7 t219 t222).bind fun t225 => (if t225 = true then ((victim_Choose.f kj7 a0 a1 a2 l3).bind fun t226 => ((victim_Choose.f kj7 a0 a1 a2 y216).bind fun t229 => ((platelayerref08_Same.f kj7 t226 t229).bind fun t232 => (if t232 = true then (platelayerlaw12_VictimOrder.j1 kj7 a0 l3 t219 ((t219.length : Int) != (l3.length : Int))) else (platelayerlaw12_VictimOrder.j1 kj7 a0 l3 t219 true))))) else (platelayerlaw12_VictimOrder.j1 kj7 a0 l3 t219 true)))))) else (none)))) else (none))) else (none)) else (none)) = some r := by first | (rw [hy202]; with_reducible exact H) | (have H2_ := (Option.bind_some _ _).symm.trans H; rw [hy202]; with_reducible exact H2_) | (have H2_ := (Option.bind_some _ _).symm.trans H; with_reducible exact H2_) | with_reducible exact H | (rw [hy202]; exact H) | exact H
          have Ny202 := Aside0.mk hy202
          clear hy202
          by_cases c21 : 0 ≤ a4
          · rw [if_pos c21] at H
            have c21b0 := eq_true c21
            have c21b1 : decide (0 ≤ a4) = true := decide_eq_true c21
            clear c21
            by_cases c22 : a4 ≤ (l3.length : Int)
            · rw [if_pos c22] at H
              have c22b0 := eq_true c22
              have c22b1 : decide (a4 ≤ (l3.length : Int)) = true := decide_eq_true c22
              clear c22
              obtain ⟨y205, hy205⟩ : ∃ y_ : List (S29), y_ = (l3.drop (a4 : Int).toNat) := ⟨_, rfl⟩
              replace H : (if y202.length + y205.length < 5864062014805 then ((some (y202 ++ y205 : List (S29))).bind fun y209 => ((some (l3.take (a4 : Int).toNat : List (S29))).bind fun y212 => (if y209.length + y212.length < 5864062014805 then ((some (y209 ++ y212 : List (S29))).bind fun y216 => ((victim_Order.f kj7 a0 a1 l3).bind fun t219 => ((victim_Order.f kj7 a0 a1 y216).bind fun t222 => ((platelayerref08_Same.f kj7 t219 t222).bind fun t225 => (if t225 = true then ((victim_Choose.f kj7 a0 a1 a2 l3).bind fun t226 => ((victim_Choose.f kj7 a0 a1 a2 y216).bind fun t229 => ((platelayerref08_Same.f kj7 t226 t229).bind fun t232 => (if t232 = true then (platelayerlaw12_VictimOrder.j1 kj7 a0 l3 t219 ((t219.length : Int) != (l3.length : Int))) else (platelayerlaw12_VictimOrder.j1 kj7 a0 l3 t219 true))))) else (platelayerlaw12_VictimOrder.j1 kj7 a0 l3 t219 true)))))) else (none)))) else (none)) = some r := by first | (rw [hy205]; with_reducible exact H) | (have H2_ := (Option.bind_some _ _).symm.trans H; rw [hy205]; with_reducible exact H2_) | (have H2_ := (Option.bind_some _ _).symm.trans H; with_reducible exact H2_) | with_reducible exact H | (rw [hy205]; exact H) | exact H
              have Ny205 := Aside0.mk hy205
              clear hy205
              by_cases c23 : y202.length + y205.length < 5864062014805
              · rw [if_pos c23] at H
                have LMc23 := Aside0.mk c23
                clear c23
                obtain ⟨y209, hy209⟩ : ∃ y_ : List (S29), y_ = (y202 ++ y205) := ⟨_, rfl⟩
                replace H : ((some (l3.take (a4 : Int).toNat : List (S29))).bind fun y212 => (if y209.length + y212.length < 5864062014805 then ((some (y209 ++ y212 : List (S29))).bind fun y216 => ((victim_Order.f kj7 a0 a1 l3).bind fun t219 => ((victim_Order.f kj7 a0 a1 y216).bind fun t222 => ((platelayerref08_Same.f kj7 t219 t222).bind fun t225 => (if t225 = true then ((victim_Choose.f kj7 a0 a1 a2 l3).bind fun t226 => ((victim_Choose.f kj7 a0 a1 a2 y216).bind fun t229 => ((platelayerref08_Same.f kj7 t226 t229).bind fun t232 => (if t232 = true then (platelayerlaw12_VictimOrder.j1 kj7 a0 l3 t219 ((t219.length : Int) != (l3.length : Int))) else (platelayerlaw12_VictimOrder.j1 kj7 a0 l3 t219 true))))) else (platelayerlaw12_VictimOrder.j1 kj7 a0 l3 t219 true)))))) else (none))) = some r := by first | (rw [hy209]; with_reducible exact H) | (have H2_ := (Option.bind_some _ _).symm.trans H; rw [hy209]; with_reducible exact H2_) | (have H2_ := (Option.bind_some _ _).symm.trans H; with_reducible exact H2_) | with_reducible exact H | (rw [hy209]; exact H) | exact H
                have Ny209 := Aside0.mk hy209
                clear hy209
                have c24b0 := eq_true (of_decide_eq_true (by first | (with_reducible assumption) | assumption) : 0 ≤ a4)
                have c25b0 := eq_true (of_decide_eq_true (by first | (with_reducible assumption) | assumption) : a4 ≤ (l3.length : Int))
                obtain ⟨y212, hy212⟩ : ∃ y_ : List (S29), y_ = (l3.take (a4 : Int).toNat) := ⟨_, rfl⟩
                replace H : (if y209.length + y212.length < 5864062014805 then ((some (y209 ++ y212 : List (S29))).bind fun y216 => ((victim_Order.f kj7 a0 a1 l3).bind fun t219 => ((victim_Order.f kj7 a0 a1 y216).bind fun t222 => ((platelayerref08_Same.f kj7 t219 t222).bind fun t225 => (if t225 = true then ((victim_Choose.f kj7 a0 a1 a2 l3).bind fun t226 => ((victim_Choose.f kj7 a0 a1 a2 y216).bind fun t229 => ((platelayerref08_Same.f kj7 t226 t229).bind fun t232 => (if t232 = true then (platelayerlaw12_VictimOrder.j1 kj7 a0 l3 t219 ((t219.length : Int) != (l3.length : Int))) else (platelayerlaw12_VictimOrder.j1 kj7 a0 l3 t219 true))))) else (platelayerlaw12_VictimOrder.j1 kj7 a0 l3 t219 true)))))) else (none)) = some r := by first | (rw [hy212]; with_reducible exact H) | (have H2_ := (Option.bind_some _ _).symm.trans H; rw [hy212]; with_reducible exact H2_) | (have H2_ := (Option.bind_some _ _).symm.trans H; with_reducible exact H2_) | with_reducible exact H | (rw [hy212]; exact H) | exact H
                have Ny212 := Aside0.mk hy212
                clear hy212
                by_cases c26 : y209.length + y212.length < 5864062014805
                · rw [if_pos c26] at H
                  have LMc26 := Aside0.mk c26
                  clear c26
                  obtain ⟨y216, hy216⟩ : ∃ y_ : List (S29), y_ = (y209 ++ y212) := ⟨_, rfl⟩
                  replace H : ((victim_Order.f kj7 a0 a1 l3).bind fun t219 => ((victim_Order.f kj7 a0 a1 y216).bind fun t222 => ((platelayerref08_Same.f kj7 t219 t222).bind fun t225 => (if t225 = true then ((victim_Choose.f kj7 a0 a1 a2 l3).bind fun t226 => ((victim_Choose.f kj7 a0 a1 a2 y216).bind fun t229 => ((platelayerref08_Same.f kj7 t226 t229).bind fun t232 => (if t232 = true then (platelayerlaw12_VictimOrder.j1 kj7 a0 l3 t219 ((t219.length : Int) != (l3.length : Int))) else (platelayerlaw12_VictimOrder.j1 kj7 a0 l3 t219 true))))) else (platelayerlaw12_VictimOrder.j1 kj7 a0 l3 t219 true))))) = some r := by first | (rw [hy216]; with_reducible exact H) | (have H2_ := (Option.bind_some _ _).symm.trans H; rw [hy216]; with_reducible exact H2_) | (have H2_ := (Option.bind_some _ _).symm.trans H; with_reducible exact H2_) | with_reducible exact H | (rw [hy216]; exact H) | exact H
                  have Ny216 := Aside0.mk hy216
                  clear hy216
                  replace H := Option.bind_eq_some_iff.mp H
                  obtain ⟨t219, A270, H⟩ := H
                  replace H : ((victim_Order.f kj7 a0 a1 y216).bind fun t222 => ((platelayerref08_Same.f kj7 t219 t222).bind fun t225 => (if t225 = true then ((victim_Choose.f kj7 a0 a1 a2 l3).bind fun t226 => ((victim_Choose.f kj7 a0 a1 a2 y216).bind fun t229 => ((platelayerref08_Same.f kj7 t226 t229).bind fun t232 => (if t232 = true then (platelayerlaw12_VictimOrder.j1 kj7 a0 l3 t219 ((t219.length : Int) != (l3.length : Int))) else (platelayerlaw12_VictimOrder.j1 kj7 a0 l3 t219 true))))) else (platelayerlaw12_VictimOrder.j1 kj7 a0 l3 t219 true)))) = some r := H
                  have A27 := Aside0.mk A270
                  clear A270
                  have HC28 := Aside0.mk H
                  clear H
                  try go_wp2
                  have n0_ := Aside0.mk (below_drew1 HB.out)
                  clear HB
                  have HB := n0_
                  clear n0_
                  have q30 : (a4 : Int) ≤ ((l3.length : Int) : Int) := of_decide_eq_true (by first | (with_reducible assumption) | assumption)
                  obtain ⟨i030, hi030, _, hsz30, _⟩ := info_parts info29
                  have hroom30 : l3.length ≤ c3 := HC3.out
                  have hC30 : Kd.C k29 _ A3 l3.length l3 := HR3.out
                  have q030 : (0 : Int) ≤ (a4 : Int) := of_decide_eq_true (by first | (with_reducible assumption) | assumption)
                  have hcut30 := cut_from (P := Try.prog) 22 29 .i64 Try.underlying22 hi030 3 hsz30 A3 l3.length c3 a4 q030 q30
                  have hr30 := Kd.C_drop (m := (a4 : Int).toNat) (c := c3) hC30 (by omega) hroom30
                  obtain ⟨A30, hA30⟩ : ∃ A1, A1 = (if c3 = (a4 : Int).toNat then A3 else (A3 : Option Addr).map (·.add ((a4 : Int).toNat * 3))) := ⟨_, rfl⟩
                  obtain ⟨c30, hc30⟩ : ∃ c1, c1 = c3 - (a4 : Int).toNat := ⟨_, rfl⟩
                  have hy30 : y205.length = l3.length - (a4 : Int).toNat := (by rw [Ny205.out, List.length_drop] <;> omega)
                  rw [show (l3).drop (a4 : Int).toNat = y205 from Ny205.out.symm] at hr30
                  replace hr30 : Kd.C k29 _ A30 y205.length y205 := (by rw [hA30]; exact hr30)
                  rw [← hy30, ← hA30, ← hc30] at hcut30
                  have HR208 := Aside0.mk hr30
                  have HC208 := Aside0.mk (show y205.length ≤ c30 from by rw [hy30, hc30]; exact Nat.sub_le_sub_right hroom30 _)
                  clear hr30 hC30 hroom30 hi030 hsz30 hc30
                  have KY30 := Aside0.mk hy30
                  have KA30 := Aside0.mk hA30
                  clear hy30 hA30
                  replace q30 := eq_true q30
                  have q31 : (a4 : Int) ≤ ((l3.length : Int) : Int) := of_decide_eq_true (by first | (with_reducible assumption) | assumption)
                  obtain ⟨i031, hi031, _, hsz31, _⟩ := info_parts info29
                  have hroom31 : l3.length ≤ c3 := HC3.out
                  have hC31 : Kd.C k29 _ A3 l3.length l3 := HR3.out
                  have hcut31 := cut_to (P := Try.prog) 22 29 .i64 Try.underlying22 hi031 A3 l3.length c3 a4 (of_decide_eq_true (by first | (with_reducible assumption) | assumption)) q31 hroom31
                  have hr31 := Kd.C_take (m := (a4 : Int).toNat) hC31 (by omega)
                  have hy31 : y212.length = (a4 : Int).toNat := (by rw [Ny212.out, List.length_take]; omega)
                  rw [← Ny212.out] at hr31
                  rw [← hy31] at hcut31
                  have HR215 := Aside0.mk hr31
                  have HC215 := Aside0.mk (show y212.length ≤ c3 from by omega)
                  clear hr31 hC31 hroom31 hi031 hsz31
                  have KY31 := Aside0.mk hy31
                  clear hy31
                  replace q31 := eq_true q31
                  refine start_ (n := 10) (S := fun w' => True) (ds := []) #[false, false, false, false, false, false, false, false, false, false] (by kernel_rfl) rfl rfl trivial (fun hHeld => ?_); refine with_tabW platelayerlaw12_VictimOrder.tab5 platelayerlaw12_VictimOrder.bits5 (fun HT_ HW_ => ?_)
                  generalize wc.drew = w29 at HB HR208 HR215 hHeld ⊢
                  refine pure_ (i := 1) (N := some 43) (v := ?_) (a' := ?_) #[false, true, false, false, false, false, false, false, false, false] rfl rfl (any_of HT_.out (by kernel_rfl)) (fun _ _ _ h => h) (Or.inl ⟨by rfl, ?_⟩) ?_ ?_
                  rotate_left
                  · intro w'
                    go_simp
                    with_reducible rfl
                  rotate_left
                  · simp only [Act.put, List.setIfInBounds_toArray, List.set_cons_zero, List.set_cons_succ, i64_w, i32_w]
                    rfl
                  refine pure_ (i := 2) (N := some 44) (v := ?_) (a' := ?_) #[false, true, true, false, false, false, false, false, false, false] rfl rfl (any_of HT_.out (by kernel_rfl)) (fun _ _ _ h => h) (Or.inl ⟨by rfl, ?_⟩) ?_ ?_
                  rotate_left
                  · intro w'
                    go_simp
                    with_reducible rfl
                  rotate_left
                  · simp only [Act.put, List.setIfInBounds_toArray, List.set_cons_zero, List.set_cons_succ, i64_w, i32_w]
                    rfl
                  refine pure_ (i := 3) (N := some 45) (v := ?_) (a' := ?_) #[false, true, true, true, false, false, false, false, false, false] rfl rfl (any_of HT_.out (by kernel_rfl)) (fun _ _ _ h => h) (Or.inl ⟨by rfl, ?_⟩) ?_ ?_
                  rotate_left
                  · intro w'
                    go_simp
                    with_reducible rfl
                  rotate_left
                  · simp only [Act.put, List.setIfInBounds_toArray, List.set_cons_zero, List.set_cons_succ, i64_w, i32_w]
                    rfl
                  refine pure_ (i := 5) (N := some 47) (v := ?_) (a' := ?_) #[false, true, true, true, false, true, false, false, false, false] rfl rfl (any_of HT_.out (by kernel_rfl)) (fun _ _ _ h => h) (Or.inl ⟨by rfl, ?_⟩) ?_ ?_
                  rotate_left
                  · intro w'
                    go_simp
                    with_reducible rfl
                  rotate_left
                  · simp only [Act.put, List.setIfInBounds_toArray, List.set_cons_zero, List.set_cons_succ, i64_w, i32_w]
                    rfl
                  refine pure_ (i := 6) (N := some 48) (v := ?_) (a' := ?_) #[false, true, true, true, false, true, true, false, false, false] rfl rfl (any_of HT_.out (by kernel_rfl)) (fun _ _ _ h => h) (Or.inl ⟨by rfl, ?_⟩) ?_ ?_
                  rotate_left
                  · intro w'
                    go_simp
                    with_reducible rfl
                  rotate_left
                  · simp only [Act.put, List.setIfInBounds_toArray, List.set_cons_zero, List.set_cons_succ, i64_w, i32_w]
                    rfl
                  refine pure_ (i := 7) (N := some 49) (v := ?_) (a' := ?_) #[false, true, true, true, false, true, true, true, false, false] rfl rfl (any_of HT_.out (by kernel_rfl)) (fun _ _ _ h => h) (Or.inl ⟨by rfl, ?_⟩) ?_ ?_
                  rotate_left
                  · intro w'
                    go_simp
                    with_reducible rfl
                  rotate_left
                  · simp only [Act.put, List.setIfInBounds_toArray, List.set_cons_zero, List.set_cons_succ, i64_w, i32_w]
                    rfl
                  refine one_ (i := 0) (N := some 42) #[true, true, true, true, false, true, true, true, false, false] rfl rfl (one_of HT_.out (by kernel_rfl)) (by decide) (fun K hK => ?_)
                  refine Kd.R_lit_step k29 _ 29 ?hg (N := 42) ?hd (xs := ([] : List (S29))) (inner := []) (ok := fun _ => True) (okp := fun _ => True) ?hr ?hp (fun _ hk => hk) trivial (Below.refl _ _) (Nat.le_refl _) (by simp) ?_; (case hd => rfl); (case hg => rfl); (case hr => first | (go_simp; done) | (go_simp; rfl)); (case hp => exact (Reps.none _ _))
                  intro v203 w32 ho33 hb hg_ hnew_
                  clear hg_ hnew_
                  (first | rw [← Ny202.out] at ho33 | (simp only [Int.reduceToNat] at ho33; rw [← Ny202.out] at ho33))
                  have n0_ := Aside0.mk (Kd.R_lower ho33 (below_size (by repeat (first | (with_reducible first | exact HB.out | apply below_alloc | apply pw_below_drewN | apply below_drew1) | exact HB.out))))
                  have n1_ := Aside0.mk (below_step (by repeat (first | (with_reducible first | exact HB.out | apply below_alloc | apply pw_below_drewN | apply below_drew1) | exact HB.out)) hb)
                  clear HB
                  have HO204 := n0_
                  have HB := n1_
                  clear n0_ n1_
                  clear hb ho33
                  refine hK.out _ _ trivial (fun hHeld => ?_)
                  clear hK K
                  refine norm_ (a' := ?_) ?_ ?_
                  rotate_left
                  · show Act.put _ (some 42) _ = _
                    simp only [Act.put, List.setIfInBounds_toArray, List.set_cons_zero, List.set_cons_succ, i64_w, i32_w]
                    rfl
                  refine one_ (i := 4) (N := some 46) #[true, true, true, true, true, true, true, true, false, false] rfl rfl (one_of HT_.out (by kernel_rfl)) (by decide) (fun K hK => ?_)
                  refine Kd.R_append_rows_step k29 (w0 := w) w.heap.size (by rfl) (.tmp 42) (.tmp 45) 22 29 (.agg #[(.int .i64 0), (.int .i64 0), (.int .u32 0)]) 24 rfl Try.underlying22 info29 rfl (by decide) (by omega) v203 y202 y205 _ _ _ (fun _ => True) (fun _ => False) rfl rfl ?aO ?aR (fun _ _ h => h) (fun _ h => h.elim) ?aF ?aB ?aS ?aL ?_
                  (case aR => repeat (first | exact (Kd.C_below HR208.out HB.out) | (with_reducible refine Kd.C_alloc ?_ _) | (with_reducible refine Kd.C_drewN ?_ _) | (with_reducible refine Kd.C_drew ?_)))
                  (case aB => exact (by repeat (first | (with_reducible first | exact HB.out | apply below_alloc | apply pw_below_drewN | apply below_drew1) | exact HB.out)))
                  (case aF => exact (fun _ _ => trivial))
                  (case aO => exact (by (with_reducible repeat (first | apply Kd.R_alloc | apply Kd.R_drewN | apply Kd.R_drew)); exact HO204.out))
                  (case aS => exact (below_size (by repeat (first | (with_reducible first | exact HB.out | apply below_alloc | apply pw_below_drewN | apply below_drew1) | exact HB.out))))
                  (case aL => have := LMc23.out; omega)
                  intro v210 w34 ho hb hg hat
                  rw [← Ny209.out] at ho
                  have n0_ := Aside0.mk (hb)
                  have n1_ := Aside0.mk (ho)
                  clear HB
                  clear HO204
                  have HB := n0_
                  have HO211 := n1_
                  clear n0_ n1_
                  clear ho hb hg hat
                  refine hK.out _ _ trivial (fun hHeld => ?_)
                  clear hK K
                  refine norm_ (a' := ?_) ?_ ?_
                  rotate_left
                  · show Act.put _ (some 46) _ = _
                    simp only [Act.put, List.setIfInBounds_toArray, List.set_cons_zero, List.set_cons_succ, i64_w, i32_w]
                    rfl
                  refine one_ (i := 8) (N := some 50) #[true, true, true, true, true, true, true, true, true, false] rfl rfl (one_of HT_.out (by kernel_rfl)) (by decide) (fun K hK => ?_)
                  refine Kd.R_append_rows_step k29 (w0 := w) w.heap.size (by rfl) (.tmp 46) (.tmp 49) 22 29 (.agg #[(.int .i64 0), (.int .i64 0), (.int .u32 0)]) 24 rfl Try.underlying22 info29 rfl (by decide) (by omega) v210 y209 y212 _ _ _ (fun _ => True) (fun _ => False) rfl rfl ?aO ?aR (fun _ _ h => h) (fun _ h => h.elim) ?aF ?aB ?aS ?aL ?_
                  (case aR => repeat (first | exact (Kd.C_below HR215.out HB.out) | (with_reducible refine Kd.C_alloc ?_ _) | (with_reducible refine Kd.C_drewN ?_ _) | (with_reducible refine Kd.C_drew ?_)))
                  (case aB => exact (by repeat (first | (with_reducible first | exact HB.out | apply below_alloc | apply pw_below_drewN | apply below_drew1) | exact HB.out)))
                  (case aF => exact (fun _ _ => trivial))
                  (case aO => exact (by (with_reducible repeat (first | apply Kd.R_alloc | apply Kd.R_drewN | apply Kd.R_drew)); exact HO211.out))
                  (case aS => exact (below_size (by repeat (first | (with_reducible first | exact HB.out | apply below_alloc | apply pw_below_drewN | apply below_drew1) | exact HB.out))))
                  (case aL => have := LMc26.out; omega)
                  intro v217 w35 ho hb hg hat
                  rw [← Ny216.out] at ho
                  have n0_ := Aside0.mk (hb)
                  have n1_ := Aside0.mk (ho)
                  clear HB
                  clear HO211
                  have HB := n0_
                  have HO218 := n1_
                  clear n0_ n1_
                  clear ho hb hg hat
                  refine hK.out _ _ trivial (fun hHeld => ?_)
                  clear hK K
                  refine norm_ (a' := ?_) ?_ ?_
                  rotate_left
                  · show Act.put _ (some 50) _ = _
                    simp only [Act.put, List.setIfInBounds_toArray, List.set_cons_zero, List.set_cons_succ, i64_w, i32_w]
                    rfl
                  refine pure_ (i := 9) (N := some 11) (v := ?_) (a' := ?_) #[true, true, true, true, true, true, true, true, true, true] rfl rfl (any_of HT_.out (by kernel_rfl)) (fun _ _ _ h => h) (Or.inl ⟨by rfl, ?_⟩) ?_ ?_
                  rotate_left
                  · intro w'
                    go_simp
                    with_reducible rfl
                  rotate_left
                  · simp only [Act.put, List.setIfInBounds_toArray, List.set_cons_zero, List.set_cons_succ, i64_w, i32_w]
                    rfl
                  refine done_ (done_of HT_.out (by kernel_rfl)) ?_
                  go_upto_region 7 with (first | ((with_reducible refine gate_callee (f := 9) rfl ?_); refine goesL_ (some 54) rfl rfl Try.func9 (by kernel_rfl) rfl #[.int .i64 a0, .int .i64 a1, .slice A3 l3.length c3] rfl (by (try simp only [List.map_toArray, List.map_cons, List.map_nil]); first | done | rfl | (simp only [List.length_drop, List.length_take]; rfl)) ?_; (with_reducible refine (victim_Order.calls kj7 a0 a1 _ _ l3 t219 _ ?side1 ?side2 A27.out).mono ?_); (case side1 => repeat (first | exact (Kd.C_below HR3.out HB.out) | (with_reducible refine Kd.C_alloc ?_ _) | (with_reducible refine Kd.C_drewN ?_ _) | (with_reducible refine Kd.C_drew ?_))); (case side2 => exact HC3.out); rintro e w36 ⟨v220, rfl, ho0, hb⟩; refine ⟨_, rfl, ?_⟩; have n0_ := Aside0.mk (Kd.R_below (by (with_reducible repeat (first | apply Kd.R_alloc | apply Kd.R_drewN | apply Kd.R_drew)); exact HO218.out) hb); have n1_ := Aside0.mk (Kd.R_lower ho0 (below_size (by repeat (first | (with_reducible first | exact HB.out | apply below_alloc | apply pw_below_drewN | apply below_drew1) | exact HB.out)))); have n2_ := Aside0.mk (below_step (by repeat (first | (with_reducible first | exact HB.out | apply below_alloc | apply pw_below_drewN | apply below_drew1) | exact HB.out)) hb); clear HO218; clear HB; have HO218 := n0_; have HO221 := n1_; have HB := n2_; clear n0_ n1_ n2_; (try clear hb); (try clear hb2); (try clear hk); (try clear hi); (try clear ho0)))
                  (try simp only [Act.put, List.setIfInBounds_toArray, List.set_cons_zero, List.set_cons_succ])
                  go_cut [82] (fun v82 wc => ∃ (kq : Nat) (x82_27 : Bool), v82 = .bool x82_27 ∧ Aside0 (platelayerlaw12_VictimOrder.j1 kq a0 l3 t219 x82_27 = some r) ∧ Aside0 (kq ≤ kj7) ∧ Aside0 (Kd.R (Kd.int .i64) 3 wc w.heap.size (fun _ => True) v220 t219) ∧ Aside0 (Below w.heap.size w wc))
                  case first =>
                    have H := HC28.out
                    clear HC28
                    replace H := Option.bind_eq_some_iff.mp H
                    obtain ⟨t222, A370, H⟩ := H
                    replace H : ((platelayerref08_Same.f kj7 t219 t222).bind fun t225 => (if t225 = true then ((victim_Choose.f kj7 a0 a1 a2 l3).bind fun t226 => ((victim_Choose.f kj7 a0 a1 a2 y216).bind fun t229 => ((platelayerref08_Same.f kj7 t226 t229).bind fun t232 => (if t232 = true then (platelayerlaw12_VictimOrder.j1 kj7 a0 l3 t219 ((t219.length : Int) != (l3.length : Int))) else (platelayerlaw12_VictimOrder.j1 kj7 a0 l3 t219 true))))) else (platelayerlaw12_VictimOrder.j1 kj7 a0 l3 t219 true))) = some r := H
                    have A37 := Aside0.mk A370
                    clear A370
                    replace H := Option.bind_eq_some_iff.mp H
                    obtain ⟨t225, A380, H⟩ := H
                    replace H : (if t225 = true then ((victim_Choose.f kj7 a0 a1 a2 l3).bind fun t226 => ((victim_Choose.f kj7 a0 a1 a2 y216).bind fun t229 => ((platelayerref08_Same.f kj7 t226 t229).bind fun t232 => (if t232 = true then (platelayerlaw12_VictimOrder.j1 kj7 a0 l3 t219 ((t219.length : Int) != (l3.length : Int))) else (platelayerlaw12_VictimOrder.j1 kj7 a0 l3 t219 true))))) else (platelayerlaw12_VictimOrder.j1 kj7 a0 l3 t219 true)) = some r := H
                    have A38 := Aside0.mk A380
                    clear A380
                    by_cases c39 : t225 = true
                    · subst c39
                      have H1 : ((victim_Choose.f kj7 a0 a1 a2 l3).bind fun t226 => ((victim_Choose.f kj7 a0 a1 a2 y216).bind fun t229 => ((platelayerref08_Same.f kj7 t226 t229).bind fun t232 => (if t232 = true then (platelayerlaw12_VictimOrder.j1 kj7 a0 l3 t219 ((t219.length : Int) != (l3.length : Int))) else (platelayerlaw12_VictimOrder.j1 kj7 a0 l3 t219 true))))) = some r := by rw [if_pos rfl] at H; exact H
                      clear H
                      have H := H1
                      clear H1
                      replace H := Option.bind_eq_some_iff.mp H
                      obtain ⟨t226, A400, H⟩ := H
                      replace H : ((victim_Choose.f kj7 a0 a1 a2 y216).bind fun t229 => ((platelayerref08_Same.f kj7 t226 t229).bind fun t232 => (if t232 = true then (platelayerlaw12_VictimOrder.j1 kj7 a0 l3 t219 ((t219.length : Int) != (l3.length : Int))) else (platelayerlaw12_VictimOrder.j1 kj7 a0 l3 t219 true)))) = some r := H
                      have A40 := Aside0.mk A400
                      clear A400
                      replace H := Option.bind_eq_some_iff.mp H
                      obtain ⟨t229, A410, H⟩ := H
                      replace H : ((platelayerref08_Same.f kj7 t226 t229).bind fun t232 => (if t232 = true then (platelayerlaw12_VictimOrder.j1 kj7 a0 l3 t219 ((t219.length : Int) != (l3.length : Int))) else (platelayerlaw12_VictimOrder.j1 kj7 a0 l3 t219 true))) = some r := H
                      have A41 := Aside0.mk A410
                      clear A410
                      replace H := Option.bind_eq_some_iff.mp H
                      obtain ⟨t232, A420, H⟩ := H
                      replace H : (if t232 = true then (platelayerlaw12_VictimOrder.j1 kj7 a0 l3 t219 ((t219.length : Int) != (l3.length : Int))) else (platelayerlaw12_VictimOrder.j1 kj7 a0 l3 t219 true)) = some r := H
                      have A42 := Aside0.mk A420
                      clear A420
                      by_cases c43 : t232 = true
                      · subst c43
                        have H1 : (platelayerlaw12_VictimOrder.j1 kj7 a0 l3 t219 ((t219.length : Int) != (l3.length : Int))) = some r := by rw [if_pos rfl] at H; exact H
                        clear H
                        have H := H1
                        clear H1
                        have H' := Aside0.mk H
                        clear H
                        obtain ⟨Ao44, co44, eo44⟩ := Kd.R_slice HO218.out
                        subst eo44
                        go_wp2_with (first | ((with_reducible refine gate_callee (f := 9) rfl ?_); refine goesL_ (some 59) rfl rfl Try.func9 (by kernel_rfl) rfl #[.int .i64 a0, .int .i64 a1, .slice Ao44 y216.length co44] rfl (by (try simp only [List.map_toArray, List.map_cons, List.map_nil]); first | done | rfl | (simp only [List.length_drop, List.length_take]; rfl)) ?_; (with_reducible refine (victim_Order.calls kj7 a0 a1 _ _ y216 t222 _ ?side1 ?side2 A37.out).mono ?_); (case side1 => repeat (first | exact (Kd.R_reads' HO218.out).2.2 | (with_reducible refine Kd.C_alloc ?_ _) | (with_reducible refine Kd.C_drewN ?_ _) | (with_reducible refine Kd.C_drew ?_))); (case side2 => exact (Kd.R_reads' HO218.out).2.1); rintro e w45 ⟨v223, rfl, ho0, hb⟩; refine ⟨_, rfl, ?_⟩; have n0_ := Aside0.mk (Kd.R_below (by (with_reducible repeat (first | apply Kd.R_alloc | apply Kd.R_drewN | apply Kd.R_drew)); exact HO218.out) hb); have n1_ := Aside0.mk (Kd.R_elder' (by (with_reducible repeat (first | apply Kd.R_alloc | apply Kd.R_drewN | apply Kd.R_drew)); exact HO221.out) (Kd.R_base ho0) hb); have n2_ := Aside0.mk (Kd.R_lower (Kd.R_new' ho0 (Kd.R_lt (by (with_reducible repeat (first | apply Kd.R_alloc | apply Kd.R_drewN | apply Kd.R_drew)); exact HO221.out))) (below_size (by repeat (first | (with_reducible first | exact HB.out | apply below_alloc | apply pw_below_drewN | apply below_drew1) | exact HB.out)))); have n3_ := Aside0.mk (below_step (by repeat (first | (with_reducible first | exact HB.out | apply below_alloc | apply pw_below_drewN | apply below_drew1) | exact HB.out)) hb); clear HO218; clear HO221; clear HB; have HO218 := n0_; have HO221 := n1_; have HO224 := n2_; have HB := n3_; clear n0_ n1_ n2_ n3_; (try clear hb); (try clear hb2); (try clear hk); (try clear hi); (try clear ho0); obtain ⟨Ao46, co46, eo46⟩ := Kd.R_slice HO221.out; subst eo46; obtain ⟨Ao47, co47, eo47⟩ := Kd.R_slice HO224.out; subst eo47) | ((with_reducible refine gate_callee (f := 10) rfl ?_); refine goesL_ (some 60) rfl rfl Try.func10 (by kernel_rfl) rfl #[.slice Ao46 t219.length co46, .slice Ao47 t222.length co47] rfl (by (try simp only [List.map_toArray, List.map_cons, List.map_nil]); first | done | rfl | (simp only [List.length_drop, List.length_take]; rfl)) ?_; (with_reducible refine (platelayerref08_Same.calls kj7 _ _ t219 _ _ t222 true _ ?side1 ?side2 ?side3 ?side4 A38.out).mono ?_); (case side1 => repeat (first | exact (Kd.R_reads' HO221.out).2.2 | (with_reducible refine Kd.C_alloc ?_ _) | (with_reducible refine Kd.C_drewN ?_ _) | (with_reducible refine Kd.C_drew ?_))); (case side2 => exact (Kd.R_reads' HO221.out).2.1); (case side3 => repeat (first | exact (Kd.R_reads' HO224.out).2.2 | (with_reducible refine Kd.C_alloc ?_ _) | (with_reducible refine Kd.C_drewN ?_ _) | (with_reducible refine Kd.C_drew ?_))); (case side4 => exact (Kd.R_reads' HO224.out).2.1); rintro e w' ⟨rfl, ⟨nd, rfl⟩⟩; refine ⟨_, rfl, ?_⟩) | (go_at_call 8; (with_reducible refine (victim_Choose.calls kj7 a0 a1 a2 _ _ l3 t226 _ ?side1 ?side2 A40.out).mono ?_); (case side1 => repeat (first | exact (Kd.C_below HR3.out (by repeat (first | (with_reducible first | exact HB.out | apply below_alloc | apply pw_below_drewN | apply below_drew1) | exact HB.out))) | (with_reducible refine Kd.C_alloc ?_ _) | (with_reducible refine Kd.C_drewN ?_ _) | (with_reducible refine Kd.C_drew ?_))); (case side2 => exact HC3.out); rintro e w48 ⟨v227, rfl, ho0, hb⟩; have n0_ := Aside0.mk (Kd.R_below (by (with_reducible repeat (first | apply Kd.R_alloc | apply Kd.R_drewN | apply Kd.R_drew)); exact HO218.out) hb); have n1_ := Aside0.mk (Kd.R_elder' (by (with_reducible repeat (first | apply Kd.R_alloc | apply Kd.R_drewN | apply Kd.R_drew)); exact HO221.out) (Kd.R_base ho0) hb); have n2_ := Aside0.mk (Kd.R_elder' (by (with_reducible repeat (first | apply Kd.R_alloc | apply Kd.R_drewN | apply Kd.R_drew)); exact HO224.out) (Kd.R_base ho0) hb); have n3_ := Aside0.mk (Kd.R_lower (Kd.R_new' (Kd.R_new' ho0 (Kd.R_lt (by (with_reducible repeat (first | apply Kd.R_alloc | apply Kd.R_drewN | apply Kd.R_drew)); exact HO221.out))) (Kd.R_lt (by (with_reducible repeat (first | apply Kd.R_alloc | apply Kd.R_drewN | apply Kd.R_drew)); exact HO224.out))) (below_size (by repeat (first | (with_reducible first | exact HB.out | apply below_alloc | apply pw_below_drewN | apply below_drew1) | exact HB.out)))); have n4_ := Aside0.mk (below_step (by repeat (first | (with_reducible first | exact HB.out | apply below_alloc | apply pw_below_drewN | apply below_drew1) | exact HB.out)) hb); clear HO218; clear HO221; clear HO224; clear HB; have HO218 := n0_; have HO221 := n1_; have HO224 := n2_; have HO228 := n3_; have HB := n4_; clear n0_ n1_ n2_ n3_ n4_; (try clear hb); (try clear hb2); (try clear hk); (try clear hi); (try clear ho0)) | (go_at_call 8; (with_reducible refine (victim_Choose.calls kj7 a0 a1 a2 _ _ y216 t229 _ ?side1 ?side2 A41.out).mono ?_); (case side1 => repeat (first | exact (Kd.R_reads' HO218.out).2.2 | (with_reducible refine Kd.C_alloc ?_ _) | (with_reducible refine Kd.C_drewN ?_ _) | (with_reducible refine Kd.C_drew ?_))); (case side2 => exact (Kd.R_reads' HO218.out).2.1); rintro e w49 ⟨v230, rfl, ho0, hb⟩; have n0_ := Aside0.mk (Kd.R_below (by (with_reducible repeat (first | apply Kd.R_alloc | apply Kd.R_drewN | apply Kd.R_drew)); exact HO218.out) hb); have n1_ := Aside0.mk (Kd.R_elder' (by (with_reducible repeat (first | apply Kd.R_alloc | apply Kd.R_drewN | apply Kd.R_drew)); exact HO221.out) (Kd.R_base ho0) hb); have n2_ := Aside0.mk (Kd.R_elder' (by (with_reducible repeat (first | apply Kd.R_alloc | apply Kd.R_drewN | apply Kd.R_drew)); exact HO224.out) (Kd.R_base ho0) hb); have n3_ := Aside0.mk (Kd.R_elder' (by (with_reducible repeat (first | apply Kd.R_alloc | apply Kd.R_drewN | apply Kd.R_drew)); exact HO228.out) (Kd.R_base ho0) hb); have n4_ := Aside0.mk (Kd.R_lower (Kd.R_new' (Kd.R_new' (Kd.R_new' ho0 (Kd.R_lt (by (with_reducible repeat (first | apply Kd.R_alloc | apply Kd.R_drewN | apply Kd.R_drew)); exact HO221.out))) (Kd.R_lt (by (with_reducible repeat (first | apply Kd.R_alloc | apply Kd.R_drewN | apply Kd.R_drew)); exact HO224.out))) (Kd.R_lt (by (with_reducible repeat (first | apply Kd.R_alloc | apply Kd.R_drewN | apply Kd.R_drew)); exact HO228.out))) (below_size (by repeat (first | (with_reducible first | exact HB.out | apply below_alloc | apply pw_below_drewN | apply below_drew1) | exact HB.out)))); have n5_ := Aside0.mk (below_step (by repeat (first | (with_reducible first | exact HB.out | apply below_alloc | apply pw_below_drewN | apply below_drew1) | exact HB.out)) hb); clear HO218; clear HO221; clear HO224; clear HO228; clear HB; have HO218 := n0_; have HO221 := n1_; have HO224 := n2_; have HO228 := n3_; have HO231 := n4_; have HB := n5_; clear n0_ n1_ n2_ n3_ n4_ n5_; (try clear hb); (try clear hb2); (try clear hk); (try clear hi); (try clear ho0); obtain ⟨Ao50, co50, eo50⟩ := Kd.R_slice HO228.out; subst eo50; obtain ⟨Ao51, co51, eo51⟩ := Kd.R_slice HO231.out; subst eo51) | (go_at_call 10; (with_reducible refine (platelayerref08_Same.calls kj7 _ _ t226 _ _ t229 true _ ?side1 ?side2 ?side3 ?side4 A42.out).mono ?_); (case side1 => repeat (first | exact (Kd.R_reads' HO228.out).2.2 | (with_reducible refine Kd.C_alloc ?_ _) | (with_reducible refine Kd.C_drewN ?_ _) | (with_reducible refine Kd.C_drew ?_))); (case side2 => exact (Kd.R_reads' HO228.out).2.1); (case side3 => repeat (first | exact (Kd.R_reads' HO231.out).2.2 | (with_reducible refine Kd.C_alloc ?_ _) | (with_reducible refine Kd.C_drewN ?_ _) | (with_reducible refine Kd.C_drew ?_))); (case side4 => exact (Kd.R_reads' HO231.out).2.1); rintro e w' ⟨rfl, ⟨nd, rfl⟩⟩))
                        go_meet
                        case rel => exact ⟨_, (((t219.length : Int) != (l3.length : Int))), (by first | rfl | (simp; done) | (simp [*]; done)), H', ⟨by have := HJ7.out; first | omega | exact Nat.le_refl _⟩, ⟨by (with_reducible repeat (first | apply Kd.R_alloc | apply Kd.R_drewN | apply Kd.R_drew)); exact Kd.R_mono HO221.out (fun _ hk => trivial)⟩, ⟨by repeat (first | (with_reducible first | exact HB.out | apply below_alloc | apply pw_below_drewN | apply below_drew1) | exact HB.out)⟩⟩
                      · replace c43 := Bool.eq_false_iff.mpr c43
                        subst c43
                        have H1 : (platelayerlaw12_VictimOrder.j1 kj7 a0 l3 t219 true) = some r := by rw [if_neg (show ¬ (false = true) by decide)] at H; exact H
                        clear H
                        have H := H1
                        clear H1
                        have H' := Aside0.mk H
                        clear H
                        obtain ⟨Ao52, co52, eo52⟩ := Kd.R_slice HO218.out
                        subst eo52
                        go_wp2_with (first | ((with_reducible refine gate_callee (f := 9) rfl ?_); refine goesL_ (some 59) rfl rfl Try.func9 (by kernel_rfl) rfl #[.int .i64 a0, .int .i64 a1, .slice Ao52 y216.length co52] rfl (by (try simp only [List.map_toArray, List.map_cons, List.map_nil]); first | done | rfl | (simp only [List.length_drop, List.length_take]; rfl)) ?_; (with_reducible refine (victim_Order.calls kj7 a0 a1 _ _ y216 t222 _ ?side1 ?side2 A37.out).mono ?_); (case side1 => repeat (first | exact (Kd.R_reads' HO218.out).2.2 | (with_reducible refine Kd.C_alloc ?_ _) | (with_reducible refine Kd.C_drewN ?_ _) | (with_reducible refine Kd.C_drew ?_))); (case side2 => exact (Kd.R_reads' HO218.out).2.1); rintro e w53 ⟨v223, rfl, ho0, hb⟩; refine ⟨_, rfl, ?_⟩; have n0_ := Aside0.mk (Kd.R_below (by (with_reducible repeat (first | apply Kd.R_alloc | apply Kd.R_drewN | apply Kd.R_drew)); exact HO218.out) hb); have n1_ := Aside0.mk (Kd.R_elder' (by (with_reducible repeat (first | apply Kd.R_alloc | apply Kd.R_drewN | apply Kd.R_drew)); exact HO221.out) (Kd.R_base ho0) hb); have n2_ := Aside0.mk (Kd.R_lower (Kd.R_new' ho0 (Kd.R_lt (by (with_reducible repeat (first | apply Kd.R_alloc | apply Kd.R_drewN | apply Kd.R_drew)); exact HO221.out))) (below_size (by repeat (first | (with_reducible first | exact HB.out | apply below_alloc | apply pw_below_drewN | apply below_drew1) | exact HB.out)))); have n3_ := Aside0.mk (below_step (by repeat (first | (with_reducible first | exact HB.out | apply below_alloc | apply pw_below_drewN | apply below_drew1) | exact HB.out)) hb); clear HO218; clear HO221; clear HB; have HO218 := n0_; have HO221 := n1_; have HO224 := n2_; have HB := n3_; clear n0_ n1_ n2_ n3_; (try clear hb); (try clear hb2); (try clear hk); (try clear hi); (try clear ho0); obtain ⟨Ao54, co54, eo54⟩ := Kd.R_slice HO221.out; subst eo54; obtain ⟨Ao55, co55, eo55⟩ := Kd.R_slice HO224.out; subst eo55) | ((with_reducible refine gate_callee (f := 10) rfl ?_); refine goesL_ (some 60) rfl rfl Try.func10 (by kernel_rfl) rfl #[.slice Ao54 t219.length co54, .slice Ao55 t222.length co55] rfl (by (try simp only [List.map_toArray, List.map_cons, List.map_nil]); first | done | rfl | (simp only [List.length_drop, List.length_take]; rfl)) ?_; (with_reducible refine (platelayerref08_Same.calls kj7 _ _ t219 _ _ t222 true _ ?side1 ?side2 ?side3 ?side4 A38.out).mono ?_); (case side1 => repeat (first | exact (Kd.R_reads' HO221.out).2.2 | (with_reducible refine Kd.C_alloc ?_ _) | (with_reducible refine Kd.C_drewN ?_ _) | (with_reducible refine Kd.C_drew ?_))); (case side2 => exact (Kd.R_reads' HO221.out).2.1); (case side3 => repeat (first | exact (Kd.R_reads' HO224.out).2.2 | (with_reducible refine Kd.C_alloc ?_ _) | (with_reducible refine Kd.C_drewN ?_ _) | (with_reducible refine Kd.C_drew ?_))); (case side4 => exact (Kd.R_reads' HO224.out).2.1); rintro e w' ⟨rfl, ⟨nd, rfl⟩⟩; refine ⟨_, rfl, ?_⟩) | (go_at_call 8; (with_reducible refine (victim_Choose.calls kj7 a0 a1 a2 _ _ l3 t226 _ ?side1 ?side2 A40.out).mono ?_); (case side1 => repeat (first | exact (Kd.C_below HR3.out (by repeat (first | (with_reducible first | exact HB.out | apply below_alloc | apply pw_below_drewN | apply below_drew1) | exact HB.out))) | (with_reducible refine Kd.C_alloc ?_ _) | (with_reducible refine Kd.C_drewN ?_ _) | (with_reducible refine Kd.C_drew ?_))); (case side2 => exact HC3.out); rintro e w56 ⟨v227, rfl, ho0, hb⟩; have n0_ := Aside0.mk (Kd.R_below (by (with_reducible repeat (first | apply Kd.R_alloc | apply Kd.R_drewN | apply Kd.R_drew)); exact HO218.out) hb); have n1_ := Aside0.mk (Kd.R_elder' (by (with_reducible repeat (first | apply Kd.R_alloc | apply Kd.R_drewN | apply Kd.R_drew)); exact HO221.out) (Kd.R_base ho0) hb); have n2_ := Aside0.mk (Kd.R_elder' (by (with_reducible repeat (first | apply Kd.R_alloc | apply Kd.R_drewN | apply Kd.R_drew)); exact HO224.out) (Kd.R_base ho0) hb); have n3_ := Aside0.mk (Kd.R_lower (Kd.R_new' (Kd.R_new' ho0 (Kd.R_lt (by (with_reducible repeat (first | apply Kd.R_alloc | apply Kd.R_drewN | apply Kd.R_drew)); exact HO221.out))) (Kd.R_lt (by (with_reducible repeat (first | apply Kd.R_alloc | apply Kd.R_drewN | apply Kd.R_drew)); exact HO224.out))) (below_size (by repeat (first | (with_reducible first | exact HB.out | apply below_alloc | apply pw_below_drewN | apply below_drew1) | exact HB.out)))); have n4_ := Aside0.mk (below_step (by repeat (first | (with_reducible first | exact HB.out | apply below_alloc | apply pw_below_drewN | apply below_drew1) | exact HB.out)) hb); clear HO218; clear HO221; clear HO224; clear HB; have HO218 := n0_; have HO221 := n1_; have HO224 := n2_; have HO228 := n3_; have HB := n4_; clear n0_ n1_ n2_ n3_ n4_; (try clear hb); (try clear hb2); (try clear hk); (try clear hi); (try clear ho0)) | (go_at_call 8; (with_reducible refine (victim_Choose.calls kj7 a0 a1 a2 _ _ y216 t229 _ ?side1 ?side2 A41.out).mono ?_); (case side1 => repeat (first | exact (Kd.R_reads' HO218.out).2.2 | (with_reducible refine Kd.C_alloc ?_ _) | (with_reducible refine Kd.C_drewN ?_ _) | (with_reducible refine Kd.C_drew ?_))); (case side2 => exact (Kd.R_reads' HO218.out).2.1); rintro e w57 ⟨v230, rfl, ho0, hb⟩; have n0_ := Aside0.mk (Kd.R_below (by (with_reducible repeat (first | apply Kd.R_alloc | apply Kd.R_drewN | apply Kd.R_drew)); exact HO218.out) hb); have n1_ := Aside0.mk (Kd.R_elder' (by (with_reducible repeat (first | apply Kd.R_alloc | apply Kd.R_drewN | apply Kd.R_drew)); exact HO221.out) (Kd.R_base ho0) hb); have n2_ := Aside0.mk (Kd.R_elder' (by (with_reducible repeat (first | apply Kd.R_alloc | apply Kd.R_drewN | apply Kd.R_drew)); exact HO224.out) (Kd.R_base ho0) hb); have n3_ := Aside0.mk (Kd.R_elder' (by (with_reducible repeat (first | apply Kd.R_alloc | apply Kd.R_drewN | apply Kd.R_drew)); exact HO228.out) (Kd.R_base ho0) hb); have n4_ := Aside0.mk (Kd.R_lower (Kd.R_new' (Kd.R_new' (Kd.R_new' ho0 (Kd.R_lt (by (with_reducible repeat (first | apply Kd.R_alloc | apply Kd.R_drewN | apply Kd.R_drew)); exact HO221.out))) (Kd.R_lt (by (with_reducible repeat (first | apply Kd.R_alloc | apply Kd.R_drewN | apply Kd.R_drew)); exact HO224.out))) (Kd.R_lt (by (with_reducible repeat (first | apply Kd.R_alloc | apply Kd.R_drewN | apply Kd.R_drew)); exact HO228.out))) (below_size (by repeat (first | (with_reducible first | exact HB.out | apply below_alloc | apply pw_below_drewN | apply below_drew1) | exact HB.out)))); have n5_ := Aside0.mk (below_step (by repeat (first | (with_reducible first | exact HB.out | apply below_alloc | apply pw_below_drewN | apply below_drew1) | exact HB.out)) hb); clear HO218; clear HO221; clear HO224; clear HO228; clear HB; have HO218 := n0_; have HO221 := n1_; have HO224 := n2_; have HO228 := n3_; have HO231 := n4_; have HB := n5_; clear n0_ n1_ n2_ n3_ n4_ n5_; (try clear hb); (try clear hb2); (try clear hk); (try clear hi); (try clear ho0); obtain ⟨Ao58, co58, eo58⟩ := Kd.R_slice HO228.out; subst eo58; obtain ⟨Ao59, co59, eo59⟩ := Kd.R_slice HO231.out; subst eo59) | (go_at_call 10; (with_reducible refine (platelayerref08_Same.calls kj7 _ _ t226 _ _ t229 false _ ?side1 ?side2 ?side3 ?side4 A42.out).mono ?_); (case side1 => repeat (first | exact (Kd.R_reads' HO228.out).2.2 | (with_reducible refine Kd.C_alloc ?_ _) | (with_reducible refine Kd.C_drewN ?_ _) | (with_reducible refine Kd.C_drew ?_))); (case side2 => exact (Kd.R_reads' HO228.out).2.1); (case side3 => repeat (first | exact (Kd.R_reads' HO231.out).2.2 | (with_reducible refine Kd.C_alloc ?_ _) | (with_reducible refine Kd.C_drewN ?_ _) | (with_reducible refine Kd.C_drew ?_))); (case side4 => exact (Kd.R_reads' HO231.out).2.1); rintro e w' ⟨rfl, ⟨nd, rfl⟩⟩))
                        go_meet
                        case rel => exact ⟨_, (true), (by first | rfl | (simp; done) | (simp [*]; done)), H', ⟨by have := HJ7.out; first | omega | exact Nat.le_refl _⟩, ⟨by (with_reducible repeat (first | apply Kd.R_alloc | apply Kd.R_drewN | apply Kd.R_drew)); exact Kd.R_mono HO221.out (fun _ hk => trivial)⟩, ⟨by repeat (first | (with_reducible first | exact HB.out | apply below_alloc | apply pw_below_drewN | apply below_drew1) | exact HB.out)⟩⟩
                    · replace c39 := Bool.eq_false_iff.mpr c39
                      subst c39
                      have H1 : (platelayerlaw12_VictimOrder.j1 kj7 a0 l3 t219 true) = some r := by rw [if_neg (show ¬ (false = true) by decide)] at H; exact H
                      clear H
                      have H := H1
                      clear H1
                      have H' := Aside0.mk H
                      clear H
                      obtain ⟨Ao60, co60, eo60⟩ := Kd.R_slice HO218.out
                      subst eo60
                      go_wp2_with (first | ((with_reducible refine gate_callee (f := 9) rfl ?_); refine goesL_ (some 59) rfl rfl Try.func9 (by kernel_rfl) rfl #[.int .i64 a0, .int .i64 a1, .slice Ao60 y216.length co60] rfl (by (try simp only [List.map_toArray, List.map_cons, List.map_nil]); first | done | rfl | (simp only [List.length_drop, List.length_take]; rfl)) ?_; (with_reducible refine (victim_Order.calls kj7 a0 a1 _ _ y216 t222 _ ?side1 ?side2 A37.out).mono ?_); (case side1 => repeat (first | exact (Kd.R_reads' HO218.out).2.2 | (with_reducible refine Kd.C_alloc ?_ _) | (with_reducible refine Kd.C_drewN ?_ _) | (with_reducible refine Kd.C_drew ?_))); (case side2 => exact (Kd.R_reads' HO218.out).2.1); rintro e w61 ⟨v223, rfl, ho0, hb⟩; refine ⟨_, rfl, ?_⟩; have n0_ := Aside0.mk (Kd.R_below (by (with_reducible repeat (first | apply Kd.R_alloc | apply Kd.R_drewN | apply Kd.R_drew)); exact HO218.out) hb); have n1_ := Aside0.mk (Kd.R_elder' (by (with_reducible repeat (first | apply Kd.R_alloc | apply Kd.R_drewN | apply Kd.R_drew)); exact HO221.out) (Kd.R_base ho0) hb); have n2_ := Aside0.mk (Kd.R_lower (Kd.R_new' ho0 (Kd.R_lt (by (with_reducible repeat (first | apply Kd.R_alloc | apply Kd.R_drewN | apply Kd.R_drew)); exact HO221.out))) (below_size (by repeat (first | (with_reducible first | exact HB.out | apply below_alloc | apply pw_below_drewN | apply below_drew1) | exact HB.out)))); have n3_ := Aside0.mk (below_step (by repeat (first | (with_reducible first | exact HB.out | apply below_alloc | apply pw_below_drewN | apply below_drew1) | exact HB.out)) hb); clear HO218; clear HO221; clear HB; have HO218 := n0_; have HO221 := n1_; have HO224 := n2_; have HB := n3_; clear n0_ n1_ n2_ n3_; (try clear hb); (try clear hb2); (try clear hk); (try clear hi); (try clear ho0); obtain ⟨Ao62, co62, eo62⟩ := Kd.R_slice HO221.out; subst eo62; obtain ⟨Ao63, co63, eo63⟩ := Kd.R_slice HO224.out; subst eo63) | ((with_reducible refine gate_callee (f := 10) rfl ?_); refine goesL_ (some 60) rfl rfl Try.func10 (by kernel_rfl) rfl #[.slice Ao62 t219.length co62, .slice Ao63 t222.length co63] rfl (by (try simp only [List.map_toArray, List.map_cons, List.map_nil]); first | done | rfl | (simp only [List.length_drop, List.length_take]; rfl)) ?_; (with_reducible refine (platelayerref08_Same.calls kj7 _ _ t219 _ _ t222 false _ ?side1 ?side2 ?side3 ?side4 A38.out).mono ?_); (case side1 => repeat (first | exact (Kd.R_reads' HO221.out).2.2 | (with_reducible refine Kd.C_alloc ?_ _) | (with_reducible refine Kd.C_drewN ?_ _) | (with_reducible refine Kd.C_drew ?_))); (case side2 => exact (Kd.R_reads' HO221.out).2.1); (case side3 => repeat (first | exact (Kd.R_reads' HO224.out).2.2 | (with_reducible refine Kd.C_alloc ?_ _) | (with_reducible refine Kd.C_drewN ?_ _) | (with_reducible refine Kd.C_drew ?_))); (case side4 => exact (Kd.R_reads' HO224.out).2.1); rintro e w' ⟨rfl, ⟨nd, rfl⟩⟩; refine ⟨_, rfl, ?_⟩))
                      go_meet
                      case rel => exact ⟨_, (true), (by first | rfl | (simp; done) | (simp [*]; done)), H', ⟨by have := HJ7.out; first | omega | exact Nat.le_refl _⟩, ⟨by (with_reducible repeat (first | apply Kd.R_alloc | apply Kd.R_drewN | apply Kd.R_drew)); exact Kd.R_mono HO221.out (fun _ hk => trivial)⟩, ⟨by repeat (first | (with_reducible first | exact HB.out | apply below_alloc | apply pw_below_drewN | apply below_drew1) | exact HB.out)⟩⟩
                  case rest =>
                    clear HC28
                    try clear c1
                    try clear c2
                    try clear p2
                    try clear c3
                    try clear q3
                    try clear c4
                    try clear c6
                    try clear c7
                    try clear c9
                    try clear c10
                    try clear c11
                    try clear c13
                    try clear c13b0
                    try clear c15
                    try clear c15b0
                    try clear c17
                    try clear c17b0
                    try clear c20
                    try clear c21
                    try clear c21b0
                    try clear c21b1
                    try clear c22
                    try clear c22b0
                    try clear c22b1
                    try clear c23
                    try clear c24
                    try clear c24b0
                    try clear c25
                    try clear c25b0
                    try clear c26
                    try clear c30
                    try clear q30
                    try clear q31
                    try clear c39
                    try clear c43
                    try clear p2
                    try clear q030
                    try clear q30
                    try clear q31
                    obtain ⟨kq, x82_27, rfl, HA, HJ27, HO_12, HB⟩ := hcut
                    cases kq with
                    | zero => exact absurd HA.out (by simp [platelayerlaw12_VictimOrder.j1])
                    | succ kj27 =>
                      have H := HA.out
                      clear HA
                      simp only [platelayerlaw12_VictimOrder.j1] at H
                      by_cases c64 : x82_27 = true
                      · subst c64
                        have H1 : (some false) = some r := by rw [if_pos rfl] at H; exact H
                        clear H
                        have H := H1
                        clear H1
                        obtain rfl := Option.some.inj H
                        go_wp2
                        go_ret
                        exact ⟨by first | rfl | (simp [errW_none, errW_some] <;> rfl) | (simp [*, errW_none, errW_some] <;> rfl), by repeat (first | (with_reducible first | exact HB.out | apply below_alloc | apply pw_below_drewN | apply below_drew1) | exact HB.out)⟩
                      · replace c64 := Bool.eq_false_iff.mpr c64
                        subst c64
                        have H1 : (platelayerlaw12_VictimOrder.l0 kj27 a0 l3 0 t219 (t219.length : Int) 0) = some r := by rw [if_neg (show ¬ (false = true) by decide)] at H; exact H
                        clear H
                        have H := H1
                        clear H1
                        have H' := Aside0.mk H
                        clear H
                        obtain ⟨Ao65, co65, eo65⟩ := Kd.R_slice HO_12.out
                        subst eo65
                        go_wp2
                        go_loopg [13, 85] kj27 (fun kq v13 v85 w' => ∃ (x13_3 : Int) (x85_3 : Int), v13 = .int .i64 x13_3 ∧ v85 = .int .i64 x85_3 ∧ Aside0 (platelayerlaw12_VictimOrder.l0 kq a0 l3 x13_3 t219 (t219.length : Int) x85_3 = some r) ∧ Aside0 (kq ≤ kj27) ∧ Aside0 (Kd.R (Kd.int .i64) 3 w' w.heap.size (fun _ => True) (.slice Ao65 t219.length co65) t219) ∧ Aside0 (Below w.heap.size w w'))
                        case atStart => exact ⟨(0), (0), (by first | rfl | (simp; done) | (simp [*]; done)), (by first | rfl | (simp; done) | (simp [*]; done)), H', ⟨Nat.le_refl _⟩, ⟨by (with_reducible repeat (first | apply Kd.R_alloc | apply Kd.R_drewN | apply Kd.R_drew)); exact HO_12.out⟩, ⟨by repeat (first | (with_reducible first | exact HB.out | apply below_alloc | apply pw_below_drewN | apply below_drew1) | exact HB.out)⟩⟩
                        case round =>
                          clear H'
                          try clear c1
                          try clear c2
                          try clear p2
                          try clear c3
                          try clear q3
                          try clear c4
                          try clear c6
                          try clear c7
                          try clear c9
                          try clear c10
                          try clear c11
                          try clear c13
                          try clear c13b0
                          try clear c15
                          try clear c15b0
                          try clear c17
                          try clear c17b0
                          try clear c20
                          try clear c21
                          try clear c21b0
                          try clear c21b1
                          try clear c22
                          try clear c22b0
                          try clear c22b1
                          try clear c23
                          try clear c24
                          try clear c24b0
                          try clear c25
                          try clear c25b0
                          try clear c26
                          try clear c30
                          try clear q30
                          try clear q31
                          try clear c39
                          try clear c43
                          try clear c64
                          try clear p2
                          try clear q030
                          try clear q3
                          try clear q30
                          try clear q31
                          obtain ⟨x13_3, x85_3, rfl, rfl, HA, HK3, HO_83, HB⟩ := hrel
                          cases gk with
                          | zero => exact absurd HA.out (by simp [platelayerlaw12_VictimOrder.l0])
                          | succ k3 =>
                            have H := HA.out
                            clear HA
                            simp only [platelayerlaw12_VictimOrder.l0] at H
                            by_cases c66 : x85_3 < (t219.length : Int)
                            · rw [if_pos c66] at H
                              have c66b0 : decide (x85_3 < (t219.length : Int)) = true := decide_eq_true c66
                              clear c66
                              by_cases c67 : 0 ≤ x85_3
                              · rw [if_pos c67] at H
                                have c67b0 : decide (0 ≤ x85_3) = true := decide_eq_true c67
                                clear c67
                                by_cases c68 : x85_3 < (t219.length : Int)
                                · rw [if_pos c68] at H
                                  have c68b0 : decide (x85_3 < (t219.length : Int)) = true := decide_eq_true c68
                                  clear c68
                                  have H' := Aside0.mk H
                                  clear H
                                  have p233 : 0 ≤ (x85_3 : Int) := of_decide_eq_true (by first | (with_reducible assumption) | assumption)
                                  have q233 : x85_3 < (t219.length : Int) := of_decide_eq_true (by first | (with_reducible assumption) | assumption)
                                  obtain ⟨ad233, e233, hx233_0⟩ := Kd.at_int (Kd.R_reads' HO_83.out).2.2 x85_3 p233 q233
                                  cases e233
                                  replace p233 := eq_true p233
                                  replace q233 := eq_true q233
                                  go_wp2
                                  go_loopg [13, 16, 91] k3 (fun kq v13 v16 v91 w' => ∃ (x13_4 : Int) (x16_4 : Int) (x91_4 : Int), v13 = .int .i64 x13_4 ∧ v16 = .int .i64 x16_4 ∧ v91 = .int .i64 x91_4 ∧ Aside0 (platelayerlaw12_VictimOrder.l1 kq a0 l3 x13_4 (rd t219 x85_3) x16_4 t219 (t219.length : Int) x85_3 l3 (l3.length : Int) x91_4 = some r) ∧ Aside0 (kq ≤ k3) ∧ Aside0 (Kd.R (Kd.int .i64) 3 w' w.heap.size (fun _ => True) (.slice (some ad233) t219.length co65) t219) ∧ Aside0 (Below w.heap.size w w'))
                                  case atStart => exact ⟨(x13_3), (0), (0), (by first | rfl | (simp; done) | (simp [*]; done)), (by first | rfl | (simp; done) | (simp [*]; done)), (by first | rfl | (simp; done) | (simp [*]; done)), H', ⟨Nat.le_refl _⟩, ⟨by (with_reducible repeat (first | apply Kd.R_alloc | apply Kd.R_drewN | apply Kd.R_drew)); exact HO_83.out⟩, ⟨by repeat (first | (with_reducible first | exact HB.out | apply below_alloc | apply pw_below_drewN | apply below_drew1) | exact HB.out)⟩⟩
                                  case round =>
                                    clear H'
                                    try clear c1
                                    try clear c2
                                    try clear p2
                                    try clear q2
                                    try clear hx2
                                    try clear c3
                                    try clear q3
                                    try clear c4
                                    try clear c6
                                    try clear c7
                                    try clear c9
                                    try clear c10
                                    try clear c11
                                    try clear c13
                                    try clear c13b0
                                    try clear c15
                                    try clear c15b0
                                    try clear c17
                                    try clear c17b0
                                    try clear c20
                                    try clear c21
                                    try clear c21b0
                                    try clear c21b1
                                    try clear c22
                                    try clear c22b0
                                    try clear c22b1
                                    try clear c23
                                    try clear p23
                                    try clear q23
                                    try clear hx23
                                    try clear c24
                                    try clear c24b0
                                    try clear c25
                                    try clear c25b0
                                    try clear c26
                                    try clear c30
                                    try clear q30
                                    try clear q31
                                    try clear c39
                                    try clear c43
                                    try clear c64
                                    try clear c66
                                    try clear c66b0
                                    try clear c67
                                    try clear c67b0
                                    try clear c68
                                    try clear c68b0
                                    try clear hx233_0
                                    try clear p2
                                    try clear p233
                                    try clear q030
                                    try clear q233
                                    try clear q3
                                    try clear q30
                                    try clear q31
                                    obtain ⟨x13_4, x16_4, x91_4, rfl, rfl, rfl, HA, HK4, HO_83, HB⟩ := hrel
                                    cases gk with
                                    | zero => exact absurd HA.out (by simp [platelayerlaw12_VictimOrder.l1])
                                    | succ k4 =>
                                      have H := HA.out
                                      clear HA
                                      simp only [platelayerlaw12_VictimOrder.l1] at H
                                      by_cases c69 : x91_4 < (l3.length : Int)
                                      · rw [if_pos c69] at H
                                        have c69b0 : decide (x91_4 < (l3.length : Int)) = true := decide_eq_true c69
                                        clear c69
                                        by_cases c70 : 0 ≤ x91_4
                                        · rw [if_pos c70] at H
                                          have c70b0 : decide (0 ≤ x91_4) = true := decide_eq_true c70
                                          clear c70
                                          by_cases c71 : x91_4 < (l3.length : Int)
                                          · rw [if_pos c71] at H
                                            have c71b0 : decide (x91_4 < (l3.length : Int)) = true := decide_eq_true c71
                                            clear c71
                                            by_cases c72 : ((rd_T29 l3 x91_4).f0) = (rd t219 x85_3)
                                            · rw [if_pos c72] at H
                                              have c72b0 : (((rd_T29 l3 x91_4).f0) == (rd t219 x85_3)) = true := beq_iff_eq.mpr c72
                                              have c72b1 : (((rd_T29 l3 x91_4).f0) != (rd t219 x85_3)) = false := bne_eq_false_iff_eq.mpr c72
                                              clear c72
                                              by_cases c73 : a0 = 0
                                              · rw [if_pos c73] at H
                                                have c73b0 : (a0 == 0) = true := beq_iff_eq.mpr c73
                                                have c73b1 : (a0 != 0) = false := bne_eq_false_iff_eq.mpr c73
                                                clear c73
                                                by_cases c74 : ((rd_T29 l3 x91_4).f1) < x13_4
                                                · rw [if_pos c74] at H
                                                  have c74b0 : decide (((rd_T29 l3 x91_4).f1) < x13_4) = true := decide_eq_true c74
                                                  clear c74
                                                  obtain rfl := Option.some.inj H
                                                  have p234 : 0 ≤ (x91_4 : Int) := of_decide_eq_true (by first | (with_reducible assumption) | assumption)
                                                  have q234 : x91_4 < (l3.length : Int) := of_decide_eq_true (by first | (with_reducible assumption) | assumption)
                                                  obtain ⟨ad234, e234, hx234_0, hx234_1, hx234_2⟩ := at_T29 HR3.out x91_4 p234 q234
                                                  cases e234
                                                  replace hx234_0 := (HB.out.cell (World.block_lt_of_cell? w _ hx234_0)).trans hx234_0
                                                  replace hx234_1 := (HB.out.cell (World.block_lt_of_cell? w _ hx234_1)).trans hx234_1
                                                  replace hx234_2 := (HB.out.cell (World.block_lt_of_cell? w _ hx234_2)).trans hx234_2
                                                  replace p234 := eq_true p234
                                                  replace q234 := eq_true q234
                                                  go_wp2_with (first | ((with_reducible refine gate_dst (N := 18) rfl ?_); (try (refine gate_guard (by rfl) ?_; dsimp only)); refine box_event ?hg (N := 18) ?hd (cs := #[.int .i64 0, .int .i64 0, .int .u32 0]) (t := 29) ?hr ?_; (case hd => rfl); (case hg => rfl); (case hr => first | (go_simp; done) | (go_simp; rfl)); intro gb235 hg w75 hbox hb; have n0_ := Aside0.mk (Kd.R_below (by (with_reducible repeat (first | apply Kd.R_alloc | apply Kd.R_drewN | apply Kd.R_drew)); exact HO_83.out) hb); have n1_ := Aside0.mk (below_step (by repeat (first | (with_reducible first | exact HB.out | apply below_alloc | apply pw_below_drewN | apply below_drew1) | exact HB.out)) hb); have n2_ := Aside0.mk (hbox); have n3_ := Aside0.mk ((by rw [hg]; exact (below_size (by repeat (first | (with_reducible first | exact HB.out | apply below_alloc | apply pw_below_drewN | apply below_drew1) | exact HB.out))) : w.heap.size ≤ gb235)); have n4_ := Aside0.mk ((by rw [hg]; exact (below_size (by repeat (first | (with_reducible first | exact HB.out | apply below_alloc | apply pw_below_drewN | apply below_drew1) | exact HB.out))) : w.heap.size ≤ gb235)); clear HO_83; clear HB; have HO_83 := n0_; have HB := n1_; have BK235 := n2_; have GW235 := n3_; have GE235 := n4_; clear n0_ n1_ n2_ n3_ n4_; clear hb hbox hg; have hcz76_0 : w75.cell? ⟨gb235, 0, none⟩ = some (.int .i64 0) := (blk_cell BK235.out 0).trans rfl; have hcz76_1 : w75.cell? ⟨gb235, 1, none⟩ = some (.int .i64 0) := (blk_cell BK235.out 1).trans rfl; have hcz76_2 : w75.cell? ⟨gb235, 2, none⟩ = some (.int .u32 0) := (blk_cell BK235.out 2).trans rfl; have hfz76_0 := blk_frozen BK235.out 0; have hfz76_1 := blk_frozen BK235.out 1; have hfz76_2 := blk_frozen BK235.out 2))
                                                  go_ret
                                                  exact ⟨by first | rfl | (simp [errW_none, errW_some] <;> rfl) | (simp [*, errW_none, errW_some] <;> rfl), by repeat (first | (with_reducible first | exact HB.out | apply below_alloc | apply pw_below_drewN | apply below_drew1 | refine below_set ?_ GE235.out) | exact HB.out)⟩
                                                · rw [if_neg c74] at H
                                                  have c74b0 : decide (((rd_T29 l3 x91_4).f1) < x13_4) = false := decide_eq_false c74
                                                  clear c74
                                                  have H' := Aside0.mk H
                                                  clear H
                                                  have p234 : 0 ≤ (x91_4 : Int) := of_decide_eq_true (by first | (with_reducible assumption) | assumption)
                                                  have q234 : x91_4 < (l3.length : Int) := of_decide_eq_true (by first | (with_reducible assumption) | assumption)
                                                  obtain ⟨ad234, e234, hx234_0, hx234_1, hx234_2⟩ := at_T29 HR3.out x91_4 p234 q234
                                                  cases e234
                                                  replace hx234_0 := (HB.out.cell (World.block_lt_of_cell? w _ hx234_0)).trans hx234_0
                                                  replace hx234_1 := (HB.out.cell (World.block_lt_of_cell? w _ hx234_1)).trans hx234_1
                                                  replace hx234_2 := (HB.out.cell (World.block_lt_of_cell? w _ hx234_2)).trans hx234_2
                                                  replace p234 := eq_true p234
                                                  replace q234 := eq_true q234
                                                  go_wp2_with (first | ((with_reducible refine gate_dst (N := 18) rfl ?_); (try (refine gate_guard (by rfl) ?_; dsimp only)); refine box_event ?hg (N := 18) ?hd (cs := #[.int .i64 0, .int .i64 0, .int .u32 0]) (t := 29) ?hr ?_; (case hd => rfl); (case hg => rfl); (case hr => first | (go_simp; done) | (go_simp; rfl)); intro gb235 hg w77 hbox hb; have n0_ := Aside0.mk (Kd.R_below (by (with_reducible repeat (first | apply Kd.R_alloc | apply Kd.R_drewN | apply Kd.R_drew)); exact HO_83.out) hb); have n1_ := Aside0.mk (below_step (by repeat (first | (with_reducible first | exact HB.out | apply below_alloc | apply pw_below_drewN | apply below_drew1) | exact HB.out)) hb); have n2_ := Aside0.mk (hbox); have n3_ := Aside0.mk ((by rw [hg]; exact (below_size (by repeat (first | (with_reducible first | exact HB.out | apply below_alloc | apply pw_below_drewN | apply below_drew1) | exact HB.out))) : w.heap.size ≤ gb235)); have n4_ := Aside0.mk ((by rw [hg]; exact (below_size (by repeat (first | (with_reducible first | exact HB.out | apply below_alloc | apply pw_below_drewN | apply below_drew1) | exact HB.out))) : w.heap.size ≤ gb235)); clear HO_83; clear HB; have HO_83 := n0_; have HB := n1_; have BK235 := n2_; have GW235 := n3_; have GE235 := n4_; clear n0_ n1_ n2_ n3_ n4_; clear hb hbox hg; have hcz78_0 : w77.cell? ⟨gb235, 0, none⟩ = some (.int .i64 0) := (blk_cell BK235.out 0).trans rfl; have hcz78_1 : w77.cell? ⟨gb235, 1, none⟩ = some (.int .i64 0) := (blk_cell BK235.out 1).trans rfl; have hcz78_2 : w77.cell? ⟨gb235, 2, none⟩ = some (.int .u32 0) := (blk_cell BK235.out 2).trans rfl; have hfz78_0 := blk_frozen BK235.out 0; have hfz78_1 := blk_frozen BK235.out 1; have hfz78_2 := blk_frozen BK235.out 2))
                                                  go_roundg k4
                                                  case measure => have := HJ7.out; have := HJ27.out; have := HK3.out; have := HK4.out; omega
                                                  case rel => exact ⟨((rd_T29 l3 x91_4).f1), (wrap64 (x16_4 + 1)), (wrap64 (x91_4 + 1)), (by first | rfl | (simp; done) | (simp [*]; done)), (by first | rfl | (simp; done) | (simp [*]; done)), (by first | rfl | (simp; done) | (simp [*]; done)), H', ⟨by have := HJ7.out; have := HJ27.out; have := HK3.out; have := HK4.out; omega⟩, ⟨by (with_reducible repeat (first | apply Kd.R_alloc | apply Kd.R_drewN | apply Kd.R_drew)); exact Kd.R_mono (Kd.R_far (p := ⟨gb235, 2, none⟩) (Kd.R_far (p := ⟨gb235, 1, none⟩) (Kd.R_far (p := ⟨gb235, 0, none⟩) (Kd.R_types HO_83.out BK235.out (by decide)) (fun _ hk => hk.2) (.int .i64 ((rd_T29 l3 x91_4).f0))) (fun _ hk => hk.2) (.int .i64 ((rd_T29 l3 x91_4).f1))) (fun _ hk => hk.2) (.int .u32 ((rd_T29 l3 x91_4).f2))) (fun _ hk => trivial)⟩, ⟨by repeat (first | (with_reducible first | exact HB.out | apply below_alloc | apply pw_below_drewN | apply below_drew1 | refine below_set ?_ GE235.out) | exact HB.out)⟩⟩
                                              · rw [if_neg c73] at H
                                                have c73b0 : (a0 == 0) = false := beq_eq_false_iff_ne.mpr c73
                                                have c73b1 : (a0 != 0) = true := bne_iff_ne.mpr c73
                                                have H' := Aside0.mk H
                                                clear H
                                                have p234 : 0 ≤ (x91_4 : Int) := of_decide_eq_true (by first | (with_reducible assumption) | assumption)
                                                have q234 : x91_4 < (l3.length : Int) := of_decide_eq_true (by first | (with_reducible assumption) | assumption)
                                                obtain ⟨ad234, e234, hx234_0, hx234_1, hx234_2⟩ := at_T29 HR3.out x91_4 p234 q234
                                                cases e234
                                                replace hx234_0 := (HB.out.cell (World.block_lt_of_cell? w _ hx234_0)).trans hx234_0
                                                replace hx234_1 := (HB.out.cell (World.block_lt_of_cell? w _ hx234_1)).trans hx234_1
                                                replace hx234_2 := (HB.out.cell (World.block_lt_of_cell? w _ hx234_2)).trans hx234_2
                                                replace p234 := eq_true p234
                                                replace q234 := eq_true q234
                                                go_wp2_with (first | ((with_reducible refine gate_dst (N := 18) rfl ?_); (try (refine gate_guard (by rfl) ?_; dsimp only)); refine box_event ?hg (N := 18) ?hd (cs := #[.int .i64 0, .int .i64 0, .int .u32 0]) (t := 29) ?hr ?_; (case hd => rfl); (case hg => rfl); (case hr => first | (go_simp; done) | (go_simp; rfl)); intro gb235 hg w79 hbox hb; have n0_ := Aside0.mk (Kd.R_below (by (with_reducible repeat (first | apply Kd.R_alloc | apply Kd.R_drewN | apply Kd.R_drew)); exact HO_83.out) hb); have n1_ := Aside0.mk (below_step (by repeat (first | (with_reducible first | exact HB.out | apply below_alloc | apply pw_below_drewN | apply below_drew1) | exact HB.out)) hb); have n2_ := Aside0.mk (hbox); have n3_ := Aside0.mk ((by rw [hg]; exact (below_size (by repeat (first | (with_reducible first | exact HB.out | apply below_alloc | apply pw_below_drewN | apply below_drew1) | exact HB.out))) : w.heap.size ≤ gb235)); have n4_ := Aside0.mk ((by rw [hg]; exact (below_size (by repeat (first | (with_reducible first | exact HB.out | apply below_alloc | apply pw_below_drewN | apply below_drew1) | exact HB.out))) : w.heap.size ≤ gb235)); clear HO_83; clear HB; have HO_83 := n0_; have HB := n1_; have BK235 := n2_; have GW235 := n3_; have GE235 := n4_; clear n0_ n1_ n2_ n3_ n4_; clear hb hbox hg; have hcz80_0 : w79.cell? ⟨gb235, 0, none⟩ = some (.int .i64 0) := (blk_cell BK235.out 0).trans rfl; have hcz80_1 : w79.cell? ⟨gb235, 1, none⟩ = some (.int .i64 0) := (blk_cell BK235.out 1).trans rfl; have hcz80_2 : w79.cell? ⟨gb235, 2, none⟩ = some (.int .u32 0) := (blk_cell BK235.out 2).trans rfl; have hfz80_0 := blk_frozen BK235.out 0; have hfz80_1 := blk_frozen BK235.out 1; have hfz80_2 := blk_frozen BK235.out 2))
                                                go_roundg k4
                                                case measure => have := HJ7.out; have := HJ27.out; have := HK3.out; have := HK4.out; omega
                                                case rel => exact ⟨((rd_T29 l3 x91_4).f1), (wrap64 (x16_4 + 1)), (wrap64 (x91_4 + 1)), (by first | rfl | (simp; done) | (simp [*]; done)), (by first | rfl | (simp; done) | (simp [*]; done)), (by first | rfl | (simp; done) | (simp [*]; done)), H', ⟨by have := HJ7.out; have := HJ27.out; have := HK3.out; have := HK4.out; omega⟩, ⟨by (with_reducible repeat (first | apply Kd.R_alloc | apply Kd.R_drewN | apply Kd.R_drew)); exact Kd.R_mono (Kd.R_far (p := ⟨gb235, 2, none⟩) (Kd.R_far (p := ⟨gb235, 1, none⟩) (Kd.R_far (p := ⟨gb235, 0, none⟩) (Kd.R_types HO_83.out BK235.out (by decide)) (fun _ hk => hk.2) (.int .i64 ((rd_T29 l3 x91_4).f0))) (fun _ hk => hk.2) (.int .i64 ((rd_T29 l3 x91_4).f1))) (fun _ hk => hk.2) (.int .u32 ((rd_T29 l3 x91_4).f2))) (fun _ hk => trivial)⟩, ⟨by repeat (first | (with_reducible first | exact HB.out | apply below_alloc | apply pw_below_drewN | apply below_drew1 | refine below_set ?_ GE235.out) | exact HB.out)⟩⟩
                                            · rw [if_neg c72] at H
                                              have c72b0 : (((rd_T29 l3 x91_4).f0) == (rd t219 x85_3)) = false := beq_eq_false_iff_ne.mpr c72
                                              have c72b1 : (((rd_T29 l3 x91_4).f0) != (rd t219 x85_3)) = true := bne_iff_ne.mpr c72
                                              have H' := Aside0.mk H
                                              clear H
                                              have p234 : 0 ≤ (x91_4 : Int) := of_decide_eq_true (by first | (with_reducible assumption) | assumption)
                                              have q234 : x91_4 < (l3.length : Int) := of_decide_eq_true (by first | (with_reducible assumption) | assumption)
                                              obtain ⟨ad234, e234, hx234_0, hx234_1, hx234_2⟩ := at_T29 HR3.out x91_4 p234 q234
                                              cases e234
                                              replace hx234_0 := (HB.out.cell (World.block_lt_of_cell? w _ hx234_0)).trans hx234_0
                                              replace hx234_1 := (HB.out.cell (World.block_lt_of_cell? w _ hx234_1)).trans hx234_1
                                              replace hx234_2 := (HB.out.cell (World.block_lt_of_cell? w _ hx234_2)).trans hx234_2
                                              replace p234 := eq_true p234
                                              replace q234 := eq_true q234
                                              go_wp2_with (first | ((with_reducible refine gate_dst (N := 18) rfl ?_); (try (refine gate_guard (by rfl) ?_; dsimp only)); refine box_event ?hg (N := 18) ?hd (cs := #[.int .i64 0, .int .i64 0, .int .u32 0]) (t := 29) ?hr ?_; (case hd => rfl); (case hg => rfl); (case hr => first | (go_simp; done) | (go_simp; rfl)); intro gb235 hg w81 hbox hb; have n0_ := Aside0.mk (Kd.R_below (by (with_reducible repeat (first | apply Kd.R_alloc | apply Kd.R_drewN | apply Kd.R_drew)); exact HO_83.out) hb); have n1_ := Aside0.mk (below_step (by repeat (first | (with_reducible first | exact HB.out | apply below_alloc | apply pw_below_drewN | apply below_drew1) | exact HB.out)) hb); have n2_ := Aside0.mk (hbox); have n3_ := Aside0.mk ((by rw [hg]; exact (below_size (by repeat (first | (with_reducible first | exact HB.out | apply below_alloc | apply pw_below_drewN | apply below_drew1) | exact HB.out))) : w.heap.size ≤ gb235)); have n4_ := Aside0.mk ((by rw [hg]; exact (below_size (by repeat (first | (with_reducible first | exact HB.out | apply below_alloc | apply pw_below_drewN | apply below_drew1) | exact HB.out))) : w.heap.size ≤ gb235)); clear HO_83; clear HB; have HO_83 := n0_; have HB := n1_; have BK235 := n2_; have GW235 := n3_; have GE235 := n4_; clear n0_ n1_ n2_ n3_ n4_; clear hb hbox hg; have hcz82_0 : w81.cell? ⟨gb235, 0, none⟩ = some (.int .i64 0) := (blk_cell BK235.out 0).trans rfl; have hcz82_1 : w81.cell? ⟨gb235, 1, none⟩ = some (.int .i64 0) := (blk_cell BK235.out 1).trans rfl; have hcz82_2 : w81.cell? ⟨gb235, 2, none⟩ = some (.int .u32 0) := (blk_cell BK235.out 2).trans rfl; have hfz82_0 := blk_frozen BK235.out 0; have hfz82_1 := blk_frozen BK235.out 1; have hfz82_2 := blk_frozen BK235.out 2))
                                              go_roundg k4
                                              case measure => have := HJ7.out; have := HJ27.out; have := HK3.out; have := HK4.out; omega
                                              case rel => exact ⟨(x13_4), (x16_4), (wrap64 (x91_4 + 1)), (by first | rfl | (simp; done) | (simp [*]; done)), (by first | rfl | (simp; done) | (simp [*]; done)), (by first | rfl | (simp; done) | (simp [*]; done)), H', ⟨by have := HJ7.out; have := HJ27.out; have := HK3.out; have := HK4.out; omega⟩, ⟨by (with_reducible repeat (first | apply Kd.R_alloc | apply Kd.R_drewN | apply Kd.R_drew)); exact Kd.R_mono (Kd.R_far (p := ⟨gb235, 2, none⟩) (Kd.R_far (p := ⟨gb235, 1, none⟩) (Kd.R_far (p := ⟨gb235, 0, none⟩) (Kd.R_types HO_83.out BK235.out (by decide)) (fun _ hk => hk.2) (.int .i64 ((rd_T29 l3 x91_4).f0))) (fun _ hk => hk.2) (.int .i64 ((rd_T29 l3 x91_4).f1))) (fun _ hk => hk.2) (.int .u32 ((rd_T29 l3 x91_4).f2))) (fun _ hk => trivial)⟩, ⟨by repeat (first | (with_reducible first | exact HB.out | apply below_alloc | apply pw_below_drewN | apply below_drew1 | refine below_set ?_ GE235.out) | exact HB.out)⟩⟩
                                          · rw [if_neg c71] at H
                                            exact absurd H (by simp)
                                        · rw [if_neg c70] at H
                                          exact absurd H (by simp)
                                      · rw [if_neg c69] at H
                                        have c69b0 : decide (x91_4 < (l3.length : Int)) = false := decide_eq_false c69
                                        clear c69
                                        by_cases c83 : x16_4 = 1
                                        · rw [if_pos c83] at H
                                          have c83b0 : (x16_4 == 1) = true := beq_iff_eq.mpr c83
                                          have c83b1 : (x16_4 != 1) = false := bne_eq_false_iff_eq.mpr c83
                                          clear c83
                                          have H' := Aside0.mk H
                                          clear H
                                          go_wp2
                                          go_roundg k4
                                          case measure => have := HJ7.out; have := HJ27.out; have := HK3.out; have := HK4.out; omega
                                          case rel => exact ⟨(x13_4), (wrap64 (x85_3 + 1)), (by first | rfl | (simp; done) | (simp [*]; done)), (by first | rfl | (simp; done) | (simp [*]; done)), H', ⟨by have := HJ7.out; have := HJ27.out; have := HK3.out; have := HK4.out; omega⟩, ⟨by (with_reducible repeat (first | apply Kd.R_alloc | apply Kd.R_drewN | apply Kd.R_drew)); exact HO_83.out⟩, ⟨by repeat (first | (with_reducible first | exact HB.out | apply below_alloc | apply pw_below_drewN | apply below_drew1) | exact HB.out)⟩⟩
                                        · rw [if_neg c83] at H
                                          have c83b0 : (x16_4 == 1) = false := beq_eq_false_iff_ne.mpr c83
                                          have c83b1 : (x16_4 != 1) = true := bne_iff_ne.mpr c83
                                          obtain rfl := Option.some.inj H
                                          go_wp2
                                          go_ret
                                          exact ⟨by first | rfl | (simp [errW_none, errW_some] <;> rfl) | (simp [*, errW_none, errW_some] <;> rfl), by repeat (first | (with_reducible first | exact HB.out | apply below_alloc | apply pw_below_drewN | apply below_drew1) | exact HB.out)⟩
                                · rw [if_neg c68] at H
                                  exact absurd H (by simp)
                              · rw [if_neg c67] at H
                                exact absurd H (by simp)
                            · rw [if_neg c66] at H
                              have c66b0 : decide (x85_3 < (t219.length : Int)) = false := decide_eq_false c66
                              clear c66
                              obtain rfl := Option.some.inj H
                              go_wp2
                              go_ret
                              exact ⟨by first | rfl | (simp [errW_none, errW_some] <;> rfl) | (simp [*, errW_none, errW_some] <;> rfl), by repeat (first | (with_reducible first | exact HB.out | apply below_alloc | apply pw_below_drewN | apply below_drew1) | exact HB.out)⟩
                · rw [if_neg c26] at H
                  exact absurd H (by simp)
              · rw [if_neg c23] at H
                exact absurd H (by simp)
            · rw [if_neg c22] at H
              exact absurd H (by simp)
          · rw [if_neg c21] at H
            exact absurd H (by simp)
  · replace c7 := Bool.eq_false_iff.mpr c7
    subst c7
    have H1 : (some false) = some r := by rw [if_neg (show ¬ (false = true) by decide)] at H; exact H
    clear H
    have H := H1
    clear H1
    obtain rfl := Option.some.inj H
    go_enter Try.func4, Try.ntmps4
    go_wp2_with (first | ((with_reducible refine gate_callee (f := 6) rfl ?_); refine goesL_ (some 19) rfl rfl Try.func6 (by kernel_rfl) rfl #[] rfl (by (try simp only [List.map_toArray, List.map_cons, List.map_nil]); first | done | rfl | (simp only [List.length_drop, List.length_take]; rfl)) ?_; (with_reducible refine (platelayerlaw12_awake.calls k  false _ A6.out).mono ?_); rintro e w84 ⟨rfl, hb⟩; refine ⟨_, rfl, ?_⟩; have n0_ := Aside0.mk (below_step (by repeat (first | (with_reducible first | exact HB.out | apply below_alloc | apply pw_below_drewN | apply below_drew1) | exact HB.out)) hb); clear HB; have HB := n0_; clear n0_; (try clear hb); (try clear hb2); (try clear hk); (try clear hi)))
    go_ret
    exact ⟨by first | rfl | (simp [errW_none, errW_some] <;> rfl) | (simp [*, errW_none, errW_some] <;> rfl), by repeat (first | (with_reducible first | exact HB.out | apply below_alloc | apply pw_below_drewN | apply below_drew1) | exact HB.out)⟩

end Go.Proofs.Ytkcpbglimpaieaa.V
