-- Written by this session's own program (a scratch print with stubs for what the kit's print does not take).
import Derived.Test.YtpbjabpakkjomaaDoorSx0
import Derived.Test.YtpbjabpakkjomaaDoorSx2
namespace Go.Proofs.YtpbjabpakkjomaaDoor.S
open Go.RowKit Go.Proofs.YtpbjabpakkjomaaDoorW.PrintWords Go.Proofs.YtpbjabpakkjomaaDoorW.PrintLast Go.Proofs.YtpbjabpakkjomaaDoorW.PrintMore
set_option linter.unusedVariables false
set_option linter.unusedSimpArgs false

/-! ### slices_heapSortOrdered_uint32: function 32 -/
mutual
def slices_heapSortOrdered_uint32.l0 : Nat → List Int → Int → Int → Int → Int → Option (List Int)
 | 0, _, _, _, _, _ => none
 | k + 1, x0, x6, x7, x8, x9 => if x9 ≥ 0 then ((slices_siftDownOrdered_uint32.f k x0 x9 x8 x6).bind fun t127 => (slices_heapSortOrdered_uint32.l0 k t127 x6 x7 x8 (wrap64 (x9 - 1)))) else (slices_heapSortOrdered_uint32.l1 k x0 x6 x7 (wrap64 (x8 - 1)))
def slices_heapSortOrdered_uint32.l1 : Nat → List Int → Int → Int → Int → Option (List Int)
 | 0, _, _, _, _ => none
 | k + 1, x0, x6, x7, x10 => if x10 ≥ 0 then (if 0 ≤ (wrap64 (x6 + x10)) then (if (wrap64 (x6 + x10)) < (x0.length : Int) then (if 0 ≤ x6 then (if x6 < (x0.length : Int) then ((slices_siftDownOrdered_uint32.f k ((x0.set (x6 : Int).toNat (rd x0 (wrap64 (x6 + x10)))).set ((wrap64 (x6 + x10)) : Int).toNat (rd x0 x6)) x7 x10 x6).bind fun t132 => (slices_heapSortOrdered_uint32.l1 k t132 x6 x7 (wrap64 (x10 - 1)))) else (none)) else (none)) else (none)) else (none)) else (some x0)
end
def slices_heapSortOrdered_uint32.f (k : Nat) (l0 : List Int) (a1 : Int) (a2 : Int) : Option (List Int) := slices_heapSortOrdered_uint32.l0 k l0 a1 0 (wrap64 (a2 - a1)) (wrap64 (Int.tdiv (wrap64 ((wrap64 (a2 - a1)) - 1)) 2))
theorem slices_heapSortOrdered_uint32.mono_l : ∀ k, (∀ y0 y1 y2 y3 y4, LeO (slices_heapSortOrdered_uint32.l0 k y0 y1 y2 y3 y4) (slices_heapSortOrdered_uint32.l0 (k + 1) y0 y1 y2 y3 y4)) ∧ (∀ y0 y1 y2 y3, LeO (slices_heapSortOrdered_uint32.l1 k y0 y1 y2 y3) (slices_heapSortOrdered_uint32.l1 (k + 1) y0 y1 y2 y3))
 | 0 => ⟨fun _ _ _ _ _ r h => by simp [slices_heapSortOrdered_uint32.l0] at h, fun _ _ _ _ r h => by simp [slices_heapSortOrdered_uint32.l1] at h⟩
 | k + 1 => by
  obtain ⟨ih0, ih1⟩ := slices_heapSortOrdered_uint32.mono_l k
  refine ⟨?_, ?_⟩
  ·intro y0 y1 y2 y3 y4
   unfold slices_heapSortOrdered_uint32.l0
   repeat' first
   | (with_reducible exact ih0 _ _ _ _ _)
   | (with_reducible exact ih1 _ _ _ _)
   | (with_reducible exact slices_siftDownOrdered_uint32.mono _ _ _ _ _)
   | (with_reducible exact LeO.refl _)
   | (with_reducible exact LeO.none _)
   | (with_reducible refine LeO.ite ?_ ?_)
   | (with_reducible refine LeO.bind ?_ (fun _ => ?_))
   | exact ih0 _ _ _ _ _
   | exact ih1 _ _ _ _
   | exact slices_siftDownOrdered_uint32.mono _ _ _ _ _
   | exact LeO.none _
   | refine LeO.ite ?_ ?_
   | refine LeO.bind ?_ (fun _ => ?_)
  ·intro y0 y1 y2 y3
   unfold slices_heapSortOrdered_uint32.l1
   repeat' first
   | (with_reducible exact ih0 _ _ _ _ _)
   | (with_reducible exact ih1 _ _ _ _)
   | (with_reducible exact slices_siftDownOrdered_uint32.mono _ _ _ _ _)
   | (with_reducible exact LeO.refl _)
   | (with_reducible exact LeO.none _)
   | (with_reducible refine LeO.ite ?_ ?_)
   | (with_reducible refine LeO.bind ?_ (fun _ => ?_))
   | exact ih0 _ _ _ _ _
   | exact ih1 _ _ _ _
   | exact slices_siftDownOrdered_uint32.mono _ _ _ _ _
   | exact LeO.none _
   | refine LeO.ite ?_ ?_
   | refine LeO.bind ?_ (fun _ => ?_)
theorem slices_heapSortOrdered_uint32.mono : ∀ a0 a1 a2 k, LeO (slices_heapSortOrdered_uint32.f k a0 a1 a2) (slices_heapSortOrdered_uint32.f (k + 1) a0 a1 a2) := by
 intro a0 a1 a2 k
 obtain ⟨ih0, ih1⟩ := slices_heapSortOrdered_uint32.mono_l k
 unfold slices_heapSortOrdered_uint32.f
 repeat' first
   | (with_reducible exact ih0 _ _ _ _ _)
   | (with_reducible exact ih1 _ _ _ _)
   | (with_reducible exact slices_siftDownOrdered_uint32.mono _ _ _ _ _)
   | (with_reducible exact LeO.refl _)
   | (with_reducible exact LeO.none _)
   | (with_reducible refine LeO.ite ?_ ?_)
   | (with_reducible refine LeO.bind ?_ (fun _ => ?_))
   | exact ih0 _ _ _ _ _
   | exact ih1 _ _ _ _
   | exact slices_siftDownOrdered_uint32.mono _ _ _ _ _
   | exact LeO.none _
   | refine LeO.ite ?_ ?_
   | refine LeO.bind ?_ (fun _ => ?_)
def slices_heapSortOrdered_uint32.T10 : Bool × List (List Nat × List Nat) := (true, [([], []), ([], []), ([], []), ([], []), ([], []), ([3, 4], [3, 4]), ([], []), ([], []), ([], []), ([7, 8], [7, 8]), ([6, 9], [6, 9]), ([10], [10]), ([], []), ([], []), ([12, 13], [12, 13]), ([14], [14]), ([0, 1, 0, 1, 6, 7, 8, 9, 10, 11, 15], [0, 1]), ([16, 11, 0, 1, 6, 7, 8, 9, 10, 11, 15], [11, 16]), ([2, 5, 0, 1, 2, 3, 4, 5, 6, 7, 8, 9, 10, 11, 12, 13, 14, 15, 16, 17], [2, 5]), ([18, 15, 17, 0, 1, 2, 3, 4, 5, 6, 7, 8, 9, 10, 11, 12, 13, 14, 15, 16, 17], [15, 18])])
def slices_heapSortOrdered_uint32.B10 : List Nat := [0, 0, 0, 0, 0, 24, 0, 0, 0, 384, 960, 1984, 0, 0, 12288, 28672, 65475, 131011, 262143, 524287]
theorem slices_heapSortOrdered_uint32.tab10 : rtab .any (opsOf Tryd.f32 10) = slices_heapSortOrdered_uint32.T10 := by kernel_rfl
theorem slices_heapSortOrdered_uint32.bits10 : waitsOk slices_heapSortOrdered_uint32.T10.2 slices_heapSortOrdered_uint32.B10 = true := by kernel_rfl
set_option maxHeartbeats 8000000 in
set_option maxRecDepth 100000 in
theorem slices_heapSortOrdered_uint32.calls (k : Nat) (P0_ : Nat → Prop) (u9000_ : Value) (l0 : List Int) (a1 : Int) (a2 : Int) (r : List Int) (w0 w : World) (hB : Below w0.heap.size w0 w) (ho0 : Kd.R (Kd.int .u32) 23 w w0.heap.size P0_ u9000_ l0) (h : slices_heapSortOrdered_uint32.f k l0 a1 a2 = some r) :
  Calls Tryd.prog 32 #[u9000_, .int .i64 a1, .int .i64 a2] w fun e w' => e = .returned (.tuple #[]) ∧ Kd.R (Kd.int .u32) 23 w' w0.heap.size (fun k_ => (P0_ k_ ∨ w.heap.size ≤ k_)) u9000_ r ∧ Below w0.heap.size w0 w' ∧ Kept w w' (fun k_ => P0_ k_) := by
 have HO0 := Aside0.mk (show Kd.R (Kd.int .u32) 23 w w0.heap.size (fun k_ => (P0_ k_ ∨ w.heap.size ≤ k_)) u9000_ l0 from Kd.R_mono ho0 (fun k_ hk => (.inl hk)))
 have HK := Aside0.mk (Kept.refl w (fun k_ => P0_ k_))
 have HW0 := Aside0.mk hB.size
 have HB := Aside0.mk hB
 clear hB
 have H : (slices_heapSortOrdered_uint32.l0 k l0 a1 0 (wrap64 (a2 - a1)) (wrap64 (Int.tdiv (wrap64 ((wrap64 (a2 - a1)) - 1)) 2))) = some r := h
 clear h
 have H' := Aside0.mk H
 clear H
 go_enter Tryd.func32, Tryd.ntmps32
 go_wp2
 go_loopg [9] k (fun kq v9 w' => ∃ (x0_1 : List Int) (x9_1 : Int), v9 = .int .i64 x9_1 ∧ Aside0 (slices_heapSortOrdered_uint32.l0 kq x0_1 a1 0 (wrap64 (a2 - a1)) x9_1 = some r) ∧ Aside0 (kq ≤ k) ∧ Aside0 (Kd.R (Kd.int .u32) 23 w' w0.heap.size (fun k_ => (P0_ k_ ∨ w.heap.size ≤ k_)) u9000_ x0_1) ∧ Aside0 (Kept w w' (fun k_ => P0_ k_)) ∧ Aside0 (Below w0.heap.size w0 w'))
 case atStart => exact ⟨(l0), (wrap64 (Int.tdiv (wrap64 ((wrap64 (a2 - a1)) - 1)) 2)), (by first | rfl | (simp; done) | (simp [*]; done)), H', ⟨Nat.le_refl _⟩, ⟨by (with_reducible repeat (first | apply Kd.R_alloc | apply Kd.R_drewN | apply Kd.R_drew)); exact HO0.out⟩, ⟨by repeat (first | (with_reducible first | exact HK.out | apply Kept.alloc | apply Kept.drewN | apply Kept.drew) | exact HK.out)⟩, ⟨by repeat (first | (with_reducible first | exact HB.out | apply below_alloc | apply pw_below_drewN | apply below_drew1) | exact HB.out)⟩⟩
 case round =>
  clear H'
  try clear p2; try clear c3
  obtain ⟨x0_1, x9_1, rfl, HA, HK1, HO_0, HK, HB⟩ := hrel
  cases gk with
  | zero => exact absurd HA.out (by simp [slices_heapSortOrdered_uint32.l0])
  | succ k1 =>
   have H := HA.out
   clear HA
   simp only [slices_heapSortOrdered_uint32.l0] at H
   by_cases c4 : x9_1 ≥ 0
   ·rw [if_pos c4] at H
    have c4b0 : decide (0 ≤ x9_1) = true := decide_eq_true c4
    clear c4
    replace H := Option.bind_eq_some_iff.mp H
    obtain ⟨t127, A50, H⟩ := H
    replace H : (slices_heapSortOrdered_uint32.l0 k1 t127 a1 0 (wrap64 (a2 - a1)) (wrap64 (x9_1 - 1))) = some r := H
    have A5 := Aside0.mk A50
    clear A50
    have H' := Aside0.mk H
    clear H
    obtain ⟨Ao6, co6, eo6⟩ := Kd.R_slice HO_0.out
    subst eo6
    go_wp2_with (first | ((with_reducible refine gate_callee (f := 42) rfl ?_); refine goesL_ (some 26) rfl rfl Tryd.func42 (by kernel_rfl) rfl #[.slice Ao6 x0_1.length co6, .int .i64 x9_1, .int .i64 (wrap64 (a2 - a1)), .int .i64 a1] rfl (by (try simp only [List.map_toArray, List.map_cons, List.map_nil]); first | done | rfl | (simp only [List.length_drop, List.length_take]; rfl)) ?_; (with_reducible refine (slices_siftDownOrdered_uint32.calls k1 (fun k_ => some k_ = (.slice Ao6 x0_1.length co6 : Value).ownBlock) (.slice Ao6 x0_1.length co6) x0_1 x9_1 (wrap64 (a2 - a1)) a1 t127 w0 _ ?side1 ?side2 A5.out).mono ?_); (case side1 => repeat (first | (with_reducible first | exact HB.out | apply below_alloc | apply pw_below_drewN | apply below_drew1) | exact HB.out)); (case side2 => exact Kd.R_tight rfl HO_0.out); rintro e w7 ⟨rfl, hy0, hb, hkp⟩; refine ⟨_, rfl, ?_⟩; have n0_ := Aside0.mk (Kd.R_reok rfl hy0 (fun k_ e_ => HO_0.out.1 k_ e_)); have n1_ := Aside0.mk (Kept.then_ (S := (fun k_ => P0_ k_)) (by repeat (first | (with_reducible first | exact HK.out | apply Kept.alloc | apply Kept.drewN | apply Kept.drew) | exact HK.out)) hkp (fun k_ hs_ => (fun e_ => (HO_0.out.1 k_ e_.symm)) hs_)); have n2_ := Aside0.mk (hb); clear HO_0; clear HK; clear HB; have HO_0 := n0_; have HK := n1_; have HB := n2_; clear n0_ n1_ n2_; (try clear hb); (try clear hkp); (try clear hy0)))
    go_roundg k1
    case measure => have := HK1.out; omega
    case rel => exact ⟨(t127), (wrap64 (x9_1 - 1)), (by first | rfl | (simp; done) | (simp [*]; done)), H', ⟨by have := HK1.out; omega⟩, ⟨by (with_reducible repeat (first | apply Kd.R_alloc | apply Kd.R_drewN | apply Kd.R_drew)); exact HO_0.out⟩, ⟨by repeat (first | (with_reducible first | exact HK.out | apply Kept.alloc | apply Kept.drewN | apply Kept.drew) | exact HK.out)⟩, ⟨by repeat (first | (with_reducible first | exact HB.out | apply below_alloc | apply pw_below_drewN | apply below_drew1) | exact HB.out)⟩⟩
   ·rw [if_neg c4] at H
    have c4b0 : decide (0 ≤ x9_1) = false := decide_eq_false c4
    clear c4
    have H' := Aside0.mk H
    clear H
    go_wp2
    go_loopg [10] k1 (fun kq v10 w' => ∃ (x0_2 : List Int) (x10_2 : Int), v10 = .int .i64 x10_2 ∧ Aside0 (slices_heapSortOrdered_uint32.l1 kq x0_2 a1 0 x10_2 = some r) ∧ Aside0 (kq ≤ k1) ∧ Aside0 (Kd.R (Kd.int .u32) 23 w' w0.heap.size (fun k_ => (P0_ k_ ∨ w.heap.size ≤ k_)) u9000_ x0_2) ∧ Aside0 (Kept w w' (fun k_ => P0_ k_)) ∧ Aside0 (Below w0.heap.size w0 w'))
    case atStart => exact ⟨(x0_1), (wrap64 ((wrap64 (a2 - a1)) - 1)), (by first | rfl | (simp; done) | (simp [*]; done)), H', ⟨Nat.le_refl _⟩, ⟨by (with_reducible repeat (first | apply Kd.R_alloc | apply Kd.R_drewN | apply Kd.R_drew)); exact HO_0.out⟩, ⟨by repeat (first | (with_reducible first | exact HK.out | apply Kept.alloc | apply Kept.drewN | apply Kept.drew) | exact HK.out)⟩, ⟨by repeat (first | (with_reducible first | exact HB.out | apply below_alloc | apply pw_below_drewN | apply below_drew1) | exact HB.out)⟩⟩
    case round =>
     clear H'
     try clear p2; try clear c3; try clear c4; try clear c4b0; try clear p6; try clear p2
     obtain ⟨x0_2, x10_2, rfl, HA, HK2, HO_0, HK, HB⟩ := hrel
     cases gk with
     | zero => exact absurd HA.out (by simp [slices_heapSortOrdered_uint32.l1])
     | succ k2 =>
      have H := HA.out
      clear HA
      simp only [slices_heapSortOrdered_uint32.l1] at H
      by_cases c8 : x10_2 ≥ 0
      ·rw [if_pos c8] at H
       have c8b0 : decide (0 ≤ x10_2) = true := decide_eq_true c8
       clear c8
       obtain ⟨ji9, hji9⟩ : ∃ j_ : Int, (wrap64 (a1 + x10_2)) = j_ := ⟨_, rfl⟩
       replace H : (if 0 ≤ (ji9) then (if (ji9) < (x0_2.length : Int) then (if 0 ≤ a1 then (if a1 < (x0_2.length : Int) then ((slices_siftDownOrdered_uint32.f k2 ((x0_2.set (a1 : Int).toNat (rd x0_2 (ji9))).set ((ji9) : Int).toNat (rd x0_2 a1)) 0 x10_2 a1).bind fun t132 => (slices_heapSortOrdered_uint32.l1 k2 t132 a1 0 (wrap64 (x10_2 - 1)))) else (none)) else (none)) else (none)) else (none)) = some r := by first | (rw [hji9] at H; exact H) | (simp only [hji9] at H ⊢; exact H)
       have hji9w : (IntKind.i64.wrap (a1 + x10_2)) = ji9 := (i64_w _).trans hji9
       by_cases c10 : 0 ≤ (ji9)
       ·rw [if_pos c10] at H
        have c10b0 : decide (0 ≤ (ji9)) = true := decide_eq_true c10
        clear c10
        by_cases c11 : (ji9) < (x0_2.length : Int)
        ·rw [if_pos c11] at H
         have c11b0 : decide ((ji9) < (x0_2.length : Int)) = true := decide_eq_true c11
         clear c11
         by_cases c12 : 0 ≤ a1
         ·rw [if_pos c12] at H
          have c12b0 : decide (0 ≤ a1) = true := decide_eq_true c12
          clear c12
          by_cases c13 : a1 < (x0_2.length : Int)
          ·rw [if_pos c13] at H
           have c13b0 : decide (a1 < (x0_2.length : Int)) = true := decide_eq_true c13
           clear c13
           obtain ⟨y130, hy130⟩ : ∃ y_ : List Int, y_ = (x0_2.set (a1 : Int).toNat (rd x0_2 (ji9))) := ⟨_, rfl⟩
           replace H : ((slices_siftDownOrdered_uint32.f k2 (y130.set ((ji9) : Int).toNat (rd x0_2 a1)) 0 x10_2 a1).bind fun t132 => (slices_heapSortOrdered_uint32.l1 k2 t132 a1 0 (wrap64 (x10_2 - 1)))) = some r := by first | (rw [hy130]; with_reducible exact H) | (have H2_ := (Option.bind_some _ _).symm.trans H; rw [hy130]; with_reducible exact H2_) | (have H2_ := (Option.bind_some _ _).symm.trans H; with_reducible exact H2_) | with_reducible exact H | (rw [hy130]; exact H) | exact H
           have Ny130 := Aside0.mk hy130
           clear hy130
           obtain ⟨y131, hy131⟩ : ∃ y_ : List Int, y_ = (y130.set ((ji9) : Int).toNat (rd x0_2 a1)) := ⟨_, rfl⟩
           replace H : ((slices_siftDownOrdered_uint32.f k2 y131 0 x10_2 a1).bind fun t132 => (slices_heapSortOrdered_uint32.l1 k2 t132 a1 0 (wrap64 (x10_2 - 1)))) = some r := by first | (rw [hy131]; with_reducible exact H) | (have H2_ := (Option.bind_some _ _).symm.trans H; rw [hy131]; with_reducible exact H2_) | (have H2_ := (Option.bind_some _ _).symm.trans H; with_reducible exact H2_) | with_reducible exact H | (rw [hy131]; exact H) | exact H
           have Ny131 := Aside0.mk hy131
           clear hy131
           replace H := Option.bind_eq_some_iff.mp H
           obtain ⟨t132, A160, H⟩ := H
           replace H : (slices_heapSortOrdered_uint32.l1 k2 t132 a1 0 (wrap64 (x10_2 - 1))) = some r := H
           have A16 := Aside0.mk A160
           clear A160
           have H' := Aside0.mk H
           clear H
           try go_wp2
           have n0_ := Aside0.mk (Kd.R_drew HO_0.out)
           have n1_ := Aside0.mk (Kept.drew HK.out)
           have n2_ := Aside0.mk (below_drew1 HB.out)
           clear HO_0
           clear HK
           clear HB
           have HO_0 := n0_
           have HK := n1_
           have HB := n2_
           clear n0_ n1_ n2_
           obtain ⟨Ao18, co18, eo18⟩ := Kd.R_slice HO_0.out
           (first | subst eo18 | (injection eo18 with f1_ f2_ f3_; have f4_ := f1_.symm; have f5_ := f3_.symm; clear f1_ f2_ f3_; subst f4_; subst f5_))
           have p128 : 0 ≤ ((ji9) : Int) := of_decide_eq_true (by first | (with_reducible assumption) | assumption)
           have q128 : (ji9) < (x0_2.length : Int) := of_decide_eq_true (by first | (with_reducible assumption) | assumption)
           obtain ⟨ad128, e128, hx128_0⟩ := Kd.at_int (Kd.R_reads' HO_0.out).2.2 (ji9) p128 q128
           cases e128
           replace p128 := eq_true p128
           replace q128 := eq_true q128
           have p129 : 0 ≤ (a1 : Int) := of_decide_eq_true (by first | (with_reducible assumption) | assumption)
           have q129 : a1 < (x0_2.length : Int) := of_decide_eq_true (by first | (with_reducible assumption) | assumption)
           obtain ⟨ad129, e129, hx129_0⟩ := Kd.at_int (Kd.R_reads' HO_0.out).2.2 a1 p129 q129
           obtain rfl : ad128 = ad129 := (by injection e129)
           replace p129 := eq_true p129
           replace q129 := eq_true q129
           have p14 : 0 ≤ (a1 : Int) := of_decide_eq_true (by first | (with_reducible assumption) | assumption)
           have q14 : (a1 : Int) < ((x0_2.length : Int) : Int) := of_decide_eq_true (by first | (with_reducible assumption) | assumption)
           obtain ⟨go14, co14, eo14, gb14, gl14, cl14, HG14⟩ := Kd.R_form HO_0.out (by omega)
           (first | cases eo14 | (injection eo14 with ea_ en_ ec_; (first | subst ea_ | (injection ea_ with ea_; subst ea_)); subst ec_; clear en_))
           have GB14 := Aside0.mk gb14
           have GG14 := Aside0.mk HG14
           clear gb14 gl14 HG14
           have HMgo14 := Aside0.mk (show (P0_ go14 ∨ w.heap.size ≤ go14) from (HO_0.out.1 _ rfl))
           (first | simp only [add_plain] at hx128_0 | skip)
           (first | simp only [add_plain] at hx129_0 | skip)
           obtain ⟨hx14_0, hf14_0⟩ := Kd.R_celln 0 HO_0.out (a1 : Int) p14 q14
           replace p14 := eq_true p14
           replace q14 := eq_true q14
           have HP19 := Kd.R_putn HO_0.out (a1 : Int) (rd x0_2 (ji9))
           rw [← Ny130.out] at HP19
           have HQ19 := Aside0.mk HP19
           clear HP19
           have p15 : 0 ≤ ((ji9) : Int) := of_decide_eq_true (by first | (with_reducible assumption) | assumption)
           have q15 : ((ji9) : Int) < ((x0_2.length : Int) : Int) := of_decide_eq_true (by first | (with_reducible assumption) | assumption)
           obtain ⟨hx15_0, hf15_0⟩ := Kd.R_celln 0 HQ19.out ((ji9) : Int) p15 q15
           replace p15 := eq_true p15
           replace q15 := eq_true q15
           have HP20 := Kd.R_putn HQ19.out ((ji9) : Int) (rd x0_2 a1)
           rw [← Ny131.out] at HP20
           have HQ20 := Aside0.mk HP20
           clear HP20
           refine start_ (n := 20) (S := fun w' => w'.cell? ⟨go14, ((ji9)).toNat, none⟩ = some (.int .u32 (rd x0_2 (ji9))) ∧ w'.cell? ⟨go14, (a1).toNat, none⟩ = some (.int .u32 (rd x0_2 a1))) (ds := [17, 19]) b_0_20 (by kernel_rfl) rfl rfl ⟨hx128_0, hx129_0⟩ (fun hHeld => ?_); refine with_tabW slices_heapSortOrdered_uint32.tab10 slices_heapSortOrdered_uint32.bits10 (fun HT_ HW_ => ?_)
           generalize wr.drew = w17 at HO_0 HK HB GG14 HQ19 HQ20 hf14_0 hf15_0 hx128_0 hx129_0 hx14_0 hx15_0 hHeld ⊢
           refine pure_ (i := 0) (N := some 33) (v := ?_) (a' := ?_) b_80000_20 rfl rfl (any_of HT_.out (by kernel_rfl)) (fun _ _ _ h => h) (Or.inl ⟨by rfl, ?_⟩) ?_ ?_
           rotate_left; · intro w'; go_simp; with_reducible rfl
           rotate_left; · simp only [Act.put, pu1, pu2, pu3, i64_w, i32_w]; rfl
           refine pure_ (i := 1) (N := some 34) (v := ?_) (a' := ?_) b_c0000_20 rfl rfl (any_of HT_.out (by kernel_rfl)) (fun _ _ _ h => h) (Or.inl ⟨by rfl, ?_⟩) ?_ ?_
           rotate_left; · intro w'; go_simp; with_reducible rfl
           rotate_left; · simp only [Act.put, pu1, pu2, pu3, i64_w, i32_w]; rfl
           refine pure_ (i := 2) (N := some 35) (v := ?_) (a' := ?_) b_e0000_20 rfl rfl (any_of HT_.out (by kernel_rfl)) (fun _ _ _ h => h) (Or.inl ⟨by rfl, ?_⟩) ?_ ?_
           rotate_left; · intro w'; go_simp; with_reducible rfl
           rotate_left; · simp only [Act.put, pu1, pu2, pu3, i64_w, i32_w]; rfl
           refine pure_ (i := 3) (N := some 36) (v := ?_) (a' := ?_) b_f0000_20 rfl rfl (any_of HT_.out (by kernel_rfl)) (fun _ _ _ h => h) (Or.inl ⟨by rfl, ?_⟩) ?_ ?_
           rotate_left; · intro w'; go_simp; with_reducible rfl
           rotate_left; · simp only [Act.put, pu1, pu2, pu3, i64_w, i32_w]; rfl
           refine pure_ (i := 4) (N := some 37) (v := ?_) (a' := ?_) b_f8000_20 rfl rfl (any_of HT_.out (by kernel_rfl)) (fun _ _ _ h => h) (Or.inl ⟨by rfl, ?_⟩) ?_ ?_
           rotate_left; · intro w'; go_simp; with_reducible rfl
           rotate_left; · simp only [Act.put, pu1, pu2, pu3, i64_w, i32_w]; rfl
           refine pure_ (i := 5) (N := some 38) (v := ?_) (a' := ?_) b_fc000_20 rfl rfl (any_of HT_.out (by kernel_rfl)) (fun _ _ _ h => h) (Or.inl ⟨by rfl, ?_⟩) ?_ ?_
           rotate_left; · intro w'; go_simp; with_reducible rfl
           rotate_left; · simp only [Act.put, pu1, pu2, pu3, i64_w, i32_w]; rfl
           refine pure_ (i := 6) (N := some 39) (v := ?_) (a' := ?_) b_fe000_20 rfl rfl (any_of HT_.out (by kernel_rfl)) (fun _ _ _ h => h) (Or.inl ⟨by rfl, ?_⟩) ?_ ?_
           rotate_left; · intro w'; go_simp; with_reducible rfl
           rotate_left; · simp only [Act.put, pu1, pu2, pu3, i64_w, i32_w]; rfl
           refine pure_ (i := 7) (N := some 40) (v := ?_) (a' := ?_) b_ff000_20 rfl rfl (any_of HT_.out (by kernel_rfl)) (fun _ _ _ h => h) (Or.inl ⟨by rfl, ?_⟩) ?_ ?_
           rotate_left; · intro w'; go_simp; with_reducible rfl
           rotate_left; · simp only [Act.put, pu1, pu2, pu3, i64_w, i32_w]; rfl
           refine pure_ (i := 8) (N := some 41) (v := ?_) (a' := ?_) b_ff800_20 rfl rfl (any_of HT_.out (by kernel_rfl)) (fun _ _ _ h => h) (Or.inl ⟨by rfl, ?_⟩) ?_ ?_
           rotate_left; · intro w'; go_simp; with_reducible rfl
           rotate_left; · simp only [Act.put, pu1, pu2, pu3, i64_w, i32_w]; rfl
           refine pure_ (i := 9) (N := some 42) (v := ?_) (a' := ?_) b_ffc00_20 rfl rfl (any_of HT_.out (by kernel_rfl)) (fun _ _ _ h => h) (Or.inl ⟨by rfl, ?_⟩) ?_ ?_
           rotate_left; · intro w'; go_simp; with_reducible rfl
           rotate_left; · simp only [Act.put, pu1, pu2, pu3, i64_w, i32_w]; rfl
           refine pure_ (i := 10) (N := some 43) (v := ?_) (a' := ?_) b_ffe00_20 rfl rfl (any_of HT_.out (by kernel_rfl)) (fun _ _ _ h => h) (Or.inl ⟨by rfl, ?_⟩) ?_ ?_
           rotate_left; · intro w'; go_simp; with_reducible rfl
           rotate_left; · simp only [Act.put, pu1, pu2, pu3, i64_w, i32_w]; rfl
           refine pure_ (i := 12) (N := some 45) (v := ?_) (a' := ?_) b_ffe80_20 rfl rfl (any_of HT_.out (by kernel_rfl)) (fun _ _ _ h => h) (Or.inl ⟨by rfl, ?_⟩) ?_ ?_
           rotate_left; · intro w'; go_simp; with_reducible rfl
           rotate_left; · simp only [Act.put, pu1, pu2, pu3, i64_w, i32_w]; rfl
           refine pure_ (i := 13) (N := some 46) (v := ?_) (a' := ?_) b_ffec0_20 rfl rfl (any_of HT_.out (by kernel_rfl)) (fun _ _ _ h => h) (Or.inl ⟨by rfl, ?_⟩) ?_ ?_
           rotate_left; · intro w'; go_simp; with_reducible rfl
           rotate_left; · simp only [Act.put, pu1, pu2, pu3, i64_w, i32_w]; rfl
           refine pure_ (i := 14) (N := some 47) (v := ?_) (a' := ?_) b_ffee0_20 rfl rfl (any_of HT_.out (by kernel_rfl)) (fun _ _ _ h => h) (Or.inl ⟨by rfl, ?_⟩) ?_ ?_
           rotate_left; · intro w'; go_simp; with_reducible rfl
           rotate_left; · simp only [Act.put, pu1, pu2, pu3, i64_w, i32_w]; rfl
           refine take_ (i := 11) (N := some 44) (v := ?_) (a' := ?_) b_fffe0_20 rfl rfl (take_ofW HT_.out HW_.out (by kernel_rfl)) (fun _ _ _ h => h) (Or.inl ⟨by rfl, ?_⟩) hHeld ?_ ?_
           rotate_left; · rintro w' ⟨s0, s1⟩; go_simp; with_reducible rfl
           rotate_left; · simp only [Act.put, pu1, pu2, pu3, i64_w, i32_w]; rfl
           refine take_ (i := 15) (N := some 48) (v := ?_) (a' := ?_) b_ffff0_20 rfl rfl (take_ofW HT_.out HW_.out (by kernel_rfl)) (fun _ _ _ h => h) (Or.inl ⟨by rfl, ?_⟩) hHeld ?_ ?_
           rotate_left; · rintro w' ⟨s0, s1⟩; go_simp; with_reducible rfl
           rotate_left; · simp only [Act.put, pu1, pu2, pu3, i64_w, i32_w]; rfl
           refine pure_ (i := 16) (N := some 49) (v := ?_) (a' := ?_) b_ffff8_20 rfl rfl (any_of HT_.out (by kernel_rfl)) (fun _ _ _ h => h) (Or.inl ⟨by rfl, ?_⟩) ?_ ?_
           rotate_left; · intro w'; go_simp; with_reducible rfl
           rotate_left; · simp only [Act.put, pu1, pu2, pu3, i64_w, i32_w]; rfl
           refine last_ (i := 17) (N := none) b_ffffc_20 rfl rfl (one_of HT_.out (by kernel_rfl)) (by decide) (fun K hK => ?_)
           refine skip_ (w1 := ?_) (by rfl) rfl ?_ ?_
           rotate_left
           ·go_simp
            rfl
           refine hK.out _ _ ?_
           clear hK K
           refine pure_ (i := 18) (N := some 50) (v := ?_) (a' := ?_) b_ffffe_20 rfl rfl (any_of HT_.out (by kernel_rfl)) (fun _ _ _ h => h) (Or.inl ⟨by rfl, ?_⟩) ?_ ?_
           rotate_left; · intro w'; go_simp; with_reducible rfl
           rotate_left; · simp only [Act.put, pu1, pu2, pu3, i64_w, i32_w]; rfl
           refine last_ (i := 19) (N := none) b_fffff_20 rfl rfl (one_of HT_.out (by kernel_rfl)) (by decide) (fun K hK => ?_)
           refine skip_ (w1 := ?_) (by rfl) rfl ?_ ?_
           rotate_left
           ·go_simp
            rfl
           refine hK.out _ _ ?_
           clear hK K
           refine done_ (done_of HT_.out (by kernel_rfl)) ?_
           have n0_ : Aside0 (Kd.R (Kd.int .u32) 23 ((w17.setCell ⟨go14, (a1 : Int).toNat, none⟩ (.int .u32 (rd x0_2 (ji9)))).setCell ⟨go14, ((ji9) : Int).toNat, none⟩ (.int .u32 (rd x0_2 a1))) w0.heap.size (fun k_ => (P0_ k_ ∨ w.heap.size ≤ k_)) (.slice (some ⟨go14, 0, none⟩) x0_2.length co18) y131) := ⟨by (with_reducible repeat (first | apply Kd.R_alloc | apply Kd.R_drewN | apply Kd.R_drew)); exact HQ20.out⟩
           have n1_ : Aside0 (Kept w ((w17.setCell ⟨go14, (a1 : Int).toNat, none⟩ (.int .u32 (rd x0_2 (ji9)))).setCell ⟨go14, ((ji9) : Int).toNat, none⟩ (.int .u32 (rd x0_2 a1))) (fun k_ => P0_ k_)) := ⟨by repeat (first | (with_reducible first | exact HK.out | apply Kept.alloc | apply Kept.drewN | apply Kept.drew | refine Kept.setCell ?_ HMgo14.out _ | refine Kept.setCell ?_ HMgo14.out _) | exact HK.out)⟩
           have n2_ : Aside0 (Below w0.heap.size w0 ((w17.setCell ⟨go14, (a1 : Int).toNat, none⟩ (.int .u32 (rd x0_2 (ji9)))).setCell ⟨go14, ((ji9) : Int).toNat, none⟩ (.int .u32 (rd x0_2 a1)))) := ⟨by repeat (first | (with_reducible first | exact HB.out | apply below_alloc | apply pw_below_drewN | apply below_drew1 | refine below_set ?_ GB14.out | refine below_set ?_ GB14.out) | exact HB.out)⟩
           (try clear HO_0)
           (try clear HK)
           (try clear HB)
           generalize ((w17.setCell ⟨go14, (a1 : Int).toNat, none⟩ (.int .u32 (rd x0_2 (ji9)))).setCell ⟨go14, ((ji9) : Int).toNat, none⟩ (.int .u32 (rd x0_2 a1))) = w21 at n0_ n1_ n2_ ⊢
           have HO_0 := n0_
           have HK := n1_
           have HB := n2_
           clear n0_ n1_ n2_
           try go_wp2_with (first | ((with_reducible refine gate_callee (f := 42) rfl ?_); refine goesL_ (some 55) rfl rfl Tryd.func42 (by kernel_rfl) rfl #[.slice (some ⟨go14, 0, none⟩) x0_2.length co18, .int .i64 0, .int .i64 x10_2, .int .i64 a1] rfl (by (try simp only [List.map_toArray, List.map_cons, List.map_nil]); first | done | rfl | (simp only [List.length_drop, List.length_take]; rfl)) ?_; (with_reducible refine (slices_siftDownOrdered_uint32.calls k2 (fun k_ => some k_ = (.slice (some ⟨go14, 0, none⟩) x0_2.length co18 : Value).ownBlock) (.slice (some ⟨go14, 0, none⟩) x0_2.length co18) y131 0 x10_2 a1 t132 w0 _ ?side1 ?side2 A16.out).mono ?_); (case side1 => repeat (first | (with_reducible first | exact HB.out | apply below_alloc | apply pw_below_drewN | apply below_drew1) | exact HB.out)); (case side2 => exact Kd.R_tight rfl HO_0.out); rintro e w22 ⟨rfl, hy0, hb, hkp⟩; refine ⟨_, rfl, ?_⟩; have n0_ := Aside0.mk (Kd.R_reok rfl hy0 (fun k_ e_ => HO_0.out.1 k_ e_)); have n1_ := Aside0.mk (Kept.then_ (S := (fun k_ => P0_ k_)) (by repeat (first | (with_reducible first | exact HK.out | apply Kept.alloc | apply Kept.drewN | apply Kept.drew) | exact HK.out)) hkp (fun k_ hs_ => (fun e_ => (HO_0.out.1 k_ e_.symm)) hs_)); have n2_ := Aside0.mk (hb); clear HO_0; clear HK; clear HB; have HO_0 := n0_; have HK := n1_; have HB := n2_; clear n0_ n1_ n2_; (try clear hb); (try clear hkp); (try clear hy0)))
           go_roundg k2
           case measure => have := HK1.out; have := HK2.out; omega
           case rel => exact ⟨(t132), (wrap64 (x10_2 - 1)), (by first | rfl | (simp; done) | (simp [*]; done)), H', ⟨by have := HK1.out; have := HK2.out; omega⟩, ⟨by (with_reducible repeat (first | apply Kd.R_alloc | apply Kd.R_drewN | apply Kd.R_drew)); exact HO_0.out⟩, ⟨by repeat (first | (with_reducible first | exact HK.out | apply Kept.alloc | apply Kept.drewN | apply Kept.drew) | exact HK.out)⟩, ⟨by repeat (first | (with_reducible first | exact HB.out | apply below_alloc | apply pw_below_drewN | apply below_drew1) | exact HB.out)⟩⟩
          ·rw [if_neg c13] at H; exact absurd H (by simp)
         ·rw [if_neg c12] at H; exact absurd H (by simp)
        ·rw [if_neg c11] at H; exact absurd H (by simp)
       ·rw [if_neg c10] at H; exact absurd H (by simp)
      ·rw [if_neg c8] at H
       have c8b0 : decide (0 ≤ x10_2) = false := decide_eq_false c8
       clear c8
       obtain rfl := Option.some.inj H
       go_wp2
       first | go_end0 | ((try simp only [Exit.inBlock, Exit.then]); refine bodyPost_ret (results_none rfl _ _ _) rfl ?_)
       exact ⟨by first | rfl | (simp [errW_none, errW_some] <;> rfl) | (simp [*, errW_none, errW_some] <;> rfl), by (with_reducible repeat (first | apply Kd.R_alloc | apply Kd.R_drewN | apply Kd.R_drew)); exact HO_0.out, by repeat (first | (with_reducible first | exact HB.out | apply below_alloc | apply pw_below_drewN | apply below_drew1) | exact HB.out), by repeat (first | (with_reducible first | exact HK.out | apply Kept.alloc | apply Kept.drewN | apply Kept.drew) | exact HK.out)⟩

/-! ### slices_breakPatternsOrdered_uint32: function 33 -/
-- by hand, in a text ahead of this one

/-! ### slices_choosePivotOrdered_uint32: function 34 -/
-- by hand, in a text ahead of this one

/-! ### slices_reverseRangeOrdered_uint32: function 35 -/
def slices_reverseRangeOrdered_uint32.l0 : Nat → List Int → Int → Int → Option (List Int)
 | 0, _, _, _ => none
 | k + 1, x0, x6, x7 => if x6 < x7 then (if 0 ≤ x7 then (if x7 < (x0.length : Int) then (if 0 ≤ x6 then (if x6 < (x0.length : Int) then (slices_reverseRangeOrdered_uint32.l0 k ((x0.set (x6 : Int).toNat (rd x0 x7)).set (x7 : Int).toNat (rd x0 x6)) (wrap64 (x6 + 1)) (wrap64 (x7 - 1))) else (none)) else (none)) else (none)) else (none)) else (some x0)
def slices_reverseRangeOrdered_uint32.f (k : Nat) (l0 : List Int) (a1 : Int) (a2 : Int) : Option (List Int) := slices_reverseRangeOrdered_uint32.l0 k l0 a1 (wrap64 (a2 - 1))
theorem slices_reverseRangeOrdered_uint32.mono_l : ∀ k, (∀ y0 y1 y2, LeO (slices_reverseRangeOrdered_uint32.l0 k y0 y1 y2) (slices_reverseRangeOrdered_uint32.l0 (k + 1) y0 y1 y2))
 | 0 => fun _ _ _ r h => by simp [slices_reverseRangeOrdered_uint32.l0] at h
 | k + 1 => by
  have ih0 := slices_reverseRangeOrdered_uint32.mono_l k
  ·intro y0 y1 y2
   unfold slices_reverseRangeOrdered_uint32.l0
   repeat' first
   | (with_reducible exact ih0 _ _ _)
   | (with_reducible exact LeO.refl _)
   | (with_reducible exact LeO.none _)
   | (with_reducible refine LeO.ite ?_ ?_)
   | (with_reducible refine LeO.bind ?_ (fun _ => ?_))
   | exact ih0 _ _ _
   | exact LeO.none _
   | refine LeO.ite ?_ ?_
   | refine LeO.bind ?_ (fun _ => ?_)
theorem slices_reverseRangeOrdered_uint32.mono : ∀ a0 a1 a2 k, LeO (slices_reverseRangeOrdered_uint32.f k a0 a1 a2) (slices_reverseRangeOrdered_uint32.f (k + 1) a0 a1 a2) := by
 intro a0 a1 a2 k
 have ih0 := slices_reverseRangeOrdered_uint32.mono_l k
 unfold slices_reverseRangeOrdered_uint32.f
 repeat' first
   | (with_reducible exact ih0 _ _ _)
   | (with_reducible exact LeO.refl _)
   | (with_reducible exact LeO.none _)
   | (with_reducible refine LeO.ite ?_ ?_)
   | (with_reducible refine LeO.bind ?_ (fun _ => ?_))
   | exact ih0 _ _ _
   | exact LeO.none _
   | refine LeO.ite ?_ ?_
   | refine LeO.bind ?_ (fun _ => ?_)
def slices_reverseRangeOrdered_uint32.T3 : Bool × List (List Nat × List Nat) := (true, [([], []), ([], []), ([], []), ([], []), ([], []), ([], []), ([4, 5], [4, 5]), ([6], [6]), ([], []), ([], []), ([8, 9], [8, 9]), ([10], [10]), ([0, 1, 0, 1, 4, 5, 6, 7, 11], [0, 1]), ([12, 7, 0, 1, 4, 5, 6, 7, 11], [7, 12]), ([2, 3, 0, 1, 2, 3, 4, 5, 6, 7, 8, 9, 10, 11, 12, 13], [2, 3]), ([14, 11, 13, 0, 1, 2, 3, 4, 5, 6, 7, 8, 9, 10, 11, 12, 13], [11, 14])])
def slices_reverseRangeOrdered_uint32.B3 : List Nat := [0, 0, 0, 0, 0, 0, 48, 112, 0, 0, 768, 1792, 4083, 8179, 16383, 32767]
theorem slices_reverseRangeOrdered_uint32.tab3 : rtab .any (opsOf Tryd.f35 3) = slices_reverseRangeOrdered_uint32.T3 := by kernel_rfl
theorem slices_reverseRangeOrdered_uint32.bits3 : waitsOk slices_reverseRangeOrdered_uint32.T3.2 slices_reverseRangeOrdered_uint32.B3 = true := by kernel_rfl
set_option maxHeartbeats 8000000 in
set_option maxRecDepth 100000 in
theorem slices_reverseRangeOrdered_uint32.calls (k : Nat) (P0_ : Nat → Prop) (u9000_ : Value) (l0 : List Int) (a1 : Int) (a2 : Int) (r : List Int) (w0 w : World) (hB : Below w0.heap.size w0 w) (ho0 : Kd.R (Kd.int .u32) 23 w w0.heap.size P0_ u9000_ l0) (h : slices_reverseRangeOrdered_uint32.f k l0 a1 a2 = some r) :
  Calls Tryd.prog 35 #[u9000_, .int .i64 a1, .int .i64 a2] w fun e w' => e = .returned (.tuple #[]) ∧ Kd.R (Kd.int .u32) 23 w' w0.heap.size (fun k_ => (P0_ k_ ∨ w.heap.size ≤ k_)) u9000_ r ∧ Below w0.heap.size w0 w' ∧ Kept w w' (fun k_ => P0_ k_) := by
 have HO0 := Aside0.mk (show Kd.R (Kd.int .u32) 23 w w0.heap.size (fun k_ => (P0_ k_ ∨ w.heap.size ≤ k_)) u9000_ l0 from Kd.R_mono ho0 (fun k_ hk => (.inl hk)))
 have HK := Aside0.mk (Kept.refl w (fun k_ => P0_ k_))
 have HW0 := Aside0.mk hB.size
 have HB := Aside0.mk hB
 clear hB
 have H : (slices_reverseRangeOrdered_uint32.l0 k l0 a1 (wrap64 (a2 - 1))) = some r := h
 clear h
 have H' := Aside0.mk H
 clear H
 go_enter Tryd.func35, Tryd.ntmps35
 go_wp2
 go_loopg [6, 7] k (fun kq v6 v7 w' => ∃ (x0_1 : List Int) (x6_1 : Int) (x7_1 : Int), v6 = .int .i64 x6_1 ∧ v7 = .int .i64 x7_1 ∧ Aside0 (slices_reverseRangeOrdered_uint32.l0 kq x0_1 x6_1 x7_1 = some r) ∧ Aside0 (kq ≤ k) ∧ Aside0 (Kd.R (Kd.int .u32) 23 w' w0.heap.size (fun k_ => (P0_ k_ ∨ w.heap.size ≤ k_)) u9000_ x0_1) ∧ Aside0 (Kept w w' (fun k_ => P0_ k_)) ∧ Aside0 (Below w0.heap.size w0 w'))
 case atStart => exact ⟨(l0), (a1), (wrap64 (a2 - 1)), (by first | rfl | (simp; done) | (simp [*]; done)), (by first | rfl | (simp; done) | (simp [*]; done)), H', ⟨Nat.le_refl _⟩, ⟨by (with_reducible repeat (first | apply Kd.R_alloc | apply Kd.R_drewN | apply Kd.R_drew)); exact HO0.out⟩, ⟨by repeat (first | (with_reducible first | exact HK.out | apply Kept.alloc | apply Kept.drewN | apply Kept.drew) | exact HK.out)⟩, ⟨by repeat (first | (with_reducible first | exact HB.out | apply below_alloc | apply pw_below_drewN | apply below_drew1) | exact HB.out)⟩⟩
 case round =>
  clear H'
  try clear p2; try clear c3
  obtain ⟨x0_1, x6_1, x7_1, rfl, rfl, HA, HK1, HO_0, HK, HB⟩ := hrel
  cases gk with
  | zero => exact absurd HA.out (by simp [slices_reverseRangeOrdered_uint32.l0])
  | succ k1 =>
   have H := HA.out
   clear HA
   simp only [slices_reverseRangeOrdered_uint32.l0] at H
   by_cases c4 : x6_1 < x7_1
   ·rw [if_pos c4] at H
    have c4b0 : decide (x6_1 < x7_1) = true := decide_eq_true c4
    clear c4
    by_cases c5 : 0 ≤ x7_1
    ·rw [if_pos c5] at H
     have c5b0 : decide (0 ≤ x7_1) = true := decide_eq_true c5
     clear c5
     by_cases c6 : x7_1 < (x0_1.length : Int)
     ·rw [if_pos c6] at H
      have c6b0 : decide (x7_1 < (x0_1.length : Int)) = true := decide_eq_true c6
      clear c6
      by_cases c7 : 0 ≤ x6_1
      ·rw [if_pos c7] at H
       have c7b0 : decide (0 ≤ x6_1) = true := decide_eq_true c7
       clear c7
       by_cases c8 : x6_1 < (x0_1.length : Int)
       ·rw [if_pos c8] at H
        have c8b0 : decide (x6_1 < (x0_1.length : Int)) = true := decide_eq_true c8
        clear c8
        obtain ⟨y135, hy135⟩ : ∃ y_ : List Int, y_ = (x0_1.set (x6_1 : Int).toNat (rd x0_1 x7_1)) := ⟨_, rfl⟩
        replace H : (slices_reverseRangeOrdered_uint32.l0 k1 (y135.set (x7_1 : Int).toNat (rd x0_1 x6_1)) (wrap64 (x6_1 + 1)) (wrap64 (x7_1 - 1))) = some r := by first | (rw [hy135]; with_reducible exact H) | (have H2_ := (Option.bind_some _ _).symm.trans H; rw [hy135]; with_reducible exact H2_) | (have H2_ := (Option.bind_some _ _).symm.trans H; with_reducible exact H2_) | with_reducible exact H | (rw [hy135]; exact H) | exact H
        have Ny135 := Aside0.mk hy135
        clear hy135
        obtain ⟨y136, hy136⟩ : ∃ y_ : List Int, y_ = (y135.set (x7_1 : Int).toNat (rd x0_1 x6_1)) := ⟨_, rfl⟩
        replace H : (slices_reverseRangeOrdered_uint32.l0 k1 y136 (wrap64 (x6_1 + 1)) (wrap64 (x7_1 - 1))) = some r := by first | (rw [hy136]; with_reducible exact H) | (have H2_ := (Option.bind_some _ _).symm.trans H; rw [hy136]; with_reducible exact H2_) | (have H2_ := (Option.bind_some _ _).symm.trans H; with_reducible exact H2_) | with_reducible exact H | (rw [hy136]; exact H) | exact H
        have Ny136 := Aside0.mk hy136
        clear hy136
        have H' := Aside0.mk H
        clear H
        try go_wp2
        have n0_ := Aside0.mk (Kd.R_drew HO_0.out)
        have n1_ := Aside0.mk (Kept.drew HK.out)
        have n2_ := Aside0.mk (below_drew1 HB.out)
        clear HO_0
        clear HK
        clear HB
        have HO_0 := n0_
        have HK := n1_
        have HB := n2_
        clear n0_ n1_ n2_
        obtain ⟨Ao12, co12, eo12⟩ := Kd.R_slice HO_0.out
        (first | subst eo12 | (injection eo12 with f1_ f2_ f3_; have f4_ := f1_.symm; have f5_ := f3_.symm; clear f1_ f2_ f3_; subst f4_; subst f5_))
        have p133 : 0 ≤ (x7_1 : Int) := of_decide_eq_true (by first | (with_reducible assumption) | assumption)
        have q133 : x7_1 < (x0_1.length : Int) := of_decide_eq_true (by first | (with_reducible assumption) | assumption)
        obtain ⟨ad133, e133, hx133_0⟩ := Kd.at_int (Kd.R_reads' HO_0.out).2.2 x7_1 p133 q133
        cases e133
        replace p133 := eq_true p133
        replace q133 := eq_true q133
        have p134 : 0 ≤ (x6_1 : Int) := of_decide_eq_true (by first | (with_reducible assumption) | assumption)
        have q134 : x6_1 < (x0_1.length : Int) := of_decide_eq_true (by first | (with_reducible assumption) | assumption)
        obtain ⟨ad134, e134, hx134_0⟩ := Kd.at_int (Kd.R_reads' HO_0.out).2.2 x6_1 p134 q134
        obtain rfl : ad133 = ad134 := (by injection e134)
        replace p134 := eq_true p134
        replace q134 := eq_true q134
        have p9 : 0 ≤ (x6_1 : Int) := of_decide_eq_true (by first | (with_reducible assumption) | assumption)
        have q9 : (x6_1 : Int) < ((x0_1.length : Int) : Int) := of_decide_eq_true (by first | (with_reducible assumption) | assumption)
        obtain ⟨go9, co9, eo9, gb9, gl9, cl9, HG9⟩ := Kd.R_form HO_0.out (by omega)
        (first | cases eo9 | (injection eo9 with ea_ en_ ec_; (first | subst ea_ | (injection ea_ with ea_; subst ea_)); subst ec_; clear en_))
        have GB9 := Aside0.mk gb9
        have GG9 := Aside0.mk HG9
        clear gb9 gl9 HG9
        have HMgo9 := Aside0.mk (show (P0_ go9 ∨ w.heap.size ≤ go9) from (HO_0.out.1 _ rfl))
        (first | simp only [add_plain] at hx133_0 | skip)
        (first | simp only [add_plain] at hx134_0 | skip)
        obtain ⟨hx9_0, hf9_0⟩ := Kd.R_celln 0 HO_0.out (x6_1 : Int) p9 q9
        replace p9 := eq_true p9
        replace q9 := eq_true q9
        have HP13 := Kd.R_putn HO_0.out (x6_1 : Int) (rd x0_1 x7_1)
        rw [← Ny135.out] at HP13
        have HQ13 := Aside0.mk HP13
        clear HP13
        have p10 : 0 ≤ (x7_1 : Int) := of_decide_eq_true (by first | (with_reducible assumption) | assumption)
        have q10 : (x7_1 : Int) < ((x0_1.length : Int) : Int) := of_decide_eq_true (by first | (with_reducible assumption) | assumption)
        obtain ⟨hx10_0, hf10_0⟩ := Kd.R_celln 0 HQ13.out (x7_1 : Int) p10 q10
        replace p10 := eq_true p10
        replace q10 := eq_true q10
        have HP14 := Kd.R_putn HQ13.out (x7_1 : Int) (rd x0_1 x6_1)
        rw [← Ny136.out] at HP14
        have HQ14 := Aside0.mk HP14
        clear HP14
        refine start_ (n := 16) (S := fun w' => w'.cell? ⟨go9, (x7_1).toNat, none⟩ = some (.int .u32 (rd x0_1 x7_1)) ∧ w'.cell? ⟨go9, (x6_1).toNat, none⟩ = some (.int .u32 (rd x0_1 x6_1))) (ds := [13, 15]) b_0_16 (by kernel_rfl) rfl rfl ⟨hx133_0, hx134_0⟩ (fun hHeld => ?_); refine with_tabW slices_reverseRangeOrdered_uint32.tab3 slices_reverseRangeOrdered_uint32.bits3 (fun HT_ HW_ => ?_)
        generalize wr.drew = w11 at HO_0 HK HB GG9 HQ13 HQ14 hf10_0 hf9_0 hx10_0 hx133_0 hx134_0 hx9_0 hHeld ⊢
        refine pure_ (i := 0) (N := some 14) (v := ?_) (a' := ?_) b_8000_16 rfl rfl (any_of HT_.out (by kernel_rfl)) (fun _ _ _ h => h) (Or.inl ⟨by rfl, ?_⟩) ?_ ?_
        rotate_left; · intro w'; go_simp; with_reducible rfl
        rotate_left; · simp only [Act.put, pu1, pu2, pu3, i64_w, i32_w]; rfl
        refine pure_ (i := 1) (N := some 15) (v := ?_) (a' := ?_) b_c000_16 rfl rfl (any_of HT_.out (by kernel_rfl)) (fun _ _ _ h => h) (Or.inl ⟨by rfl, ?_⟩) ?_ ?_
        rotate_left; · intro w'; go_simp; with_reducible rfl
        rotate_left; · simp only [Act.put, pu1, pu2, pu3, i64_w, i32_w]; rfl
        refine pure_ (i := 2) (N := some 16) (v := ?_) (a' := ?_) b_e000_16 rfl rfl (any_of HT_.out (by kernel_rfl)) (fun _ _ _ h => h) (Or.inl ⟨by rfl, ?_⟩) ?_ ?_
        rotate_left; · intro w'; go_simp; with_reducible rfl
        rotate_left; · simp only [Act.put, pu1, pu2, pu3, i64_w, i32_w]; rfl
        refine pure_ (i := 3) (N := some 17) (v := ?_) (a' := ?_) b_f000_16 rfl rfl (any_of HT_.out (by kernel_rfl)) (fun _ _ _ h => h) (Or.inl ⟨by rfl, ?_⟩) ?_ ?_
        rotate_left; · intro w'; go_simp; with_reducible rfl
        rotate_left; · simp only [Act.put, pu1, pu2, pu3, i64_w, i32_w]; rfl
        refine pure_ (i := 4) (N := some 18) (v := ?_) (a' := ?_) b_f800_16 rfl rfl (any_of HT_.out (by kernel_rfl)) (fun _ _ _ h => h) (Or.inl ⟨by rfl, ?_⟩) ?_ ?_
        rotate_left; · intro w'; go_simp; with_reducible rfl
        rotate_left; · simp only [Act.put, pu1, pu2, pu3, i64_w, i32_w]; rfl
        refine pure_ (i := 5) (N := some 19) (v := ?_) (a' := ?_) b_fc00_16 rfl rfl (any_of HT_.out (by kernel_rfl)) (fun _ _ _ h => h) (Or.inl ⟨by rfl, ?_⟩) ?_ ?_
        rotate_left; · intro w'; go_simp; with_reducible rfl
        rotate_left; · simp only [Act.put, pu1, pu2, pu3, i64_w, i32_w]; rfl
        refine pure_ (i := 6) (N := some 20) (v := ?_) (a' := ?_) b_fe00_16 rfl rfl (any_of HT_.out (by kernel_rfl)) (fun _ _ _ h => h) (Or.inl ⟨by rfl, ?_⟩) ?_ ?_
        rotate_left; · intro w'; go_simp; with_reducible rfl
        rotate_left; · simp only [Act.put, pu1, pu2, pu3, i64_w, i32_w]; rfl
        refine pure_ (i := 8) (N := some 22) (v := ?_) (a' := ?_) b_fe80_16 rfl rfl (any_of HT_.out (by kernel_rfl)) (fun _ _ _ h => h) (Or.inl ⟨by rfl, ?_⟩) ?_ ?_
        rotate_left; · intro w'; go_simp; with_reducible rfl
        rotate_left; · simp only [Act.put, pu1, pu2, pu3, i64_w, i32_w]; rfl
        refine pure_ (i := 9) (N := some 23) (v := ?_) (a' := ?_) b_fec0_16 rfl rfl (any_of HT_.out (by kernel_rfl)) (fun _ _ _ h => h) (Or.inl ⟨by rfl, ?_⟩) ?_ ?_
        rotate_left; · intro w'; go_simp; with_reducible rfl
        rotate_left; · simp only [Act.put, pu1, pu2, pu3, i64_w, i32_w]; rfl
        refine pure_ (i := 10) (N := some 24) (v := ?_) (a' := ?_) b_fee0_16 rfl rfl (any_of HT_.out (by kernel_rfl)) (fun _ _ _ h => h) (Or.inl ⟨by rfl, ?_⟩) ?_ ?_
        rotate_left; · intro w'; go_simp; with_reducible rfl
        rotate_left; · simp only [Act.put, pu1, pu2, pu3, i64_w, i32_w]; rfl
        refine take_ (i := 7) (N := some 21) (v := ?_) (a' := ?_) b_ffe0_16 rfl rfl (take_ofW HT_.out HW_.out (by kernel_rfl)) (fun _ _ _ h => h) (Or.inl ⟨by rfl, ?_⟩) hHeld ?_ ?_
        rotate_left; · rintro w' ⟨s0, s1⟩; go_simp; with_reducible rfl
        rotate_left; · simp only [Act.put, pu1, pu2, pu3, i64_w, i32_w]; rfl
        refine take_ (i := 11) (N := some 25) (v := ?_) (a' := ?_) b_fff0_16 rfl rfl (take_ofW HT_.out HW_.out (by kernel_rfl)) (fun _ _ _ h => h) (Or.inl ⟨by rfl, ?_⟩) hHeld ?_ ?_
        rotate_left; · rintro w' ⟨s0, s1⟩; go_simp; with_reducible rfl
        rotate_left; · simp only [Act.put, pu1, pu2, pu3, i64_w, i32_w]; rfl
        refine pure_ (i := 12) (N := some 26) (v := ?_) (a' := ?_) b_fff8_16 rfl rfl (any_of HT_.out (by kernel_rfl)) (fun _ _ _ h => h) (Or.inl ⟨by rfl, ?_⟩) ?_ ?_
        rotate_left; · intro w'; go_simp; with_reducible rfl
        rotate_left; · simp only [Act.put, pu1, pu2, pu3, i64_w, i32_w]; rfl
        refine last_ (i := 13) (N := none) b_fffc_16 rfl rfl (one_of HT_.out (by kernel_rfl)) (by decide) (fun K hK => ?_)
        refine skip_ (w1 := ?_) (by rfl) rfl ?_ ?_
        rotate_left
        ·go_simp
         rfl
        refine hK.out _ _ ?_
        clear hK K
        refine pure_ (i := 14) (N := some 27) (v := ?_) (a' := ?_) b_fffe_16 rfl rfl (any_of HT_.out (by kernel_rfl)) (fun _ _ _ h => h) (Or.inl ⟨by rfl, ?_⟩) ?_ ?_
        rotate_left; · intro w'; go_simp; with_reducible rfl
        rotate_left; · simp only [Act.put, pu1, pu2, pu3, i64_w, i32_w]; rfl
        refine last_ (i := 15) (N := none) b_ffff_16 rfl rfl (one_of HT_.out (by kernel_rfl)) (by decide) (fun K hK => ?_)
        refine skip_ (w1 := ?_) (by rfl) rfl ?_ ?_
        rotate_left
        ·go_simp
         rfl
        refine hK.out _ _ ?_
        clear hK K
        refine done_ (done_of HT_.out (by kernel_rfl)) ?_
        try go_wp2
        go_roundg k1
        case measure => have := HK1.out; omega
        case rel => exact ⟨(y136), (wrap64 (x6_1 + 1)), (wrap64 (x7_1 - 1)), (by first | rfl | (simp; done) | (simp [*]; done)), (by first | rfl | (simp; done) | (simp [*]; done)), H', ⟨by have := HK1.out; omega⟩, ⟨by (with_reducible repeat (first | apply Kd.R_alloc | apply Kd.R_drewN | apply Kd.R_drew)); exact HQ14.out⟩, ⟨by repeat (first | (with_reducible first | exact HK.out | apply Kept.alloc | apply Kept.drewN | apply Kept.drew | refine Kept.setCell ?_ HMgo9.out _ | refine Kept.setCell ?_ HMgo9.out _) | exact HK.out)⟩, ⟨by repeat (first | (with_reducible first | exact HB.out | apply below_alloc | apply pw_below_drewN | apply below_drew1 | refine below_set ?_ GB9.out | refine below_set ?_ GB9.out) | exact HB.out)⟩⟩
       ·rw [if_neg c8] at H; exact absurd H (by simp)
      ·rw [if_neg c7] at H; exact absurd H (by simp)
     ·rw [if_neg c6] at H; exact absurd H (by simp)
    ·rw [if_neg c5] at H; exact absurd H (by simp)
   ·rw [if_neg c4] at H
    have c4b0 : decide (x6_1 < x7_1) = false := decide_eq_false c4
    clear c4
    obtain rfl := Option.some.inj H
    go_wp2
    first | go_end0 | ((try simp only [Exit.inBlock, Exit.then]); refine bodyPost_ret (results_none rfl _ _ _) rfl ?_)
    exact ⟨by first | rfl | (simp [errW_none, errW_some] <;> rfl) | (simp [*, errW_none, errW_some] <;> rfl), by (with_reducible repeat (first | apply Kd.R_alloc | apply Kd.R_drewN | apply Kd.R_drew)); exact HO_0.out, by repeat (first | (with_reducible first | exact HB.out | apply below_alloc | apply pw_below_drewN | apply below_drew1) | exact HB.out), by repeat (first | (with_reducible first | exact HK.out | apply Kept.alloc | apply Kept.drewN | apply Kept.drew) | exact HK.out)⟩

end Go.Proofs.YtpbjabpakkjomaaDoor.S
