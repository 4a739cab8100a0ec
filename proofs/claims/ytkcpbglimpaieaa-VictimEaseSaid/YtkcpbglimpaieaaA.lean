/- The comparison of two zones (closures of victim.ordered, cmp.Compare, cmp.Or): what each call answers. -/
import Derived.Test.YtkcpbglimpaieaaProg
import Derived.WalkKit
import Derived.WalkLawsBesides
import Derived.Deep.QuietTactic
import Derived.BigQuiet
import Derived.Outline
import Derived.Deep.RegionHeld3
import Derived.Shelf.SlSortCmp.WholeK
namespace Go.Proofs.Ytkcpbglimpaieaa
open Go.RowKit

structure Z where
  id : Int
  va : Int
  ag : Int

def Z.c (z : Z) : List Value := [.int .i64 z.id, .int .i64 z.va, .int .u32 z.ag]
def Z.v (z : Z) : Value := .agg #[.int .i64 z.id, .int .i64 z.va, .int .u32 z.ag]
structure Z.ok (P : Nat) (z : Z) : Prop where
  v0 : 0 ≤ z.va
  v1 : z.va ≤ P
  a0 : 0 ≤ z.ag
  a1 : z.ag ≤ 4294967295

theorem cell_alloc_old {W : World} {p : Addr} {v : Value} (h : W.cell? p = some v) (o : Obj) : (W.alloc o).cell? p = some v := by
  have hb := World.block_lt_of_cell? W p h
  exact ((Below.refl W.heap.size W).alloc (Nat.le_refl _) o).cell hb |>.trans h

/-- the greater the better: of z, held against y. -/
def good (P : Int) (z y : Z) : Int := (z.ag + 1) * (P - z.va) * (y.va + 1)
theorem good_bounds {P : Nat} (hP : P ≤ 16) {z y : Z} (hz : z.ok P) (hy : y.ok P) : 0 ≤ (z.ag + 1) * ((P : Int) - z.va) ∧ (z.ag + 1) * ((P : Int) - z.va) ≤ 68719476736 ∧ 0 ≤ good P z y ∧ good P z y ≤ 1168231104512 := by
  have h1 : 0 ≤ (z.ag + 1) * ((P : Int) - z.va) := Int.mul_nonneg (by have := hz.a0; omega) (by have := hz.v1; omega)
  have h2 : (z.ag + 1) * ((P : Int) - z.va) ≤ 4294967296 * 16 :=
    Int.mul_le_mul (by have := hz.a1; omega) (by have := hz.v0; omega) (by have := hz.v1; omega) (by omega)
  have h3 : (z.ag + 1) * ((P : Int) - z.va) * (y.va + 1) ≤ (4294967296 * 16) * 17 :=
    Int.mul_le_mul h2 (by have := hy.v1; omega) (by have := hy.v0; omega) (by omega)
  exact ⟨h1, by omega, Int.mul_nonneg h1 (by have := hy.v0; omega), by unfold good; omega⟩

structure Hd (p : Prop) : Prop where mk :: (out : p)

set_option maxHeartbeats 1000000 in
theorem good_calls {P : Nat} (hP : P ≤ 16) {z y : Z} (hz : z.ok P) (hy : y.ok P) (Bp : Nat) (W : World) (hc : W.cell? ⟨Bp, 0, none⟩ = some (.int .i64 P)) :
    Calls Try.prog 18 #[z.v, y.v, .pointer (some ⟨Bp, 0, none⟩)] W fun e w' => e = .returned (.int .u64 (good P z y)) ∧ (W.alloc (.cells #[.int .i64 z.id, .int .i64 z.va, .int .u32 z.ag] 29)).alloc (.cells #[.int .i64 y.id, .int .i64 y.va, .int .u32 y.ag] 29) = w' := by
  have hcx : ((W.alloc (.cells #[.int .i64 z.id, .int .i64 z.va, .int .u32 z.ag] 29)).alloc (.cells #[.int .i64 y.id, .int .i64 y.va, .int .u32 y.ag] 29)).cell? ⟨Bp, 0, none⟩ = some (.int .i64 P) := cell_alloc_old (cell_alloc_old hc _) _
  obtain ⟨b1, b2, b3, b4⟩ := good_bounds hP hz hy
  obtain ⟨v0, v1, a0, a1⟩ := hz
  obtain ⟨w0, w1, c0, c1⟩ := hy
  unfold Z.v
  clear hc
  unfold good at *
  go_enter Try.func18, Try.ntmps18
  go_wp2
  go_ret
  exact ⟨rfl, rfl⟩

set_option maxHeartbeats 1000000 in
theorem nan_i (x : Int) (W : World) : Calls Try.prog 29 #[.int .i64 x] W fun e w' => e = .returned (.bool false) ∧ W = w' := by
  go_enter Try.func29, Try.ntmps29
  go_wp2
  go_ret
  simp
set_option maxHeartbeats 1000000 in
theorem nan_u (x : Int) (W : World) : Calls Try.prog 30 #[.int .u64 x] W fun e w' => e = .returned (.bool false) ∧ W = w' := by
  go_enter Try.func30, Try.ntmps30
  go_wp2
  go_ret
  simp

def cmpI (x y : Int) : Int := if x < y then -1 else if y < x then 1 else 0
set_option maxHeartbeats 1000000 in
theorem cmp_i (x y : Int) (W : World) : Calls Try.prog 22 #[.int .i64 x, .int .i64 y] W fun e w' => e = .returned (.int .i64 (cmpI x y)) ∧ W = w' := by
  unfold cmpI
  by_cases h1 : x < y
  · rw [if_pos h1]
    go_enter Try.func22, Try.ntmps22
    go_wp2_with (go_at_call 29; refine (nan_i _ _).mono ?_; rintro e w' ⟨rfl, rfl⟩)
    go_ret
    simp
  · rw [if_neg h1]
    by_cases h2 : y < x
    · rw [if_pos h2]
      go_enter Try.func22, Try.ntmps22
      go_wp2_with (go_at_call 29; refine (nan_i _ _).mono ?_; rintro e w' ⟨rfl, rfl⟩)
      go_ret
      simp
    · rw [if_neg h2]
      go_enter Try.func22, Try.ntmps22
      go_wp2_with (go_at_call 29; refine (nan_i _ _).mono ?_; rintro e w' ⟨rfl, rfl⟩)
      go_ret
      simp
set_option maxHeartbeats 1000000 in
theorem cmp_u (x y : Int) (W : World) : Calls Try.prog 23 #[.int .u64 x, .int .u64 y] W fun e w' => e = .returned (.int .i64 (cmpI x y)) ∧ W = w' := by
  unfold cmpI
  by_cases h1 : x < y
  · rw [if_pos h1]
    go_enter Try.func23, Try.ntmps23
    go_wp2_with (go_at_call 30; refine (nan_u _ _).mono ?_; rintro e w' ⟨rfl, rfl⟩)
    go_ret
    simp
  · rw [if_neg h1]
    by_cases h2 : y < x
    · rw [if_pos h2]
      go_enter Try.func23, Try.ntmps23
      go_wp2_with (go_at_call 30; refine (nan_u _ _).mono ?_; rintro e w' ⟨rfl, rfl⟩)
      go_ret
      simp
    · rw [if_neg h2]
      go_enter Try.func23, Try.ntmps23
      go_wp2_with (go_at_call 30; refine (nan_u _ _).mono ?_; rintro e w' ⟨rfl, rfl⟩)
      go_ret
      simp

def orI (x y : Int) : Int := if x = 0 then y else x
set_option maxHeartbeats 1000000 in
theorem or_calls (x y : Int) (B : Nat) (W : World) (h0 : W.cell? ⟨B, 0, none⟩ = some (.int .i64 x)) (h1 : W.cell? ⟨B, 1, none⟩ = some (.int .i64 y)) :
    Calls Try.prog 24 #[.slice (some ⟨B, 0, none⟩) 2 2] W fun e w' => e = .returned (.int .i64 (orI x y)) ∧ W = w' := by
  go_enter Try.func24, Try.ntmps24
  go_wp2
  go_loop [5, 8] (fun _ i => ∃ k : Nat, k ≤ 2 ∧ i = .int .i64 k ∧ (1 ≤ k → x = 0) ∧ (2 ≤ k → y = 0)) (fun _ i => 2 - (intOf i).toNat)
  case atStart => exact ⟨0, by omega, rfl, by omega, by omega⟩
  case round =>
    obtain ⟨k, hk, rfl, hx0, hy0⟩ := hrel
    have hxx := Hd.mk hx0
    have hyy := Hd.mk hy0
    clear hx0 hy0
    match k, hk with
    | 0, _ =>
      by_cases hx : x = 0
      · have hb : (x != 0) = false := by simp [hx]
        have HX := Hd.mk hx
        clear hx
        go_wp2
        go_round
        case rel => exact ⟨1, by omega, by go_num, fun _ => HX.out, by omega⟩
        case measure => simp [intOf]
      · have hb : (x != 0) = true := by simp [hx]
        go_wp2
        go_ret
        exact ⟨by simp [orI, hx], rfl⟩
    | 1, _ =>
      have hx := hxx.out (by omega)
      clear hx
      by_cases hy : y = 0
      · have hb : (y != 0) = false := by simp [hy]
        have HY := Hd.mk hy
        have HX := Hd.mk (hxx.out (by omega))
        clear hy
        go_wp2
        go_round
        case rel => exact ⟨2, by omega, by go_num, fun _ => HX.out, fun _ => HY.out⟩
        case measure => simp [intOf]
      · have hb : (y != 0) = true := by simp [hy]
        go_wp2
        go_ret
        exact ⟨by simp [orI, hxx.out (by omega)], rfl⟩
    | 2, _ =>
      have hx := hxx.out (by omega)
      have hy := hyy.out (by omega)
      have HX := Hd.mk hx
      have HY := Hd.mk hy
      clear hx hy
      go_wp2
      go_ret
      exact ⟨by simp [orI, HX.out, HY.out], rfl⟩

def cf (pol : Int) (P : Nat) (x y : Z) : Int := orI (if pol = 0 then cmpI x.va y.va else cmpI (good P y x) (good P x y)) (cmpI x.id y.id)

/-- only new blocks, and draws. -/
def Lays (W w' : World) : Prop := ∃ q os', w' = Sort.grow (W.drewN q) os'

theorem cell_at_new (W : World) (cs : Array Value) (t n i : Nat) (hn : n = W.heap.size) : (W.alloc (.cells cs t)).cell? ⟨n, i, none⟩ = cs[i]? := by
  subst hn
  exact cell_of_row _ _ i cs t (0, 0) (heap_alloc_new W _)
theorem Lays.refl (W : World) : Lays W W := ⟨0, #[], by simp [Sort.grow, World.drewN]⟩
theorem Lays.alloc {W w' : World} (h : Lays W w') (o : Obj) : Lays W (w'.alloc o) := by
  obtain ⟨q, os, rfl⟩ := h
  exact ⟨q, os.push o, by simp [Sort.grow, World.alloc]⟩
theorem Lays.drewN {W w' : World} (h : Lays W w') (n : Nat) : Lays W (w'.drewN n) := by
  obtain ⟨q, os, rfl⟩ := h
  exact ⟨q + n, os, by simp [Sort.grow, World.drewN, Nat.add_assoc]⟩
theorem Lays.drew {W w' : World} (h : Lays W w') : Lays W w'.drew := h.drewN 1
theorem Lays.trans {A B C : World} (h : Lays A B) (k : Lays B C) : Lays A C := by
  obtain ⟨q, os, rfl⟩ := h
  obtain ⟨r, os', rfl⟩ := k
  exact ⟨q + r, os ++ os', by simp [Sort.grow, World.drewN, Nat.add_assoc]⟩
theorem Lays.cell {A B : World} (h : Lays A B) {p : Addr} {v : Value} (hc : A.cell? p = some v) : B.cell? p = some v := by
  obtain ⟨q, os, rfl⟩ := h
  have hb := World.block_lt_of_cell? A p hc
  rw [← hc]
  refine World.cell?_of_block ?_
  simp [Sort.grow, World.drewN, Array.getElem?_append, hb]

set_option maxHeartbeats 2000000 in
theorem cmp0_calls {P : Nat} (x y : Z) (Bq Bg : Nat) (W : World) (hq : W.cell? ⟨Bq, 0, none⟩ = some (.int .i64 0)) :
    Calls Try.prog 21 #[x.v, y.v, .pointer (some ⟨Bq, 0, none⟩), .pointer (some ⟨Bg, 0, none⟩)] W fun e w' => e = .returned (.int .i64 (cf 0 P x y)) ∧ Lays W w' := by
  have hcx : ((W.alloc (.cells #[.int .i64 x.id, .int .i64 x.va, .int .u32 x.ag] 29)).alloc (.cells #[.int .i64 y.id, .int .i64 y.va, .int .u32 y.ag] 29)).cell? ⟨Bq, 0, none⟩ = some (.int .i64 0) := cell_alloc_old (cell_alloc_old hq _) _
  have hl := ((((Lays.refl W).alloc (.cells #[.int .i64 x.id, .int .i64 x.va, .int .u32 x.ag] 29)).alloc (.cells #[.int .i64 y.id, .int .i64 y.va, .int .u32 y.ag] 29)).alloc (.cells #[.int .i64 (cmpI x.va y.va), .int .i64 (cmpI x.id y.id)] 3))
  have HL := Hd.mk hl
  unfold Z.v
  clear hq hl
  go_enter Try.func21, Try.ntmps21
  go_wp2_with (first | (go_at_call 22; refine (cmp_i _ _ _).mono ?_; rintro e w' ⟨rfl, rfl⟩) | (go_at_call 24; refine (or_calls (cmpI x.va y.va) (cmpI x.id y.id) _ _ (cell_at_new _ _ _ _ 0 (by simp)) (cell_at_new _ _ _ _ 1 (by simp))).mono ?_; rintro e w' ⟨rfl, rfl⟩))
  go_ret
  exact ⟨by simp [cf], HL.out⟩
theorem good_lays {P : Nat} (hP : P ≤ 16) {z y : Z} (hz : z.ok P) (hy : y.ok P) (Bp : Nat) (W : World) (hc : W.cell? ⟨Bp, 0, none⟩ = some (.int .i64 P)) :
    Calls Try.prog 18 #[.agg #[.int .i64 z.id, .int .i64 z.va, .int .u32 z.ag], .agg #[.int .i64 y.id, .int .i64 y.va, .int .u32 y.ag], .pointer (some ⟨Bp, 0, none⟩)] W fun e w' => e = .returned (.int .u64 (good P z y)) ∧ Lays W w' :=
  (good_calls hP hz hy Bp W hc).mono fun _ _ ⟨he, hw⟩ => ⟨he, hw ▸ ((Lays.refl W).alloc _).alloc _⟩

set_option maxHeartbeats 2000000 in
theorem cmp1_calls {P : Nat} (hP : P ≤ 16) (pol : Int) (hpol : pol ≠ 0) (x y : Z) (hx : x.ok P) (hy : y.ok P) (Bq Bg Bp : Nat) (W : World) (hq : W.cell? ⟨Bq, 0, none⟩ = some (.int .i64 pol)) 
    (hg : W.cell? ⟨Bg, 0, none⟩ = some (.func (.func 18) #[] #[.pointer (some ⟨Bp, 0, none⟩)])) (hp : W.cell? ⟨Bp, 0, none⟩ = some (.int .i64 P)) :
    Calls Try.prog 21 #[x.v, y.v, .pointer (some ⟨Bq, 0, none⟩), .pointer (some ⟨Bg, 0, none⟩)] W fun e w' => e = .returned (.int .i64 (cf pol P x y)) ∧ Lays W w' := by
  obtain ⟨W2, hW2⟩ : ∃ W2, (W.alloc (.cells #[.int .i64 x.id, .int .i64 x.va, .int .u32 x.ag] 29)).alloc (.cells #[.int .i64 y.id, .int .i64 y.va, .int .u32 y.ag] 29) = W2 := ⟨_, rfl⟩
  have hq2 : W2.cell? ⟨Bq, 0, none⟩ = some (.int .i64 pol) := by rw [← hW2]; exact cell_alloc_old (cell_alloc_old hq _) _
  have hg2 : W2.cell? ⟨Bg, 0, none⟩ = some (.func (.func 18) #[] #[.pointer (some ⟨Bp, 0, none⟩)]) := by rw [← hW2]; exact cell_alloc_old (cell_alloc_old hg _) _
  have hp2 : W2.cell? ⟨Bp, 0, none⟩ = some (.int .i64 P) := by rw [← hW2]; exact cell_alloc_old (cell_alloc_old hp _) _
  have hne : (pol != 0) = true := by simp [hpol]
  have x0 : W2.cell? ⟨W.heap.size, 0, none⟩ = some (.int .i64 x.id) := by rw [← hW2]; exact cell_alloc_old (cell_at_new _ _ _ _ 0 rfl) _
  have x1 : W2.cell? ⟨W.heap.size, 1, none⟩ = some (.int .i64 x.va) := by rw [← hW2]; exact cell_alloc_old (cell_at_new _ _ _ _ 1 rfl) _
  have x2 : W2.cell? ⟨W.heap.size, 2, none⟩ = some (.int .u32 x.ag) := by rw [← hW2]; exact cell_alloc_old (cell_at_new _ _ _ _ 2 rfl) _
  have y0 : W2.cell? ⟨W.heap.size + 1, 0, none⟩ = some (.int .i64 y.id) := by rw [← hW2]; exact cell_at_new _ _ _ _ 0 (by simp)
  have y1 : W2.cell? ⟨W.heap.size + 1, 1, none⟩ = some (.int .i64 y.va) := by rw [← hW2]; exact cell_at_new _ _ _ _ 1 (by simp)
  have y2 : W2.cell? ⟨W.heap.size + 1, 2, none⟩ = some (.int .u32 y.ag) := by rw [← hW2]; exact cell_at_new _ _ _ _ 2 (by simp)
  have HL := Hd.mk (show Lays W W2 from hW2 ▸ ((Lays.refl W).alloc _).alloc _)
  have HP := Hd.mk hpol
  clear hq hg hp hpol
  have H2 := Hd.mk hW2
  clear hW2
  unfold Z.v
  go_enter Try.func21, Try.ntmps21
  go_wp2_with fail
  rw [H2.out]
  go_wp2_with (first | (go_at_call 22; refine (cmp_i _ _ _).mono ?_; rintro e w' ⟨rfl, rfl⟩))
  go_region_held3 (fun w' => w'.cell? ⟨Bg, 0, none⟩ = some (.func (.func 18) #[] #[.pointer (some ⟨Bp, 0, none⟩)]) ∧ w'.cell? ⟨Bp, 0, none⟩ = some (.int .i64 P) ∧ w'.cell? ⟨W.heap.size, 0, none⟩ = some (.int .i64 x.id) ∧ w'.cell? ⟨W.heap.size, 1, none⟩ = some (.int .i64 x.va) ∧ w'.cell? ⟨W.heap.size, 2, none⟩ = some (.int .u32 x.ag) ∧ w'.cell? ⟨W.heap.size + 1, 0, none⟩ = some (.int .i64 y.id) ∧ w'.cell? ⟨W.heap.size + 1, 1, none⟩ = some (.int .i64 y.va) ∧ w'.cell? ⟨W.heap.size + 1, 2, none⟩ = some (.int .u32 y.ag)) (first | exact ⟨by assumption, by assumption, by assumption, by assumption, by assumption, by assumption, by assumption, by assumption⟩)
    (first
      | (go_at_call 18; (with_reducible refine (good_lays hP hy hx Bp _ ?_).mono ?_); assumption; rintro e w' ⟨rfl, hlay⟩; obtain ⟨f1, f2, f3, f4, f5, f6, f7, f8⟩ : w'.cell? ⟨Bg, 0, none⟩ = some (.func (.func 18) #[] #[.pointer (some ⟨Bp, 0, none⟩)]) ∧ w'.cell? ⟨Bp, 0, none⟩ = some (.int .i64 P) ∧ w'.cell? ⟨W.heap.size, 0, none⟩ = some (.int .i64 x.id) ∧ w'.cell? ⟨W.heap.size, 1, none⟩ = some (.int .i64 x.va) ∧ w'.cell? ⟨W.heap.size, 2, none⟩ = some (.int .u32 x.ag) ∧ w'.cell? ⟨W.heap.size + 1, 0, none⟩ = some (.int .i64 y.id) ∧ w'.cell? ⟨W.heap.size + 1, 1, none⟩ = some (.int .i64 y.va) ∧ w'.cell? ⟨W.heap.size + 1, 2, none⟩ = some (.int .u32 y.ag) := ⟨hlay.cell (by assumption), hlay.cell (by assumption), hlay.cell (by assumption), hlay.cell (by assumption), hlay.cell (by assumption), hlay.cell (by assumption), hlay.cell (by assumption), hlay.cell (by assumption)⟩)
      | (go_at_call 18; (with_reducible refine (good_lays hP hx hy Bp _ ?_).mono ?_); assumption; rintro e w' ⟨rfl, hlay⟩; obtain ⟨f1, f2, f3, f4, f5, f6, f7, f8⟩ : w'.cell? ⟨Bg, 0, none⟩ = some (.func (.func 18) #[] #[.pointer (some ⟨Bp, 0, none⟩)]) ∧ w'.cell? ⟨Bp, 0, none⟩ = some (.int .i64 P) ∧ w'.cell? ⟨W.heap.size, 0, none⟩ = some (.int .i64 x.id) ∧ w'.cell? ⟨W.heap.size, 1, none⟩ = some (.int .i64 x.va) ∧ w'.cell? ⟨W.heap.size, 2, none⟩ = some (.int .u32 x.ag) ∧ w'.cell? ⟨W.heap.size + 1, 0, none⟩ = some (.int .i64 y.id) ∧ w'.cell? ⟨W.heap.size + 1, 1, none⟩ = some (.int .i64 y.va) ∧ w'.cell? ⟨W.heap.size + 1, 2, none⟩ = some (.int .u32 y.ag) := ⟨hlay.cell (by assumption), hlay.cell (by assumption), hlay.cell (by assumption), hlay.cell (by assumption), hlay.cell (by assumption), hlay.cell (by assumption), hlay.cell (by assumption), hlay.cell (by assumption)⟩)
      | (go_at_call 23; refine (cmp_u _ _ _).mono ?_; rintro e w' ⟨rfl, rfl⟩))
  go_wp2_with (first | (go_at_call 22; refine (cmp_i _ _ _).mono ?_; rintro e w' ⟨rfl, rfl⟩) | (go_at_call 24; refine (or_calls (cmpI (good P y x) (good P x y)) (cmpI x.id y.id) _ _ (cell_at_new _ _ _ _ 0 rfl) (cell_at_new _ _ _ _ 1 rfl)).mono ?_; rintro e w' ⟨rfl, rfl⟩))
  go_ret
  exact ⟨by simp [cf, HP.out], ((HL.out.drew.trans ‹Lays W2.drew _›).trans (by assumption)).alloc _⟩
theorem cmp_calls {P : Nat} (hP : P ≤ 16) (pol : Int) (x y : Z) (hx : x.ok P) (hy : y.ok P) (Bq Bg Bp : Nat) (W : World) (hq : W.cell? ⟨Bq, 0, none⟩ = some (.int .i64 pol)) 
    (hg : W.cell? ⟨Bg, 0, none⟩ = some (.func (.func 18) #[] #[.pointer (some ⟨Bp, 0, none⟩)])) (hp : W.cell? ⟨Bp, 0, none⟩ = some (.int .i64 P)) :
    Calls Try.prog 21 #[x.v, y.v, .pointer (some ⟨Bq, 0, none⟩), .pointer (some ⟨Bg, 0, none⟩)] W fun e w' => e = .returned (.int .i64 (cf pol P x y)) ∧ Lays W w' := by
  by_cases h : pol = 0
  · subst h
    exact cmp0_calls x y Bq Bg W hq
  · exact cmp1_calls hP pol h x y hx hy Bq Bg Bp W hq hg hp
end Go.Proofs.Ytkcpbglimpaieaa
