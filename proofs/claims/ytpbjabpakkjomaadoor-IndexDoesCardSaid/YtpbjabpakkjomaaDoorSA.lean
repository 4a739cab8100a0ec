/- slices.choosePivotOrdered at uint32, and what it calls, by hand: the calls hand on a pointer to a counter. -/
import Derived.Test.YtpbjabpakkjomaaDoorProg
import Derived.Test.YtpbjabpakkjomaaDoorK
import Derived.Below
import Derived.Tactics
import Derived.WalkKit
import Derived.KernelRfl
import Derived.Deep.QuietTactic
import Derived.BigQuiet
import Derived.RowKit
namespace Go.Proofs.YtpbjabpakkjomaaDoor
open Go.RowKit Go.Proofs.YtpbjabpakkjomaaDoorW.PrintWords Go.Proofs.YtpbjabpakkjomaaDoorW.PrintLast Go.Proofs.YtpbjabpakkjomaaDoorW.PrintMore
set_option linter.unusedVariables false
set_option linter.unusedSimpArgs false

theorem isnan_calls (a : Int) (w : World) : Calls Tryd.prog 47 #[.int .u32 a] w fun e w' => e = .returned (.bool false) ∧ ∃ m, w' = w.drewN m := by
  go_enter Tryd.func47, Tryd.ntmps47
  go_wp2
  go_ret
  exact ⟨by simp, 0, rfl⟩
theorem less_calls (a b : Int) (w : World) : Calls Tryd.prog 37 #[.int .u32 a, .int .u32 b] w fun e w' => e = .returned (.bool (decide (a < b))) ∧ ∃ m, w' = w.drewN m := by
  go_enter Tryd.func37, Tryd.ntmps37
  go_wp2_with ((go_at_call 47; refine (isnan_calls _ _).mono ?_; rintro e w' ⟨rfl, m, rfl⟩))
  go_ret
  exact ⟨by simp, _, rfl⟩

/-- a counter in memory, above what a row of cells takes. -/
structure Count (w0 w : World) (g : Nat) (n : Int) : Prop where
  cell : w.cell? ⟨g, 0, none⟩ = some (.int .i64 n)
  free : w.frozen? ⟨g, 0, none⟩ = false
  new : w0.heap.size ≤ g
  below : Below w0.heap.size w0 w

theorem Count.drew {w0 w : World} {g : Nat} {n : Int} (h : Count w0 w g n) (m : Nat) : Count w0 (w.drewN m) g n := ⟨h.cell, h.free, h.new, pw_below_drewN h.below m⟩
theorem Count.set {w0 w : World} {g : Nat} {n : Int} (h : Count w0 w g n) (k : Int) : Count w0 (w.setCell ⟨g, 0, none⟩ (.int .i64 k)) g k := ⟨World.cell?_setCell_same _ _ _ h.cell, by rw [World.frozen?_setCell]; exact h.free, h.new, below_set h.below h.new⟩
def ord2 (l : List Int) (a b n : Int) : Int × Int × Int := if rd l b < rd l a then (b, a, wrap64 (n + 1)) else (a, b, n)
theorem order2_calls (l : List Int) (A : Option Addr) (c : Nat) (a b n : Int) (g : Nat) (w0 w : World) (hr : (Kd.int .u32).C w0 A l.length l) (hA0 : 0 ≤ a) (hA1 : a < l.length) (hB0 : 0 ≤ b) (hB1 : b < l.length) (hs : Count w0 w g n) :
    Calls Tryd.prog 48 #[.slice A l.length c, .int .i64 a, .int .i64 b, .pointer (some ⟨g, 0, none⟩)] w fun e w' => e = .returned (.tuple #[.int .i64 (ord2 l a b n).1, .int .i64 (ord2 l a b n).2.1]) ∧ Count w0 w' g (ord2 l a b n).2.2 := by
  obtain ⟨ad, rfl, ha⟩ := Kd.at_int hr a hA0 hA1
  obtain ⟨ad', e, hb⟩ := Kd.at_int hr b hB0 hB1
  cases e
  have hcell := hs.cell
  have hfree := hs.free
  have ha' := (hs.below.cell (World.block_lt_of_cell? _ _ ha)).trans ha
  have hb' := (hs.below.cell (World.block_lt_of_cell? _ _ hb)).trans hb
  by_cases h : rd l b < rd l a
  · have hd : decide (rd l b < rd l a) = true := decide_eq_true h
    have e1 : ord2 l a b n = (b, a, wrap64 (n + 1)) := if_pos h
    rw [e1]
    go_enter Tryd.func48, Tryd.ntmps48
    go_wp2
    go_quiet ((go_at_call 37; refine Calls.quiet_of (less_calls _ _ _)))
    go_wp2
    go_ret2
    exact ⟨rfl, (hs.drew _).set _⟩
  · have hd : decide (rd l b < rd l a) = false := decide_eq_false h
    have e1 : ord2 l a b n = (a, b, n) := if_neg h
    rw [e1]
    go_enter Tryd.func48, Tryd.ntmps48
    go_wp2
    go_quiet ((go_at_call 37; refine Calls.quiet_of (less_calls _ _ _)))
    go_wp2
    go_ret2
    exact ⟨rfl, hs.drew _⟩

def med3 (l : List Int) (a b c n : Int) : Int × Int :=
  let x := ord2 l a b n
  let y := ord2 l x.2.1 c x.2.2
  let z := ord2 l x.1 y.1 y.2.2
  (z.2.1, z.2.2)
theorem ord2_in {l : List Int} {a b n : Int} (hA0 : 0 ≤ a) (hA1 : a < l.length) (hB0 : 0 ≤ b) (hB1 : b < l.length) : 0 ≤ (ord2 l a b n).1 ∧ (ord2 l a b n).1 < l.length ∧ 0 ≤ (ord2 l a b n).2.1 ∧ (ord2 l a b n).2.1 < l.length := by
  unfold ord2; split <;> exact ⟨by assumption, by assumption, by assumption, by assumption⟩
theorem med3_in {l : List Int} {a b c n : Int} (hA0 : 0 ≤ a) (hA1 : a < l.length) (hB0 : 0 ≤ b) (hB1 : b < l.length) (hC0 : 0 ≤ c) (hC1 : c < l.length) : 0 ≤ (med3 l a b c n).1 ∧ (med3 l a b c n).1 < l.length := by
  obtain ⟨x1, x2, x3, x4⟩ := @ord2_in l a b n hA0 hA1 hB0 hB1
  obtain ⟨y1, y2, y3, y4⟩ := @ord2_in l (ord2 l a b n).2.1 c (ord2 l a b n).2.2 x3 x4 hC0 hC1
  exact (@ord2_in l (ord2 l a b n).1 (ord2 l (ord2 l a b n).2.1 c (ord2 l a b n).2.2).1 (ord2 l (ord2 l a b n).2.1 c (ord2 l a b n).2.2).2.2 x1 x2 y1 y2).2.2
theorem median_walk (n0 : Nat) (A : Option Addr) (cp : Nat) (a b c n : Int) (g : Nat) (w0 w : World) (xa xb xn ya yb yn za zb zn : Int)
    (n1 : Aside0 (∀ w, Count w0 w g n → Calls Tryd.prog 48 #[.slice A n0 cp, .int .i64 a, .int .i64 b, .pointer (some ⟨g, 0, none⟩)] w fun e w' => e = .returned (.tuple #[.int .i64 xa, .int .i64 xb]) ∧ Count w0 w' g xn))
    (n2 : Aside0 (∀ w, Count w0 w g xn → Calls Tryd.prog 48 #[.slice A n0 cp, .int .i64 xb, .int .i64 c, .pointer (some ⟨g, 0, none⟩)] w fun e w' => e = .returned (.tuple #[.int .i64 ya, .int .i64 yb]) ∧ Count w0 w' g yn))
    (n3 : Aside0 (∀ w, Count w0 w g yn → Calls Tryd.prog 48 #[.slice A n0 cp, .int .i64 xa, .int .i64 ya, .pointer (some ⟨g, 0, none⟩)] w fun e w' => e = .returned (.tuple #[.int .i64 za, .int .i64 zb]) ∧ Count w0 w' g zn))
    (hs : Count w0 w g n) :
    Calls Tryd.prog 46 #[.slice A n0 cp, .int .i64 a, .int .i64 b, .int .i64 c, .pointer (some ⟨g, 0, none⟩)] w fun e w' => e = .returned (.int .i64 zb) ∧ Count w0 w' g zn := by
  have h0 := Aside0.mk hs
  clear hs
  go_enter Tryd.func46, Tryd.ntmps46
  go_wp2_with (first
    | (go_at_call 48; refine (n1.out _ h0.out).mono ?_; rintro e w1 ⟨rfl, h1'⟩; clear h0; have h1 := Aside0.mk h1'; clear h1')
    | (go_at_call 48; refine (n2.out _ h1.out).mono ?_; rintro e w2 ⟨rfl, h2'⟩; clear h1; have h2 := Aside0.mk h2'; clear h2')
    | (go_at_call 48; refine (n3.out _ h2.out).mono ?_; rintro e w3 ⟨rfl, h3'⟩; clear h2; have h3 := Aside0.mk h3'; clear h3'))
  go_ret
  exact ⟨rfl, h3.out⟩
theorem median_calls (l : List Int) (A : Option Addr) (cp : Nat) (a b c n : Int) (g : Nat) (w0 w : World) (hr : (Kd.int .u32).C w0 A l.length l) (hA0 : 0 ≤ a) (hA1 : a < l.length) (hB0 : 0 ≤ b) (hB1 : b < l.length) (hC0 : 0 ≤ c) (hC1 : c < l.length) (hs : Count w0 w g n) :
    Calls Tryd.prog 46 #[.slice A l.length cp, .int .i64 a, .int .i64 b, .int .i64 c, .pointer (some ⟨g, 0, none⟩)] w fun e w' => e = .returned (.int .i64 (med3 l a b c n).1) ∧ Count w0 w' g (med3 l a b c n).2 := by
  obtain ⟨x1, x2, x3, x4⟩ := @ord2_in l a b n hA0 hA1 hB0 hB1
  obtain ⟨y1, y2, y3, y4⟩ := @ord2_in l (ord2 l a b n).2.1 c (ord2 l a b n).2.2 x3 x4 hC0 hC1
  exact median_walk l.length A cp a b c n g w0 w _ _ _ _ _ _ _ _ _ ⟨fun w h => order2_calls l A cp a b n g w0 w hr hA0 hA1 hB0 hB1 h⟩
    ⟨fun w h => order2_calls l A cp (ord2 l a b n).2.1 c _ g w0 w hr x3 x4 hC0 hC1 h⟩
    ⟨fun w h => order2_calls l A cp (ord2 l a b n).1 (ord2 l (ord2 l a b n).2.1 c (ord2 l a b n).2.2).1 (ord2 l (ord2 l a b n).2.1 c (ord2 l a b n).2.2).2.2 g w0 w hr x1 x2 y1 y2 h⟩ hs
theorem medianAdj_calls (l : List Int) (A : Option Addr) (cp : Nat) (a n : Int) (g : Nat) (w0 w : World) (hr : (Kd.int .u32).C w0 A l.length l) (hA0 : 1 ≤ a) (hA1 : a + 1 < l.length) (hA2 : a < 9000000000000000000) (hs : Count w0 w g n) :
    Calls Tryd.prog 45 #[.slice A l.length cp, .int .i64 a, .pointer (some ⟨g, 0, none⟩)] w fun e w' => e = .returned (.int .i64 (med3 l (a - 1) a (a + 1) n).1) ∧ Count w0 w' g (med3 l (a - 1) a (a + 1) n).2 := by
  have n1 := Aside0.mk (median_calls l A cp (a - 1) a (a + 1) n g w0 w hr (by omega) (by omega) (by omega) (by omega) (by omega) (by omega) hs)
  have e1 : wrap64 (a - 1) = a - 1 := IntWalk.wrap64_in _ ⟨by omega, by omega⟩
  have e2 : wrap64 (a + 1) = a + 1 := IntWalk.wrap64_in _ ⟨by omega, by omega⟩
  go_enter Tryd.func45, Tryd.ntmps45
  go_wp2_with ((go_at_call 46; (try simp only [e1, e2]); refine n1.out.mono ?_; rintro e w1 ⟨rfl, h1⟩))
  go_ret
  exact ⟨rfl, by assumption⟩

/-- the swaps' hint. -/
def hintOf (s : Int) : Int := if s = 0 then 1 else if s = 12 then 2 else 0
def pivotOf (l : List Int) (a b : Int) : Int × Int :=
  if 8 ≤ b - a then
    if 50 ≤ b - a then
      let x := med3 l (a + (b - a) / 4 - 1) (a + (b - a) / 4) (a + (b - a) / 4 + 1) 0
      let y := med3 l (a + (b - a) / 4 * 2 - 1) (a + (b - a) / 4 * 2) (a + (b - a) / 4 * 2 + 1) x.2
      let z := med3 l (a + (b - a) / 4 * 3 - 1) (a + (b - a) / 4 * 3) (a + (b - a) / 4 * 3 + 1) y.2
      let m := med3 l x.1 y.1 z.1 z.2
      (m.1, hintOf m.2)
    else
      let m := med3 l (a + (b - a) / 4) (a + (b - a) / 4 * 2) (a + (b - a) / 4 * 3) 0
      (m.1, hintOf m.2)
  else (a + (b - a) / 4 * 2, 1)
theorem med3_in' {l : List Int} (a b c n : Int) (hA : 0 ≤ a ∧ a < l.length) (hB : 0 ≤ b ∧ b < l.length) (hC : 0 ≤ c ∧ c < l.length) : 0 ≤ (med3 l a b c n).1 ∧ (med3 l a b c n).1 < l.length := med3_in hA.1 hA.2 hB.1 hB.2 hC.1 hC.2
theorem count_new (w : World) : Count w (w.alloc (.cells #[.int .i64 0] 3)) w.heap.size 0 :=
  ⟨by simp, by simp, Nat.le_refl _, below_alloc (Below.refl _ _) _⟩
set_option maxHeartbeats 2000000 in
theorem pivot_calls (l : List Int) (A : Option Addr) (cp : Nat) (a b : Int) (w : World) (hr : (Kd.int .u32).C w A l.length l) (hl : l.length ≤ 1000000) (h0 : 0 ≤ a) (h1 : a ≤ b) (h2 : b ≤ l.length) (h3 : b - a ≠ 0) :
    Calls Tryd.prog 34 #[.slice A l.length cp, .int .i64 a, .int .i64 b] w fun e w' => e = .returned (.tuple #[.int .i64 (pivotOf l a b).1, .int .i64 (pivotOf l a b).2]) ∧ Below w.heap.size w w' := by
  have e1 : wrap64 (b - a) = b - a := IntWalk.wrap64_in _ ⟨by omega, by omega⟩
  have e2 : Int.tdiv (b - a) 4 = (b - a) / 4 := Int.tdiv_eq_ediv_of_nonneg (by omega)
  have e3 : wrap64 ((b - a) / 4) = (b - a) / 4 := IntWalk.wrap64_in _ ⟨by omega, by omega⟩
  have e4 : wrap64 ((b - a) / 4 * 2) = (b - a) / 4 * 2 := IntWalk.wrap64_in _ ⟨by omega, by omega⟩
  have e5 : wrap64 ((b - a) / 4 * 3) = (b - a) / 4 * 3 := IntWalk.wrap64_in _ ⟨by omega, by omega⟩
  have e6 : wrap64 (a + (b - a) / 4) = a + (b - a) / 4 := IntWalk.wrap64_in _ ⟨by omega, by omega⟩
  have e7 : wrap64 (a + (b - a) / 4 * 2) = a + (b - a) / 4 * 2 := IntWalk.wrap64_in _ ⟨by omega, by omega⟩
  have e8 : wrap64 (a + (b - a) / 4 * 3) = a + (b - a) / 4 * 3 := IntWalk.wrap64_in _ ⟨by omega, by omega⟩
  by_cases h8 : 8 ≤ b - a
  · have d8 : decide (8 ≤ b - a) = true := decide_eq_true h8
    by_cases h50 : 50 ≤ b - a
    · have d50 : decide (50 ≤ b - a) = true := decide_eq_true h50
      have n1 := fun w' hs => medianAdj_calls l A cp (a + (b - a) / 4) 0 w.heap.size w w' hr (by omega) (by omega) (by omega) hs
      have i1 := @med3_in' l (a + (b - a) / 4 - 1) (a + (b - a) / 4) (a + (b - a) / 4 + 1) 0 (by omega) (by omega) (by omega)
      have ep : pivotOf l a b = (let x := med3 l (a + (b - a) / 4 - 1) (a + (b - a) / 4) (a + (b - a) / 4 + 1) 0
        let y := med3 l (a + (b - a) / 4 * 2 - 1) (a + (b - a) / 4 * 2) (a + (b - a) / 4 * 2 + 1) x.2
        let z := med3 l (a + (b - a) / 4 * 3 - 1) (a + (b - a) / 4 * 3) (a + (b - a) / 4 * 3 + 1) y.2
        let m := med3 l x.1 y.1 z.1 z.2
        (m.1, hintOf m.2)) := by unfold pivotOf; rw [if_pos h8, if_pos h50]
      rw [ep]
      dsimp only
      clear ep
      generalize med3 l (a + (b - a) / 4 - 1) (a + (b - a) / 4) (a + (b - a) / 4 + 1) 0 = x at *
      obtain ⟨xj, xs⟩ := x
      dsimp only at *
      have n2 := fun w' hs => medianAdj_calls l A cp (a + (b - a) / 4 * 2) xs w.heap.size w w' hr (by omega) (by omega) (by omega) hs
      have i2 := @med3_in' l (a + (b - a) / 4 * 2 - 1) (a + (b - a) / 4 * 2) (a + (b - a) / 4 * 2 + 1) xs (by omega) (by omega) (by omega)
      generalize med3 l (a + (b - a) / 4 * 2 - 1) (a + (b - a) / 4 * 2) (a + (b - a) / 4 * 2 + 1) xs = y at *
      obtain ⟨yj, ys⟩ := y
      dsimp only at *
      have n3 := fun w' hs => medianAdj_calls l A cp (a + (b - a) / 4 * 3) ys w.heap.size w w' hr (by omega) (by omega) (by omega) hs
      have i3 := @med3_in' l (a + (b - a) / 4 * 3 - 1) (a + (b - a) / 4 * 3) (a + (b - a) / 4 * 3 + 1) ys (by omega) (by omega) (by omega)
      generalize med3 l (a + (b - a) / 4 * 3 - 1) (a + (b - a) / 4 * 3) (a + (b - a) / 4 * 3 + 1) ys = z at *
      obtain ⟨zj, zs⟩ := z
      dsimp only at *
      have n4 := fun w' hs => median_calls l A cp xj yj zj zs w.heap.size w w' hr i1.1 i1.2 i2.1 i2.2 i3.1 i3.2 hs
      generalize med3 l xj yj zj zs = m at *
      obtain ⟨j, s⟩ := m
      dsimp only at *
      have n0 := Aside0.mk (count_new w)
      have n1 := Aside0.mk n1
      have n2 := Aside0.mk n2
      have n3 := Aside0.mk n3
      have n4 := Aside0.mk n4
      clear hr hl h2 i1 i2 i3
      rcases Decidable.em (s = 0) with hs | hs <;> rcases Decidable.em (s = 12) with hs' | hs'
      all_goals (go_enter Tryd.func34, Tryd.ntmps34)
      all_goals (go_wp2_with (first
        | (go_at_call 45; (try simp only [e6, e7, e8]); refine (n1.out _ n0.out).mono ?_; rintro e w1 ⟨rfl, g1⟩; clear n0; have m1 := Aside0.mk g1; clear g1)
        | (go_at_call 45; (try simp only [e6, e7, e8]); refine (n2.out _ m1.out).mono ?_; rintro e w2 ⟨rfl, g2⟩; clear m1; have m2 := Aside0.mk g2; clear g2)
        | (go_at_call 45; (try simp only [e6, e7, e8]); refine (n3.out _ m2.out).mono ?_; rintro e w3 ⟨rfl, g3⟩; clear m2; have m3 := Aside0.mk g3; clear g3)
        | (go_at_call 46; (try simp only [e6, e7, e8]); refine (n4.out _ m3.out).mono ?_; rintro e w4 ⟨rfl, g4⟩; clear m3; have hcell := g4.cell; have m4 := Aside0.mk g4; clear g4)))
      all_goals go_ret2
      all_goals exact ⟨by simp [hintOf, hs, hs'], m4.out.below⟩
    · have d50 : decide (50 ≤ b - a) = false := decide_eq_false h50
      have ep : pivotOf l a b = ((med3 l (a + (b - a) / 4) (a + (b - a) / 4 * 2) (a + (b - a) / 4 * 3) 0).1, hintOf (med3 l (a + (b - a) / 4) (a + (b - a) / 4 * 2) (a + (b - a) / 4 * 3) 0).2) := by unfold pivotOf; rw [if_pos h8, if_neg h50]
      rw [ep]
      have n1 := fun w' hs => median_calls l A cp (a + (b - a) / 4) (a + (b - a) / 4 * 2) (a + (b - a) / 4 * 3) 0 w.heap.size w w' hr (by omega) (by omega) (by omega) (by omega) (by omega) (by omega) hs
      generalize med3 l (a + (b - a) / 4) (a + (b - a) / 4 * 2) (a + (b - a) / 4 * 3) 0 = m at *
      obtain ⟨j, s⟩ := m
      have n1 := Aside0.mk n1
      have n0 := Aside0.mk (count_new w)
      clear hr hl h2 ep
      dsimp only at n1 ⊢
      rcases Decidable.em (s = 0) with hs | hs <;> rcases Decidable.em (s = 12) with hs' | hs'
      all_goals (go_enter Tryd.func34, Tryd.ntmps34)
      all_goals (go_wp2_with ((go_at_call 46; (try simp only [e6, e7, e8]); refine (n1.out _ n0.out).mono ?_; rintro e w1 ⟨rfl, h1z⟩; have hcell := h1z.cell; have h1z := Aside0.mk h1z)))
      all_goals go_ret2
      all_goals exact ⟨by simp [hintOf, hs, hs'], h1z.out.below⟩
  · have d8 : decide (8 ≤ b - a) = false := decide_eq_false h8
    have ep : pivotOf l a b = (a + (b - a) / 4 * 2, 1) := by unfold pivotOf; rw [if_neg h8]
    rw [ep]
    have n0 := Aside0.mk (count_new w)
    clear hr hl h2 ep
    go_enter Tryd.func34, Tryd.ntmps34
    go_wp2
    go_ret2
    exact ⟨by simp [e7], n0.out.below⟩
end Go.Proofs.YtpbjabpakkjomaaDoor
