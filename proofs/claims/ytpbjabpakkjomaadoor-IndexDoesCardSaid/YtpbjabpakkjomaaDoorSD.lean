/- slices.breakPatternsOrdered at uint32, by hand. -/
import Derived.Test.YtpbjabpakkjomaaDoorK
import Derived.Test.YtpbjabpakkjomaaDoorSC
import Derived.Deep.LoopGhost
import Derived.BigRegion
namespace Go.Proofs.YtpbjabpakkjomaaDoor
open Go.RowKit Go.Proofs.YtpbjabpakkjomaaDoorW.PrintWords Go.Proofs.YtpbjabpakkjomaaDoorW.PrintLast Go.Proofs.YtpbjabpakkjomaaDoorW.PrintMore
set_option linter.unusedVariables false
set_option linter.unusedSimpArgs false

theorem R_under {W W' : World} {base g' : Nat} {ok : Nat → Prop} {u : Value} {l : List Int} (h : (Kd.int .u32).R 23 W base ok u l) (hg : ∀ k, u.ownBlock = some k → k < g') (hb : Below g' W W') : (Kd.int .u32).R 23 W' base ok u l :=
  Kd.R_reok rfl (Kd.R_step (Kd.R_tight rfl h) (fun k hk _ => hb.block k (hg k hk.symm))) h.1

theorem keptStep {w wr w2 : World} {S : Nat → Prop} (h : Kept w wr S) (hb : Below w.heap.size wr w2) : Kept w w2 S :=
  h.then_ (S2 := fun k => w.heap.size ≤ k) ⟨hb.size, fun i _ hn => hb.block i (Nat.lt_of_not_le hn)⟩ (fun _ hk => .inr hk)
theorem put_len {W : World} {base g n cap : Nat} {ok : Nat → Prop} {l : List Int} (h : (Kd.int .u32).R 23 W base ok (.slice (some ⟨g, 0, none⟩) n cap) l) (i v : Int) : (Kd.int .u32).R 23 (W.setCell ⟨g, i.toNat, none⟩ (.int .u32 v)) base ok (.slice (some ⟨g, 0, none⟩) n cap) (l.set i.toNat v) := by
  obtain rfl := (Kd.R_reads' h).1
  exact Kd.R_putn h i v
theorem cell_len {W : World} {base g n cap : Nat} {ok : Nat → Prop} {l : List Int} (h : (Kd.int .u32).R 23 W base ok (.slice (some ⟨g, 0, none⟩) n cap) l) (i : Int) (h0 : 0 ≤ i) (h1 : i < n) : W.cell? ⟨g, i.toNat, none⟩ = some (.int .u32 (rd l i)) ∧ W.frozen? ⟨g, i.toNat, none⟩ = false := by
  obtain rfl := (Kd.R_reads' h).1
  exact Kd.R_celln 0 h i h0 h1
def swapAt (l : List Int) (i j : Int) : List Int := (l.set i.toNat (rd l j)).set j.toNat (rd l i)
/-- where the other one stands. -/
def otherOf (n m s : Int) : Int := if bits .and .u64 s (m - 1) ≥ n then bits .and .u64 s (m - 1) - n else bits .and .u64 s (m - 1)
def bpLoop : Nat → Int → Int → Int → List Int → Int → Int → Option (List Int)
  | 0, _, _, _, _, _, _ => none
  | k + 1, a, n, m, l, s, x => if x ≤ a + n / 4 * 2 + 1 then
      (if 0 ≤ x ∧ x < l.length ∧ 0 ≤ bits .and .u64 (xc (xb (xa s))) (m - 1) ∧ bits .and .u64 (xc (xb (xa s))) (m - 1) < 1000 ∧ 0 ≤ a + otherOf n m (xc (xb (xa s))) ∧ a + otherOf n m (xc (xb (xa s))) < l.length then
        bpLoop k a n m (swapAt l x (a + otherOf n m (xc (xb (xa s))))) (xc (xb (xa s))) (x + 1) else none)
    else some l
def slices_breakPatternsOrdered_uint32.f (l : List Int) (a b : Int) : Option (List Int) :=
  if 0 ≤ a ∧ a ≤ b ∧ b ≤ l.length ∧ l.length < 256 ∧ 1 ≤ pow2Of (b - a) ∧ pow2Of (b - a) ≤ 1000 then
    (if 8 ≤ b - a then bpLoop 4 a (b - a) (pow2Of (b - a)) l (b - a) (a + (b - a) / 4 * 2 - 1) else some l)
  else none
set_option maxHeartbeats 8000000 in
set_option maxRecDepth 100000 in
theorem slices_breakPatternsOrdered_uint32.calls (P0_ : Nat → Prop) (u9000_ : Value) (l0 : List Int) (a1 : Int) (a2 : Int) (r : List Int) (w0 w : World) (hB : Below w0.heap.size w0 w) (ho0 : Kd.R (Kd.int .u32) 23 w w0.heap.size P0_ u9000_ l0) (h : slices_breakPatternsOrdered_uint32.f l0 a1 a2 = some r) :
    Calls Tryd.prog 33 #[u9000_, .int .i64 a1, .int .i64 a2] w fun e w' => e = .returned (.tuple #[]) ∧ Kd.R (Kd.int .u32) 23 w' w0.heap.size (fun k_ => (P0_ k_ ∨ w.heap.size ≤ k_)) u9000_ r ∧ Below w0.heap.size w0 w' ∧ Kept w w' (fun k_ => P0_ k_) := by
  have HO0 := Aside0.mk (show Kd.R (Kd.int .u32) 23 w w0.heap.size (fun k_ => (P0_ k_ ∨ w.heap.size ≤ k_)) u9000_ l0 from Kd.R_mono ho0 (fun k_ hk => (.inl hk)))
  have HK := Aside0.mk (Kept.refl w (fun k_ => P0_ k_))
  have HW0 := Aside0.mk hB.size
  have HB := Aside0.mk hB
  have HP := Aside0.mk ho0.1
  have HL := Aside0.mk (Kd.R_lt ho0)
  clear hB ho0
  unfold slices_breakPatternsOrdered_uint32.f at h
  by_cases hd : 0 ≤ a1 ∧ a1 ≤ a2 ∧ a2 ≤ l0.length ∧ l0.length < 256 ∧ 1 ≤ pow2Of (a2 - a1) ∧ pow2Of (a2 - a1) ≤ 1000
  · rw [if_pos hd] at h
    obtain ⟨h0, h1, h2, h3, h4, h4'⟩ := hd
    have e1 : wrap64 (a2 - a1) = a2 - a1 := IntWalk.wrap64_in _ ⟨by omega, by omega⟩
    have e2 : Int.tdiv (a2 - a1) 4 = (a2 - a1) / 4 := Int.tdiv_eq_ediv_of_nonneg (by omega)
    have e3 : wrap64 ((a2 - a1) / 4) = (a2 - a1) / 4 := IntWalk.wrap64_in _ ⟨by omega, by omega⟩
    have e4 : wrap64 ((a2 - a1) / 4 * 2) = (a2 - a1) / 4 * 2 := IntWalk.wrap64_in _ ⟨by omega, by omega⟩
    have e5 : wrap64 (a1 + (a2 - a1) / 4 * 2) = a1 + (a2 - a1) / 4 * 2 := IntWalk.wrap64_in _ ⟨by omega, by omega⟩
    have e6 : wrap64 (a1 + (a2 - a1) / 4 * 2 - 1) = a1 + (a2 - a1) / 4 * 2 - 1 := IntWalk.wrap64_in _ ⟨by omega, by omega⟩
    have e7 : wrap64 (a1 + (a2 - a1) / 4 * 2 + 1) = a1 + (a2 - a1) / 4 * 2 + 1 := IntWalk.wrap64_in _ ⟨by omega, by omega⟩
    by_cases h8 : 8 ≤ a2 - a1
    · have d8 : decide (8 ≤ a2 - a1) = true := decide_eq_true h8
      rw [if_pos h8] at h
      have e9 : IntKind.u64.wrap (pow2Of (a2 - a1) - 1) = pow2Of (a2 - a1) - 1 := by unfold IntKind.wrap; simp [IntKind.signed, IntKind.bits]; omega
      have e10 : IntKind.u64.wrap (a2 - a1) = a2 - a1 := by unfold IntKind.wrap; simp [IntKind.signed, IntKind.bits]; omega
      have n1 := Aside0.mk (fun w => pow2_calls (a2 - a1) w (by omega) (by omega))
      generalize pow2Of (a2 - a1) = m at *
      have H' := Aside0.mk h
      clear h
      obtain ⟨g, cap, rfl, gb, gl, _⟩ := Kd.R_form HO0.out (by omega)
      have hgl : g < w.heap.size := gl
      generalize hlen : l0.length = len at *
      go_enter Tryd.func33, Tryd.ntmps33
      go_wp2_with ((go_at_call 43; (try simp only [e1]); refine (n1.out _).mono ?_; rintro e w1 ⟨rfl, rfl⟩))
      go_loopg [9] 4 (fun kq v9 w' => ∃ (l : List Int) (s x : Int), v9 = .int .i64 x ∧ Aside0 (bpLoop kq a1 (a2 - a1) m l s x = some r) ∧ Aside0 (Kd.R (Kd.int .u32) 23 w' w0.heap.size (fun k_ => (P0_ k_ ∨ w.heap.size ≤ k_)) (.slice (some ⟨g, 0, none⟩) len cap) l) ∧ Aside0 (Kept w w' (fun k_ => P0_ k_)) ∧ Aside0 (Below w0.heap.size w0 w') ∧ Aside0 (w'.cell? ⟨w.heap.size, 0, none⟩ = some (.int .u64 s) ∧ w'.frozen? ⟨w.heap.size, 0, none⟩ = false))
      case atStart => exact ⟨l0, a2 - a1, a1 + (a2 - a1) / 4 * 2 - 1, rfl, H', ⟨Kd.R_alloc HO0.out _⟩, ⟨Kept.alloc HK.out _⟩, ⟨HB.out.alloc HW0.out _⟩, ⟨by simp⟩⟩
      case round =>
        clear H' HO0 HK HB
        obtain ⟨l, s, x, rfl, HA, HO, HK, HB, HS⟩ := hrel
        cases gk with
        | zero => exact absurd HA.out (by simp [bpLoop])
        | succ k1 =>
          have H := HA.out
          clear HA
          simp only [bpLoop] at H
          by_cases c4 : x ≤ a1 + (a2 - a1) / 4 * 2 + 1
          · rw [if_pos c4] at H
            have c4b : decide (x ≤ a1 + (a2 - a1) / 4 * 2 + 1) = true := decide_eq_true c4
            have hnext := Aside0.mk (next_calls s w.heap.size w.heap.size wr wr ⟨HS.out.1, HS.out.2, Nat.le_refl _, Below.refl _ _⟩)
            obtain ⟨s2, hs2⟩ : ∃ s2, xc (xb (xa s)) = s2 := ⟨_, rfl⟩
            rw [hs2] at H hnext
            obtain ⟨o, ho⟩ : ∃ o, bits .and .u64 s2 (m - 1) = o := ⟨_, rfl⟩
            have hother : otherOf (a2 - a1) m s2 = if o ≥ a2 - a1 then o - (a2 - a1) else o := by unfold otherOf; rw [ho]
            rw [ho, hother] at H
            clear hother
            by_cases c5 : 0 ≤ x ∧ x < l.length ∧ 0 ≤ o ∧ o < 1000 ∧ 0 ≤ a1 + (if o ≥ a2 - a1 then o - (a2 - a1) else o) ∧ a1 + (if o ≥ a2 - a1 then o - (a2 - a1) else o) < l.length
            · rw [if_pos c5] at H
              obtain ⟨q0, q1, q2, q3, q4, q5⟩ := c5
              have hll : len = l.length := (Kd.R_reads' HO.out).1
              rw [← hll] at q1 q5
              clear hll
              have f1 : wrap64 o = o := IntWalk.wrap64_in _ ⟨by omega, by omega⟩
              have f2 : wrap64 (o - (a2 - a1)) = o - (a2 - a1) := IntWalk.wrap64_in _ ⟨by omega, by omega⟩
              have f4 : wrap64 (x + 1) = x + 1 := IntWalk.wrap64_in _ ⟨by omega, by omega⟩
              by_cases c6 : o ≥ a2 - a1
              · have c6b : decide (a2 - a1 ≤ o) = true := decide_eq_true c6
                rw [if_pos c6] at q4 q5 H
                have f5 : wrap64 (a1 + (o - (a2 - a1))) = a1 + (o - (a2 - a1)) := IntWalk.wrap64_in _ ⟨by omega, by omega⟩
                have H' := Aside0.mk H
                clear H
                have HQ := Aside0.mk (And.intro q0 (And.intro q1 (And.intro q4 q5)))
                clear q0 q1 q2 q3 q4 q5 c4 c6 h0 h1 h2 h3 h4 h4' h8
                go_wp2_with ((go_at_call 44; refine hnext.out.mono ?_; rintro e w2 ⟨rfl, hn⟩; have hn := Aside0.mk hn))
                have HO2 := Aside0.mk (R_under HO.out HL.out hn.out.below)
                obtain ⟨q0, q1, q4, q5⟩ := HQ.out
                obtain ⟨hx1, hx2⟩ := cell_len HO2.out x q0 q1
                obtain ⟨hj1, hj2⟩ := cell_len HO2.out (a1 + (o - (a2 - a1))) q4 q5
                have HW := Aside0.mk (put_len (put_len HO2.out x (rd l (a1 + (o - (a2 - a1))))) (a1 + (o - (a2 - a1))) (rd l x))
                obtain ⟨hk1, hk2⟩ := cell_len (Kd.R_drew (put_len HO2.out x (rd l (a1 + (o - (a2 - a1)))))) (a1 + (o - (a2 - a1))) q4 q5
                clear HO HS HQ hnext
                go_region
                go_wp2
                go_roundg k1
                case measure => exact Nat.lt_succ_self _
                case rel => exact ⟨swapAt l x (a1 + (o - (a2 - a1))), s2, x + 1, (by rw [f4]), H', ⟨Kd.R_drew HW.out⟩, ⟨Kept.setCell (Kept.setCell (keptStep HK.out hn.out.below) (.inl (HP.out g rfl)) _) (.inl (HP.out g rfl)) _⟩, ⟨(((HB.out.trans (hn.out.below.mono HW0.out)).setCell gb _).setCell gb _).drew⟩,
                  ⟨by rw [show ∀ W : World, W.drew.cell? ⟨w.heap.size, 0, none⟩ = W.cell? ⟨w.heap.size, 0, none⟩ from fun _ => rfl, World.cell?_setCell_far _ _ _ _ (by simp; omega), World.cell?_setCell_far _ _ _ _ (by simp; omega)]; exact hn.out.cell, by rw [show ∀ W : World, W.drew.frozen? ⟨w.heap.size, 0, none⟩ = W.frozen? ⟨w.heap.size, 0, none⟩ from fun _ => rfl, World.frozen?_setCell, World.frozen?_setCell]; exact hn.out.free⟩⟩
              · have c6b : decide (a2 - a1 ≤ o) = false := decide_eq_false c6
                rw [if_neg c6] at q4 q5 H
                have f5 : wrap64 (a1 + o) = a1 + o := IntWalk.wrap64_in _ ⟨by omega, by omega⟩
                have H' := Aside0.mk H
                clear H
                have HQ := Aside0.mk (And.intro q0 (And.intro q1 (And.intro q4 q5)))
                clear q0 q1 q2 q3 q4 q5 c4 c6 h0 h1 h2 h3 h4 h4' h8
                go_wp2_with ((go_at_call 44; refine hnext.out.mono ?_; rintro e w2 ⟨rfl, hn⟩; have hn := Aside0.mk hn))
                have HO2 := Aside0.mk (R_under HO.out HL.out hn.out.below)
                obtain ⟨q0, q1, q4, q5⟩ := HQ.out
                obtain ⟨hx1, hx2⟩ := cell_len HO2.out x q0 q1
                obtain ⟨hj1, hj2⟩ := cell_len HO2.out (a1 + o) q4 q5
                have HW := Aside0.mk (put_len (put_len HO2.out x (rd l (a1 + o))) (a1 + o) (rd l x))
                obtain ⟨hk1, hk2⟩ := cell_len (Kd.R_drew (put_len HO2.out x (rd l (a1 + o)))) (a1 + o) q4 q5
                clear HO HS HQ hnext
                go_region
                go_wp2
                go_roundg k1
                case measure => exact Nat.lt_succ_self _
                case rel => exact ⟨swapAt l x (a1 + o), s2, x + 1, (by rw [f4]), H', ⟨Kd.R_drew HW.out⟩, ⟨Kept.setCell (Kept.setCell (keptStep HK.out hn.out.below) (.inl (HP.out g rfl)) _) (.inl (HP.out g rfl)) _⟩, ⟨(((HB.out.trans (hn.out.below.mono HW0.out)).setCell gb _).setCell gb _).drew⟩,
                  ⟨by rw [show ∀ W : World, W.drew.cell? ⟨w.heap.size, 0, none⟩ = W.cell? ⟨w.heap.size, 0, none⟩ from fun _ => rfl, World.cell?_setCell_far _ _ _ _ (by simp; omega), World.cell?_setCell_far _ _ _ _ (by simp; omega)]; exact hn.out.cell, by rw [show ∀ W : World, W.drew.frozen? ⟨w.heap.size, 0, none⟩ = W.frozen? ⟨w.heap.size, 0, none⟩ from fun _ => rfl, World.frozen?_setCell, World.frozen?_setCell]; exact hn.out.free⟩⟩
            · rw [if_neg c5] at H; cases H
          · rw [if_neg c4] at H
            have c4b : decide (x ≤ a1 + (a2 - a1) / 4 * 2 + 1) = false := decide_eq_false c4
            obtain rfl := Option.some.inj H
            go_wp2
            go_end0
            exact ⟨rfl, HO.out, HB.out, HK.out⟩
    · have d8 : decide (8 ≤ a2 - a1) = false := decide_eq_false h8
      rw [if_neg h8] at h
      obtain rfl := Option.some.inj h
      go_enter Tryd.func33, Tryd.ntmps33
      go_wp2
      go_end0
      exact ⟨rfl, HO0.out, HB.out, HK.out⟩
  · rw [if_neg hd] at h; cases h

def slices_choosePivotOrdered_uint32.f (l : List Int) (a b : Int) : Option (Int × Int) := if 0 ≤ a ∧ a < b ∧ b ≤ l.length ∧ l.length ≤ 1000000 then some (pivotOf l a b) else none
theorem slices_choosePivotOrdered_uint32.calls (A0 : Option Addr) (c0 : Nat) (l0 : List Int) (a1 : Int) (a2 : Int) (r1 : Int) (r2 : Int) (w : World) (hr0 : Kd.C (Kd.int .u32) w A0 l0.length l0) (_hc0 : l0.length ≤ c0) (h : slices_choosePivotOrdered_uint32.f l0 a1 a2 = some (r1, r2)) :
    Calls Tryd.prog 34 #[.slice A0 l0.length c0, .int .i64 a1, .int .i64 a2] w fun e w' => e = .returned (.tuple #[.int .i64 r1, .int .i64 r2]) ∧ Below w.heap.size w w' := by
  unfold slices_choosePivotOrdered_uint32.f at h
  by_cases hd : 0 ≤ a1 ∧ a1 < a2 ∧ a2 ≤ l0.length ∧ l0.length ≤ 1000000
  · rw [if_pos hd] at h
    have h' := Option.some.inj h
    have := pivot_calls l0 A0 c0 a1 a2 w hr0 hd.2.2.2 hd.1 (by omega) hd.2.2.1 (by omega)
    rwa [h'] at this
  · rw [if_neg hd] at h; cases h
def bits_Len.f (a0 : Int) : Option Int := if 0 ≤ a0 ∧ a0 < 256 then some (lenOf a0) else none
theorem bits_Len.calls (a0 : Int) (r : Int) (w : World) (h : bits_Len.f a0 = some r) :
    Calls Tryd.prog 27 #[.int .u64 a0] w fun e w' => e = .returned (.int .i64 r) ∧ Drawn0 w w' := by
  unfold bits_Len.f at h
  by_cases hd : 0 ≤ a0 ∧ a0 < 256
  · rw [if_pos hd] at h
    obtain rfl := Option.some.inj h
    refine (len_calls a0 w hd.1 hd.2).mono ?_
    rintro e w' ⟨rfl, rfl⟩
    exact ⟨rfl, Drawn0.refl _⟩
  · rw [if_neg hd] at h; cases h
end Go.Proofs.YtpbjabpakkjomaaDoor
