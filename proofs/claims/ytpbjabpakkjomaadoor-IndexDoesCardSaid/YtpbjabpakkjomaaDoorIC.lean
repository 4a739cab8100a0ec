/- The index's Put. -/
import Derived.Test.YtpbjabpakkjomaaDoorIB
namespace Go.Proofs.YtpbjabpakkjomaaDoor
open Go.RowKit Go.Proofs.YtpbjabpakkjomaaDoorW.PrintWords Go.Proofs.YtpbjabpakkjomaaDoorW.PrintLast Go.Proofs.YtpbjabpakkjomaaDoorW.PrintMore
set_option linter.unusedVariables false
set_option linter.unusedSimpArgs false

theorem Ix.put {W : World} {g : Nat} {t : Nat → Pl} {many room : Int} (h : Ix W g t many room) (r : Nat) (hr : r < 128) (p : Pl) :
    Ix (((W.setCell ⟨g, r * 3, none⟩ (.bool p.there)).setCell ⟨g, r * 3 + 1, none⟩ (.int .u32 p.key)).setCell ⟨g, r * 3 + 2, none⟩ (.int .i64 p.slot)) g (putAt t r p) many room := by
  have ne : ∀ a b : Nat, a ≠ b → (⟨g, a, none⟩ : Addr) ≠ ⟨g, b, none⟩ := fun a b hab e => hab (by injection e)
  have far : ∀ o v, o ≠ r * 3 → o ≠ r * 3 + 1 → o ≠ r * 3 + 2 → W.cell? ⟨g, o, none⟩ = some v → (((W.setCell ⟨g, r * 3, none⟩ (.bool p.there)).setCell ⟨g, r * 3 + 1, none⟩ (.int .u32 p.key)).setCell ⟨g, r * 3 + 2, none⟩ (.int .i64 p.slot)).cell? ⟨g, o, none⟩ = some v := fun o v a b c hv => by
    rw [World.cell?_setCell_other _ _ _ _ (ne _ _ (Ne.symm c)), World.cell?_setCell_other _ _ _ _ (ne _ _ (Ne.symm b)), World.cell?_setCell_other _ _ _ _ (ne _ _ (Ne.symm a))]; exact hv
  refine ⟨fun i hi => ?_, fun i hi => ?_, fun i hi => ?_, far 384 _ (by omega) (by omega) (by omega) h.many, far 385 _ (by omega) (by omega) (by omega) h.room, fun o => by rw [World.frozen?_setCell, World.frozen?_setCell, World.frozen?_setCell]; exact h.free o⟩
  · by_cases e : i = r
    · subst e
      rw [World.cell?_setCell_other _ _ _ _ (ne _ _ (by omega)), World.cell?_setCell_other _ _ _ _ (ne _ _ (by omega)), World.cell?_setCell_same _ _ _ (h.there i hi)]
      simp [putAt]
    · rw [far _ _ (by omega) (by omega) (by omega) (h.there i hi)]; simp [putAt, e]
  · by_cases e : i = r
    · subst e
      rw [World.cell?_setCell_other _ _ _ _ (ne _ _ (by omega)), World.cell?_setCell_same _ _ _ ((World.cell?_setCell_other _ _ _ _ (ne _ _ (by omega))).trans (h.key i hi))]
      simp [putAt]
    · rw [far _ _ (by omega) (by omega) (by omega) (h.key i hi)]; simp [putAt, e]
  · by_cases e : i = r
    · subst e
      rw [World.cell?_setCell_same _ _ _ (((World.cell?_setCell_other _ _ _ _ (ne _ _ (by omega))).trans (World.cell?_setCell_other _ _ _ _ (ne _ _ (by omega)))).trans (h.slot i hi))]
      simp [putAt]
    · rw [far _ _ (by omega) (by omega) (by omega) (h.slot i hi)]; simp [putAt, e]
theorem Ix.more {W : World} {g : Nat} {t : Nat → Pl} {many room : Int} (h : Ix W g t many room) (m : Int) : Ix (W.setCell ⟨g, 384, none⟩ (.int .i64 m)) g t m room := by
  have ne : ∀ a b : Nat, a ≠ b → (⟨g, a, none⟩ : Addr) ≠ ⟨g, b, none⟩ := fun a b hab e => hab (by injection e)
  have far : ∀ o v, o ≠ 384 → W.cell? ⟨g, o, none⟩ = some v → (W.setCell ⟨g, 384, none⟩ (.int .i64 m)).cell? ⟨g, o, none⟩ = some v := fun o v a hv => by
    rw [World.cell?_setCell_other _ _ _ _ (ne _ _ (Ne.symm a))]; exact hv
  exact ⟨fun i hi => far _ _ (by omega) (h.there i hi), fun i hi => far _ _ (by omega) (h.key i hi), fun i hi => far _ _ (by omega) (h.slot i hi), World.cell?_setCell_same _ _ _ h.many, far 385 _ (by omega) h.room, fun o => by rw [World.frozen?_setCell]; exact h.free o⟩

set_option maxRecDepth 100000 in
theorem put_there (g : Nat) (t : Nat → Pl) (many room key slot : Int) (k r : Nat) (w : World) (hI : Ix w g t many room) (h : findL t key k (homeOf key) = some r) (hr : r < 128) (ht : (t r).there = true) :
    Calls Tryd.prog 8 #[.pointer (some ⟨g, 0, none⟩), .int .u32 key, .int .i64 slot] w fun e w' => e = .returned (.bool true) ∧ Ix w' g (putAt t r ⟨true, key, slot⟩) many room ∧ KB w w' g := by
  have HF := Aside0.mk (find_calls g t many room key k r w hI h)
  have HI := Aside0.mk hI
  have c1 := hI.there r hr
  have c2 := hI.key r hr
  have c3 := hI.slot r hr
  have f1 := hI.free (r * 3)
  have f2 := hI.free (r * 3 + 1)
  have f3 := hI.free (r * 3 + 2)
  rw [ht] at c1
  have b1 : (r : Int) < 128 := by omega
  have HR := Aside0.mk hr
  clear hI h hr ht
  go_enter Tryd.func8, Tryd.ntmps8
  go_wp2_with ((go_at_call 19; refine HF.out.mono ?_; rintro e w1 ⟨rfl, rfl⟩))
  go_ret
  exact ⟨rfl, HI.out.put r HR.out ⟨true, key, slot⟩, KB.set_ (KB.set_ (KB.set_ (KB.refl _ _) _ _) _ _) _ _⟩
set_option maxRecDepth 100000 in
theorem put_full (g : Nat) (t : Nat → Pl) (many room key slot : Int) (k r : Nat) (w : World) (hI : Ix w g t many room) (h : findL t key k (homeOf key) = some r) (hr : r < 128) (ht : (t r).there = false) (hm : many = room) :
    Calls Tryd.prog 8 #[.pointer (some ⟨g, 0, none⟩), .int .u32 key, .int .i64 slot] w fun e w' => e = .returned (.bool false) ∧ ∃ n, w' = w.drewN n := by
  have HF := Aside0.mk (find_calls g t many room key k r w hI h)
  have HI := Aside0.mk hI
  have c1 := hI.there r hr
  have c2 := hI.key r hr
  have c3 := hI.slot r hr
  have f1 := hI.free (r * 3)
  have f2 := hI.free (r * 3 + 1)
  have f3 := hI.free (r * 3 + 2)
  rw [ht] at c1
  have b1 : (r : Int) < 128 := by omega
  have c4 := hI.many
  have c5 := hI.room
  subst hm
  have HR := Aside0.mk hr
  clear hI h hr ht
  go_enter Tryd.func8, Tryd.ntmps8
  go_wp2_with ((go_at_call 19; refine HF.out.mono ?_; rintro e w1 ⟨rfl, rfl⟩))
  go_region
  go_wp2
  go_ret
  exact ⟨rfl, 1, rfl⟩
set_option maxRecDepth 100000 in
theorem put_new (g : Nat) (t : Nat → Pl) (many room key slot : Int) (k r : Nat) (w : World) (hI : Ix w g t many room) (h : findL t key k (homeOf key) = some r) (hr : r < 128) (ht : (t r).there = false) (hm : many ≠ room) (hb : 0 ≤ many ∧ many ≤ 128) :
    Calls Tryd.prog 8 #[.pointer (some ⟨g, 0, none⟩), .int .u32 key, .int .i64 slot] w fun e w' => e = .returned (.bool true) ∧ Ix w' g (putAt t r ⟨true, key, slot⟩) (many + 1) room ∧ KB w w' g := by
  have HF := Aside0.mk (find_calls g t many room key k r w hI h)
  have HI := Aside0.mk hI
  have c1 := hI.there r hr
  have c2 := hI.key r hr
  have c3 := hI.slot r hr
  have f1 := hI.free (r * 3)
  have f2 := hI.free (r * 3 + 1)
  have f3 := hI.free (r * 3 + 2)
  rw [ht] at c1
  have b1 : (r : Int) < 128 := by omega
  have c4 := hI.many
  have c5 := hI.room
  have f4 := hI.free 384
  have e1 : wrap64 (many + 1) = many + 1 := IntWalk.wrap64_in _ ⟨by omega, by omega⟩
  have d1 : decide (many = room) = false := decide_eq_false hm
  have HR := Aside0.mk hr
  clear hI h hr ht
  go_enter Tryd.func8, Tryd.ntmps8
  go_wp2_with ((go_at_call 19; refine HF.out.mono ?_; rintro e w1 ⟨rfl, rfl⟩))
  go_region
  go_wp2
  go_ret
  exact ⟨rfl, ((HI.out.more (many + 1)).put r HR.out ⟨true, key, slot⟩).drew, kb_drew (KB.set_ (KB.set_ (KB.set_ (KB.set_ (KB.refl _ _) _ _) _ _) _ _) _ _)⟩
end Go.Proofs.YtpbjabpakkjomaaDoor
