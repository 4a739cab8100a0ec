/- The index's Len, Get, Put, New. -/
import Derived.Test.YtpbjabpakkjomaaDoorIA
namespace Go.Proofs.YtpbjabpakkjomaaDoor
open Go.RowKit Go.Proofs.YtpbjabpakkjomaaDoorW.PrintWords Go.Proofs.YtpbjabpakkjomaaDoorW.PrintLast Go.Proofs.YtpbjabpakkjomaaDoorW.PrintMore
set_option linter.unusedVariables false
set_option linter.unusedSimpArgs false

/-- what a call on the object at block g leaves: all other blocks that were there. -/
structure KB (w w' : World) (g : Nat) : Prop where
  keep : KeepBut w w' g Option.none
  os : w'.os = w.os
  tape : w'.tape = w.tape
  output : w'.output = w.output
theorem KB.refl (w : World) (g : Nat) : KB w w g := ⟨KeepBut.refl _ _ _, rfl, rfl, rfl⟩
theorem KB.set_ {w w1 : World} {g : Nat} (h : KB w w1 g) (j : Nat) (u : Value) : KB w (w1.setCell ⟨g, j, Option.none⟩ u) g := ⟨KeepBut.set_ h.keep j u, h.os, h.tape, h.output⟩
theorem KB.of_below {w w1 : World} (h : Below w.heap.size w w1) (g : Nat) : KB w w1 g := ⟨KeepBut.of_below h g Option.none, h.os, h.tape, h.output⟩
theorem KB.trans {w w1 w2 : World} {g : Nat} (h : KB w w1 g) (k : KB w1 w2 g) : KB w w2 g := ⟨KeepBut.trans h.keep k.keep (Or.inl rfl), k.os.trans h.os, k.tape.trans h.tape, k.output.trans h.output⟩
theorem kb_alloc {w w1 : World} {g : Nat} (h : KB w w1 g) (o : Obj) : KB w (w1.alloc o) g :=
  ⟨⟨Nat.le_trans h.keep.1 (by simp), fun i hi hg hr => (Below.heap_alloc _ _ _ (Nat.lt_of_lt_of_le hi h.keep.1)).trans (h.keep.2 i hi hg hr)⟩, h.os, h.tape, h.output⟩
theorem kb_drew {w w1 : World} {g : Nat} (h : KB w w1 g) : KB w w1.drew g := ⟨h.keep, h.os, h.tape, h.output⟩
theorem below_kb {w0 w w' : World} {g B : Nat} (h : Below B w0 w) (hk : KB w w' g) (hg : B ≤ g) (hB : B ≤ w.heap.size) : Below B w0 w' :=
  h.trans ⟨hk.os, hk.tape, hk.output, hk.keep.1, fun k hk' => hk.keep.2 k (by omega) (by omega) (by simp)⟩
theorem Ix.drew {W : World} {g : Nat} {t : Nat → Pl} {many room : Int} (h : Ix W g t many room) : Ix W.drew g t many room := ⟨h.there, h.key, h.slot, h.many, h.room, h.free⟩
theorem Ix.lt {W : World} {g : Nat} {t : Nat → Pl} {many room : Int} (h : Ix W g t many room) : g < W.heap.size := World.block_lt_of_cell? _ _ h.many
theorem Ix.alloc {W : World} {g : Nat} {t : Nat → Pl} {many room : Int} (h : Ix W g t many room) (o : Obj) : Ix (W.alloc o) g t many room :=
  ⟨fun i hi => (World.cell?_alloc_lt _ _ ⟨g, i * 3, none⟩ h.lt).trans (h.there i hi), fun i hi => (World.cell?_alloc_lt _ _ ⟨g, i * 3 + 1, none⟩ h.lt).trans (h.key i hi), fun i hi => (World.cell?_alloc_lt _ _ ⟨g, i * 3 + 2, none⟩ h.lt).trans (h.slot i hi),
    (World.cell?_alloc_lt _ _ ⟨g, 384, none⟩ h.lt).trans h.many, (World.cell?_alloc_lt _ _ ⟨g, 385, none⟩ h.lt).trans h.room, fun o' => (World.frozen?_alloc_old _ _ ⟨g, o', none⟩ (Nat.ne_of_lt h.lt)).trans (h.free o')⟩
theorem Ix.below {W W' : World} {g : Nat} {t : Nat → Pl} {many room : Int} (h : Ix W g t many room) {B : Nat} (hB : g < B) (hb : Below B W W') : Ix W' g t many room :=
  ⟨fun i hi => (hb.cell (p := ⟨g, i * 3, none⟩) hB).trans (h.there i hi), fun i hi => (hb.cell (p := ⟨g, i * 3 + 1, none⟩) hB).trans (h.key i hi), fun i hi => (hb.cell (p := ⟨g, i * 3 + 2, none⟩) hB).trans (h.slot i hi),
    (hb.cell (p := ⟨g, 384, none⟩) hB).trans h.many, (hb.cell (p := ⟨g, 385, none⟩) hB).trans h.room, fun o' => (hb.frozen (p := ⟨g, o', none⟩) hB).trans (h.free o')⟩
theorem len_ix_calls (g : Nat) (t : Nat → Pl) (many room : Int) (w : World) (hI : Ix w g t many room) :
    Calls Tryd.prog 14 #[.pointer (some ⟨g, 0, none⟩)] w fun e w' => e = .returned (.int .i64 many) ∧ w' = w := by
  have c1 := hI.many
  clear hI
  go_enter Tryd.func14, Tryd.ntmps14
  go_wp2
  go_ret
  exact ⟨rfl, rfl⟩
set_option maxRecDepth 100000 in
theorem get_calls (g : Nat) (t : Nat → Pl) (many room key : Int) (k r : Nat) (w : World) (hI : Ix w g t many room) (h : findL t key k (homeOf key) = some r) (hr : r < 128) :
    Calls Tryd.prog 12 #[.pointer (some ⟨g, 0, none⟩), .int .u32 key] w fun e w' => e = .returned (.tuple #[.int .i64 (if (t r).there then (t r).slot else 0), .bool (t r).there]) ∧ Below w.heap.size w w' := by
  have HF := Aside0.mk (fun w' (hI' : Ix w' g t many room) => find_calls g t many room key k r w' hI' h)
  have HI := Aside0.mk hI
  have hlt := hI.lt
  have c1 := hI.there r hr
  have c2 := hI.key r hr
  have c3 := hI.slot r hr
  have b1 : (r : Int) < 128 := by omega
  obtain ⟨p, hp⟩ : ∃ p, t r = p := ⟨_, rfl⟩
  rw [hp] at c1 c2 c3 ⊢
  obtain ⟨th, ky, sl⟩ := p
  dsimp only at c1 c2 c3 ⊢
  clear hp
  clear hI h hr
  cases th with
  | true =>
    go_enter Tryd.func12, Tryd.ntmps12
    go_wp2
    go_region_with ((go_at_call 19; refine (HF.out _ (by repeat (first | exact HI.out | apply Ix.drew | apply Ix.alloc))).mono ?_; rintro e w1 ⟨rfl, rfl⟩))
    all_goals go_wp2
    all_goals go_ret2
    all_goals exact ⟨rfl, by repeat (first | exact Below.refl _ _ | apply below_alloc | apply below_drew1 | apply pw_below_drewN | apply Below.drew | (refine below_set ?_ (Nat.le_refl _)))⟩
  | false =>
    go_enter Tryd.func12, Tryd.ntmps12
    go_wp2
    go_region_with ((go_at_call 19; refine (HF.out _ (by repeat (first | exact HI.out | apply Ix.drew | apply Ix.alloc))).mono ?_; rintro e w1 ⟨rfl, rfl⟩))
    all_goals go_wp2
    all_goals go_ret2
    all_goals exact ⟨rfl, by repeat (first | exact Below.refl _ _ | apply below_alloc | apply below_drew1 | apply pw_below_drewN | apply Below.drew | (refine below_set ?_ (Nat.le_refl _)))⟩
set_option maxRecDepth 100000 in
theorem new_bad (room : Int) (w : World) (h : room < 1 ∨ room > 64) :
    Calls Tryd.prog 5 #[.int .i64 room] w fun e w' => e = .returned (.tuple #[.pointer none, .iface 31 (.int .i64 1)]) ∧ w' = w := by
  by_cases h1 : room < 1
  · have d1 : decide (room < 1) = true := decide_eq_true h1
    go_enter Tryd.func5, Tryd.ntmps5
    go_wp2
    go_ret2
    exact ⟨rfl, rfl⟩
  · have d1 : decide (room < 1) = false := decide_eq_false h1
    have d2 : decide (64 < room) = true := decide_eq_true (by omega)
    go_enter Tryd.func5, Tryd.ntmps5
    go_wp2
    go_ret2
    exact ⟨rfl, rfl⟩
noncomputable def zeroAt (i : Nat) : Bool := match Tryd.zeroCells53[i * 3]?, Tryd.zeroCells53[i * 3 + 1]?, Tryd.zeroCells53[i * 3 + 2]? with
  | some (.bool false), some (.int .u32 0), some (.int .i64 0) => true
  | _, _, _ => false
set_option maxRecDepth 100000 in
theorem zeroAt_all : ∀ i : Nat, i < 128 → zeroAt i = true := by decide +kernel
set_option maxRecDepth 100000 in
theorem zero53 (i : Nat) (h : i < 128) : Tryd.zeroCells53[i * 3]? = some (.bool false) ∧ Tryd.zeroCells53[i * 3 + 1]? = some (.int .u32 0) ∧ Tryd.zeroCells53[i * 3 + 2]? = some (.int .i64 0) := by
  have := zeroAt_all i h
  unfold zeroAt at this
  split at this
  · exact ⟨by assumption, by assumption, by assumption⟩
  · cases this
set_option maxRecDepth 100000 in
theorem new_good (room : Int) (w : World) (h1 : ¬ room < 1) (h2 : ¬ room > 64) :
    Calls Tryd.prog 5 #[.int .i64 room] w fun e w' => e = .returned (.tuple #[.pointer (some ⟨w.heap.size, 0, none⟩), .nilIface]) ∧ Ix w' w.heap.size (fun _ => Pl.none) 0 room ∧ Below w.heap.size w w' := by
  have d1 : decide (room < 1) = false := decide_eq_false h1
  have d2 : decide (64 < room) = false := decide_eq_false (by omega)
  have z : ∀ i : Nat, i < 128 → Tryd.zeroCells53[i * 3]? = some (.bool false) ∧ Tryd.zeroCells53[i * 3 + 1]? = some (.int .u32 0) ∧ Tryd.zeroCells53[i * 3 + 2]? = some (.int .i64 0) := zero53
  have hsz : Tryd.zeroCells53.size = 386 := by kernel_rfl
  have hm : Tryd.zeroCells53[384]? = some (.int .i64 0) := by kernel_rfl
  go_enter Tryd.func5, Tryd.ntmps5
  go_wp2
  go_ret2
  refine ⟨rfl, ⟨fun i hi => ?_, fun i hi => ?_, fun i hi => ?_, ?_, ?_, fun o => by simp⟩, below_alloc (Below.refl _ _) _⟩
  · rw [World.cell?_alloc_at _ _ _ _ (by rfl)]
    simp only [Array.getElem?_setIfInBounds]
    rw [if_neg (by omega)]; exact (z i hi).1
  · rw [World.cell?_alloc_at _ _ _ _ (by rfl)]
    simp only [Array.getElem?_setIfInBounds]
    rw [if_neg (by omega)]; exact (z i hi).2.1
  · rw [World.cell?_alloc_at _ _ _ _ (by rfl)]
    simp only [Array.getElem?_setIfInBounds]
    rw [if_neg (by omega)]; exact (z i hi).2.2
  · rw [World.cell?_alloc_at _ _ _ _ (by rfl)]
    simp only [Array.getElem?_setIfInBounds]
    rw [if_neg (by omega)]; exact hm
  · rw [World.cell?_alloc_at _ _ _ _ (by rfl)]
    simp only [Array.getElem?_setIfInBounds]
    rw [if_pos trivial, if_pos (by omega)]
end Go.Proofs.YtpbjabpakkjomaaDoor
