/- awake: what it asks of the index is true. -/
import Derived.Test.YtpbjabpakkjomaaDoorIF
namespace Go.Proofs.YtpbjabpakkjomaaDoor
open Go.RowKit Go.Proofs.YtpbjabpakkjomaaDoorW.PrintWords Go.Proofs.YtpbjabpakkjomaaDoorW.PrintLast Go.Proofs.YtpbjabpakkjomaaDoorW.PrintMore
set_option linter.unusedVariables false
set_option linter.unusedSimpArgs false

theorem new_io (room : Int) (w : World) (h1 : ¬ room < 1) (h2 : ¬ room > 64) :
    Calls Tryd.prog 5 #[.int .i64 room] w fun e w' => e = .returned (.tuple #[.pointer (some ⟨w.heap.size, 0, none⟩), .nilIface]) ∧ Io w' w.heap.size [] room ∧ Below w.heap.size w w' :=
  (new_good room w h1 h2).mono fun _ _ hh => ⟨hh.1, ⟨_, _, hh.2.1, Rel.none⟩, hh.2.2⟩
theorem aw1 (g : Nat) (w : World) (h : Io w g [] 1) : Calls Tryd.prog 8 #[.pointer (some ⟨g, 0, none⟩), .int .u32 7, .int .i64 0] w fun e w' => e = .returned (.bool true) ∧ Io w' g [(7, 0)] 1 ∧ KB w w' g := put_io g [] 1 7 0 w h (by omega) (by decide) (by omega)
theorem aw2 (g : Nat) (w : World) (h : Io w g [(7, 0)] 1) : Calls Tryd.prog 8 #[.pointer (some ⟨g, 0, none⟩), .int .u32 8, .int .i64 1] w fun e w' => e = .returned (.bool false) ∧ Io w' g [(7, 0)] 1 ∧ KB w w' g := put_io g [(7, 0)] 1 8 1 w h (by omega) (by decide) (by omega)
theorem aw3 (g : Nat) (w : World) (h : Io w g [(7, 0)] 1) : Calls Tryd.prog 8 #[.pointer (some ⟨g, 0, none⟩), .int .u32 7, .int .i64 2] w fun e w' => e = .returned (.bool true) ∧ Io w' g [(7, 2)] 1 ∧ KB w w' g := put_io g [(7, 0)] 1 7 2 w h (by omega) (by decide) (by omega)
theorem aw4 (g : Nat) (w : World) (h : Io w g [(7, 2)] 1) : Calls Tryd.prog 12 #[.pointer (some ⟨g, 0, none⟩), .int .u32 7] w fun e w' => e = .returned (.tuple #[.int .i64 2, .bool true]) ∧ Below w.heap.size w w' := get_io g [(7, 2)] 1 7 w h
theorem aw5 (g : Nat) (w : World) (h : Io w g [(7, 2)] 1) : Calls Tryd.prog 12 #[.pointer (some ⟨g, 0, none⟩), .int .u32 8] w fun e w' => e = .returned (.tuple #[.int .i64 0, .bool false]) ∧ Below w.heap.size w w' := get_io g [(7, 2)] 1 8 w h
theorem aw6 (g : Nat) (w : World) (h : Io w g [(7, 2)] 1) : Calls Tryd.prog 14 #[.pointer (some ⟨g, 0, none⟩)] w fun e w' => e = .returned (.int .i64 1) ∧ w' = w := len_io g [(7, 2)] 1 w h
theorem aw7 (g : Nat) (w : World) (h : Io w g [(7, 2)] 1) : Calls Tryd.prog 10 #[.pointer (some ⟨g, 0, none⟩), .int .u32 7] w fun e w' => e = .returned (.bool true) ∧ Io w' g [] 1 ∧ KB w w' g := drop_io g [(7, 2)] 1 7 w h
theorem aw8 (g : Nat) (w : World) (h : Io w g [] 1) : Calls Tryd.prog 10 #[.pointer (some ⟨g, 0, none⟩), .int .u32 7] w fun e w' => e = .returned (.bool false) ∧ Io w' g [] 1 ∧ KB w w' g := drop_io g [] 1 7 w h
theorem aw9 (g : Nat) (w : World) (h : Io w g [] 1) : Calls Tryd.prog 14 #[.pointer (some ⟨g, 0, none⟩)] w fun e w' => e = .returned (.int .i64 0) ∧ w' = w := len_io g [] 1 w h
set_option maxRecDepth 100000 in
set_option maxHeartbeats 2000000 in
theorem awake_calls (w : World) : Calls Tryd.prog 4 #[] w fun e w' => e = .returned (.bool true) ∧ Below w.heap.size w w' := by
  have hn := new_io 1 w (by omega) (by omega)
  have HN := Aside0.mk hn
  clear hn
  go_enter Tryd.func4, Tryd.ntmps4
  go_wp2_with fail
  refine HN.out.mono ?_
  rintro e w1 ⟨rfl, h1, b1⟩
  have hsz : w.heap.size < w1.heap.size := h1.lt
  have H1 := Aside0.mk h1
  have B1 := Aside0.mk b1
  clear h1 b1
  go_wp2_with fail
  refine (aw1 w.heap.size w1 H1.out).mono ?_
  rintro e w2 ⟨rfl, h2, k2⟩
  have H2 := Aside0.mk h2
  have B2 := Aside0.mk (below_kb B1.out k2 (Nat.le_refl _) (Nat.le_of_lt hsz))
  have hsz2 : w.heap.size < w2.heap.size := h2.lt
  clear h2 k2
  go_wp2_with fail
  refine (aw2 w.heap.size w2 H2.out).mono ?_
  rintro e w3 ⟨rfl, h3, k3⟩
  have H3 := Aside0.mk h3
  have B3 := Aside0.mk (below_kb B2.out k3 (Nat.le_refl _) (Nat.le_of_lt hsz2))
  have hsz3 : w.heap.size < w3.heap.size := h3.lt
  clear h3 k3
  go_wp2_with fail
  refine (aw3 w.heap.size w3 H3.out).mono ?_
  rintro e w4 ⟨rfl, h4, k4⟩
  have H4 := Aside0.mk h4
  have B4 := Aside0.mk (below_kb B3.out k4 (Nat.le_refl _) (Nat.le_of_lt hsz3))
  have hsz4 : w.heap.size < w4.heap.size := h4.lt
  clear h4 k4
  go_wp2_with fail
  refine (aw4 w.heap.size w4 H4.out).mono ?_
  rintro e w5 ⟨rfl, b5⟩
  have H5 := Aside0.mk (H4.out.below b5)
  have B5 := Aside0.mk (B4.out.trans (b5.mono (Nat.le_of_lt hsz4)))
  clear b5
  go_wp2_with fail
  refine (aw5 w.heap.size w5 H5.out).mono ?_
  rintro e w6 ⟨rfl, b6⟩
  have H6 := Aside0.mk (H5.out.below b6)
  have B6 := Aside0.mk (B5.out.trans (b6.mono (Nat.le_of_lt H5.out.lt)))
  have hsz6 : w.heap.size < w6.heap.size := H6.out.lt
  clear b6
  go_wp2_with fail
  refine (aw6 w.heap.size w6 H6.out).mono ?_
  rintro e w7 ⟨rfl, rfl⟩
  go_wp2_with fail
  refine (aw7 w.heap.size w7 H6.out).mono ?_
  rintro e w8 ⟨rfl, h8, k8⟩
  have H8 := Aside0.mk h8
  have B8 := Aside0.mk (below_kb B6.out k8 (Nat.le_refl _) (Nat.le_of_lt hsz6))
  have hsz8 : w.heap.size < w8.heap.size := h8.lt
  clear h8 k8
  go_wp2_with fail
  refine (aw8 w.heap.size w8 H8.out).mono ?_
  rintro e w9 ⟨rfl, h9, k9⟩
  have H9 := Aside0.mk h9
  have B9 := Aside0.mk (below_kb B8.out k9 (Nat.le_refl _) (Nat.le_of_lt hsz8))
  clear h9 k9
  go_wp2_with fail
  refine (aw9 w.heap.size w9 H9.out).mono ?_
  rintro e w10 ⟨rfl, rfl⟩
  go_wp2
  go_ret
  exact ⟨rfl, B9.out⟩
end Go.Proofs.YtpbjabpakkjomaaDoor
