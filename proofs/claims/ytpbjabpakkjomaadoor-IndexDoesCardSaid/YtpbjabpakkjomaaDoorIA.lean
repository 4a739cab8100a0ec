/- The index's object in memory; where a key stands. -/
import Derived.Test.YtpbjabpakkjomaaDoorProg
import Derived.Test.YtpbjabpakkjomaaDoorK
import Derived.Below
import Derived.Tactics
import Derived.WalkKit
import Derived.KernelRfl
import Derived.Deep.LoopGhost
import Derived.BigQuiet
import Derived.RowKit
import Derived.Laws.World
import Derived.Test.YtpbjabpakkjomaaDoorG
namespace Go.Proofs.YtpbjabpakkjomaaDoor
open Go.RowKit Go.Proofs.YtpbjabpakkjomaaDoorW.PrintWords Go.Proofs.YtpbjabpakkjomaaDoorW.PrintLast Go.Proofs.YtpbjabpakkjomaaDoorW.PrintMore
set_option linter.unusedVariables false
set_option linter.unusedSimpArgs false

/-- an index in memory: 128 places of three cells, how many keys, how many may be. -/
structure Ix (W : World) (g : Nat) (t : Nat → Pl) (many room : Int) : Prop where
  there : ∀ i, i < 128 → W.cell? ⟨g, i * 3, none⟩ = some (.bool (t i).there)
  key : ∀ i, i < 128 → W.cell? ⟨g, i * 3 + 1, none⟩ = some (.int .u32 (t i).key)
  slot : ∀ i, i < 128 → W.cell? ⟨g, i * 3 + 2, none⟩ = some (.int .i64 (t i).slot)
  many : W.cell? ⟨g, 384, none⟩ = some (.int .i64 many)
  room : W.cell? ⟨g, 385, none⟩ = some (.int .i64 room)
  free : ∀ o, W.frozen? ⟨g, o, none⟩ = false
theorem home_calls (key : Int) (w : World) : Calls Tryd.prog 20 #[.int .u32 key] w fun e w' => e = .returned (.int .i64 (homeOf key)) ∧ w' = w := by
  have e : ((homeOf key : Nat) : Int) = key * 2654435761 % 4294967296 / 33554432 := by unfold homeOf; omega
  rw [e]
  go_enter Tryd.func20, Tryd.ntmps20
  go_wp2
  go_ret
  exact ⟨rfl, rfl⟩
set_option maxHeartbeats 2000000 in
set_option maxRecDepth 100000 in
theorem find_calls (g : Nat) (t : Nat → Pl) (many room key : Int) (k r : Nat) (w : World) (hI : Ix w g t many room) (h : findL t key k (homeOf key) = some r) :
    Calls Tryd.prog 19 #[.pointer (some ⟨g, 0, none⟩), .int .u32 key] w fun e w' => e = .returned (.int .i64 r) ∧ w' = w := by
  have HI := Aside0.mk hI
  have H' := Aside0.mk h
  clear hI h
  go_enter Tryd.func19, Tryd.ntmps19
  go_wp2_with ((go_at_call 20; refine (home_calls key _).mono ?_; rintro e w1 ⟨rfl, rfl⟩))
  have hh := homeOf_lt key
  go_loopg [5] k (fun kq v5 w' => ∃ (x : Nat), v5 = .int .i64 x ∧ x < 128 ∧ Aside0 (findL t key kq x = some r) ∧ w' = w1)
  case atStart => exact ⟨homeOf key, rfl, hh, H', rfl⟩
  case round =>
    clear H' hh
    obtain ⟨x, rfl, hx, HA, rfl⟩ := hrel
    cases gk with
    | zero => exact absurd HA.out (by simp [findL])
    | succ k1 =>
      have H := HA.out
      clear HA
      simp only [findL] at H
      have c1 := HI.out.there x hx
      have c2 := HI.out.key x hx
      have b1 : (x : Int) < 128 := by omega
      have b2 : decide ((x : Int) < 128) = true := decide_eq_true b1
      cases ht : (t x).there with
      | true =>
        rw [ht] at c1
        by_cases hk : (t x).key = key
        · rw [if_neg (by simp [ht, hk])] at H
          obtain rfl := Option.some.inj H
          rw [hk] at c2
          go_wp2
          go_ret
          exact ⟨rfl, rfl⟩
        · rw [if_pos ⟨ht, hk⟩] at H
          have H' := Aside0.mk H
          clear H
          obtain ⟨kx, hkx⟩ : ∃ kx, (t x).key = kx := ⟨_, rfl⟩
          rw [hkx] at c2 hk
          clear hkx ht
          have hd : (kx != key) = true := by simpa using hk
          have HX := Aside0.mk hx
          clear hk hx
          have e3 : wrap64 ((x : Int) + 1) = (x : Int) + 1 := IntWalk.wrap64_in _ ⟨by omega, by omega⟩
          go_wp2
          go_roundg k1
          case measure => exact Nat.lt_succ_self _
          case rel => exact ⟨(x + 1) % 128, by rw [Int.natCast_emod]; rfl, Nat.mod_lt _ (by decide), H', rfl⟩
      | false =>
        rw [ht] at c1
        rw [if_neg (by simp [ht])] at H
        obtain rfl := Option.some.inj H
        go_wp2
        go_ret
        exact ⟨rfl, rfl⟩
end Go.Proofs.YtpbjabpakkjomaaDoor
