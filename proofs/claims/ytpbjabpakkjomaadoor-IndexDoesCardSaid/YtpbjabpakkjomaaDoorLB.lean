/- The law IndexDoes: the walk. -/
import Derived.Test.YtpbjabpakkjomaaDoorRA
import Derived.Test.YtpbjabpakkjomaaDoorCB
import Derived.Test.YtpbjabpakkjomaaDoorNx1
import Derived.Deep.RegionHeld3
namespace Go.Proofs.YtpbjabpakkjomaaDoor
open Go.RowKit Go.Proofs.YtpbjabpakkjomaaDoorW.PrintWords Go.Proofs.YtpbjabpakkjomaaDoorW.PrintLast Go.Proofs.YtpbjabpakkjomaaDoorW.PrintMore
set_option linter.unusedVariables false
set_option linter.unusedSimpArgs false

structure Ac where
  act : Int
  key : Int
  slot : Int
  deriving Inhabited
def ka : Kd Ac := Kd.iso (Kd.pair (Kd.int .i64) (Kd.pair (Kd.int .u32) (Kd.int .i64))) (fun x : Ac => (x.act, x.key, x.slot))
theorem acts_at {w : World} {A : Option Addr} {l : List Ac} (h : ka.C w A l.length l) (i : Nat) (hi : i < l.length) :
    ∃ ad, A = some ad ∧ w.cell? (ad.add (i * 3)) = some (.int .i64 (l.getD i default).act) ∧ w.cell? ⟨(ad.add (i * 3)).block, (ad.add (i * 3)).off + 1, none⟩ = some (.int .u32 (l.getD i default).key) ∧ w.cell? ⟨(ad.add (i * 3)).block, (ad.add (i * 3)).off + 2, none⟩ = some (.int .i64 (l.getD i default).slot) := by
  obtain ⟨ad, cs, ha, hlen, hK, hcell⟩ := Kd.C_get h default (i : Int) (by omega) (by omega)
  obtain ⟨c0, c1', hc, k0, c1, c2, hc', k1, k2⟩ := hK
  simp only [Kd.int, Kd.scalar, Int.toNat_natCast] at k0 k1 k2
  subst k0 k1 k2 hc'
  refine ⟨ad, ha, ?_, ?_, ?_⟩
  · have := hcell 0 _ (by rw [hc]; rfl)
    simpa [ka, Kd.iso, Kd.pair, Kd.int, Kd.scalar] using this
  · have := hcell 1 _ (by rw [hc]; rfl)
    rw [← add_field ad (i * 3) 1 (by decide)]
    simpa [ka, Kd.iso, Kd.pair, Kd.int, Kd.scalar] using this
  · have := hcell 2 _ (by rw [hc]; rfl)
    rw [← add_field ad (i * 3) 2 (by decide)]
    simpa [ka, Kd.iso, Kd.pair, Kd.int, Kd.scalar] using this
theorem numbers_self (l : List Int) (h : l.length ≤ 64) : ∃ k, N.platelayerref06_Numbers.f k l l = some true := by
  have key : ∀ d i : Nat, i + d = l.length → N.platelayerref06_Numbers.l0 (d + 1) l l (i : Int) = some true := by
    intro d
    induction d with
    | zero =>
      intro i hi
      unfold N.platelayerref06_Numbers.l0
      rw [if_neg (by omega)]
    | succ d ih =>
      intro i hi
      unfold N.platelayerref06_Numbers.l0
      rw [if_pos (by omega), if_pos (by omega), if_pos (by omega), if_pos rfl]
      have : wrap64 ((i : Int) + 1) = ((i + 1 : Nat) : Int) := IntWalk.wrap64_in _ ⟨by omega, by omega⟩
      rw [this]
      exact ih (i + 1) (by omega)
  exact ⟨l.length + 1, by unfold N.platelayerref06_Numbers.f; rw [if_pos rfl]; exact key l.length 0 (by omega)⟩
end Go.Proofs.YtpbjabpakkjomaaDoor
