/- slices.breakPatternsOrdered at uint32, and what it calls, by hand: the calls hand on a pointer to a number. -/
import Derived.Test.YtpbjabpakkjomaaDoorSA
namespace Go.Proofs.YtpbjabpakkjomaaDoor
open Go.RowKit Go.Proofs.YtpbjabpakkjomaaDoorW.PrintWords Go.Proofs.YtpbjabpakkjomaaDoorW.PrintLast Go.Proofs.YtpbjabpakkjomaaDoorW.PrintMore
set_option linter.unusedVariables false
set_option linter.unusedSimpArgs false

/-- a number of 64 bits in memory, above what a row of cells takes. -/
structure Seed (B : Nat) (w0 w : World) (g : Nat) (n : Int) : Prop where
  cell : w.cell? ⟨g, 0, none⟩ = some (.int .u64 n)
  free : w.frozen? ⟨g, 0, none⟩ = false
  new : B ≤ g
  below : Below B w0 w
theorem Seed.drew {B : Nat} {w0 w : World} {g : Nat} {n : Int} (h : Seed B w0 w g n) : Seed B w0 w.drew g n := ⟨h.cell, h.free, h.new, h.below.drew⟩
theorem Seed.set {B : Nat} {w0 w : World} {g : Nat} {n : Int} (h : Seed B w0 w g n) (k : Int) : Seed B w0 (w.setCell ⟨g, 0, none⟩ (.int .u64 k)) g k := ⟨World.cell?_setCell_same _ _ _ h.cell, by rw [World.frozen?_setCell]; exact h.free, h.new, h.below.setCell h.new _⟩
def xa (n : Int) : Int := bits .xor .u64 n (IntKind.u64.wrap (n * 8192))
def xb (n : Int) : Int := bits .xor .u64 n (n / 128)
def xc (n : Int) : Int := bits .xor .u64 n (IntKind.u64.wrap (n * 131072))
theorem next_calls (n : Int) (B g : Nat) (w0 w : World) (hs : Seed B w0 w g n) :
    Calls Tryd.prog 44 #[.pointer (some ⟨g, 0, none⟩)] w fun e w' => e = .returned (.int .u64 (xc (xb (xa n)))) ∧ Seed B w0 w' g (xc (xb (xa n))) := by
  have hc := hs.cell
  have hf := hs.free
  go_enter Tryd.func44, Tryd.ntmps44
  go_wp2
  go_region
  have h1 := (hs.set (xa n)).drew
  rw [show bits .xor .u64 n (IntKind.u64.wrap (n * 8192)) = xa n from rfl]
  clear hs hc hf
  generalize (w.setCell ⟨g, 0, none⟩ (.int .u64 (xa n))).drew = w1 at *
  generalize q1 : xa n = n1 at *
  have hc := h1.cell
  have hf := h1.free
  go_wp2
  go_region
  have h2 := (h1.set (xb n1)).drew
  rw [show bits .xor .u64 n1 (n1 / 128) = xb n1 from rfl]
  clear h1 hc hf
  generalize (w1.setCell ⟨g, 0, none⟩ (.int .u64 (xb n1))).drew = w2 at *
  generalize q2 : xb n1 = n2 at *
  have hc := h2.cell
  have hf := h2.free
  go_wp2
  go_region
  have h3 := (h2.set (xc n2)).drew
  rw [show bits .xor .u64 n2 (IntKind.u64.wrap (n2 * 131072)) = xc n2 from rfl]
  clear h2 hc hf
  generalize (w2.setCell ⟨g, 0, none⟩ (.int .u64 (xc n2))).drew = w3 at *
  generalize q3 : xc n2 = n3 at *
  have hc := h3.cell
  go_wp2
  go_ret
  subst q3 q2 q1
  exact ⟨rfl, h3⟩
end Go.Proofs.YtpbjabpakkjomaaDoor
