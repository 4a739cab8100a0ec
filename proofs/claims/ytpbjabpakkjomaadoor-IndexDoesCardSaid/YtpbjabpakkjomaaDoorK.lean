/- Words of the print that the sort's walk leans on, and short names for what its text says often (set together by program). -/
import Derived.Test.YtpbjabpakkjomaaDoorProg
import Derived.Below
import Derived.Deep.Draws
import Derived.Deep.AppendLies
import Derived.Maps.AppendAt
import Derived.OwnWalk
import Derived.Laws.BytesArg
import Derived.Laws.MakeOwn
import Derived.Laws.OwnMore
import Derived.Deep.OwnRows
import Derived.Tactics
import Derived.Lib.ConvBytes
import Derived.Laws.Slices
import Derived.WalkKit
import Derived.KernelRfl
import Derived.RowKit3
import Derived.Deep.LoopGhost
import Derived.Deep.QuietTactic
import Derived.BigQuiet
import Derived.WideLaws
import Derived.Deep.DeepCutAuto
import Derived.Deep.CutBlock
import Derived.Deep.RegionHeld3
import Derived.Laws.Rows
import Derived.Lib.AppendStr
import Derived.ArgAppend
import Derived.Laws.IdiomCopy
import Derived.OrdersHeld
import Derived.Laws.BitsLemmas
import Derived.RowKit
import Derived.Test.YtpbjabpakkjomaaDoorWWords
import Derived.Test.YtpbjabpakkjomaaDoorWLast
import Derived.Test.YtpbjabpakkjomaaDoorWTab
namespace Go.Proofs.YtpbjabpakkjomaaDoorW.PrintWords
open Go.RowKit
def Kept (w W : World) (S : Nat → Prop) : Prop := w.heap.size ≤ W.heap.size ∧ ∀ i, i < w.heap.size → ¬ S i → W.heap[i]? = w.heap[i]?
section
variable {w W W2 : World} {S S2 S' : Nat → Prop}
theorem Kept.refl (w : World) (S : Nat → Prop) : Kept w w S := ⟨Nat.le_refl _, fun _ _ _ => rfl⟩
theorem Kept.of_below (h : Below w.heap.size w W) (S : Nat → Prop) : Kept w W S := ⟨h.size, fun i hi _ => h.block i hi⟩
theorem Kept.mono (h : Kept w W S) (hs : ∀ k, S k → S' k) : Kept w W S' := ⟨h.1, fun i hi hn => h.2 i hi (fun hk => hn (hs i hk))⟩
theorem Kept.then_ (h : Kept w W S) (k : Kept W W2 S2) (hs : ∀ k, S2 k → S k ∨ w.heap.size ≤ k) : Kept w W2 S :=
  ⟨Nat.le_trans h.1 k.1, fun i hi hn => (k.2 i (Nat.lt_of_lt_of_le hi h.1) (fun h2 => (hs i h2).elim hn (fun h3 => by omega))).trans (h.2 i hi hn)⟩
theorem Kept.of_grown {row : Option Nat} (hg : W.grownBy W2 row) (h : Kept w W S) (hr : ∀ k, row = some k → S k ∨ w.heap.size ≤ k) : Kept w W2 S :=
  h.then_ (S2 := fun k => row = some k) ⟨hg.size, fun i hi hn => hg.block i hi (fun he => hn he.symm)⟩ hr
theorem Kept.below (h : Kept w W S) (hb : Below W.heap.size W W2) : Kept w W2 S := h.then_ (Kept.of_below hb (fun _ => False)) (fun _ hk => hk.elim)
theorem Kept.alloc (h : Kept w W S) (o : Obj) : Kept w (W.alloc o) S := h.below (below_alloc (Below.refl _ _) o)
theorem Kept.drew (h : Kept w W S) : Kept w W.drew S := h
theorem Kept.drewN (h : Kept w W S) (m : Nat) : Kept w (W.drewN m) S := h
theorem Kept.setCell (h : Kept w W S) {p : Addr} (hp : S p.block ∨ w.heap.size ≤ p.block) (u : Value) : Kept w (W.setCell p u) S :=
  h.then_ (S2 := fun k => k = p.block) ⟨by simp [World.setCell], fun i _ hn => Below.heap_setCell W p u i hn⟩ (fun k hk => by rw [hk]; exact hp)
end
section
variable {P : Program} {ops : Array Oper} {rest : List Oper} {o : Oper} {a : Act} {Q : Exit → Act → World → Prop} {W : World}
theorem gate_callee {f : FuncId} {ars : Array Operand} {ts : Array TypeId} (_ho : o.op = .call { callee := .value (.func f), args := ars, argTypes := ts }) (h : wpList P ops Q (o :: rest) a W) : wpList P ops Q (o :: rest) a W := h
end
theorem drewN_self (w : World) (n : Nat) : w.drewN n = w.drewN n := rfl
namespace Kd
section
variable {α : Type} {d : Kd α} {e base : Nat} {ok ok1 : Nat → Prop} {w W : World} {v : Value} {xs : List α}
theorem R_tight (hE : d.E = []) (h : d.R e w base ok v xs) : d.R e w base (fun k => some k = v.ownBlock) v xs := by
  obtain ⟨h0, inner, ho, hr⟩ := h
  refine ⟨fun k hk => hk.symm, inner, ho, hr.imp_ (fun p c hp => d.M_mono (fun k hk => ?_) (d.M_bound hp))⟩
  obtain ⟨_, _, _, q, hq, _⟩ := hk
  rw [hE] at hq
  cases hq
theorem R_reok (hE : d.E = []) (h : d.R e W base ok1 v xs) (hok : ∀ k, v.ownBlock = some k → ok k) : d.R e W base ok v xs := R_mono (R_tight hE h) (fun k hk => hok k hk.symm)
end
end Kd
end Go.Proofs.YtpbjabpakkjomaaDoorW.PrintWords
namespace Go.Proofs.YtpbjabpakkjomaaDoorW.PrintMore
theorem nothing : True := trivial
end Go.Proofs.YtpbjabpakkjomaaDoorW.PrintMore
namespace Go.Proofs.YtpbjabpakkjomaaDoor.S
theorem pu1 (l : List Value) (i : Nat) (x : Value) : l.toArray.setIfInBounds i x = (l.set i x).toArray := List.setIfInBounds_toArray _ _ _
theorem pu2 (x : Value) (l : List Value) (b : Value) : (x :: l).set 0 b = b :: l := rfl
theorem pu3 (x : Value) (l : List Value) (n : Nat) (b : Value) : (x :: l).set (n + 1) b = x :: l.set n b := rfl
abbrev b_0_11 : Array Bool := #[false, false, false, false, false, false, false, false, false, false, false]
abbrev b_0_14 : Array Bool := #[false, false, false, false, false, false, false, false, false, false, false, false, false, false]
abbrev b_0_15 : Array Bool := #[false, false, false, false, false, false, false, false, false, false, false, false, false, false, false]
abbrev b_0_16 : Array Bool := #[false, false, false, false, false, false, false, false, false, false, false, false, false, false, false, false]
abbrev b_0_18 : Array Bool := #[false, false, false, false, false, false, false, false, false, false, false, false, false, false, false, false, false, false]
abbrev b_0_20 : Array Bool := #[false, false, false, false, false, false, false, false, false, false, false, false, false, false, false, false, false, false, false, false]
abbrev b_0_24 : Array Bool := #[false, false, false, false, false, false, false, false, false, false, false, false, false, false, false, false, false, false, false, false, false, false, false, false]
abbrev b_20000_18 : Array Bool := #[true, false, false, false, false, false, false, false, false, false, false, false, false, false, false, false, false, false]
abbrev b_2000_14 : Array Bool := #[true, false, false, false, false, false, false, false, false, false, false, false, false, false]
abbrev b_30000_18 : Array Bool := #[true, true, false, false, false, false, false, false, false, false, false, false, false, false, false, false, false, false]
abbrev b_3000_14 : Array Bool := #[true, true, false, false, false, false, false, false, false, false, false, false, false, false]
abbrev b_38000_18 : Array Bool := #[true, true, true, false, false, false, false, false, false, false, false, false, false, false, false, false, false, false]
abbrev b_3800_14 : Array Bool := #[true, true, true, false, false, false, false, false, false, false, false, false, false, false]
abbrev b_3c000_18 : Array Bool := #[true, true, true, true, false, false, false, false, false, false, false, false, false, false, false, false, false, false]
abbrev b_3c00_14 : Array Bool := #[true, true, true, true, false, false, false, false, false, false, false, false, false, false]
abbrev b_3e000_18 : Array Bool := #[true, true, true, true, true, false, false, false, false, false, false, false, false, false, false, false, false, false]
abbrev b_3e00_14 : Array Bool := #[true, true, true, true, true, false, false, false, false, false, false, false, false, false]
abbrev b_3e80_14 : Array Bool := #[true, true, true, true, true, false, true, false, false, false, false, false, false, false]
abbrev b_3ec0_14 : Array Bool := #[true, true, true, true, true, false, true, true, false, false, false, false, false, false]
abbrev b_3ee0_14 : Array Bool := #[true, true, true, true, true, false, true, true, true, false, false, false, false, false]
abbrev b_3ef0_14 : Array Bool := #[true, true, true, true, true, false, true, true, true, true, false, false, false, false]
abbrev b_3ef8_14 : Array Bool := #[true, true, true, true, true, false, true, true, true, true, true, false, false, false]
abbrev b_3f000_18 : Array Bool := #[true, true, true, true, true, true, false, false, false, false, false, false, false, false, false, false, false, false]
abbrev b_3f00_14 : Array Bool := #[true, true, true, true, true, true, false, false, false, false, false, false, false, false]
abbrev b_3f800_18 : Array Bool := #[true, true, true, true, true, true, true, false, false, false, false, false, false, false, false, false, false, false]
abbrev b_3f80_14 : Array Bool := #[true, true, true, true, true, true, true, false, false, false, false, false, false, false]
abbrev b_3fa0_14 : Array Bool := #[true, true, true, true, true, true, true, false, true, false, false, false, false, false]
abbrev b_3fb0_14 : Array Bool := #[true, true, true, true, true, true, true, false, true, true, false, false, false, false]
abbrev b_3fb8_14 : Array Bool := #[true, true, true, true, true, true, true, false, true, true, true, false, false, false]
abbrev b_3fc00_18 : Array Bool := #[true, true, true, true, true, true, true, true, false, false, false, false, false, false, false, false, false, false]
abbrev b_3fc0_14 : Array Bool := #[true, true, true, true, true, true, true, true, false, false, false, false, false, false]
abbrev b_3fe00_18 : Array Bool := #[true, true, true, true, true, true, true, true, true, false, false, false, false, false, false, false, false, false]
abbrev b_3fe0_14 : Array Bool := #[true, true, true, true, true, true, true, true, true, false, false, false, false, false]
abbrev b_3fe80_18 : Array Bool := #[true, true, true, true, true, true, true, true, true, false, true, false, false, false, false, false, false, false]
abbrev b_3fec0_18 : Array Bool := #[true, true, true, true, true, true, true, true, true, false, true, true, false, false, false, false, false, false]
abbrev b_3fee0_18 : Array Bool := #[true, true, true, true, true, true, true, true, true, false, true, true, true, false, false, false, false, false]
abbrev b_3ff0_14 : Array Bool := #[true, true, true, true, true, true, true, true, true, true, false, false, false, false]
abbrev b_3ff8_14 : Array Bool := #[true, true, true, true, true, true, true, true, true, true, true, false, false, false]
abbrev b_3ffc_14 : Array Bool := #[true, true, true, true, true, true, true, true, true, true, true, true, false, false]
abbrev b_3ffe0_18 : Array Bool := #[true, true, true, true, true, true, true, true, true, true, true, true, true, false, false, false, false, false]
abbrev b_3ffe_14 : Array Bool := #[true, true, true, true, true, true, true, true, true, true, true, true, true, false]
abbrev b_3fff0_18 : Array Bool := #[true, true, true, true, true, true, true, true, true, true, true, true, true, true, false, false, false, false]
abbrev b_3fff8_18 : Array Bool := #[true, true, true, true, true, true, true, true, true, true, true, true, true, true, true, false, false, false]
abbrev b_3fff_14 : Array Bool := #[true, true, true, true, true, true, true, true, true, true, true, true, true, true]
abbrev b_3fffc_18 : Array Bool := #[true, true, true, true, true, true, true, true, true, true, true, true, true, true, true, true, false, false]
abbrev b_3fffe_18 : Array Bool := #[true, true, true, true, true, true, true, true, true, true, true, true, true, true, true, true, true, false]
abbrev b_3ffff_18 : Array Bool := #[true, true, true, true, true, true, true, true, true, true, true, true, true, true, true, true, true, true]
abbrev b_4000_15 : Array Bool := #[true, false, false, false, false, false, false, false, false, false, false, false, false, false, false]
abbrev b_400_11 : Array Bool := #[true, false, false, false, false, false, false, false, false, false, false]
abbrev b_6000_15 : Array Bool := #[true, true, false, false, false, false, false, false, false, false, false, false, false, false, false]
abbrev b_600_11 : Array Bool := #[true, true, false, false, false, false, false, false, false, false, false]
abbrev b_7000_15 : Array Bool := #[true, true, true, false, false, false, false, false, false, false, false, false, false, false, false]
abbrev b_700_11 : Array Bool := #[true, true, true, false, false, false, false, false, false, false, false]
abbrev b_740_11 : Array Bool := #[true, true, true, false, true, false, false, false, false, false, false]
abbrev b_760_11 : Array Bool := #[true, true, true, false, true, true, false, false, false, false, false]
abbrev b_770_11 : Array Bool := #[true, true, true, false, true, true, true, false, false, false, false]
abbrev b_778_11 : Array Bool := #[true, true, true, false, true, true, true, true, false, false, false]
abbrev b_7800_15 : Array Bool := #[true, true, true, true, false, false, false, false, false, false, false, false, false, false, false]
abbrev b_7c00_15 : Array Bool := #[true, true, true, true, true, false, false, false, false, false, false, false, false, false, false]
abbrev b_7e00_15 : Array Bool := #[true, true, true, true, true, true, false, false, false, false, false, false, false, false, false]
abbrev b_7f00_15 : Array Bool := #[true, true, true, true, true, true, true, false, false, false, false, false, false, false, false]
abbrev b_7f40_15 : Array Bool := #[true, true, true, true, true, true, true, false, true, false, false, false, false, false, false]
abbrev b_7f60_15 : Array Bool := #[true, true, true, true, true, true, true, false, true, true, false, false, false, false, false]
abbrev b_7f70_15 : Array Bool := #[true, true, true, true, true, true, true, false, true, true, true, false, false, false, false]
abbrev b_7f78_15 : Array Bool := #[true, true, true, true, true, true, true, false, true, true, true, true, false, false, false]
abbrev b_7f80_15 : Array Bool := #[true, true, true, true, true, true, true, true, false, false, false, false, false, false, false]
abbrev b_7f8_11 : Array Bool := #[true, true, true, true, true, true, true, true, false, false, false]
abbrev b_7fc0_15 : Array Bool := #[true, true, true, true, true, true, true, true, true, false, false, false, false, false, false]
abbrev b_7fc_11 : Array Bool := #[true, true, true, true, true, true, true, true, true, false, false]
abbrev b_7fe0_15 : Array Bool := #[true, true, true, true, true, true, true, true, true, true, false, false, false, false, false]
abbrev b_7fe_11 : Array Bool := #[true, true, true, true, true, true, true, true, true, true, false]
abbrev b_7ff0_15 : Array Bool := #[true, true, true, true, true, true, true, true, true, true, true, false, false, false, false]
abbrev b_7ff8_15 : Array Bool := #[true, true, true, true, true, true, true, true, true, true, true, true, false, false, false]
abbrev b_7ff_11 : Array Bool := #[true, true, true, true, true, true, true, true, true, true, true]
abbrev b_7ffc_15 : Array Bool := #[true, true, true, true, true, true, true, true, true, true, true, true, true, false, false]
abbrev b_7ffe_15 : Array Bool := #[true, true, true, true, true, true, true, true, true, true, true, true, true, true, false]
abbrev b_7fff_15 : Array Bool := #[true, true, true, true, true, true, true, true, true, true, true, true, true, true, true]
abbrev b_800000_24 : Array Bool := #[true, false, false, false, false, false, false, false, false, false, false, false, false, false, false, false, false, false, false, false, false, false, false, false]
abbrev b_80000_20 : Array Bool := #[true, false, false, false, false, false, false, false, false, false, false, false, false, false, false, false, false, false, false, false]
abbrev b_8000_16 : Array Bool := #[true, false, false, false, false, false, false, false, false, false, false, false, false, false, false, false]
abbrev b_c00000_24 : Array Bool := #[true, true, false, false, false, false, false, false, false, false, false, false, false, false, false, false, false, false, false, false, false, false, false, false]
abbrev b_c0000_20 : Array Bool := #[true, true, false, false, false, false, false, false, false, false, false, false, false, false, false, false, false, false, false, false]
abbrev b_c000_16 : Array Bool := #[true, true, false, false, false, false, false, false, false, false, false, false, false, false, false, false]
abbrev b_e00000_24 : Array Bool := #[true, true, true, false, false, false, false, false, false, false, false, false, false, false, false, false, false, false, false, false, false, false, false, false]
abbrev b_e0000_20 : Array Bool := #[true, true, true, false, false, false, false, false, false, false, false, false, false, false, false, false, false, false, false, false]
abbrev b_e000_16 : Array Bool := #[true, true, true, false, false, false, false, false, false, false, false, false, false, false, false, false]
abbrev b_f00000_24 : Array Bool := #[true, true, true, true, false, false, false, false, false, false, false, false, false, false, false, false, false, false, false, false, false, false, false, false]
abbrev b_f0000_20 : Array Bool := #[true, true, true, true, false, false, false, false, false, false, false, false, false, false, false, false, false, false, false, false]
abbrev b_f000_16 : Array Bool := #[true, true, true, true, false, false, false, false, false, false, false, false, false, false, false, false]
abbrev b_f80000_24 : Array Bool := #[true, true, true, true, true, false, false, false, false, false, false, false, false, false, false, false, false, false, false, false, false, false, false, false]
abbrev b_f8000_20 : Array Bool := #[true, true, true, true, true, false, false, false, false, false, false, false, false, false, false, false, false, false, false, false]
abbrev b_f800_16 : Array Bool := #[true, true, true, true, true, false, false, false, false, false, false, false, false, false, false, false]
abbrev b_fc0000_24 : Array Bool := #[true, true, true, true, true, true, false, false, false, false, false, false, false, false, false, false, false, false, false, false, false, false, false, false]
abbrev b_fc000_20 : Array Bool := #[true, true, true, true, true, true, false, false, false, false, false, false, false, false, false, false, false, false, false, false]
abbrev b_fc00_16 : Array Bool := #[true, true, true, true, true, true, false, false, false, false, false, false, false, false, false, false]
abbrev b_fe0000_24 : Array Bool := #[true, true, true, true, true, true, true, false, false, false, false, false, false, false, false, false, false, false, false, false, false, false, false, false]
abbrev b_fe000_20 : Array Bool := #[true, true, true, true, true, true, true, false, false, false, false, false, false, false, false, false, false, false, false, false]
abbrev b_fe00_16 : Array Bool := #[true, true, true, true, true, true, true, false, false, false, false, false, false, false, false, false]
abbrev b_fe80_16 : Array Bool := #[true, true, true, true, true, true, true, false, true, false, false, false, false, false, false, false]
abbrev b_fec0_16 : Array Bool := #[true, true, true, true, true, true, true, false, true, true, false, false, false, false, false, false]
abbrev b_fee0_16 : Array Bool := #[true, true, true, true, true, true, true, false, true, true, true, false, false, false, false, false]
abbrev b_fef0_16 : Array Bool := #[true, true, true, true, true, true, true, false, true, true, true, true, false, false, false, false]
abbrev b_ff0000_24 : Array Bool := #[true, true, true, true, true, true, true, true, false, false, false, false, false, false, false, false, false, false, false, false, false, false, false, false]
abbrev b_ff000_20 : Array Bool := #[true, true, true, true, true, true, true, true, false, false, false, false, false, false, false, false, false, false, false, false]
abbrev b_ff00_16 : Array Bool := #[true, true, true, true, true, true, true, true, false, false, false, false, false, false, false, false]
abbrev b_ff8000_24 : Array Bool := #[true, true, true, true, true, true, true, true, true, false, false, false, false, false, false, false, false, false, false, false, false, false, false, false]
abbrev b_ff800_20 : Array Bool := #[true, true, true, true, true, true, true, true, true, false, false, false, false, false, false, false, false, false, false, false]
abbrev b_ff80_16 : Array Bool := #[true, true, true, true, true, true, true, true, true, false, false, false, false, false, false, false]
abbrev b_ffc000_24 : Array Bool := #[true, true, true, true, true, true, true, true, true, true, false, false, false, false, false, false, false, false, false, false, false, false, false, false]
abbrev b_ffc00_20 : Array Bool := #[true, true, true, true, true, true, true, true, true, true, false, false, false, false, false, false, false, false, false, false]
abbrev b_ffc0_16 : Array Bool := #[true, true, true, true, true, true, true, true, true, true, false, false, false, false, false, false]
abbrev b_ffd00_20 : Array Bool := #[true, true, true, true, true, true, true, true, true, true, false, true, false, false, false, false, false, false, false, false]
abbrev b_ffd80_20 : Array Bool := #[true, true, true, true, true, true, true, true, true, true, false, true, true, false, false, false, false, false, false, false]
abbrev b_ffdc0_20 : Array Bool := #[true, true, true, true, true, true, true, true, true, true, false, true, true, true, false, false, false, false, false, false]
abbrev b_ffde0_20 : Array Bool := #[true, true, true, true, true, true, true, true, true, true, false, true, true, true, true, false, false, false, false, false]
abbrev b_ffdf0_20 : Array Bool := #[true, true, true, true, true, true, true, true, true, true, false, true, true, true, true, true, false, false, false, false]
abbrev b_ffdf8_20 : Array Bool := #[true, true, true, true, true, true, true, true, true, true, false, true, true, true, true, true, true, false, false, false]
abbrev b_ffe000_24 : Array Bool := #[true, true, true, true, true, true, true, true, true, true, true, false, false, false, false, false, false, false, false, false, false, false, false, false]
abbrev b_ffe00_20 : Array Bool := #[true, true, true, true, true, true, true, true, true, true, true, false, false, false, false, false, false, false, false, false]
abbrev b_ffe0_16 : Array Bool := #[true, true, true, true, true, true, true, true, true, true, true, false, false, false, false, false]
abbrev b_ffe80_20 : Array Bool := #[true, true, true, true, true, true, true, true, true, true, true, false, true, false, false, false, false, false, false, false]
abbrev b_ffec0_20 : Array Bool := #[true, true, true, true, true, true, true, true, true, true, true, false, true, true, false, false, false, false, false, false]
abbrev b_ffee0_20 : Array Bool := #[true, true, true, true, true, true, true, true, true, true, true, false, true, true, true, false, false, false, false, false]
abbrev b_fff000_24 : Array Bool := #[true, true, true, true, true, true, true, true, true, true, true, true, false, false, false, false, false, false, false, false, false, false, false, false]
abbrev b_fff00_20 : Array Bool := #[true, true, true, true, true, true, true, true, true, true, true, true, false, false, false, false, false, false, false, false]
abbrev b_fff0_16 : Array Bool := #[true, true, true, true, true, true, true, true, true, true, true, true, false, false, false, false]
abbrev b_fff800_24 : Array Bool := #[true, true, true, true, true, true, true, true, true, true, true, true, true, false, false, false, false, false, false, false, false, false, false, false]
abbrev b_fff80_20 : Array Bool := #[true, true, true, true, true, true, true, true, true, true, true, true, true, false, false, false, false, false, false, false]
abbrev b_fff8_16 : Array Bool := #[true, true, true, true, true, true, true, true, true, true, true, true, true, false, false, false]
abbrev b_fffa00_24 : Array Bool := #[true, true, true, true, true, true, true, true, true, true, true, true, true, false, true, false, false, false, false, false, false, false, false, false]
abbrev b_fffb00_24 : Array Bool := #[true, true, true, true, true, true, true, true, true, true, true, true, true, false, true, true, false, false, false, false, false, false, false, false]
abbrev b_fffb80_24 : Array Bool := #[true, true, true, true, true, true, true, true, true, true, true, true, true, false, true, true, true, false, false, false, false, false, false, false]
abbrev b_fffbc0_24 : Array Bool := #[true, true, true, true, true, true, true, true, true, true, true, true, true, false, true, true, true, true, false, false, false, false, false, false]
abbrev b_fffbe0_24 : Array Bool := #[true, true, true, true, true, true, true, true, true, true, true, true, true, false, true, true, true, true, true, false, false, false, false, false]
abbrev b_fffc0_20 : Array Bool := #[true, true, true, true, true, true, true, true, true, true, true, true, true, true, false, false, false, false, false, false]
abbrev b_fffc_16 : Array Bool := #[true, true, true, true, true, true, true, true, true, true, true, true, true, true, false, false]
abbrev b_fffe0_20 : Array Bool := #[true, true, true, true, true, true, true, true, true, true, true, true, true, true, true, false, false, false, false, false]
abbrev b_fffe_16 : Array Bool := #[true, true, true, true, true, true, true, true, true, true, true, true, true, true, true, false]
abbrev b_ffff0_20 : Array Bool := #[true, true, true, true, true, true, true, true, true, true, true, true, true, true, true, true, false, false, false, false]
abbrev b_ffff8_20 : Array Bool := #[true, true, true, true, true, true, true, true, true, true, true, true, true, true, true, true, true, false, false, false]
abbrev b_ffff_16 : Array Bool := #[true, true, true, true, true, true, true, true, true, true, true, true, true, true, true, true]
abbrev b_ffffc_20 : Array Bool := #[true, true, true, true, true, true, true, true, true, true, true, true, true, true, true, true, true, true, false, false]
abbrev b_ffffe0_24 : Array Bool := #[true, true, true, true, true, true, true, true, true, true, true, true, true, true, true, true, true, true, true, false, false, false, false, false]
abbrev b_ffffe_20 : Array Bool := #[true, true, true, true, true, true, true, true, true, true, true, true, true, true, true, true, true, true, true, false]
abbrev b_fffff0_24 : Array Bool := #[true, true, true, true, true, true, true, true, true, true, true, true, true, true, true, true, true, true, true, true, false, false, false, false]
abbrev b_fffff8_24 : Array Bool := #[true, true, true, true, true, true, true, true, true, true, true, true, true, true, true, true, true, true, true, true, true, false, false, false]
abbrev b_fffff_20 : Array Bool := #[true, true, true, true, true, true, true, true, true, true, true, true, true, true, true, true, true, true, true, true]
abbrev b_fffffc_24 : Array Bool := #[true, true, true, true, true, true, true, true, true, true, true, true, true, true, true, true, true, true, true, true, true, true, false, false]
abbrev b_fffffe_24 : Array Bool := #[true, true, true, true, true, true, true, true, true, true, true, true, true, true, true, true, true, true, true, true, true, true, true, false]
abbrev b_ffffff_24 : Array Bool := #[true, true, true, true, true, true, true, true, true, true, true, true, true, true, true, true, true, true, true, true, true, true, true, true]
end Go.Proofs.YtpbjabpakkjomaaDoor.S
