/- slices.Values, Collect and AppendSeq over zones: the zones come in their order, in new memory. -/
import Derived.Test.YtkcpbglimpaieaaA
import Derived.RangeFuncNested
import Derived.RangeFuncBound
import Derived.RangeFuncCalls
import Derived.RangeFuncLeaves
import Derived.Shelf.Abstract
import Derived.Shelf.RegionOpen
import Derived.OwnWalkIn
import Derived.TacticsInMore
import Derived.LoopNIn
import Derived.LoopIn
import Derived.Maps.AppendAt
namespace Go.Proofs.Ytkcpbglimpaieaa
open Go.RowKit Go.Shelf
attribute [local go_sem] Oper.semAt_some

def z0 : Z := ⟨0, 0, 0⟩
/-- the slice value holds the zones, in a block below n₀; or there are none. -/
def Zones (n₀ : Nat) (W : World) (A : Option Addr) (zs : List Z) : Prop :=
  zs.length ≤ 1000000 ∧ (0 < zs.length → ∃ b off, A = some ⟨b, off, none⟩ ∧ b < n₀ ∧ ∀ j, j < zs.length → W.cell? ⟨b, off + j * 3, none⟩ = some (.int .i64 (zs[j]?.getD z0).id) ∧ W.cell? ⟨b, off + j * 3 + 1, none⟩ = some (.int .i64 (zs[j]?.getD z0).va) ∧ W.cell? ⟨b, off + j * 3 + 2, none⟩ = some (.int .u32 (zs[j]?.getD z0).ag))
theorem Zones.below {n₀ : Nat} {A B : World} (h : Below n₀ A B) {sv : Option Addr} {zs : List Z} : Zones n₀ A sv zs → Zones n₀ B sv zs
  | ⟨hl, hc⟩ => ⟨hl, fun h0 => by
    obtain ⟨b, off, e, hb, hc⟩ := hc h0
    exact ⟨b, off, e, hb, fun j hj => ⟨(h.cell (p := ⟨b, off + j * 3, none⟩) hb).trans (hc j hj).1, (h.cell (p := ⟨b, off + j * 3 + 1, none⟩) hb).trans (hc j hj).2.1, (h.cell (p := ⟨b, off + j * 3 + 2, none⟩) hb).trans (hc j hj).2.2⟩⟩⟩

set_option maxRecDepth 100000 in
set_option maxHeartbeats 2000000 in
theorem values1_in (F : Fence) (n : Nat) (h7 : F.fn 28) (hro : F.round = none) (hn : 1 ≤ n) (l Bs n₀ cap : Nat) (A : Option Addr) (zs : List Z) (J Jx : List Z → World → Prop)
    (hY : ∀ pre x W, J pre W → pre.length < zs.length → YieldAt F (n - 1) Try.prog l #[Z.v x] W fun e W' =>
      (e = .returned (.bool true) ∧ J (pre ++ [x]) W' ∧ Below n₀ W W') ∨ (e = .returned (.bool false) ∧ Jx (pre ++ [x]) W'))
    (W : World) (hJ : AbidesFrom W.heap.size J) (hn0 : n₀ ≤ W.heap.size) (hBs : W.cell? ⟨Bs, 0, none⟩ = some (.slice A zs.length cap)) (hz : Zones n₀ W A zs) (h0 : J [] W) :
    CallsIn F n Try.prog 28 #[.func (.yield l) #[] #[], .pointer (some ⟨Bs, 0, none⟩)] W fun e W' => (∃ v, e = .returned v) ∧
      ((∃ ys, ys = zs ∧ J ys W') ∨ (∃ pre, pre <+: zs ∧ Jx pre W')) := by
  have hlen : zs.length ≤ 1000000 := hz.1
  refine callsIn_of_wp Try.func28 rfl h7 ?_ hro
  simp only [Try.ntmps28, List.size_toArray, List.length_cons, List.length_nil, Nat.reduceAdd, Nat.reduceSub, Array.replicate_succ, Array.replicate_zero, List.push_toArray, List.append_toArray, List.nil_append, List.cons_append]
  gi_wp2
  gi_loopw [4, 7] (fun _ i wr => ∃ k : Nat, k ≤ zs.length ∧ i = .int .i64 k ∧ J (zs.take k) wr ∧ Below n₀ W wr ∧ W.heap.size ≤ wr.heap.size)
    (fun _ i _ => zs.length - (intOf i).toNat)
  case atStart => exact ⟨0, Nat.zero_le _, rfl, h0, Below.refl _ _, Nat.le_refl _⟩
  case round =>
    obtain ⟨k, hk, rfl, hJs, hnx, hsz⟩ := hrel
    by_cases hlt : k < zs.length
    · obtain ⟨b, off, rfl, hb, hcs⟩ := (hz.below hnx).2 (by omega)
      obtain ⟨c0, c1, c2⟩ := hcs k hlt
      obtain ⟨z, hzk⟩ : ∃ z, zs[k]?.getD z0 = z := ⟨_, rfl⟩
      rw [hzk] at c0 c1 c2
      have hsnoc : zs.take k ++ [z] = zs.take (k + 1) := by
        rw [List.take_succ_eq_append_getElem hlt, ← hzk, List.getElem?_eq_getElem hlt]; rfl
      have HS := Hd.mk hsnoc
      clear hcs hzk hsnoc
      have hJ2 : J (zs.take k) (wr.alloc (.cells #[.int .i64 z.id, .int .i64 z.va, .int .u32 z.ag] 29)) := hJ _ _ _ none hJs (World.grownBy_alloc _ _ _) (fun r e => by cases e)
      obtain ⟨fn, tmps, assign, body, hy, hR⟩ := hY _ z _ hJ2 (by rw [List.length_take]; omega)
      unfold Z.v at hy
      gi_wp2
      refine hR.mono ?_
      rintro e W3 (⟨rfl, hJ3, hk3⟩ | ⟨rfl, hJx3⟩)
      · gi_wp2
        go_roundw
        case rel => exact ⟨k + 1, by omega, by go_num, by rw [← HS.out]; exact hJ3, hnx.trans (((Below.refl n₀ wr).alloc (by omega) _).trans hk3), by have := hk3.size; simp at this; omega⟩
        case measure => simp [intOf]; omega
      · gi_wp2
        refine bodyPost_ret (results_none rfl _ _ _) rfl ?_
        exact ⟨⟨_, rfl⟩, .inr ⟨_, by rw [HS.out]; exact List.take_prefix _ _, hJx3⟩⟩
    · obtain rfl : k = zs.length := by omega
      gi_wp2
      go_end0
      exact ⟨⟨_, rfl⟩, .inl ⟨_, by simp, hJs⟩⟩

set_option maxHeartbeats 1000000 in
theorem values_in (F : Fence) (n : Nat) (h5 : F.fn 20) (hro : F.round = none) (a : Option Addr) (len cap : Nat) (w : World) :
    CallsIn F n Try.prog 20 #[.slice a len cap] w fun e w' => e = .returned (.func (.func 28) #[] #[.pointer (some ⟨w.heap.size, 0, none⟩)]) ∧ w' = w.alloc (.cells #[.slice a len cap] 22) := by
  refine callsIn_of_wp Try.func20 rfl h5 ?_ hro
  simp only [Try.ntmps20, List.size_toArray, List.length_cons, List.length_nil, Nat.reduceAdd, Nat.reduceSub, Array.replicate_succ, Array.replicate_zero, List.push_toArray, List.append_toArray, List.nil_append, List.cons_append]
  gi_wp2
  go_ret
  exact ⟨rfl, rfl⟩
theorem values_stops (F : Fence) (n : Nat) (h7 : F.fn 28) (hro : F.round = none) (hn : 1 ≤ n) (Bs n₀ cap : Nat) (A : Option Addr) (zs : List Z) (w : World) (hBs : Bs < w.heap.size) (hn₀ : n₀ ≤ w.heap.size)
    (hc : w.cell? ⟨Bs, 0, none⟩ = some (.slice A zs.length cap)) (hI : Zones n₀ w A zs) :
    SeqStopsK F n Try.prog 28 #[.pointer (some ⟨Bs, 0, none⟩)] (fun x : Z => #[x.v]) (Below n₀) (fun ys => ys = zs) (fun pre => pre <+: zs) zs.length w := fun l J Jx W hW hJ _ hY h0 =>
  values1_in F n h7 hro hn l Bs n₀ cap A zs J Jx hY W hJ (Nat.le_trans hn₀ hW.size) ((hW.cell (p := ⟨Bs, 0, none⟩) hBs).trans hc) (hI.below (hW.mono hn₀)) h0
theorem info29 : (Try.prog.info? 29).map (fun i => (i.zero, i.size, i.bytes)) = some (some (.agg #[.int .i64 0, .int .i64 0, .int .u32 0]), 3, 24) := by kernel_rfl
def zcells (zs : List Z) : List Value := zs.flatMap Z.c
theorem zcells_snoc (zs : List Z) (z : Z) : zcells (zs ++ [z]) = zcells zs ++ z.c := by simp [zcells]
theorem zcells_length (zs : List Z) : (zcells zs).length = zs.length * 3 := by
  induction zs with
  | nil => rfl
  | cons z zs ih => simp only [zcells, List.flatMap_cons, List.length_append] at *; rw [ih]; simp [Z.c]; omega

set_option maxRecDepth 100000 in
set_option maxHeartbeats 2000000 in
/-- slices.AppendSeq(nil, seq), over an iterator that hands over zs. -/
theorem appendSeq_in (F : Fence) (n : Nat) (h31 : F.fn 31) (h28 : F.fn 28) (hro : F.round = none) (hn : 3 ≤ n) (Bs cap : Nat) (A : Option Addr) (zs : List Z) (w : World) (hBs : Bs < w.heap.size)
    (hc : w.cell? ⟨Bs, 0, none⟩ = some (.slice A zs.length cap)) (hI : Zones w.heap.size w A zs) :
    CallsIn F n Try.prog 31 #[.slice none 0 0, .func (.func 28) #[] #[.pointer (some ⟨Bs, 0, none⟩)]] w fun e W' => ∃ v, e = .returned v ∧ W'.ownsRow w.heap.size 29 3 v zs.length (zcells zs) ∧ Below w.heap.size w W' := by
  have h1 : 1 ≤ n := by omega
  have hlen := hI.1
  obtain ⟨i0, hi, hz0, hz1, hz2⟩ := info_parts info29
  refine callsIn_of_wp_marks Try.func31 rfl h31 ?_ hro
  simp only [Try.ntmps31, List.size_toArray, List.length_cons, List.length_nil, Nat.reduceAdd, Nat.reduceSub, Array.replicate_succ, Array.replicate_zero, List.push_toArray, List.append_toArray, List.nil_append, List.cons_append]
  gi_wp2
  have bO := Boxed.new w 22 (.slice none 0 0)
  have hB0 : Below w.heap.size w (w.alloc (.cells #[.slice none 0 0] 22)) := (Below.refl _ w).alloc (Nat.le_refl _) _
  refine wpIn_rangeFunc_ownH hro h1 (gf := 28) (lb := #[.pointer (some ⟨Bs, 0, none⟩)]) rfl h28 (enters_of Try.func28 (by kernel_rfl) rfl)
    (values_stops F (n - 1) h28 hro (by omega) Bs w.heap.size cap A zs _ (by simp; omega) (by simp) (cell_alloc_old hc _) (hI.below hB0)) belowK_t (belowK_b (by simp)) (Below.refl _ _) (fun _ => rfl)
    (fun pre W => (∃ v, Boxed W w.heap.size 22 v ∧ W.ownsRow w.heap.size 29 3 v pre.length (zcells pre) ∧ True) ∧ Below w.heap.size w W)
    (fun _ _ _ => False)
    (OwnFrom.and (Own.from (holdsRow_own w.heap.size w.heap.size 22 29 3 (fun pre => pre.length) zcells (fun _ _ => True)) _) (ownFrom_below (Nat.le_refl _) (by simp)))
    (fun _ _ _ _ _ hs _ _ => hs)
    ⟨⟨_, bO, World.ownsRow_nil _ _ _ _, trivial⟩, hB0⟩
    (fun x a' W => ∃ Bx, w.heap.size < Bx ∧ W.heap[Bx]? = some (.cells #[.int .i64 x.id, .int .i64 x.va, .int .u32 x.ag] 29 (0, 0)) ∧ a' = { tmps := #[.slice none 0 0, .func (.func 28) #[] #[.pointer (some ⟨Bs, 0, none⟩)], .pointer (some ⟨w.heap.size, 0, none⟩), undef, .slice none 0 0, .pointer (some ⟨Bx, 0, none⟩), .func (.func 28) #[] #[.pointer (some ⟨Bs, 0, none⟩)], x.v, undef, undef, undef, undef, undef], defers := [] })
    ?hAx ?assign ?body ?done ?stop
  case hAx =>
    rintro x a' _ W W' row ⟨Bx, h1, h2, h3⟩ hg hrow
    refine ⟨Bx, h1, (hg.block Bx (Array.getElem?_eq_some_iff.1 h2).1 (fun e => ?_)).trans h2, h3⟩
    obtain ⟨_, o, ho, hno⟩ := hrow Bx e.symm
    rw [h2] at ho; cases ho; cases hno
  case assign =>
    rintro l pre x W K ⟨⟨v, hv, hrow, _⟩, hB⟩ hK
    have hs := hB.size
    have hlt := hv.lt
    have HK := Hd.mk (hK { tmps := #[.slice none 0 0, .func (.func 28) #[] #[.pointer (some ⟨Bs, 0, none⟩)], .pointer (some ⟨w.heap.size, 0, none⟩), undef, .slice none 0 0, .pointer (some ⟨W.heap.size, 0, none⟩), .func (.func 28) #[] #[.pointer (some ⟨Bs, 0, none⟩)], x.v, undef, undef, undef, undef, undef], defers := [] } (W.alloc (.cells #[.int .i64 x.id, .int .i64 x.va, .int .u32 x.ag] 29)) ((KeepsOthers.alloc _ _).from _) ((Below.refl _ W).alloc hs _) ⟨⟨v, hv.alloc _, hrow.alloc _, trivial⟩, hB.alloc hs _⟩ ⟨W.heap.size, hlt, heap_alloc_new W _, rfl⟩)
    clear hK
    unfold Z.v
    gi_wp2
    exact HK.out
  case body =>
    rintro l pre x a' W hl hrr ⟨⟨v, hv, hrow, _⟩, hB⟩ ⟨Bx, hBx, hblk, rfl⟩ hlt
    have hc := hv.cell
    have x0 : W.cell? ⟨Bx, 0, none⟩ = some (.int .i64 x.id) := cell_of_row W Bx 0 _ 29 (0, 0) hblk
    have x1 : W.cell? ⟨Bx, 1, none⟩ = some (.int .i64 x.va) := cell_of_row W Bx 1 _ 29 (0, 0) hblk
    have x2 : W.cell? ⟨Bx, 2, none⟩ = some (.int .u32 x.ag) := cell_of_row W Bx 2 _ 29 (0, 0) hblk
    clear hrr hblk
    gi_wp2_with (gi_at_builtin; refine wpListIn_append_own _ rfl _ _ 22 rfl w.heap.size 29 i0 (.agg #[.int .i64 0, .int .i64 0, .int .u32 0]) 3 24 Try.underlying22 hi hz0 hz1 hz2 rfl (by decide) _ _ _ rfl (hrow.alloc _) ⟨W.heap.size, 0, none⟩ 1 1 x.c rfl rfl ?c1 ?c2 (by unfold maxLen; omega) (by omega) (by have := hB.size; simp; omega) ?_; rotate_right; intro v' w1 hown' hgrow _; obtain ⟨g', cap', rfl⟩ := ownsRow_succ hown'; obtain ⟨hv1, hv2, hr2, hk2, hb2⟩ := hv.appended (by decide) hrow hB.size (Nat.le_refl _) hown' hgrow; have hc1 := hv1.cell; have hf1 := hv1.frozen)
    · exact ⟨hk2.from _, hb2, ⟨_, hv2, by rw [zcells_snoc, List.length_append]; exact hr2, trivial⟩, hB.trans hb2⟩
    case c1 =>
      intro j u hj
      match j, hj with
      | 0, hj => simp [Z.c] at hj; subst hj; exact (cell_at_new _ _ _ _ 0 rfl)
      | 1, hj => simp [Z.c] at hj; subst hj; exact (cell_at_new _ _ _ _ 1 rfl)
      | 2, hj => simp [Z.c] at hj; subst hj; exact (cell_at_new _ _ _ _ 2 rfl)
    case c2 => intro u hu; simp [Z.c] at hu; rcases hu with rfl | rfl | rfl <;> rfl
  case done =>
    rintro D ys W hD rfl ⟨⟨v, hv, hrow, _⟩, hB⟩ hK
    have hc := hv.cell
    gi_wp2
    refine ⟨by simp, .inl ⟨_, _, rfl, run_takeDeferred hK, ?_⟩⟩
    exact ⟨_, results_tmp rfl _ _ _, v, rfl, ownsRow_putObj hrow _ hK rfl, hB.trans (belowK_b (w := w) (Nat.le_refl _) W D _ _ (by simp at hD; omega) hK rfl rfl)⟩
  case stop =>
    rintro D c pre W _ _ h _
    exact h.elim
theorem appendSeq_calls (Bs cap : Nat) (A : Option Addr) (zs : List Z) (w : World) (hBs : Bs < w.heap.size)
    (hc : w.cell? ⟨Bs, 0, none⟩ = some (.slice A zs.length cap)) (hI : Zones w.heap.size w A zs) :
    Calls Try.prog 31 #[.slice none 0 0, .func (.func 28) #[] #[.pointer (some ⟨Bs, 0, none⟩)]] w fun e W' => ∃ v, e = .returned v ∧ W'.ownsRow w.heap.size 29 3 v zs.length (zcells zs) ∧ Below w.heap.size w W' :=
  callsIn_wide.1 (appendSeq_in Fence.wide 3 trivial trivial rfl (by omega) Bs cap A zs w hBs hc hI)
theorem values_calls (a : Option Addr) (len cap : Nat) (w : World) :
    Calls Try.prog 20 #[.slice a len cap] w fun e w' => e = .returned (.func (.func 28) #[] #[.pointer (some ⟨w.heap.size, 0, none⟩)]) ∧ w.alloc (.cells #[.slice a len cap] 22) = w' :=
  (callsIn_wide.1 (values_in Fence.wide 3 trivial rfl a len cap w)).mono fun _ _ ⟨h1, h2⟩ => ⟨h1, h2.symm⟩
def OwnRes (w : World) (zs : List Z) (e : Ending) (W' : World) : Prop := ∃ v, e = .returned v ∧ W'.ownsRow w.heap.size 29 3 v zs.length (zcells zs) ∧ Below w.heap.size w W'
set_option maxHeartbeats 1000000 in
theorem collect_calls (Bs cap : Nat) (A : Option Addr) (zs : List Z) (w : World) (hBs : Bs < w.heap.size)
    (hc : w.cell? ⟨Bs, 0, none⟩ = some (.slice A zs.length cap)) (hI : Zones w.heap.size w A zs) :
    Calls Try.prog 26 #[.func (.func 28) #[] #[.pointer (some ⟨Bs, 0, none⟩)]] w (OwnRes w zs) := by
  have H := Hd.mk (appendSeq_calls Bs cap A zs w hBs hc hI)
  clear hc hI
  go_enter Try.func26, Try.ntmps26
  go_wp2_with (go_at_call 31; refine H.out.mono ?_; rintro e w' ⟨v, rfl, h1, h2⟩)
  go_ret
  exact ⟨_, rfl, h1, h2⟩
end Go.Proofs.Ytkcpbglimpaieaa
