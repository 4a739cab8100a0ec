/- victim.Right: what it answers. -/
import Derived.Test.YtkcpbglimpaieaaC
namespace Go.Proofs.Ytkcpbglimpaieaa
open Go.RowKit Go.Shelf Go.Sort
instance : Inhabited Z := ⟨z0⟩
theorem same_id (id : Int) (B : Nat) (w : World) (hB : B < w.heap.size) (hcell : w.cell? ⟨B, 0, none⟩ = some (.int .i64 id)) :
    PredBelow Try.prog 17 #[.pointer (some ⟨B, 0, none⟩)] (fun x => .agg (Z.c x).toArray) (fun x => x.id == id) w := fun W x hb => by
  have hc : W.cell? ⟨B, 0, none⟩ = some (.int .i64 id) := (hb.cell (p := ⟨B, 0, none⟩) hB).trans hcell
  have hBW : B < W.heap.size := Nat.lt_of_lt_of_le hB hb.size
  have hne : B ≠ W.heap.size := by omega
  show Calls Try.prog 17 #[.agg #[.int .i64 x.id, .int .i64 x.va, .int .u32 x.ag], .pointer (some ⟨B, 0, none⟩)] W _
  go_enter Try.func17, Try.ntmps17
  go_wp2
  all_goals (go_ret; exact ⟨by simp_all, hb.alloc hb.size _⟩)
def okAt (pages : Int) (l : List Z) (i : Nat) : Bool := !(decide ((l[i]?.getD z0).id < 0) || decide ((l[i]?.getD z0).va < 0) || decide (pages < (l[i]?.getD z0).va) || (l.take i).any (fun y => y.id == (l[i]?.getD z0).id))
def rightB (pages : Int) (l : List Z) : Bool := (List.range l.length).all (okAt pages l) && decide (l.length ≤ 24)
theorem contains_calls (B b off c : Nat) (id : Int) (zs : List Z) (k : Nat) (w : World) (hk : k ≤ zs.length) (hl : zs.length ≤ 1000000) (hB : B < w.heap.size) (hcell : w.cell? ⟨B, 0, none⟩ = some (.int .i64 id)) (hb : b < w.heap.size)
    (hc : ∀ j, j < zs.length → w.cell? ⟨b, off + j * 3, none⟩ = some (.int .i64 (zs[j]?.getD z0).id) ∧ w.cell? ⟨b, off + j * 3 + 1, none⟩ = some (.int .i64 (zs[j]?.getD z0).va) ∧ w.cell? ⟨b, off + j * 3 + 2, none⟩ = some (.int .u32 (zs[j]?.getD z0).ag)) :
    Calls Try.prog 16 #[.slice (some ⟨b, off, none⟩) k c, .func (.func 17) #[] #[.pointer (some ⟨B, 0, none⟩)]] w fun e w' => e = .returned (.bool ((zs.take k).any (fun y => y.id == id))) ∧ Below w.heap.size w w' :=
  AnyQ.slices_ContainsFunc Go.Proofs.Try.containsZone 3 Try.isAgg29 Try.sizeOf29 Z.c (fun _ => rfl) (fun x => x.id == id) 17 #[.pointer (some ⟨B, 0, none⟩)] (enters_of Try.func17 (by kernel_rfl) rfl) b off k c zs w
    (same_id id B w hB hcell) hk (by omega) hb (fun j hj i v hi => by
      have h1 := hc j hj
      have e : zs[j]! = zs[j]?.getD z0 := by rw [List.getElem!_eq_getElem?_getD]; rfl
      rw [e] at hi
      generalize zs[j]?.getD z0 = y at hi h1
      match i, hi with
      | 0, hi => simp [Z.c] at hi; rw [← hi]; exact h1.1
      | 1, hi => simp [Z.c] at hi; rw [← hi]; exact h1.2.1
      | 2, hi => simp [Z.c] at hi; rw [← hi]; exact h1.2.2
      | i + 3, hi => simp [Z.c] at hi)
def BoolRes (r : Bool) (w : World) (e : Ending) (w' : World) : Prop := e = .returned (.bool r) ∧ Below w.heap.size w w'
theorem rightB_no {pages : Int} {l : List Z} {k : Nat} (hk : k < l.length) (h : okAt pages l k = false) : rightB pages l = false := by
  unfold rightB
  rw [Bool.and_eq_false_iff]
  left
  rw [List.all_eq_false]
  exact ⟨k, by simpa using hk, by simp [h]⟩
theorem rightB_yes {pages : Int} {l : List Z} (h : ∀ j, j < l.length → okAt pages l j = true) : rightB pages l = decide (l.length ≤ 24) := by
  unfold rightB
  rw [List.all_eq_true.2 (by intro j hj; exact h j (by simpa using hj))]
  simp
set_option maxRecDepth 100000 in
set_option maxHeartbeats 4000000 in
theorem right_calls (pages : Int) (zs : List Z) (cap : Nat) (hcap : zs.length ≤ cap) (A : Option Addr) (w : World) (hz : Zones w.heap.size w A zs) :
    Calls Try.prog 11 #[.int .i64 pages, .slice A zs.length cap] w (BoolRes (rightB pages zs) w) := by
  have hl := hz.1
  go_enter Try.func11, Try.ntmps11
  go_wp2
  go_loopw [5, 6, 9] (fun _ _ i wr => ∃ k : Nat, k ≤ zs.length ∧ i = .int .i64 k ∧ Hd (∀ j, j < k → okAt pages zs j = true) ∧ Hd (Below w.heap.size w wr))
    (fun _ _ i _ => zs.length - (intOf i).toNat)
  case atStart => exact ⟨0, Nat.zero_le _, rfl, ⟨fun j hj => by omega⟩, ⟨Below.refl _ _⟩⟩
  case round =>
    obtain ⟨k, hk, rfl, hall, hB⟩ := hrel
    by_cases hlt : k < zs.length
    · obtain ⟨b, off, rfl, hb, hcs⟩ := (hz.below hB.out).2 (by omega)
      have hsz := hB.out.size
      obtain ⟨c0, c1, c2⟩ := hcs k hlt
      have HC := Hd.mk hcs
      obtain ⟨z, hzk⟩ : ∃ z, zs[k]?.getD z0 = z := ⟨_, rfl⟩
      rw [hzk] at c0 c1 c2
      have HZ := Hd.mk hzk
      clear hcs hzk hz
      have HK : ∀ (r : Bool), (z.id < 0 ∨ z.va < 0 ∨ pages < z.va) → BoolRes (rightB pages zs) w (.returned (.bool false)) (wr.alloc (.cells #[.int .i64 z.id, .int .i64 z.va, .int .u32 z.ag] 29)) := fun r h =>
        ⟨by rw [rightB_no hlt (by unfold okAt; rw [HZ.out]; rcases h with h | h | h <;> simp [h])], hB.out.alloc hsz _⟩
      have HK := Hd.mk HK
      have hc2 : ∀ o : Obj, ∀ j, j < zs.length → (wr.alloc o).cell? ⟨b, off + j * 3, none⟩ = some (.int .i64 (zs[j]?.getD z0).id) ∧ (wr.alloc o).cell? ⟨b, off + j * 3 + 1, none⟩ = some (.int .i64 (zs[j]?.getD z0).va) ∧ (wr.alloc o).cell? ⟨b, off + j * 3 + 2, none⟩ = some (.int .u32 (zs[j]?.getD z0).ag) := fun o j hj =>
        ⟨cell_alloc_old (HC.out j hj).1 _, cell_alloc_old (HC.out j hj).2.1 _, cell_alloc_old (HC.out j hj).2.2 _⟩
      have hcon := contains_calls wr.heap.size b off cap z.id zs k (wr.alloc (.cells #[.int .i64 z.id, .int .i64 z.va, .int .u32 z.ag] 29)) hk hl (by simp) (cell_at_new _ _ _ _ 0 rfl) (by simp; omega) (hc2 _)
      clear hc2
      obtain ⟨r, hr⟩ : ∃ r, (zs.take k).any (fun y => y.id == z.id) = r := ⟨_, rfl⟩
      rw [hr] at hcon
      have HR := Hd.mk hr
      have HCON := Hd.mk hcon
      clear hr hcon
      cases r with
      | true =>
        go_wp2_with (go_at_call 16; refine HCON.out.mono ?_; rintro e w' ⟨rfl, hb'⟩; have HB2 := Hd.mk hb'; clear hb')
        · go_ret
          exact ⟨by rw [rightB_no hlt (by unfold okAt; rw [HZ.out, HR.out]; simp)]; rfl, hB.out.trans (((Below.refl _ wr).alloc hsz _).trans (HB2.out.mono (by simp; omega)))⟩
        · go_ret
          exact HK.out true (by omega)
        · go_ret
          exact HK.out true (by omega)
        · go_ret
          exact HK.out true (by omega)
      | false =>
        go_wp2_with (go_at_call 16; refine HCON.out.mono ?_; rintro e w' ⟨rfl, hb'⟩; have HB2 := Hd.mk hb'; clear hb')
        · have i1 : 0 ≤ z.id := by assumption
          have i2 : 0 ≤ z.va := by assumption
          have i3 : z.va ≤ pages := by assumption
          go_roundw
          case rel => exact ⟨k + 1, by omega, by go_num, ⟨fun j hj => by
            rcases Nat.lt_succ_iff_lt_or_eq.1 hj with h | rfl
            · exact hall.out j h
            · unfold okAt; rw [HZ.out, HR.out]; simp; omega⟩, ⟨hB.out.trans (((Below.refl _ wr).alloc hsz _).trans (HB2.out.mono (by simp; omega)))⟩⟩
          case measure => simp [intOf]; omega
        · go_ret
          exact HK.out true (by omega)
        · go_ret
          exact HK.out true (by omega)
        · go_ret
          exact HK.out true (by omega)
    · obtain rfl : k = zs.length := by omega
      clear hz
      go_wp2
      go_ret
      exact ⟨by rw [rightB_yes hall.out]; simp; omega, hB.out⟩
end Go.Proofs.Ytkcpbglimpaieaa
