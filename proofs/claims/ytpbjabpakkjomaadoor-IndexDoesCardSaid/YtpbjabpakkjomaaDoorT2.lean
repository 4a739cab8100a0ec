/- The printed functions of slices.Sort at uint32 come to the kit's plain functions: the partial insertion sort. -/
import Derived.Test.YtpbjabpakkjomaaDoorT
namespace Go.Proofs.YtpbjabpakkjomaaDoor.S
open Go.RowKit Go.Proofs.YtpbjabpakkjomaaDoorW.PrintWords Go.Proofs.YtpbjabpakkjomaaDoorW.PrintLast Go.Proofs.YtpbjabpakkjomaaDoorW.PrintMore
set_option linter.unusedVariables false
set_option linter.unusedSimpArgs false
open Go.Sort (swp ltInt)

theorem scanSorted_range (d : Array Int) (b : Nat) : ∀ (n i : Nat), b - i = n → i ≤ b → i ≤ Sort.scanSorted ltInt d b i ∧ Sort.scanSorted ltInt d b i ≤ b
  | 0, i, hn, h => by unfold Sort.scanSorted; rw [if_neg (by simp; omega)]; omega
  | n + 1, i, hn, h => by
    unfold Sort.scanSorted
    split
    · have := scanSorted_range d b n (i + 1) (by omega) (by omega); omega
    · omega
theorem pis_l1 (a b : Nat) (st : Int) {r : Bool × List Int} (d : Array Int) (h0 : b ≤ d.size) (h1 : d.size ≤ 1000000) : ∀ (n i : Nat), b - i = n → 1 ≤ i → i ≤ b →
    Ev (fun k => slices_partialInsertionSortOrdered_uint32.j2 k d.toList a b (Sort.scanSorted ltInt d b i) st) r →
    Ev (fun k => slices_partialInsertionSortOrdered_uint32.l1 k d.toList a b i st) r
  | 0, i, hn, h2, h3, hr => by
    unfold Sort.scanSorted at hr
    rw [if_neg (by simp; omega)] at hr
    exact Ev.step (fun k => by rw [slices_partialInsertionSortOrdered_uint32.l1, if_neg (by omega)]) hr
  | n + 1, i, hn, h2, h3, hr => by
    unfold Sort.scanSorted at hr
    by_cases hl : d[i]! < d[i - 1]!
    · rw [if_neg (by simp [ltInt, hl])] at hr
      refine Ev.step (fun k => ?_) hr
      rewrite [slices_partialInsertionSortOrdered_uint32.l1, if_pos (by omega), if_pos (by omega), if_pos (by rw [lenA]; omega), w64_dec i (by omega) (by omega), if_pos (by omega), if_pos (by rw [lenA]; omega), less_f, rdA, rdA, Option.bind_some, if_pos (by simpa using hl)]
      rfl
    · rw [if_pos (by simp [ltInt]; omega)] at hr
      have ih := pis_l1 a b st d h0 h1 n (i + 1) (by omega) (by omega) (by omega) hr
      refine Ev.step (fun k => ?_) ih
      rewrite [slices_partialInsertionSortOrdered_uint32.l1, if_pos (by omega), if_pos (by omega), if_pos (by rw [lenA]; omega), w64_dec i (by omega) (by omega), if_pos (by omega), if_pos (by rw [lenA]; omega), less_f, rdA, rdA, Option.bind_some, if_neg (by simpa using hl), w64_succ (by omega)]
      rfl
theorem shiftDown_size : ∀ (j : Nat) (d : Array Int), (Sort.shiftDown ltInt j d).size = d.size
  | 0, _ => rfl
  | j + 1, d => by
    unfold Sort.shiftDown
    split
    · rfl
    · rw [shiftDown_size j, swp_size]
theorem pis_l2 (a b i : Nat) (st : Int) {r : Bool × List Int} : ∀ (j : Nat) (d : Array Int), j < d.size → d.size ≤ 1000000 →
    Ev (fun k => slices_partialInsertionSortOrdered_uint32.j4 k (Sort.shiftDown ltInt j d).toList a b i st) r →
    Ev (fun k => slices_partialInsertionSortOrdered_uint32.l2 k d.toList a b i st j) r
  | 0, d, h0, h1, hr => Ev.step (fun k => by rewrite [slices_partialInsertionSortOrdered_uint32.l2, if_neg (by omega)]; rfl) hr
  | j + 1, d, h0, h1, hr => by
    unfold Sort.shiftDown at hr
    by_cases hl : d[j + 1]! < d[j]!
    · rw [if_neg (by simp [ltInt, hl])] at hr
      have ih := pis_l2 a b i st j (swp d (j + 1) j) (by rw [swp_size]; omega) (by rw [swp_size]; omega) hr
      refine Ev.step (fun k => ?_) ih
      rewrite [slices_partialInsertionSortOrdered_uint32.l2, if_pos (by omega), if_pos (by omega), if_pos (by rw [lenA]; omega), w64_pred (by omega), if_pos (by omega), if_pos (by rw [lenA]; omega), less_f, rdA, rdA, Option.bind_some, if_pos (by simpa using hl), Int.toNat_natCast, Int.toNat_natCast, swpA]
      rfl
    · rw [if_pos (by simp [ltInt]; omega)] at hr
      refine Ev.step (fun k => ?_) hr
      rewrite [slices_partialInsertionSortOrdered_uint32.l2, if_pos (by omega), if_pos (by omega), if_pos (by rw [lenA]; omega), w64_pred (by omega), if_pos (by omega), if_pos (by rw [lenA]; omega), less_f, rdA, rdA, Option.bind_some, if_neg (by simpa using hl)]
      rfl
theorem shiftUp_size (b : Nat) : ∀ (n j : Nat) (d : Array Int), b - j = n → (Sort.shiftUp ltInt b j d).size = d.size
  | 0, j, d, hn => by unfold Sort.shiftUp; rw [if_neg (by omega)]
  | n + 1, j, d, hn => by
    unfold Sort.shiftUp
    split
    · split
      · rfl
      · rw [shiftUp_size b n _ _ (by omega), swp_size]
    · rfl
theorem pis_l3 (a b i : Nat) (st : Nat) (hst : st ≤ 10) {r : Bool × List Int} : ∀ (n j : Nat) (d : Array Int), b - j = n → 1 ≤ j → b ≤ d.size → d.size ≤ 1000000 →
    Ev (fun k => slices_partialInsertionSortOrdered_uint32.l0 k (Sort.shiftUp ltInt b j d).toList a b i ((st + 1 : Nat) : Int)) r →
    Ev (fun k => slices_partialInsertionSortOrdered_uint32.l3 k d.toList a b i st j) r
  | 0, j, d, hn, h0, h1, h2, hr => by
    unfold Sort.shiftUp at hr
    rw [if_neg (by omega)] at hr
    exact Ev.step (fun k => by rw [slices_partialInsertionSortOrdered_uint32.l3, if_neg (by omega), w64_succ (by omega)]) hr
  | n + 1, j, d, hn, h0, h1, h2, hr => by
    unfold Sort.shiftUp at hr
    rw [if_pos (by omega)] at hr
    by_cases hl : d[j]! < d[j - 1]!
    · rw [if_neg (by simp [ltInt, hl])] at hr
      have ih := pis_l3 a b i st hst n (j + 1) (swp d j (j - 1)) (by omega) (by omega) (by rw [swp_size]; omega) (by rw [swp_size]; omega) hr
      refine Ev.step (fun k => ?_) ih
      rewrite [slices_partialInsertionSortOrdered_uint32.l3, if_pos (by omega), if_pos (by omega), if_pos (by rw [lenA]; omega), w64_dec j (by omega) (by omega), if_pos (by omega), if_pos (by rw [lenA]; omega), less_f, rdA, rdA, Option.bind_some, if_pos (by simpa using hl), Int.toNat_natCast, Int.toNat_natCast, swpA, w64_succ (by omega)]
      rfl
    · rw [if_pos (by simp [ltInt]; omega)] at hr
      refine Ev.step (fun k => ?_) hr
      rewrite [slices_partialInsertionSortOrdered_uint32.l3, if_pos (by omega), if_pos (by omega), if_pos (by rw [lenA]; omega), w64_dec j (by omega) (by omega), if_pos (by omega), if_pos (by rw [lenA]; omega), less_f, rdA, rdA, Option.bind_some, if_neg (by simpa using hl), w64_succ (n := st) (by omega)]
      rfl
set_option maxHeartbeats 1000000 in
theorem pis_l0 (a b : Nat) : ∀ (s i st : Nat) (d : Array Int), s + st = 5 → a + 1 ≤ i → i ≤ b → b ≤ d.size → d.size ≤ 1000000 →
    Ev (fun k => slices_partialInsertionSortOrdered_uint32.l0 k d.toList a b i st) ((Sort.partialIns ltInt a b s i d).2, (Sort.partialIns ltInt a b s i d).1.toList)
  | 0, i, st, d, hs, h0, h1, h2, h3 => by
    unfold Sort.partialIns
    exact Ev.step (fun k => by rw [slices_partialInsertionSortOrdered_uint32.l0, if_neg (by omega)]) (Ev.now _)
  | s + 1, i, st, d, hs, h0, h1, h2, h3 => by
    obtain ⟨r1, r2⟩ := scanSorted_range d b _ i rfl h1
    unfold Sort.partialIns
    dsimp only
    refine Ev.step (fun k => by rewrite [slices_partialInsertionSortOrdered_uint32.l0, if_pos (by omega)]; rfl) (pis_l1 a b st d h2 h3 _ i rfl (by omega) h1 ?_)
    generalize Sort.scanSorted ltInt d b i = i2 at *
    by_cases hb : i2 = b
    · rw [if_pos hb]
      exact Ev.step (fun k => by rw [slices_partialInsertionSortOrdered_uint32.j2, if_pos (by omega)]) (Ev.now _)
    · rw [if_neg hb]
      by_cases h50 : b - a < 50
      · rw [if_pos h50]
        exact Ev.step (fun k => by rw [slices_partialInsertionSortOrdered_uint32.j2, if_neg (by omega), w64_sub b a (by omega) (by omega), if_pos (by omega)]) (Ev.now _)
      · rw [if_neg h50]
        have fin : ∀ e : Array Int, e.size = d.size → Ev (fun k => slices_partialInsertionSortOrdered_uint32.j4 k e.toList a b i2 st) ((Sort.partialIns ltInt a b s i2 (if b - i2 ≥ 2 then Sort.shiftUp ltInt b (i2 + 1) e else e)).2, (Sort.partialIns ltInt a b s i2 (if b - i2 ≥ 2 then Sort.shiftUp ltInt b (i2 + 1) e else e)).1.toList) := fun e he => by
          by_cases h2' : b - i2 ≥ 2
          · rw [if_pos h2']
            have ih := pis_l0 a b s i2 (st + 1) (Sort.shiftUp ltInt b (i2 + 1) e) (by omega) (by omega) (by omega) (by rw [shiftUp_size b _ _ _ rfl]; omega) (by rw [shiftUp_size b _ _ _ rfl]; omega)
            refine Ev.step (fun k => ?_) (pis_l3 a b i2 st (by omega) _ (i2 + 1) e rfl (by omega) (by omega) (by omega) ih)
            rewrite [slices_partialInsertionSortOrdered_uint32.j4, w64_sub b i2 (by omega) (by omega), if_pos (by omega), w64_succ (by omega)]
            rfl
          · rw [if_neg h2']
            have ih := pis_l0 a b s i2 (st + 1) e (by omega) (by omega) (by omega) (by omega) (by omega)
            refine Ev.step (fun k => ?_) ih
            rewrite [slices_partialInsertionSortOrdered_uint32.j4, w64_sub b i2 (by omega) (by omega), if_neg (by omega), w64_succ (by omega)]
            rfl
        by_cases h2' : i2 - a ≥ 2
        · rw [if_pos h2']
          refine Ev.step (fun k => ?_) (pis_l2 a b i2 st (i2 - 1) (swp d i2 (i2 - 1)) (by rw [swp_size]; omega) (by rw [swp_size]; omega) (fin _ (by rw [shiftDown_size, swp_size])))
          rewrite [slices_partialInsertionSortOrdered_uint32.j2, if_neg (by omega), w64_sub b a (by omega) (by omega), if_neg (by omega), w64_dec i2 (by omega) (by omega), if_pos (by omega), if_pos (by rw [lenA]; omega), if_pos (by omega), if_pos (by rw [lenA]; omega), rdA, rdA, Int.toNat_natCast, Int.toNat_natCast, swpA, Option.bind_some, w64_sub i2 a (by omega) (by omega), if_pos (by omega)]
          rfl
        · rw [if_neg h2']
          refine Ev.step (fun k => ?_) (fin _ (swp_size _ _ _))
          rewrite [slices_partialInsertionSortOrdered_uint32.j2, if_neg (by omega), w64_sub b a (by omega) (by omega), if_neg (by omega), w64_dec i2 (by omega) (by omega), if_pos (by omega), if_pos (by rw [lenA]; omega), if_pos (by omega), if_pos (by rw [lenA]; omega), rdA, rdA, Int.toNat_natCast, Int.toNat_natCast, swpA, Option.bind_some, w64_sub i2 a (by omega) (by omega), if_neg (by omega)]
          rfl
theorem pis_ev (a b : Nat) (d : Array Int) (hab : a < b) (h0 : b ≤ d.size) (h1 : d.size ≤ 1000000) :
    Ev (fun k => slices_partialInsertionSortOrdered_uint32.f k d.toList a b) ((Sort.partialInsertionSort ltInt d a b).2, (Sort.partialInsertionSort ltInt d a b).1.toList) := by
  refine Ev.congr (fun k => by rewrite [slices_partialInsertionSortOrdered_uint32.f, w64_succ (by omega)]; rfl) ?_
  exact pis_l0 a b 5 (a + 1) 0 d rfl (Nat.le_refl _) (by omega) h0 h1
end Go.Proofs.YtpbjabpakkjomaaDoor.S
