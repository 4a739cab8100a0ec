/- The printed functions of slices.Sort at uint32 come to the kit's plain functions: insertion, reversal. -/
import Derived.Test.YtpbjabpakkjomaaDoorSx7
import Derived.Sort.AssemblyPlain
namespace Go.Proofs.YtpbjabpakkjomaaDoor.S
open Go.RowKit Go.Proofs.YtpbjabpakkjomaaDoorW.PrintWords Go.Proofs.YtpbjabpakkjomaaDoorW.PrintLast Go.Proofs.YtpbjabpakkjomaaDoorW.PrintMore
set_option linter.unusedVariables false
set_option linter.unusedSimpArgs false
open Go.Sort (swp ltInt)

theorem w64 {n : Int} (h1 : -9223372036854775808 ≤ n) (h2 : n ≤ 9223372036854775807) : wrap64 n = n := IntWalk.wrap64_in n ⟨h1, h2⟩
theorem w64N {n : Int} {m : Nat} (h : n = (m : Int)) (hm : m ≤ 5000000) : wrap64 n = (m : Int) := by rw [h]; exact w64 (by omega) (by omega)
theorem w64_succ {n : Nat} (h : n ≤ 1000000) : wrap64 ((n : Int) + 1) = ((n + 1 : Nat) : Int) := by rw [w64] <;> omega
theorem w64_pred {n : Nat} (h : n ≤ 1000000) : wrap64 (((n + 1 : Nat) : Int) - 1) = (n : Int) := by rw [w64] <;> omega
theorem w64_add (a b : Nat) (h : a + b ≤ 5000000) : wrap64 ((a : Int) + (b : Int)) = ((a + b : Nat) : Int) := w64N (by omega) h
theorem w64_sub (a b : Nat) (h : b ≤ a) (ha : a ≤ 5000000) : wrap64 ((a : Int) - (b : Int)) = ((a - b : Nat) : Int) := w64N (by omega) (by omega)
theorem w64_kid (root : Nat) (h : root ≤ 1000000) : wrap64 ((wrap64 (2 * (root : Int))) + 1) = ((2 * root + 1 : Nat) : Int) := by
  rw [w64 (n := 2 * (root : Int)) (by omega) (by omega)]; exact w64N (by omega) (by omega)
theorem w64_kid2 (root : Nat) (h : root ≤ 1000000) : wrap64 (((2 * root + 1 : Nat) : Int) + 1) = ((2 * root + 2 : Nat) : Int) := w64N (by omega) (by omega)
theorem w64_dec (a : Nat) (h : 0 < a) (ha : a ≤ 5000000) : wrap64 ((a : Int) - 1) = ((a - 1 : Nat) : Int) := w64N (by omega) (by omega)
theorem w64_m1 (a : Nat) (ha : a ≤ 5000000) : wrap64 ((a : Int) - 1) = (a : Int) - 1 := w64 (by omega) (by omega)
theorem rdA (d : Array Int) (i : Nat) : rd d.toList (i : Int) = d[i]! := by
  unfold rd
  rw [Int.toNat_natCast, List.getD_eq_getElem?_getD, Array.getElem?_toList, getElem!_def]
  cases d[i]? <;> rfl
theorem swpA (d : Array Int) (i j : Nat) : (d.toList.set i (d[j]!)).set j (d[i]!) = (swp d i j).toList := by simp [swp]
theorem swp_size (d : Array Int) (i j : Nat) : (swp d i j).size = d.size := by simp [swp]
theorem less_f (a b : Int) : cmp_Less_uint32.f a b = some (decide (a < b)) := by simp [cmp_Less_uint32.f, cmp_isNaN_uint32.f]
theorem lenA (d : Array Int) : (d.toList.length : Int) = (d.size : Int) := by simp

theorem insInner_size (a : Nat) : ∀ (j : Nat) (d : Array Int), (Sort.insInner ltInt a j d).size = d.size
  | 0, _ => rfl
  | j + 1, d => by unfold Sort.insInner; split <;> simp [insInner_size a j, swp_size]
theorem ins_l1 (a b i : Nat) (hi : i ≤ 1000000) {r : List Int} : ∀ (j : Nat) (d : Array Int), j < d.size → d.size ≤ 1000000 →
    Ev (fun k => slices_insertionSortOrdered_uint32.l0 k (Sort.insInner ltInt a j d).toList a b ((i + 1 : Nat) : Int)) r →
    Ev (fun k => slices_insertionSortOrdered_uint32.l1 k d.toList a b i j) r
  | 0, d, h0, h1, hn => Ev.step (fun k => by rewrite [slices_insertionSortOrdered_uint32.l1, if_neg (by omega), w64_succ hi]; rfl) hn
  | j + 1, d, h0, h1, hn => by
    unfold Sort.insInner at hn
    by_cases hj : j + 1 > a
    · by_cases hl : d[j + 1]! < d[j]!
      · have e : (decide (j + 1 > a) && ltInt d[j + 1]! d[j]!) = true := by simp [hj, ltInt, hl]
        rw [if_pos e] at hn
        have ih := ins_l1 a b i hi j (swp d (j + 1) j) (by rw [swp_size]; omega) (by rw [swp_size]; omega) hn
        refine Ev.step (fun k => ?_) ih
        rewrite [slices_insertionSortOrdered_uint32.l1, if_pos (by omega), if_pos (by omega), if_pos (by rw [lenA]; omega), w64_pred (by omega), if_pos (by omega), if_pos (by rw [lenA]; omega), less_f, rdA, rdA, Option.bind_some, if_pos (by simpa using hl), Int.toNat_natCast, Int.toNat_natCast, swpA]
        rfl
      · have e : (decide (j + 1 > a) && ltInt d[j + 1]! d[j]!) = false := by simp [ltInt]; intro _; omega
        rw [if_neg (by rw [e]; simp)] at hn
        refine Ev.step (fun k => ?_) hn
        rewrite [slices_insertionSortOrdered_uint32.l1, if_pos (by omega), if_pos (by omega), if_pos (by rw [lenA]; omega), w64_pred (by omega), if_pos (by omega), if_pos (by rw [lenA]; omega), less_f, rdA, rdA, Option.bind_some, if_neg (by simpa using hl), w64_succ hi]
        rfl
    · have e : (decide (j + 1 > a) && ltInt d[j + 1]! d[j]!) = false := by simp [hj]
      rw [if_neg (by rw [e]; simp)] at hn
      exact Ev.step (fun k => by rw [slices_insertionSortOrdered_uint32.l1, if_neg (by omega), w64_succ hi]) hn
theorem ins_l0 (a b : Nat) : ∀ (n i : Nat) (d : Array Int), b - i = n → b ≤ d.size → d.size ≤ 1000000 → i ≤ 1000001 →
    Ev (fun k => slices_insertionSortOrdered_uint32.l0 k d.toList a b (i : Int)) (Sort.insOuter ltInt a b i d).toList
  | 0, i, d, hn, h0, h1, h2 => by
    unfold Sort.insOuter
    rw [if_neg (by omega)]
    exact Ev.step (fun k => by rw [slices_insertionSortOrdered_uint32.l0, if_neg (by omega)]) (Ev.now _)
  | n + 1, i, d, hn, h0, h1, h2 => by
    unfold Sort.insOuter
    rw [if_pos (by omega)]
    have ih := ins_l0 a b n (i + 1) (Sort.insInner ltInt a i d) (by omega) (by rw [insInner_size]; omega) (by rw [insInner_size]; omega) (by omega)
    have h := ins_l1 a b i (by omega) i d (by omega) h1 ih
    exact Ev.step (fun k => by rw [slices_insertionSortOrdered_uint32.l0, if_pos (by omega)]) h
theorem ins_ev (a b : Nat) (d : Array Int) (h0 : b ≤ d.size) (h1 : d.size ≤ 1000000) (h2 : a ≤ 1000000) :
    Ev (fun k => slices_insertionSortOrdered_uint32.f k d.toList a b) (Sort.insertionSort ltInt d a b).toList := by
  refine Ev.congr (fun k => by rw [slices_insertionSortOrdered_uint32.f, w64_succ h2]) ?_
  exact ins_l0 a b _ (a + 1) d rfl h0 h1 (by omega)
theorem ins_size (a b : Nat) : ∀ (n i : Nat) (d : Array Int), b - i = n → (Sort.insOuter ltInt a b i d).size = d.size
  | 0, i, d, hn => by unfold Sort.insOuter; rw [if_neg (by omega)]
  | n + 1, i, d, hn => by unfold Sort.insOuter; rw [if_pos (by omega), ins_size a b n _ _ (by omega), insInner_size]

theorem rev_l0 : ∀ (n i j : Nat) (d : Array Int), j - i ≤ n → j < d.size → d.size ≤ 1000000 →
    Ev (fun k => slices_reverseRangeOrdered_uint32.l0 k d.toList i j) (Sort.reverseLoop i j d).toList
  | 0, i, j, d, hn, h0, h1 => by
    unfold Sort.reverseLoop
    rw [if_neg (by omega)]
    exact Ev.step (fun k => by rw [slices_reverseRangeOrdered_uint32.l0, if_neg (by omega)]) (Ev.now _)
  | n + 1, i, j, d, hn, h0, h1 => by
    unfold Sort.reverseLoop
    by_cases h : i < j
    · rw [if_pos h]
      have ih := rev_l0 n (i + 1) (j - 1) (swp d i j) (by omega) (by rw [swp_size]; omega) (by rw [swp_size]; omega)
      refine Ev.step (fun k => ?_) ih
      rewrite [slices_reverseRangeOrdered_uint32.l0, if_pos (by omega), if_pos (by omega), if_pos (by rw [lenA]; omega), if_pos (by omega), if_pos (by rw [lenA]; omega), rdA, rdA, Int.toNat_natCast, Int.toNat_natCast, swpA, w64_succ (by omega), w64_dec j (by omega) (by omega)]
      rfl
    · rw [if_neg h]
      exact Ev.step (fun k => by rw [slices_reverseRangeOrdered_uint32.l0, if_neg (by omega)]) (Ev.now _)
theorem rev_ev (a b : Nat) (d : Array Int) (h0 : b ≤ d.size) (h1 : d.size ≤ 1000000) (h2 : 0 < b) :
    Ev (fun k => slices_reverseRangeOrdered_uint32.f k d.toList a b) (Sort.reverseRange d a b).toList := by
  have e1 : wrap64 ((b : Int) - 1) = ((b - 1 : Nat) : Int) := by rw [w64] <;> omega
  refine Ev.congr (fun k => by rw [slices_reverseRangeOrdered_uint32.f, e1]) ?_
  exact rev_l0 _ a (b - 1) d (Nat.le_refl _) (by omega) h1

/-! heap sort -/
theorem sift_size (hi first : Nat) : ∀ (n root : Nat) (d : Array Int), hi - root ≤ n → (Sort.siftDown ltInt hi first root d).size = d.size
  | 0, root, d, hn => by unfold Sort.siftDown; rw [dif_pos (by omega)]
  | n + 1, root, d, hn => by
    unfold Sort.siftDown
    split
    · rfl
    · split
      · split
        · rfl
        · split
          · rw [sift_size hi first n _ _ (by omega), swp_size]
          · rfl
      · split
        · rfl
        · rw [sift_size hi first n _ _ (by omega), swp_size]
set_option maxHeartbeats 2000000 in
theorem sift_l0 (hi first : Nat) : ∀ (n root : Nat) (d : Array Int), hi - root ≤ n → first + hi ≤ d.size → d.size ≤ 1000000 → root ≤ 1000000 →
    Ev (fun k => slices_siftDownOrdered_uint32.l0 k d.toList hi first root) (Sort.siftDown ltInt hi first root d).toList := by
  intro n
  induction n with
  | zero =>
    intro root d hn h0 h1 h2
    unfold Sort.siftDown
    rw [dif_pos (by omega)]
    exact Ev.step (fun k => by rw [slices_siftDownOrdered_uint32.l0, w64_kid root (by omega), if_pos (by omega)]) (Ev.now _)
  | succ n ih =>
    intro root d hn h0 h1 h2
    unfold Sort.siftDown
    by_cases hr : 2 * root + 1 ≥ hi
    · rw [dif_pos hr]
      exact Ev.step (fun k => by rw [slices_siftDownOrdered_uint32.l0, w64_kid root (by omega), if_pos (by omega)]) (Ev.now _)
    · rw [dif_neg hr]
      have low : Ev (fun k => slices_siftDownOrdered_uint32.j1 k d.toList hi first root ((2 * root + 1 : Nat) : Int) false) (if !ltInt d[first + root]! d[first + (2 * root + 1)]! then d else Sort.siftDown ltInt hi first (2 * root + 1) (swp d (first + root) (first + (2 * root + 1)))).toList := by
        by_cases hl : d[first + root]! < d[first + (2 * root + 1)]!
        · rw [if_neg (by simp [ltInt, hl])]
          refine Ev.step (fun k => ?_) (ih (2 * root + 1) (swp d (first + root) (first + (2 * root + 1))) (by omega) (by rw [swp_size]; omega) (by rw [swp_size]; omega) (by omega))
          rewrite [slices_siftDownOrdered_uint32.j1, if_neg (by simp), w64_add first root (by omega), w64_add first (2 * root + 1) (by omega), if_pos (by omega), if_pos (by rw [lenA]; omega), if_pos (by omega), if_pos (by rw [lenA]; omega), less_f, rdA, rdA, Option.bind_some, if_pos (by simpa using hl), Int.toNat_natCast, Int.toNat_natCast, swpA]
          rfl
        · rw [if_pos (by simp [ltInt]; omega)]
          refine Ev.step (fun k => ?_) (Ev.now _)
          rewrite [slices_siftDownOrdered_uint32.j1, if_neg (by simp), w64_add first root (by omega), w64_add first (2 * root + 1) (by omega), if_pos (by omega), if_pos (by rw [lenA]; omega), if_pos (by omega), if_pos (by rw [lenA]; omega), less_f, rdA, rdA, Option.bind_some, if_neg (by simpa using hl)]
          rfl
      have high : 2 * root + 2 < hi → Ev (fun k => slices_siftDownOrdered_uint32.j1 k d.toList hi first root ((2 * root + 1 : Nat) : Int) true) (if !ltInt d[first + root]! d[first + (2 * root + 2)]! then d else if _h2 : 2 * root + 2 < hi then Sort.siftDown ltInt hi first (2 * root + 2) (swp d (first + root) (first + (2 * root + 2))) else d).toList := by
        intro h2'
        by_cases hl : d[first + root]! < d[first + (2 * root + 2)]!
        · rw [if_neg (by simp [ltInt, hl]), dif_pos h2']
          refine Ev.step (fun k => ?_) (ih (2 * root + 2) (swp d (first + root) (first + (2 * root + 2))) (by omega) (by rw [swp_size]; omega) (by rw [swp_size]; omega) (by omega))
          rewrite [slices_siftDownOrdered_uint32.j1, if_pos rfl, w64_kid2 root (by omega), w64_add first root (by omega), w64_add first (2 * root + 2) (by omega), if_pos (by omega), if_pos (by rw [lenA]; omega), if_pos (by omega), if_pos (by rw [lenA]; omega), less_f, rdA, rdA, Option.bind_some, if_pos (by simpa using hl), Int.toNat_natCast, Int.toNat_natCast, swpA]
          rfl
        · rw [if_pos (by simp [ltInt]; omega)]
          refine Ev.step (fun k => ?_) (Ev.now _)
          rewrite [slices_siftDownOrdered_uint32.j1, if_pos rfl, w64_kid2 root (by omega), w64_add first root (by omega), w64_add first (2 * root + 2) (by omega), if_pos (by omega), if_pos (by rw [lenA]; omega), if_pos (by omega), if_pos (by rw [lenA]; omega), less_f, rdA, rdA, Option.bind_some, if_neg (by simpa using hl)]
          rfl
      by_cases hc : 2 * root + 2 < hi
      · by_cases hl : d[first + (2 * root + 1)]! < d[first + (2 * root + 1) + 1]!
        · rw [if_pos (by simp [ltInt, hl]; omega)]
          refine Ev.step (fun k => ?_) (high hc)
          rewrite [slices_siftDownOrdered_uint32.l0, w64_kid root (by omega), if_neg (by omega), w64_kid2 root (by omega), if_pos (by omega), w64_add first (2 * root + 1) (by omega), if_pos (by omega), if_pos (by rw [lenA]; omega), w64_succ (n := first + (2 * root + 1)) (by omega), if_pos (by omega), if_pos (by rw [lenA]; omega), less_f, rdA, rdA, Option.bind_some, decide_eq_true hl]
          rfl
        · rw [if_neg (by simp [ltInt, hl])]
          refine Ev.step (fun k => ?_) low
          rewrite [slices_siftDownOrdered_uint32.l0, w64_kid root (by omega), if_neg (by omega), w64_kid2 root (by omega), if_pos (by omega), w64_add first (2 * root + 1) (by omega), if_pos (by omega), if_pos (by rw [lenA]; omega), w64_succ (n := first + (2 * root + 1)) (by omega), if_pos (by omega), if_pos (by rw [lenA]; omega), less_f, rdA, rdA, Option.bind_some, decide_eq_false hl]
          rfl
      · rw [if_neg (by simp; intro h; omega)]
        refine Ev.step (fun k => ?_) low
        rewrite [slices_siftDownOrdered_uint32.l0, w64_kid root (by omega), if_neg (by omega), w64_kid2 root (by omega), if_neg (by omega)]
        rfl
theorem sift_ev (hi first root : Nat) (d : Array Int) (h0 : first + hi ≤ d.size) (h1 : d.size ≤ 1000000) (h2 : root ≤ 1000000) :
    Ev (fun k => slices_siftDownOrdered_uint32.f k d.toList root hi first) (Sort.siftDown ltInt hi first root d).toList := sift_l0 hi first _ root d (Nat.le_refl _) h0 h1 h2
theorem heapPop_l1 (first lo : Nat) (hlo : lo = 0) : ∀ (n : Nat) (d : Array Int), first + n ≤ d.size → d.size ≤ 1000000 →
    Ev (fun k => slices_heapSortOrdered_uint32.l1 k d.toList first lo ((n : Int) - 1)) (Sort.heapPop ltInt first n d).toList
  | 0, d, h0, h1 => Ev.step (fun k => by rewrite [slices_heapSortOrdered_uint32.l1, if_neg (by omega)]; rfl) (Ev.now _)
  | n + 1, d, h0, h1 => by
    subst hlo
    unfold Sort.heapPop
    have e0 : (((n + 1 : Nat) : Int) - 1) = (n : Int) := by omega
    have s := sift_ev n first 0 (swp d first (first + n)) (by rw [swp_size]; omega) (by rw [swp_size]; omega) (by omega)
    have ih := heapPop_l1 first 0 rfl n (Sort.siftDown ltInt n first 0 (swp d first (first + n))) (by rw [sift_size _ _ _ _ _ (Nat.le_refl _), swp_size]; omega) (by rw [sift_size _ _ _ _ _ (Nat.le_refl _), swp_size]; omega)
    rw [e0]
    refine Ev.step (fun k => ?_) (Ev.bind (f := fun k t => slices_heapSortOrdered_uint32.l1 k t first 0 ((n : Int) - 1)) s ih)
    rewrite [slices_heapSortOrdered_uint32.l1, if_pos (by omega), w64_add first n (by omega), if_pos (by omega), if_pos (by rw [lenA]; omega), if_pos (by omega), if_pos (by rw [lenA]; omega), rdA, rdA, Int.toNat_natCast, Int.toNat_natCast, swpA, w64_m1 n (by omega)]
    rfl
theorem heapPop_size (first : Nat) : ∀ (n : Nat) (d : Array Int), (Sort.heapPop ltInt first n d).size = d.size
  | 0, _ => rfl
  | n + 1, d => by unfold Sort.heapPop; rw [heapPop_size first n, sift_size _ _ _ _ _ (Nat.le_refl _), swp_size]
theorem heapBuild_l0 (first hi : Nat) {r : List Int} : ∀ (n : Nat) (d : Array Int), first + hi ≤ d.size → d.size ≤ 1000000 → n ≤ 1000000 →
    Ev (fun k => slices_heapSortOrdered_uint32.l1 k (Sort.heapBuild ltInt hi first n d).toList first 0 (wrap64 ((hi : Int) - 1))) r →
    Ev (fun k => slices_heapSortOrdered_uint32.l0 k d.toList first 0 hi ((n : Int) - 1)) r
  | 0, d, h0, h1, h2, hn => Ev.step (fun k => by rewrite [slices_heapSortOrdered_uint32.l0, if_neg (by omega)]; rfl) hn
  | n + 1, d, h0, h1, h2, hn => by
    unfold Sort.heapBuild at hn
    have e0 : (((n + 1 : Nat) : Int) - 1) = (n : Int) := by omega
    have s := sift_ev hi first n d h0 h1 (by omega)
    have ih := heapBuild_l0 first hi n (Sort.siftDown ltInt hi first n d) (by rw [sift_size _ _ _ _ _ (Nat.le_refl _)]; omega) (by rw [sift_size _ _ _ _ _ (Nat.le_refl _)]; omega) (by omega) hn
    rw [e0]
    refine Ev.step (fun k => ?_) (Ev.bind (f := fun k t => slices_heapSortOrdered_uint32.l0 k t first 0 hi ((n : Int) - 1)) s ih)
    rewrite [slices_heapSortOrdered_uint32.l0, if_pos (by omega), w64_m1 n (by omega)]
    rfl
theorem heapBuild_size (first hi : Nat) : ∀ (n : Nat) (d : Array Int), (Sort.heapBuild ltInt hi first n d).size = d.size
  | 0, _ => rfl
  | n + 1, d => by unfold Sort.heapBuild; rw [heapBuild_size first hi n, sift_size _ _ _ _ _ (Nat.le_refl _)]
theorem heap_ev (a b : Nat) (d : Array Int) (hab : a ≤ b) (h0 : b ≤ d.size) (h1 : d.size ≤ 1000000) :
    Ev (fun k => slices_heapSortOrdered_uint32.f k d.toList a b) (Sort.heapSort ltInt d a b).toList := by
  have e3 : wrap64 (Int.tdiv (((b - a : Nat) : Int) - 1) 2) = (((b - a - 1) / 2 + 1 : Nat) : Int) - 1 := by
    by_cases h : b - a = 0
    · rw [h]; rw [show Int.tdiv (((0 : Nat) : Int) - 1) 2 = 0 by decide, w64] <;> omega
    · rw [Int.tdiv_eq_ediv_of_nonneg (by omega), w64] <;> omega
  refine Ev.congr (fun k => by rewrite [slices_heapSortOrdered_uint32.f, w64_sub b a hab (by omega), w64_m1 (b - a) (by omega), e3]; rfl) ?_
  refine heapBuild_l0 a (b - a) ((b - a - 1) / 2 + 1) d (by omega) h1 (by omega) ?_
  rw [w64_m1 (b - a) (by omega)]
  exact heapPop_l1 a 0 rfl (b - a) _ (by rw [heapBuild_size]; omega) (by rw [heapBuild_size]; omega)
end Go.Proofs.YtpbjabpakkjomaaDoor.S
