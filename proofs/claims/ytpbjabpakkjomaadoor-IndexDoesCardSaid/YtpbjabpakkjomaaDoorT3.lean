/- The printed functions of slices.Sort at uint32 come to the kit's plain functions: the partitions. -/
import Derived.Test.YtpbjabpakkjomaaDoorT2
namespace Go.Proofs.YtpbjabpakkjomaaDoor.S
open Go.RowKit Go.Proofs.YtpbjabpakkjomaaDoorW.PrintWords Go.Proofs.YtpbjabpakkjomaaDoorW.PrintLast Go.Proofs.YtpbjabpakkjomaaDoorW.PrintMore
set_option linter.unusedVariables false
set_option linter.unusedSimpArgs false
open Go.Sort (swp ltInt)

theorem scanUp_range (p : Int → Bool) (d : Array Int) (j : Nat) : ∀ (n i : Nat), j + 1 - i = n → i ≤ Sort.scanUp p d j i ∧ (i ≤ j + 1 → Sort.scanUp p d j i ≤ j + 1)
  | 0, i, hn => by unfold Sort.scanUp; rw [if_neg (by simp; omega)]; omega
  | n + 1, i, hn => by
    unfold Sort.scanUp
    split
    · have := scanUp_range p d j n (i + 1) (by omega); omega
    · omega
theorem scanDown_range (p : Int → Bool) (d : Array Int) (i : Nat) : ∀ (j : Nat), Sort.scanDown p d i j ≤ j
  | 0 => by unfold Sort.scanDown; exact Nat.le_refl _
  | j + 1 => by
    unfold Sort.scanDown
    split
    · have := scanDown_range p d i j; omega
    · exact Nat.le_refl _

/-! equal ones -/
theorem pe_up (a j : Nat) (d : Array Int) {r : Int × List Int} (ha : a < d.size) (hj : j < d.size) (h1 : d.size ≤ 1000000) : ∀ (n i : Nat), j + 1 - i = n →
    Ev (fun k => slices_partitionEqualOrdered_uint32.j2 k d.toList a (Sort.scanUp (fun x => !ltInt d[a]! x) d j i) j) r →
    Ev (fun k => slices_partitionEqualOrdered_uint32.l1 k d.toList a i j) r
  | 0, i, hn, hr => by
    unfold Sort.scanUp at hr
    rw [if_neg (by simp; omega)] at hr
    exact Ev.step (fun k => by rw [slices_partitionEqualOrdered_uint32.l1, if_neg (by omega)]) hr
  | n + 1, i, hn, hr => by
    unfold Sort.scanUp at hr
    by_cases hl : d[a]! < d[i]!
    · rw [if_neg (by simp [ltInt, hl])] at hr
      refine Ev.step (fun k => ?_) hr
      rewrite [slices_partitionEqualOrdered_uint32.l1, if_pos (by omega), if_pos (by omega), if_pos (by rw [lenA]; omega), if_pos (by omega), if_pos (by rw [lenA]; omega), less_f, rdA, rdA, Option.bind_some, if_pos (by simpa using hl)]
      rfl
    · rw [if_pos (by simp [ltInt]; omega)] at hr
      have ih := pe_up a j d ha hj h1 n (i + 1) (by omega) hr
      refine Ev.step (fun k => ?_) ih
      rewrite [slices_partitionEqualOrdered_uint32.l1, if_pos (by omega), if_pos (by omega), if_pos (by rw [lenA]; omega), if_pos (by omega), if_pos (by rw [lenA]; omega), less_f, rdA, rdA, Option.bind_some, if_neg (by simpa using hl), w64_succ (by omega)]
      rfl
theorem pe_down (a i : Nat) (d : Array Int) {r : Int × List Int} (ha : a < d.size) (hi : 1 ≤ i) (h1 : d.size ≤ 1000000) : ∀ (j : Nat), j < d.size →
    (i > Sort.scanDown (fun x => ltInt d[a]! x) d i j → r = ((i : Int), d.toList)) →
    (i ≤ Sort.scanDown (fun x => ltInt d[a]! x) d i j → Ev (fun k => slices_partitionEqualOrdered_uint32.l0 k (swp d i (Sort.scanDown (fun x => ltInt d[a]! x) d i j)).toList a ((i + 1 : Nat) : Int) ((Sort.scanDown (fun x => ltInt d[a]! x) d i j - 1 : Nat) : Int)) r) →
    Ev (fun k => slices_partitionEqualOrdered_uint32.l2 k d.toList a i j) r
  | 0, hj, e1, _ => by
    have e := e1 (by unfold Sort.scanDown; omega)
    subst e
    exact Ev.step (fun k => by rw [slices_partitionEqualOrdered_uint32.l2, if_neg (by omega), if_pos (by omega)]) (Ev.now _)
  | j + 1, hj, e1, e2 => by
    unfold Sort.scanDown at e1 e2
    by_cases hij : i ≤ j + 1
    · by_cases hl : d[a]! < d[j + 1]!
      · rw [if_pos (by simp [ltInt, hl, hij])] at e1 e2
        have ih := pe_down a i d ha hi h1 j (by omega) e1 e2
        refine Ev.step (fun k => ?_) ih
        rewrite [slices_partitionEqualOrdered_uint32.l2, if_pos (by omega), if_pos (by omega), if_pos (by rw [lenA]; omega), if_pos (by omega), if_pos (by rw [lenA]; omega), less_f, rdA, rdA, Option.bind_some, if_pos (by simpa using hl), w64_pred (by omega)]
        rfl
      · rw [if_neg (by simp [ltInt, hl])] at e1 e2
        refine Ev.step (fun k => ?_) (e2 hij)
        rewrite [slices_partitionEqualOrdered_uint32.l2, if_pos (by omega), if_pos (by omega), if_pos (by rw [lenA]; omega), if_pos (by omega), if_pos (by rw [lenA]; omega), less_f, rdA, rdA, Option.bind_some, if_neg (by simpa using hl), if_neg (by omega), if_pos (by omega), if_pos (by rw [lenA]; omega), rdA, Int.toNat_natCast, Int.toNat_natCast, swpA, w64_succ (by omega), w64_pred (by omega)]
        rfl
    · rw [if_neg (by simp [hij])] at e1
      have e := e1 (by omega)
      subst e
      exact Ev.step (fun k => by rw [slices_partitionEqualOrdered_uint32.l2, if_neg (by omega), if_pos (by omega)]) (Ev.now _)
theorem pe_l0 (a : Nat) : ∀ (n i j : Nat) (d : Array Int), j + 1 - i ≤ n → a < d.size → 1 ≤ i → j < d.size → d.size ≤ 1000000 →
    Ev (fun k => slices_partitionEqualOrdered_uint32.l0 k d.toList a i j) (((Sort.partEqLoop ltInt a i j d).1 : Int), (Sort.partEqLoop ltInt a i j d).2.toList) := by
  intro n
  induction n with
  | zero =>
    intro i j d hn ha hi hj h1
    refine Ev.step (fun k => by rewrite [slices_partitionEqualOrdered_uint32.l0]; rfl) (pe_up a j d ha hj h1 _ i rfl (Ev.step (fun k => by rewrite [slices_partitionEqualOrdered_uint32.j2]; rfl) ?_))
    obtain ⟨u1, _⟩ := scanUp_range (fun x => !ltInt d[a]! x) d j _ i rfl
    unfold Sort.partEqLoop
    dsimp only
    generalize Sort.scanUp (fun x => !ltInt d[a]! x) d j i = i2 at *
    have d1 := scanDown_range (fun x => ltInt d[a]! x) d i2 j
    refine pe_down a i2 d ha (by omega) h1 j hj (fun h => ?_) (fun h => ?_)
    · rw [if_pos h]
    · omega
  | succ n ih =>
    intro i j d hn ha hi hj h1
    refine Ev.step (fun k => by rewrite [slices_partitionEqualOrdered_uint32.l0]; rfl) (pe_up a j d ha hj h1 _ i rfl (Ev.step (fun k => by rewrite [slices_partitionEqualOrdered_uint32.j2]; rfl) ?_))
    obtain ⟨u1, _⟩ := scanUp_range (fun x => !ltInt d[a]! x) d j _ i rfl
    unfold Sort.partEqLoop
    dsimp only
    generalize Sort.scanUp (fun x => !ltInt d[a]! x) d j i = i2 at *
    have d1 := scanDown_range (fun x => ltInt d[a]! x) d i2 j
    refine pe_down a i2 d ha (by omega) h1 j hj (fun h => ?_) (fun h => ?_)
    · rw [if_pos h]
    · generalize Sort.scanDown (fun x => ltInt d[a]! x) d i2 j = j2 at *
      rw [if_neg (by omega), dif_pos (by omega)]
      exact ih (i2 + 1) (j2 - 1) (swp d i2 j2) (by omega) (by rw [swp_size]; omega) (by omega) (by rw [swp_size]; omega) (by rw [swp_size]; omega)
theorem pe_ev (a b pivot : Nat) (d : Array Int) (ha : a ≤ pivot) (hp : pivot < b) (h0 : b ≤ d.size) (h1 : d.size ≤ 1000000) :
    Ev (fun k => slices_partitionEqualOrdered_uint32.f k d.toList a b pivot) (((Sort.partitionEqual ltInt d a b pivot).1 : Int), (Sort.partitionEqual ltInt d a b pivot).2.toList) := by
  refine Ev.congr (fun k => by rewrite [slices_partitionEqualOrdered_uint32.f, if_pos (by omega), if_pos (by rw [lenA]; omega), if_pos (by omega), if_pos (by rw [lenA]; omega), rdA, rdA, Int.toNat_natCast, Int.toNat_natCast, swpA, w64_succ (by omega), w64_dec b (by omega) (by omega)]; rfl) ?_
  exact pe_l0 a _ (a + 1) (b - 1) (swp d a pivot) (Nat.le_refl _) (by rw [swp_size]; omega) (by omega) (by rw [swp_size]; omega) (by rw [swp_size]; omega)

/-! smaller ones, others -/
theorem pp_up0 (a j : Nat) (d : Array Int) {r : Int × Bool × List Int} (ha : a < d.size) (hj : j < d.size) (h1 : d.size ≤ 1000000) : ∀ (n i : Nat), j + 1 - i = n →
    Ev (fun k => slices_partitionOrdered_uint32.j1 k d.toList a (Sort.scanUp (fun x => ltInt x d[a]!) d j i) j) r →
    Ev (fun k => slices_partitionOrdered_uint32.l0 k d.toList a i j) r
  | 0, i, hn, hr => by
    unfold Sort.scanUp at hr
    rw [if_neg (by simp; omega)] at hr
    exact Ev.step (fun k => by rw [slices_partitionOrdered_uint32.l0, if_neg (by omega)]) hr
  | n + 1, i, hn, hr => by
    unfold Sort.scanUp at hr
    by_cases hl : d[i]! < d[a]!
    · rw [if_pos (by simp [ltInt, hl]; omega)] at hr
      have ih := pp_up0 a j d ha hj h1 n (i + 1) (by omega) hr
      refine Ev.step (fun k => ?_) ih
      rewrite [slices_partitionOrdered_uint32.l0, if_pos (by omega), if_pos (by omega), if_pos (by rw [lenA]; omega), if_pos (by omega), if_pos (by rw [lenA]; omega), less_f, rdA, rdA, Option.bind_some, if_pos (by simpa using hl), w64_succ (by omega)]
      rfl
    · rw [if_neg (by simp [ltInt, hl])] at hr
      refine Ev.step (fun k => ?_) hr
      rewrite [slices_partitionOrdered_uint32.l0, if_pos (by omega), if_pos (by omega), if_pos (by rw [lenA]; omega), if_pos (by omega), if_pos (by rw [lenA]; omega), less_f, rdA, rdA, Option.bind_some, if_neg (by simpa using hl)]
      rfl
theorem pp_up3 (a j : Nat) (d : Array Int) {r : Int × Bool × List Int} (ha : a < d.size) (hj : j < d.size) (h1 : d.size ≤ 1000000) : ∀ (n i : Nat), j + 1 - i = n →
    Ev (fun k => slices_partitionOrdered_uint32.j6 k d.toList a (Sort.scanUp (fun x => ltInt x d[a]!) d j i) j) r →
    Ev (fun k => slices_partitionOrdered_uint32.l3 k d.toList a i j) r
  | 0, i, hn, hr => by
    unfold Sort.scanUp at hr
    rw [if_neg (by simp; omega)] at hr
    exact Ev.step (fun k => by rw [slices_partitionOrdered_uint32.l3, if_neg (by omega)]) hr
  | n + 1, i, hn, hr => by
    unfold Sort.scanUp at hr
    by_cases hl : d[i]! < d[a]!
    · rw [if_pos (by simp [ltInt, hl]; omega)] at hr
      have ih := pp_up3 a j d ha hj h1 n (i + 1) (by omega) hr
      refine Ev.step (fun k => ?_) ih
      rewrite [slices_partitionOrdered_uint32.l3, if_pos (by omega), if_pos (by omega), if_pos (by rw [lenA]; omega), if_pos (by omega), if_pos (by rw [lenA]; omega), less_f, rdA, rdA, Option.bind_some, if_pos (by simpa using hl), w64_succ (by omega)]
      rfl
    · rw [if_neg (by simp [ltInt, hl])] at hr
      refine Ev.step (fun k => ?_) hr
      rewrite [slices_partitionOrdered_uint32.l3, if_pos (by omega), if_pos (by omega), if_pos (by rw [lenA]; omega), if_pos (by omega), if_pos (by rw [lenA]; omega), less_f, rdA, rdA, Option.bind_some, if_neg (by simpa using hl)]
      rfl
theorem pp_down1 (a i : Nat) (d : Array Int) {r : Int × Bool × List Int} (ha : a < d.size) (hi : 1 ≤ i) (h1 : d.size ≤ 1000000) : ∀ (j : Nat), j < d.size →
    Ev (fun k => slices_partitionOrdered_uint32.j3 k d.toList a i (Sort.scanDown (fun x => !ltInt x d[a]!) d i j)) r →
    Ev (fun k => slices_partitionOrdered_uint32.l1 k d.toList a i j) r
  | 0, hj, hr => by
    unfold Sort.scanDown at hr
    exact Ev.step (fun k => by rw [slices_partitionOrdered_uint32.l1, if_neg (by omega)]) hr
  | j + 1, hj, hr => by
    unfold Sort.scanDown at hr
    by_cases hij : i ≤ j + 1
    · by_cases hl : d[j + 1]! < d[a]!
      · rw [if_neg (by simp [ltInt, hl])] at hr
        refine Ev.step (fun k => ?_) hr
        rewrite [slices_partitionOrdered_uint32.l1, if_pos (by omega), if_pos (by omega), if_pos (by rw [lenA]; omega), if_pos (by omega), if_pos (by rw [lenA]; omega), less_f, rdA, rdA, Option.bind_some, if_pos (by simpa using hl)]
        rfl
      · rw [if_pos (by simp [ltInt]; omega)] at hr
        have ih := pp_down1 a i d ha hi h1 j (by omega) hr
        refine Ev.step (fun k => ?_) ih
        rewrite [slices_partitionOrdered_uint32.l1, if_pos (by omega), if_pos (by omega), if_pos (by rw [lenA]; omega), if_pos (by omega), if_pos (by rw [lenA]; omega), less_f, rdA, rdA, Option.bind_some, if_neg (by simpa using hl), w64_pred (by omega)]
        rfl
    · rw [if_neg (by simp [hij])] at hr
      exact Ev.step (fun k => by rw [slices_partitionOrdered_uint32.l1, if_neg (by omega)]) hr
theorem pp_down4 (a i : Nat) (d : Array Int) {r : Int × Bool × List Int} (ha : a < d.size) (hi : 1 ≤ i) (h1 : d.size ≤ 1000000) : ∀ (j : Nat), j < d.size →
    (i > Sort.scanDown (fun x => !ltInt x d[a]!) d i j → r = ((Sort.scanDown (fun x => !ltInt x d[a]!) d i j : Int), false, (swp d (Sort.scanDown (fun x => !ltInt x d[a]!) d i j) a).toList)) →
    (i ≤ Sort.scanDown (fun x => !ltInt x d[a]!) d i j → Ev (fun k => slices_partitionOrdered_uint32.l2 k (swp d i (Sort.scanDown (fun x => !ltInt x d[a]!) d i j)).toList a ((i + 1 : Nat) : Int) ((Sort.scanDown (fun x => !ltInt x d[a]!) d i j - 1 : Nat) : Int)) r) →
    Ev (fun k => slices_partitionOrdered_uint32.l4 k d.toList a i j) r
  | 0, hj, e1, _ => by
    unfold Sort.scanDown at e1
    have e := e1 (by omega)
    subst e
    refine Ev.step (fun k => ?_) (Ev.now _)
    rewrite [slices_partitionOrdered_uint32.l4, if_neg (by omega), if_pos (by omega), if_pos (by omega), if_pos (by rw [lenA]; omega), if_pos (by omega), if_pos (by rw [lenA]; omega), rdA, rdA, Int.toNat_natCast, Int.toNat_natCast, swpA]
    rfl
  | j + 1, hj, e1, e2 => by
    unfold Sort.scanDown at e1 e2
    by_cases hij : i ≤ j + 1
    · by_cases hl : d[j + 1]! < d[a]!
      · rw [if_neg (by simp [ltInt, hl])] at e1 e2
        refine Ev.step (fun k => ?_) (e2 hij)
        rewrite [slices_partitionOrdered_uint32.l4, if_pos (by omega), if_pos (by omega), if_pos (by rw [lenA]; omega), if_pos (by omega), if_pos (by rw [lenA]; omega), less_f, rdA, rdA, Option.bind_some, if_pos (by simpa using hl), if_neg (by omega), if_pos (by omega), if_pos (by rw [lenA]; omega), rdA, Int.toNat_natCast, Int.toNat_natCast, swpA, w64_succ (by omega), w64_pred (by omega)]
        rfl
      · rw [if_pos (by simp [ltInt]; omega)] at e1 e2
        have ih := pp_down4 a i d ha hi h1 j (by omega) e1 e2
        refine Ev.step (fun k => ?_) ih
        rewrite [slices_partitionOrdered_uint32.l4, if_pos (by omega), if_pos (by omega), if_pos (by rw [lenA]; omega), if_pos (by omega), if_pos (by rw [lenA]; omega), less_f, rdA, rdA, Option.bind_some, if_neg (by simpa using hl), w64_pred (by omega)]
        rfl
    · rw [if_neg (by simp [hij])] at e1
      have e := e1 (by omega)
      subst e
      refine Ev.step (fun k => ?_) (Ev.now _)
      rewrite [slices_partitionOrdered_uint32.l4, if_neg (by omega), if_pos (by omega), if_pos (by omega), if_pos (by rw [lenA]; omega), if_pos (by omega), if_pos (by rw [lenA]; omega), rdA, rdA, Int.toNat_natCast, Int.toNat_natCast, swpA]
      rfl
theorem pp_l2 (a : Nat) : ∀ (n i j : Nat) (d : Array Int), j + 1 - i ≤ n → a < d.size → 1 ≤ i → j < d.size → d.size ≤ 1000000 →
    Ev (fun k => slices_partitionOrdered_uint32.l2 k d.toList a i j) (((Sort.partLoop ltInt a i j d).1 : Int), false, (swp (Sort.partLoop ltInt a i j d).2 (Sort.partLoop ltInt a i j d).1 a).toList) := by
  intro n
  induction n with
  | zero =>
    intro i j d hn ha hi hj h1
    refine Ev.step (fun k => by rewrite [slices_partitionOrdered_uint32.l2]; rfl) (pp_up3 a j d ha hj h1 _ i rfl (Ev.step (fun k => by rewrite [slices_partitionOrdered_uint32.j6]; rfl) ?_))
    obtain ⟨u1, _⟩ := scanUp_range (fun x => ltInt x d[a]!) d j _ i rfl
    unfold Sort.partLoop
    dsimp only
    generalize Sort.scanUp (fun x => ltInt x d[a]!) d j i = i2 at *
    have d1 := scanDown_range (fun x => !ltInt x d[a]!) d i2 j
    refine pp_down4 a i2 d ha (by omega) h1 j hj (fun h => ?_) (fun h => ?_)
    · rw [if_pos h]
    · omega
  | succ n ih =>
    intro i j d hn ha hi hj h1
    refine Ev.step (fun k => by rewrite [slices_partitionOrdered_uint32.l2]; rfl) (pp_up3 a j d ha hj h1 _ i rfl (Ev.step (fun k => by rewrite [slices_partitionOrdered_uint32.j6]; rfl) ?_))
    obtain ⟨u1, _⟩ := scanUp_range (fun x => ltInt x d[a]!) d j _ i rfl
    unfold Sort.partLoop
    dsimp only
    generalize Sort.scanUp (fun x => ltInt x d[a]!) d j i = i2 at *
    have d1 := scanDown_range (fun x => !ltInt x d[a]!) d i2 j
    refine pp_down4 a i2 d ha (by omega) h1 j hj (fun h => ?_) (fun h => ?_)
    · rw [if_pos h]
    · generalize Sort.scanDown (fun x => !ltInt x d[a]!) d i2 j = j2 at *
      rw [if_neg (by omega), dif_pos (by omega)]
      exact ih (i2 + 1) (j2 - 1) (swp d i2 j2) (by omega) (by rw [swp_size]; omega) (by omega) (by rw [swp_size]; omega) (by rw [swp_size]; omega)
theorem pp_ev (a b pivot : Nat) (d : Array Int) (ha : a ≤ pivot) (hp : pivot < b) (h0 : b ≤ d.size) (h1 : d.size ≤ 1000000) :
    Ev (fun k => slices_partitionOrdered_uint32.f k d.toList a b pivot) (((Sort.partition ltInt d a b pivot).1 : Int), (Sort.partition ltInt d a b pivot).2.1, (Sort.partition ltInt d a b pivot).2.2.toList) := by
  refine Ev.congr (fun k => by rewrite [slices_partitionOrdered_uint32.f, if_pos (by omega), if_pos (by rw [lenA]; omega), if_pos (by omega), if_pos (by rw [lenA]; omega), rdA, rdA, Int.toNat_natCast, Int.toNat_natCast, swpA, w64_succ (by omega), w64_dec b (by omega) (by omega)]; rfl) ?_
  unfold Sort.partition
  dsimp only
  have hs := swp_size d a pivot
  generalize swp d a pivot = e at *
  refine pp_up0 a (b - 1) e (by omega) (by omega) (by omega) _ (a + 1) rfl (Ev.step (fun k => by rewrite [slices_partitionOrdered_uint32.j1]; rfl) ?_)
  obtain ⟨u1, u2⟩ := scanUp_range (fun x => ltInt x e[a]!) e (b - 1) _ (a + 1) rfl
  generalize Sort.scanUp (fun x => ltInt x e[a]!) e (b - 1) (a + 1) = i2 at *
  have d1 := scanDown_range (fun x => !ltInt x e[a]!) e i2 (b - 1)
  refine pp_down1 a i2 e (by omega) (by omega) (by omega) (b - 1) (by omega) ?_
  generalize Sort.scanDown (fun x => !ltInt x e[a]!) e i2 (b - 1) = j2 at *
  by_cases h : i2 > j2
  · rw [if_pos h]
    refine Ev.step (fun k => ?_) (Ev.now _)
    rewrite [slices_partitionOrdered_uint32.j3, if_pos (by omega), if_pos (by omega), if_pos (by rw [lenA]; omega), if_pos (by omega), if_pos (by rw [lenA]; omega), rdA, rdA, Int.toNat_natCast, Int.toNat_natCast, swpA]
    rfl
  · rw [if_neg h]
    have l2 := pp_l2 a _ (i2 + 1) (j2 - 1) (swp e i2 j2) (Nat.le_refl _) (by rw [swp_size]; omega) (by omega) (by rw [swp_size]; omega) (by rw [swp_size]; omega)
    refine Ev.step (fun k => ?_) l2
    rewrite [slices_partitionOrdered_uint32.j3, if_neg (by omega), if_pos (by omega), if_pos (by rw [lenA]; omega), if_pos (by omega), if_pos (by rw [lenA]; omega), rdA, rdA, Int.toNat_natCast, Int.toNat_natCast, swpA, w64_succ (by omega), w64_dec j2 (by omega) (by omega)]
    rfl
end Go.Proofs.YtpbjabpakkjomaaDoor.S
