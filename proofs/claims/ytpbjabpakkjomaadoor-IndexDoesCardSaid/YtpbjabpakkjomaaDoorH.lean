/- The table against the document's list: what is found, put and dropped, and the keys. -/
import Derived.Test.YtpbjabpakkjomaaDoorG
namespace Go.Proofs.YtpbjabpakkjomaaDoor

def refGet (L : List (Int × Int)) (key : Int) : Option Int := (L.find? fun p => p.1 == key).map (·.2)
def refDrop (L : List (Int × Int)) (key : Int) : List (Int × Int) := L.filter fun p => !(p.1 == key)
def refIns (L : List (Int × Int)) (key slot : Int) : List (Int × Int) := (L.takeWhile fun p => decide (p.1 < key)) ++ (key, slot) :: (L.dropWhile fun p => decide (p.1 < key))

/-- the table holds the list. -/
structure Rel (t : Nat → Pl) (many : Int) (L : List (Int × Int)) : Prop where
  chain : Chain t
  perm : (holds t 128).Perm L
  many : many = L.length
  small : L.length ≤ 64
  rise : L.Pairwise fun p q => p.1 < q.1
  key : ∀ p ∈ L, 0 ≤ p.1 ∧ p.1 < 4294967296
theorem Rel.none : Rel (fun _ => Pl.none) 0 [] := by
  refine ⟨chain_none, ?_, rfl, by decide, List.Pairwise.nil, fun p h => by cases h⟩
  have : ∀ n, holds (fun _ => Pl.none) n = [] := fun n => by
    induction n with
    | zero => rfl
    | succ n ih => rw [holds_succ, ih]; rfl
  rw [this]
theorem Rel.hole {t : Nat → Pl} {many : Int} {L : List (Int × Int)} (h : Rel t many L) : ∃ e, e < 128 ∧ (t e).there = false :=
  hole_of t (by have := h.perm.length_eq; have := h.small; omega)
theorem refGet_some {L : List (Int × Int)} (h : L.Pairwise fun p q => p.1 < q.1) {k s : Int} (hm : (k, s) ∈ L) : refGet L k = some s := by
  induction L with
  | nil => cases hm
  | cons p L ih =>
    unfold refGet
    rw [List.find?_cons]
    rcases List.mem_cons.1 hm with rfl | hm'
    · simp
    · have : p.1 < k := List.rel_of_pairwise_cons h hm'
      have : (p.1 == k) = false := by simp; omega
      rw [this]
      exact ih h.of_cons hm'
theorem refGet_none {L : List (Int × Int)} {k : Int} (hm : ∀ s, (k, s) ∉ L) : refGet L k = none := by
  unfold refGet
  rw [Option.map_eq_none_iff, List.find?_eq_none]
  intro p hp hk
  have : p.1 = k := by simpa using hk
  exact hm p.2 (by rw [← this]; exact hp)
/-- where a key is found. -/
structure Found (t : Nat → Pl) (L : List (Int × Int)) (key : Int) (r : Nat) : Prop where
  find : findL t key 128 (homeOf key) = some r
  lt : r < 128
  ahead : ∀ j, j < 128 → dist (homeOf key) j < dist (homeOf key) r → (t j).there = true ∧ (t j).key ≠ key
  own : (t r).there = true → (t r).key = key
  is : (t r).there = true → (key, (t r).slot) ∈ L
  no : (t r).there = false → ∀ s, (key, s) ∉ L
theorem Rel.found {t : Nat → Pl} {many : Int} {L : List (Int × Int)} (h : Rel t many L) (key : Int) : ∃ r, Found t L key r := by
  obtain ⟨e, he, hole⟩ := h.hole
  obtain ⟨r, h1, h2, h3, h4⟩ := findL_ok t key e he hole
  refine ⟨r, h1, h2, h3, h4, fun ht => ?_, fun ht s hm => ?_⟩
  · refine h.perm.mem_iff.1 (mem_holds.2 ⟨r, h2, ?_⟩)
    have hk := h4 ht
    revert ht hk
    obtain ⟨a, b, c⟩ := t r
    rintro rfl rfl
    rfl
  · obtain ⟨i, hi, e2⟩ := mem_holds.1 (h.perm.mem_iff.2 hm)
    have := h.chain.at_ key r i h2 hi h3 h4 (by rw [e2]) (by rw [e2])
    rw [← this, e2] at ht
    cases ht
theorem Found.get {t : Nat → Pl} {many : Int} {L : List (Int × Int)} (h : Rel t many L) {key : Int} {r : Nat} (f : Found t L key r) : refGet L key = if (t r).there then some (t r).slot else none := by
  cases ht : (t r).there with
  | true => exact refGet_some h.rise (f.is ht)
  | false => exact refGet_none (f.no ht)
theorem keys_nodup {L : List (Int × Int)} (h : L.Pairwise fun p q => p.1 < q.1) : L.Nodup :=
  h.imp fun {a b} hab => by rintro rfl; omega
theorem filter_perm_of {L : List (Int × Int)} (h : L.Pairwise fun p q => p.1 < q.1) {k s : Int} (hm : (k, s) ∈ L) : L.Perm ((k, s) :: refDrop L k) := by
  induction L with
  | nil => cases hm
  | cons p L ih =>
    unfold refDrop
    rw [List.filter_cons]
    rcases List.mem_cons.1 hm with rfl | hm'
    · simp only [BEq.rfl, Bool.not_true, Bool.false_eq_true, if_false]
      rw [List.filter_eq_self.2 (fun q hq => by have := List.rel_of_pairwise_cons h hq; simp at this ⊢; omega)]
    · have : p.1 < k := List.rel_of_pairwise_cons h hm'
      rw [if_pos (by simp; omega)]
      exact ((ih h.of_cons hm').cons p).trans (List.Perm.swap _ _ _)
theorem refDrop_same {L : List (Int × Int)} {k : Int} (hm : ∀ s, (k, s) ∉ L) : refDrop L k = L := by
  unfold refDrop
  rw [List.filter_eq_self]
  intro p hp
  have : p.1 ≠ k := by rintro rfl; exact hm p.2 hp
  simpa using this
theorem refDrop_len {L : List (Int × Int)} (h : L.Pairwise fun p q => p.1 < q.1) {k s : Int} (hm : (k, s) ∈ L) : (refDrop L k).length + 1 = L.length := by
  have := (filter_perm_of h hm).length_eq; simpa using this.symm
theorem refIns_perm (L : List (Int × Int)) (k s : Int) : (refIns L k s).Perm ((k, s) :: L) := by
  unfold refIns
  refine List.perm_middle.trans ?_
  rw [List.takeWhile_append_dropWhile]
theorem refIns_rise {L : List (Int × Int)} (h : L.Pairwise fun p q => p.1 < q.1) {k : Int} (s : Int) (hn : ∀ p ∈ L, p.1 ≠ k) : (refIns L k s).Pairwise fun p q => p.1 < q.1 := by
  induction L with
  | nil => simp [refIns]
  | cons p L ih =>
    unfold refIns
    by_cases c : p.1 < k
    · rw [List.takeWhile_cons_of_pos (by simpa using c), List.dropWhile_cons_of_pos (by simpa using c)]
      refine List.Pairwise.cons (fun q hq => ?_) (ih h.of_cons fun q hq => hn q (List.mem_cons_of_mem _ hq))
      have := (refIns_perm L k s).mem_iff.1 hq
      rcases List.mem_cons.1 this with rfl | hq'
      · exact c
      · exact List.rel_of_pairwise_cons h hq'
    · rw [List.takeWhile_cons_of_neg (by simpa using c), List.dropWhile_cons_of_neg (by simpa using c)]
      have := hn p List.mem_cons_self
      refine List.Pairwise.cons (fun q hq => ?_) h
      rcases List.mem_cons.1 hq with rfl | hq'
      · simp; omega
      · have := List.rel_of_pairwise_cons h hq'; simp; omega
theorem Rel.put {t : Nat → Pl} {many : Int} {L : List (Int × Int)} (h : Rel t many L) {key : Int} {r : Nat} (f : Found t L key r) (slot : Int) (hk : 0 ≤ key ∧ key < 4294967296) (hm : (t r).there = true ∨ L.length < 64) :
    Rel (putAt t r ⟨true, key, slot⟩) (if (t r).there then many else many + 1) (refIns (refDrop L key) key slot) := by
  have e0 := holds_put t 128 r ⟨true, key, slot⟩ f.lt
  have e1 := holds_out t 128 r f.lt
  have hp := refIns_perm (refDrop L key) key slot
  have hr := refIns_rise (h.rise.sublist List.filter_sublist : (refDrop L key).Pairwise _) (k := key) slot (fun p hp => by
    have := (List.mem_filter.1 hp).2; simpa using this)
  have hs : (refDrop L key).length ≤ L.length := List.length_filter_le _ _
  have hky : ∀ p ∈ refIns (refDrop L key) key slot, 0 ≤ p.1 ∧ p.1 < 4294967296 := fun p hp' => by
    rcases List.mem_cons.1 (hp.mem_iff.1 hp') with rfl | h'
    · exact hk
    · exact h.key p (List.mem_filter.1 h').1
  have hlen := hp.length_eq
  rw [List.length_cons] at hlen
  cases ht : (t r).there with
  | true =>
    have hd := refDrop_len h.rise (f.is ht)
    refine ⟨h.chain.put key slot r f.lt f.ahead f.own, ?_, ?_, by have := h.small; omega, hr, hky⟩
    · refine e0.trans (List.Perm.trans ?_ hp.symm)
      have e2 : opt (t r) = [(key, (t r).slot)] := by unfold opt; rw [if_pos ht, f.own ht]
      rw [e2] at e1
      have := (e1.symm.trans h.perm).trans (filter_perm_of h.rise (f.is ht))
      exact (List.Perm.cons_inv this).cons _
    · have := h.many; simp only [if_true]; omega
  | false =>
    have hd := refDrop_same (f.no ht)
    rw [hd] at hlen hp hr hky ⊢
    rw [ht] at hm
    refine ⟨h.chain.put key slot r f.lt f.ahead f.own, ?_, ?_, by rcases hm with hm | hm; cases hm; omega, hr, hky⟩
    · refine e0.trans (List.Perm.trans ?_ hp.symm)
      have e2 : opt (t r) = [] := by unfold opt; rw [if_neg (by rw [ht]; decide)]
      rw [e2] at e1
      exact (e1.symm.trans h.perm).cons _
    · have := h.many; simp only [Bool.false_eq_true, if_false]; omega
theorem Rel.drop {t : Nat → Pl} {many : Int} {L : List (Int × Int)} (h : Rel t many L) {key : Int} {r : Nat} (f : Found t L key r) (ht : (t r).there = true) :
    ∃ u, dropL (putAt t r Pl.none) r 128 r = some u ∧ Rel u (many - 1) (refDrop L key) := by
  obtain ⟨e, he, hole⟩ := h.hole
  have ne : r ≠ e := by rintro rfl; rw [hole] at ht; cases ht
  obtain ⟨u, h1, h2, h3⟩ := dropL_ok e he 128 (putAt t r Pl.none) r r f.lt f.lt (Gap.start h.chain r) ne ne (by rw [putAt_ne _ _ _ _ ne.symm]; exact hole) (by have := dist_lt r e; omega)
  have hd := refDrop_len h.rise (f.is ht)
  refine ⟨u, h1, h2, h3.trans ?_, by have := h.many; omega, by have := h.small; omega, h.rise.sublist List.filter_sublist, fun p hp => h.key p (List.mem_filter.1 hp).1⟩
  have e1 := holds_out t 128 r f.lt
  have e2 : opt (t r) = [(key, (t r).slot)] := by unfold opt; rw [if_pos ht, f.own ht]
  rw [e2] at e1
  exact List.Perm.cons_inv ((e1.symm.trans h.perm).trans (filter_perm_of h.rise (f.is ht)))
/-- the table's keys, put in order, are the list's. -/
theorem Rel.keys {t : Nat → Pl} {many : Int} {L : List (Int × Int)} (h : Rel t many L) : ((holds t 128).map (·.1)).mergeSort (fun a b => decide (a ≤ b)) = L.map (·.1) := by
  have hp : ((holds t 128).map (·.1)).Perm (L.map (·.1)) := h.perm.map _
  refine List.Perm.eq_of_pairwise (le := fun a b => decide ((a : Int) ≤ b) = true) ?_ ?_ ?_ ((List.mergeSort_perm _ _).trans hp)
  · intro a b _ _ h1 h2; simp at h1 h2; omega
  · exact List.pairwise_mergeSort (fun a b c h1 h2 => by simp at *; omega) (fun a b => by simp; omega) _
  · rw [List.pairwise_map]; exact h.rise.imp fun hab => by simp; omega
end Go.Proofs.YtpbjabpakkjomaaDoor
