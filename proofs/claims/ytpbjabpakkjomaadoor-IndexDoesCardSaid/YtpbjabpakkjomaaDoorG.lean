/- The table as plain data: where a key stands, what a put and a drop do to what the table holds. -/
namespace Go.Proofs.YtpbjabpakkjomaaDoor

/-- a place of the table. -/
structure Pl where
  there : Bool
  key : Int
  slot : Int
  deriving Inhabited, DecidableEq
def Pl.none : Pl := ⟨false, 0, 0⟩
def homeOf (key : Int) : Nat := ((key * 2654435761) % 4294967296 / 33554432).toNat
theorem homeOf_lt (key : Int) : homeOf key < 128 := by unfold homeOf; omega
def findL (t : Nat → Pl) (key : Int) : Nat → Nat → Option Nat
  | 0, _ => Option.none
  | k + 1, at_ => if (t at_).there = true ∧ (t at_).key ≠ key then findL t key k ((at_ + 1) % 128) else some at_
def putAt (t : Nat → Pl) (r : Nat) (p : Pl) : Nat → Pl := fun i => if i = r then p else t i
theorem putAt_same (t : Nat → Pl) (r : Nat) (p : Pl) : putAt t r p r = p := if_pos rfl
theorem putAt_ne (t : Nat → Pl) (r : Nat) (p : Pl) (i : Nat) (h : i ≠ r) : putAt t r p i = t i := if_neg h
theorem putAt_putAt (t : Nat → Pl) (r : Nat) (p q : Pl) : putAt (putAt t r p) r q = putAt t r q := by
  funext i; unfold putAt; split <;> rfl
theorem putAt_comm (t : Nat → Pl) (r s : Nat) (p q : Pl) (h : r ≠ s) : putAt (putAt t r p) s q = putAt (putAt t s q) r p := by
  funext i; unfold putAt
  by_cases a : i = s
  · by_cases b : i = r
    · exact absurd (b.symm.trans a) h
    · rw [if_pos a, if_neg b, if_pos a]
  · rw [if_neg a]
    by_cases b : i = r
    · rw [if_pos b, if_pos b]
    · rw [if_neg b, if_neg b, if_neg a]
theorem putAt_self (t : Nat → Pl) (r : Nat) : putAt t r (t r) = t := by
  funext i; unfold putAt; split
  · rename_i h; rw [h]
  · rfl

/-- how far it is from a to b, round the table. -/
def dist (a b : Nat) : Nat := (b + 128 - a) % 128
theorem dist_lt (a b : Nat) : dist a b < 128 := Nat.mod_lt _ (by decide)
theorem dist_inj {a b c : Nat} (ha : a < 128) (hb : b < 128) (hc : c < 128) (h : dist a b = dist a c) : b = c := by unfold dist at h; omega

/-- each key that is there is reached from its home without a gap, and without its own key ahead. -/
def Chain (t : Nat → Pl) : Prop := ∀ i j, i < 128 → j < 128 → (t i).there = true → dist (homeOf (t i).key) j < dist (homeOf (t i).key) i → (t j).there = true ∧ (t j).key ≠ (t i).key

theorem findL_from (t : Nat → Pl) (key : Int) (h0 : homeOf key < 128) (e : Nat) (he : e < 128) (hole : (t e).there = false) (k : Nat) : ∀ (at_ : Nat), at_ < 128 → dist (homeOf key) at_ ≤ dist (homeOf key) e → dist (homeOf key) e - dist (homeOf key) at_ < k →
    (∀ j, j < 128 → dist (homeOf key) j < dist (homeOf key) at_ → (t j).there = true ∧ (t j).key ≠ key) →
    ∃ r, findL t key k at_ = some r ∧ r < 128 ∧ (∀ j, j < 128 → dist (homeOf key) j < dist (homeOf key) r → (t j).there = true ∧ (t j).key ≠ key) ∧ ((t r).there = true → (t r).key = key) := by
  induction k with
  | zero => intro a ha h1 h2; omega
  | succ k ih =>
    intro a ha h1 h2 h3
    unfold findL
    by_cases c : (t a).there = true ∧ (t a).key ≠ key
    · rw [if_pos c]
      have ne : a ≠ e := by rintro rfl; rw [hole] at c; cases c.1
      have hs : dist (homeOf key) ((a + 1) % 128) = dist (homeOf key) a + 1 := by
        have : dist (homeOf key) a ≠ dist (homeOf key) e := fun h => ne (dist_inj h0 ha he h)
        have := dist_lt (homeOf key) e
        unfold dist at *; omega
      have ne' : dist (homeOf key) a ≠ dist (homeOf key) e := fun h => ne (dist_inj h0 ha he h)
      refine ih ((a + 1) % 128) (Nat.mod_lt _ (by decide)) (by omega) (by omega) (fun j hj hd => ?_)
      rw [hs] at hd
      by_cases e1 : dist (homeOf key) j < dist (homeOf key) a
      · exact h3 j hj e1
      · have : j = a := dist_inj h0 hj ha (by omega)
        rw [this]; exact c
    · rw [if_neg c]
      refine ⟨a, rfl, ha, h3, fun ht => ?_⟩
      exact Decidable.byContradiction fun hk => c ⟨ht, hk⟩
theorem dist_self (a : Nat) (_h : a < 128) : dist a a = 0 := by unfold dist; omega
theorem findL_ok (t : Nat → Pl) (key : Int) (e : Nat) (he : e < 128) (hole : (t e).there = false) :
    ∃ r, findL t key 128 (homeOf key) = some r ∧ r < 128 ∧ (∀ j, j < 128 → dist (homeOf key) j < dist (homeOf key) r → (t j).there = true ∧ (t j).key ≠ key) ∧ ((t r).there = true → (t r).key = key) := by
  refine findL_from t key (homeOf_lt key) e he hole 128 _ (homeOf_lt key) ?_ ?_ ?_
  · rw [dist_self _ (homeOf_lt key)]; exact Nat.zero_le _
  · have := dist_lt (homeOf key) e; omega
  · intro j _ h; rw [dist_self _ (homeOf_lt key)] at h; omega
theorem Chain.at_ {t : Nat → Pl} (hC : Chain t) (key : Int) (r i : Nat) (hr : r < 128) (hi : i < 128) (h1 : ∀ j, j < 128 → dist (homeOf key) j < dist (homeOf key) r → (t j).there = true ∧ (t j).key ≠ key) (h2 : (t r).there = true → (t r).key = key)
    (ht : (t i).there = true) (hk : (t i).key = key) : i = r := by
  have hC := hC i
  rw [hk] at hC
  rcases Nat.lt_trichotomy (dist (homeOf key) i) (dist (homeOf key) r) with h | h | h
  · exact absurd hk (h1 i hi h).2
  · exact dist_inj (homeOf_lt key) hi hr h
  · have := hC r hi hr ht h
    exact absurd (h2 this.1) this.2

theorem Chain.put {t : Nat → Pl} (hC : Chain t) (key slot : Int) (r : Nat) (hr : r < 128) (h1 : ∀ j, j < 128 → dist (homeOf key) j < dist (homeOf key) r → (t j).there = true ∧ (t j).key ≠ key) (h2 : (t r).there = true → (t r).key = key) :
    Chain (putAt t r ⟨true, key, slot⟩) := by
  intro i j hi hj ht hd
  by_cases ei : i = r
  · subst ei
    rw [putAt_same] at hd ht ⊢
    have ne : j ≠ i := by rintro rfl; omega
    rw [putAt_ne _ _ _ _ ne]
    exact h1 j hj hd
  · rw [putAt_ne _ _ _ _ ei] at hd ht ⊢
    have := hC i j hi hj ht hd
    by_cases ej : j = r
    · subst ej
      rw [putAt_same]
      exact ⟨rfl, fun e => ei (hC.at_ key j i hr hi h1 h2 ht e.symm)⟩
    · rw [putAt_ne _ _ _ _ ej]; exact this
theorem chain_none : Chain (fun _ => Pl.none) := fun _ _ _ _ h => by cases h

/-- what the table holds, place by place. -/
def opt (p : Pl) : List (Int × Int) := if p.there then [(p.key, p.slot)] else []
def holds (t : Nat → Pl) (n : Nat) : List (Int × Int) := (List.range n).flatMap fun i => opt (t i)
theorem holds_succ (t : Nat → Pl) (n : Nat) : holds t (n + 1) = holds t n ++ opt (t n) := by
  unfold holds; rw [List.range_succ, List.flatMap_append]; simp
theorem holds_congr (t u : Nat → Pl) (n : Nat) (h : ∀ i, i < n → t i = u i) : holds t n = holds u n := by
  induction n with
  | zero => rfl
  | succ n ih => rw [holds_succ, holds_succ, ih (fun i hi => h i (by omega)), h n (by omega)]
theorem holds_out (t : Nat → Pl) (n r : Nat) (h : r < n) : (holds t n).Perm (opt (t r) ++ holds (putAt t r Pl.none) n) := by
  induction n with
  | zero => omega
  | succ n ih =>
    rw [holds_succ, holds_succ]
    by_cases e : r = n
    · subst e
      rw [putAt_same, holds_congr (putAt t r Pl.none) t r (fun i hi => putAt_ne _ _ _ _ (by omega))]
      exact (List.perm_append_comm).trans (by simp [opt, Pl.none])
    · rw [putAt_ne _ _ _ n (fun h' => e h'.symm), ← List.append_assoc]
      exact (ih (by omega)).append_right _
theorem holds_put (t : Nat → Pl) (n r : Nat) (p : Pl) (h : r < n) : (holds (putAt t r p) n).Perm (opt p ++ holds (putAt t r Pl.none) n) := by
  have := holds_out (putAt t r p) n r h
  rw [putAt_same, putAt_putAt] at this
  exact this
theorem mem_holds {t : Nat → Pl} {n : Nat} {k s : Int} : (k, s) ∈ holds t n ↔ ∃ i, i < n ∧ t i = ⟨true, k, s⟩ := by
  unfold holds opt
  rw [List.mem_flatMap]
  constructor
  · rintro ⟨i, hi, h⟩
    refine ⟨i, List.mem_range.1 hi, ?_⟩
    revert h
    obtain ⟨th, ky, sl⟩ := t i
    intro h
    cases th with
    | true =>
      simp only [if_true, List.mem_singleton, Prod.mk.injEq] at h
      obtain ⟨rfl, rfl⟩ := h
      rfl
    | false => simp at h
  · rintro ⟨i, hi, h⟩
    exact ⟨i, List.mem_range.2 hi, by rw [h]; simp⟩
theorem holds_all (t : Nat → Pl) (n : Nat) (h : ∀ i, i < n → (t i).there = true) : (holds t n).length = n := by
  induction n with
  | zero => rfl
  | succ n ih => rw [holds_succ, List.length_append, ih (fun i hi => h i (by omega))]; simp [opt, h n (by omega)]
theorem hole_of (t : Nat → Pl) (h : (holds t 128).length < 128) : ∃ e, e < 128 ∧ (t e).there = false :=
  Decidable.byContradiction fun c => by
    have : ∀ i, i < 128 → (t i).there = true := fun i hi => by
      cases ht : (t i).there with
      | true => rfl
      | false => exact absurd ⟨i, hi, ht⟩ c
    have := holds_all t 128 this
    omega

/-- a drop: the hole is closed by those behind it. -/
def dropL (t : Nat → Pl) (hole : Nat) : Nat → Nat → Option (Nat → Pl)
  | 0, _ => Option.none
  | k + 1, at_ =>
    if (t ((at_ + 1) % 128)).there = false then some t
    else if dist hole ((at_ + 1) % 128) ≤ dist (homeOf (t ((at_ + 1) % 128)).key) ((at_ + 1) % 128) then
      dropL (putAt (putAt t hole (t ((at_ + 1) % 128))) ((at_ + 1) % 128) Pl.none) ((at_ + 1) % 128) k ((at_ + 1) % 128)
    else dropL t hole k ((at_ + 1) % 128)
/-- what stands while a drop goes on. -/
structure Gap (t : Nat → Pl) (hole at_ : Nat) : Prop where
  empty : t hole = Pl.none
  near : ∀ j, j < 128 → 0 < dist hole j → dist hole j ≤ dist hole at_ → (t j).there = true ∧ dist (homeOf (t j).key) j < dist hole j
  chain : ∀ i j, i < 128 → j < 128 → j ≠ hole → (t i).there = true → dist (homeOf (t i).key) j < dist (homeOf (t i).key) i → (t j).there = true ∧ (t j).key ≠ (t i).key
theorem Gap.once {t : Nat → Pl} {hole at_ : Nat} (h : Gap t hole at_) (i j : Nat) (hi : i < 128) (hj : j < 128) (ti : (t i).there = true) (tj : (t j).there = true) (hk : (t i).key = (t j).key) : i = j := by
  have ni : i ≠ hole := by rintro rfl; rw [h.empty] at ti; cases ti
  have nj : j ≠ hole := by rintro rfl; rw [h.empty] at tj; cases tj
  rcases Nat.lt_trichotomy (dist (homeOf (t i).key) j) (dist (homeOf (t i).key) i) with c | c | c
  · exact absurd hk.symm (h.chain i j hi hj nj ti c).2
  · exact (dist_inj (homeOf_lt _) hj hi c).symm
  · rw [hk] at c
    exact absurd hk (h.chain j i hj hi ni tj c).2
theorem Gap.done {t : Nat → Pl} {hole at_ : Nat} (h : Gap t hole at_) (hh : hole < 128) (ha : at_ < 128) (hs : (t ((at_ + 1) % 128)).there = false) : Chain t := by
  intro i j hi hj ti hd
  by_cases e : j = hole
  · subst e
    exfalso
    have hx : (at_ + 1) % 128 < 128 := Nat.mod_lt _ (by decide)
    have hm := homeOf_lt (t i).key
    have ni : i ≠ j := by rintro rfl; omega
    by_cases hc : dist j i ≤ dist j at_
    · have := h.near i hi (by unfold dist; omega) hc
      unfold dist at *; omega
    · have ne : (at_ + 1) % 128 ≠ i := by rintro e; rw [e, ti] at hs; cases hs
      by_cases e2 : (at_ + 1) % 128 = j
      · unfold dist at *; omega
      · have := h.chain i _ hi hx e2 ti (by unfold dist at *; omega)
        rw [hs] at this
        cases this.1
  · exact h.chain i j hi hj e ti hd
theorem Gap.start {t : Nat → Pl} (hC : Chain t) (hole : Nat) : Gap (putAt t hole Pl.none) hole hole := by
  refine ⟨putAt_same _ _ _, fun j _ h1 h2 => ?_, fun i j hi hj hn ti hd => ?_⟩
  · exfalso; unfold dist at *; omega
  · have ni : i ≠ hole := by rintro rfl; rw [putAt_same] at ti; cases ti
    rw [putAt_ne _ _ _ _ ni] at ti hd ⊢
    rw [putAt_ne _ _ _ _ hn]
    exact hC i j hi hj ti hd
theorem Gap.step {t : Nat → Pl} {hole at_ : Nat} (h : Gap t hole at_) (hh : hole < 128) (ha : at_ < 128) (hs : (t ((at_ + 1) % 128)).there = true) (hd : ¬ dist hole ((at_ + 1) % 128) ≤ dist (homeOf (t ((at_ + 1) % 128)).key) ((at_ + 1) % 128)) :
    Gap t hole ((at_ + 1) % 128) := by
  refine ⟨h.empty, fun j hj h1 h2 => ?_, h.chain⟩
  by_cases e : j = (at_ + 1) % 128
  · subst e; exact ⟨hs, by omega⟩
  · exact h.near j hj h1 (by unfold dist at *; omega)
theorem Gap.move {t : Nat → Pl} {hole at_ : Nat} (h : Gap t hole at_) (hh : hole < 128) (a : Nat) (ha : a < 128) (hs : (t a).there = true) (hd : dist hole a ≤ dist (homeOf (t a).key) a) :
    Gap (putAt (putAt t hole (t a)) a Pl.none) a a := by
  have ne : a ≠ hole := by rintro rfl; rw [h.empty] at hs; cases hs
  refine ⟨putAt_same _ _ _, fun j _ h1 h2 => ?_, fun i j hi hj hn ti hd' => ?_⟩
  · exfalso; unfold dist at *; omega
  · have ni : i ≠ a := by rintro rfl; rw [putAt_same] at ti; cases ti
    rw [putAt_ne _ _ _ _ ni] at ti hd' ⊢
    rw [putAt_ne _ _ _ _ hn]
    by_cases e : i = hole
    · subst e
      rw [putAt_same] at ti hd' ⊢
      have hm := homeOf_lt (t a).key
      have nj : j ≠ i := by rintro rfl; omega
      rw [putAt_ne _ _ _ _ nj]
      exact h.chain a j ha hj nj hs (by unfold dist at *; omega)
    · rw [putAt_ne _ _ _ _ e] at ti hd' ⊢
      by_cases e2 : j = hole
      · subst e2
        rw [putAt_same]
        exact ⟨hs, fun hk => ni (h.once i a hi ha ti hs hk.symm)⟩
      · rw [putAt_ne _ _ _ _ e2]
        exact h.chain i j hi hj e2 ti hd'
theorem dropL_ok (e : Nat) (he : e < 128) (k : Nat) : ∀ (t : Nat → Pl) (hole at_ : Nat), hole < 128 → at_ < 128 → Gap t hole at_ → at_ ≠ e → hole ≠ e → (t e).there = false → dist at_ e ≤ k →
    ∃ u, dropL t hole k at_ = some u ∧ Chain u ∧ (holds u 128).Perm (holds t 128) := by
  induction k with
  | zero => intro t hole a hh ha _ ne _ _ hk; exfalso; unfold dist at hk; omega
  | succ k ih =>
    intro t hole a hh ha hG ne ne2 hole' hk
    have hx : (a + 1) % 128 < 128 := Nat.mod_lt _ (by decide)
    unfold dropL
    cases hs : (t ((a + 1) % 128)).there with
    | false => rw [if_pos rfl]; exact ⟨t, rfl, hG.done hh ha hs, List.Perm.refl _⟩
    | true =>
      rw [if_neg (by simp)]
      have nx : (a + 1) % 128 ≠ e := by rintro e'; rw [e', hole'] at hs; cases hs
      have hk' : dist ((a + 1) % 128) e ≤ k := by unfold dist at *; omega
      by_cases hd : dist hole ((a + 1) % 128) ≤ dist (homeOf (t ((a + 1) % 128)).key) ((a + 1) % 128)
      · rw [if_pos hd]
        have nh : (a + 1) % 128 ≠ hole := by intro e'; rw [e', hG.empty] at hs; cases hs
        have eh : (putAt (putAt t hole (t ((a + 1) % 128))) ((a + 1) % 128) Pl.none e).there = false := by
          rw [putAt_ne _ _ _ _ nx.symm, putAt_ne _ _ _ _ ne2.symm]; exact hole'
        obtain ⟨u, h1, h2, h3⟩ := ih _ _ _ hx hx (hG.move hh _ hx hs hd) nx nx eh hk'
        refine ⟨u, h1, h2, h3.trans ?_⟩
        refine List.Perm.trans ?_ (holds_out t 128 ((a + 1) % 128) hx).symm
        have hp := holds_put (putAt t ((a + 1) % 128) Pl.none) 128 hole (t ((a + 1) % 128)) hh
        rw [putAt_comm _ _ _ _ _ nh.symm]
        refine hp.trans (List.Perm.append_left _ ?_)
        rw [← putAt_comm _ _ _ _ _ nh.symm]
        have : putAt t hole Pl.none = t := by
          funext i; by_cases e' : i = hole
          · rw [e', putAt_same, hG.empty]
          · rw [putAt_ne _ _ _ _ e']
        rw [this]
      · rw [if_neg hd]
        exact ih t hole _ hh hx (hG.step hh ha hs hd) nx ne2 hole' hk'
end Go.Proofs.YtpbjabpakkjomaaDoor
