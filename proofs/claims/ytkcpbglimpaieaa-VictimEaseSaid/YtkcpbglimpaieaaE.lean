/- Plain lemmas on what the printed functions of chapter 12 come to. -/
import Derived.Test.YtkcpbglimpaieaaVx1
import Derived.Test.YtkcpbglimpaieaaVx2
import Derived.Test.YtkcpbglimpaieaaP
namespace Go.Proofs.Ytkcpbglimpaieaa.V
open Go.RowKit Go.Proofs.YtkcpbglimpaieaaW.PrintWords Go.Proofs.YtkcpbglimpaieaaW.PrintLast Go.Proofs.YtkcpbglimpaieaaW.PrintMore

theorem w64 {n : Int} (h1 : -9223372036854775808 ≤ n) (h2 : n ≤ 9223372036854775807) : wrap64 n = n := IntWalk.wrap64_in n ⟨h1, h2⟩
theorem w64_succ {n : Nat} (h : n ≤ 9000000000000000000) : wrap64 ((n : Int) + 1) = ((n + 1 : Nat) : Int) := by rw [w64] <;> omega
theorem rd29 (l : List S29) (pre : List S29) (x : S29) (r : List S29) (h : l = pre ++ x :: r) : rd_T29 l (pre.length : Int) = x := by
  subst h; simp [rd_T29]
theorem rd42 (l : List S42) (pre : List S42) (x : S42) (r : List S42) (h : l = pre ++ x :: r) : rd_T42 l (pre.length : Int) = x := by
  subst h; simp [rd_T42]

theorem ids_loop (l : List S29) (hl : l.length ≤ 1000000) : ∀ (rest pre : List S29), l = pre ++ rest → Ev (fun k => victim_ids.l0 k (pre.map S29.f0) l (l.length : Int) (pre.length : Int)) (l.map S29.f0)
  | [], pre, h => by
    refine Ev.step (fun k => by rw [victim_ids.l0, if_neg (by rw [h]; simp)]) ?_
    rw [h]; simpa using Ev.now _
  | x :: rest, pre, h => by
    have hlen : pre.length < l.length := by rw [h]; simp
    have ih := ids_loop l hl rest (pre ++ [x]) (by simp [h])
    refine Ev.step (fun k => by rw [victim_ids.l0, if_pos (by omega), if_pos (by omega), if_pos (by omega), if_pos (by rw [List.length_map]; omega), rd29 l pre x rest h, w64_succ (by omega)]) ?_
    simpa using ih
theorem ids_ev (l : List S29) (hl : l.length ≤ 1000000) : Ev (fun k => victim_ids.f k l) (l.map S29.f0) := ids_loop l hl l [] rfl

def conv (x : S29) : S42 := ⟨x.f0, x.f1, x.f2⟩
theorem zones_loop (l : List S29) (hl : l.length ≤ 1000000) : ∀ (rest pre : List S29), l = pre ++ rest → Ev (fun k => platelayerlaw12_zones.l0 k (pre.map conv) l (l.length : Int) (pre.length : Int)) (l.map conv)
  | [], pre, h => by
    refine Ev.step (fun k => by rw [platelayerlaw12_zones.l0, if_neg (by rw [h]; simp)]) ?_
    rw [h]; simpa using Ev.now _
  | x :: rest, pre, h => by
    have hlen : pre.length < l.length := by rw [h]; simp
    have ih := zones_loop l hl rest (pre ++ [x]) (by simp [h])
    refine Ev.step (fun k => by rw [platelayerlaw12_zones.l0, if_pos (by omega), if_pos (by omega), if_pos (by omega), if_pos (by rw [List.length_map]; omega), rd29 l pre x rest h, w64_succ (by omega)]) ?_
    simpa [conv] using ih
theorem zones_ev (l : List S29) (hl : l.length ≤ 1000000) : Ev (fun k => platelayerlaw12_zones.f k l) (l.map conv) := zones_loop l hl l [] rfl

/-- zones that are right, those ahead of place i. -/
def goodTo (P : Int) (l : List S42) (i : Nat) : Prop := ∀ j, j < i → 0 ≤ (l.getD j z42).f0 ∧ 0 ≤ (l.getD j z42).f1 ∧ (l.getD j z42).f1 ≤ P ∧ ∀ m, m < j → (l.getD m z42).f0 ≠ (l.getD j z42).f0
theorem right_inner (P : Int) (l : List S42) (hl : l.length ≤ 1000000) (i : Nat) (hi : i < l.length) (hg : goodTo P l i) (h0 : 0 ≤ (l.getD i z42).f0) (h1 : 0 ≤ (l.getD i z42).f1) (h2 : (l.getD i z42).f1 ≤ P)
    (hn : goodTo P l (i + 1) → ∃ b, Ev (fun k => platelayerref12_Right.l0 k P l ((i + 1 : Nat) : Int)) b ∧ (b = true → goodTo P l l.length ∧ l.length ≤ 24)) :
    ∀ (d m : Nat), i - m = d → m ≤ i → (∀ q, q < m → (l.getD q z42).f0 ≠ (l.getD i z42).f0) → ∃ b, Ev (fun k => platelayerref12_Right.l1 k P l (i : Int) (m : Int)) b ∧ (b = true → goodTo P l l.length ∧ l.length ≤ 24)
  | 0, m, hd, hm, hq => by
    obtain rfl : m = i := by omega
    obtain ⟨b, hb, hp⟩ := hn (fun j hj => by
      rcases Nat.lt_succ_iff_lt_or_eq.1 hj with h | rfl
      · exact hg j h
      · exact ⟨h0, h1, h2, hq⟩)
    exact ⟨b, Ev.step (fun k => by rw [platelayerref12_Right.l1, if_neg (by omega), w64_succ (by omega)]) hb, hp⟩
  | d + 1, m, hd, hm, hq => by
    by_cases he : (l.getD m z42).f0 = (l.getD i z42).f0
    · exact ⟨false, Ev.step (fun k => by rw [platelayerref12_Right.l1, if_pos (by omega), if_pos (by omega), if_pos (by omega), if_pos (by omega), if_pos (by omega), if_pos (by simpa [rd_T42] using he)]) (Ev.now _), fun h => by cases h⟩
    · obtain ⟨b, hb, hp⟩ := right_inner P l hl i hi hg h0 h1 h2 hn d (m + 1) (by omega) (by omega) (fun q hq' => by
        rcases Nat.lt_succ_iff_lt_or_eq.1 hq' with h | rfl
        · exact hq q h
        · exact he)
      exact ⟨b, Ev.step (fun k => by rw [platelayerref12_Right.l1, if_pos (by omega), if_pos (by omega), if_pos (by omega), if_pos (by omega), if_pos (by omega), if_neg (by simpa [rd_T42] using he), w64_succ (by omega)]) hb, hp⟩
theorem right_loop (P : Int) (l : List S42) (hl : l.length ≤ 1000000) : ∀ (d i : Nat), l.length - i = d → i ≤ l.length → goodTo P l i → ∃ b, Ev (fun k => platelayerref12_Right.l0 k P l (i : Int)) b ∧ (b = true → goodTo P l l.length ∧ l.length ≤ 24)
  | 0, i, hd, hi, hg => by
    obtain rfl : i = l.length := by omega
    exact ⟨_, Ev.step (fun k => by rw [platelayerref12_Right.l0, if_neg (by omega)]) (Ev.now _), fun h => ⟨hg, by have := of_decide_eq_true h; omega⟩⟩
  | d + 1, i, hd, hi, hg => by
    have hbad : Ev (fun k => platelayerref12_Right.j1 k P l (i : Int) true) false := Ev.step (fun k => by rw [platelayerref12_Right.j1, if_pos rfl]) (Ev.now _)
    by_cases h0 : (l.getD i z42).f0 < 0
    · exact ⟨false, Ev.step (fun k => by rw [platelayerref12_Right.l0, if_pos (by omega), if_pos (by omega), if_pos (by simpa [rd_T42] using h0)]) hbad, fun h => by cases h⟩
    · by_cases h1 : (l.getD i z42).f1 < 0
      · exact ⟨false, Ev.step (fun k => by rw [platelayerref12_Right.l0, if_pos (by omega), if_pos (by omega), if_neg (by simpa [rd_T42] using h0), if_pos (by simpa [rd_T42] using h1)]) hbad, fun h => by cases h⟩
      · by_cases h2 : (l.getD i z42).f1 > P
        · refine ⟨false, Ev.step (fun k => by rw [platelayerref12_Right.l0, if_pos (by omega), if_pos (by omega), if_neg (by simpa [rd_T42] using h0), if_neg (by simpa [rd_T42] using h1)]) ?_, fun h => by cases h⟩
          have : decide ((rd_T42 l (i : Int)).f1 > P) = true := by simpa [rd_T42] using h2
          rw [this]; exact hbad
        · obtain ⟨b, hb, hp⟩ := right_inner P l hl i (by omega) hg (by omega) (by omega) (by omega) (fun hg' => right_loop P l hl d (i + 1) (by omega) (by omega) hg') i 0 (by omega) (by omega) (fun q hq => by omega)
          refine ⟨b, Ev.step (fun k => by rw [platelayerref12_Right.l0, if_pos (by omega), if_pos (by omega), if_neg (by simpa [rd_T42] using h0), if_neg (by simpa [rd_T42] using h1)]) ?_, hp⟩
          have : decide ((rd_T42 l (i : Int)).f1 > P) = false := by simpa [rd_T42] using h2
          rw [this]
          exact Ev.step (fun k => by rw [platelayerref12_Right.j1, if_neg (by simp)]) (by simpa using hb)

/-- zones that are right, as the laws take them. -/
structure Fine (P : Int) (l : List S29) : Prop where
  p0 : 1 ≤ P
  p1 : P ≤ 16
  len : l.length ≤ 24
  id0 : ∀ x ∈ l, 0 ≤ x.f0
  v0 : ∀ x ∈ l, 0 ≤ x.f1
  v1 : ∀ x ∈ l, x.f1 ≤ P
  nd : (l.map S29.f0).Nodup
theorem fine_of (P : Int) (l : List S29) (h0 : 1 ≤ P) (h1 : P ≤ 16) (hg : goodTo P (l.map conv) (l.map conv).length) (hl : (l.map conv).length ≤ 24) : Fine P l := by
  rw [List.length_map] at hg hl
  have key : ∀ j (hj : j < l.length), 0 ≤ (l[j]).f0 ∧ 0 ≤ (l[j]).f1 ∧ (l[j]).f1 ≤ P ∧ ∀ m (hm : m < j), (l[m]).f0 ≠ (l[j]).f0 := fun j hj => by
    have := hg j hj
    have e : ∀ m (hm : m < l.length), (l.map conv).getD m z42 = conv l[m] := fun m hm => by simp [hm]
    obtain ⟨a, b, c, d⟩ := this
    rw [e j hj] at a b c
    refine ⟨a, b, c, fun m hm => ?_⟩
    have := d m hm
    rw [e j hj, e m (by omega)] at this
    exact this
  refine ⟨h0, h1, hl, fun x hx => ?_, fun x hx => ?_, fun x hx => ?_, ?_⟩
  · obtain ⟨j, hj, rfl⟩ := List.getElem_of_mem hx; exact (key j hj).1
  · obtain ⟨j, hj, rfl⟩ := List.getElem_of_mem hx; exact (key j hj).2.1
  · obtain ⟨j, hj, rfl⟩ := List.getElem_of_mem hx; exact (key j hj).2.2.1
  · rw [List.nodup_iff_pairwise_ne, List.pairwise_map, List.pairwise_iff_getElem]
    intro i j hi hj hij
    exact (key j hj).2.2.2 i hij
theorem outside_ev (P : Int) (l : List S29) : ∃ b, Ev (fun k => platelayerlaw12_outside.f k P l) b ∧ (b = false → Fine P l) := by
  by_cases h0 : P < 1
  · exact ⟨true, Ev.congr (fun k => by rw [platelayerlaw12_outside.f, if_pos h0]) (Ev.now _), fun h => by cases h⟩
  by_cases h1 : P > 16
  · exact ⟨true, Ev.congr (fun k => by rw [platelayerlaw12_outside.f, if_neg h0, if_pos h1]) (Ev.now _), fun h => by cases h⟩
  by_cases h2 : (l.length : Int) > 60
  · exact ⟨true, Ev.congr (fun k => by rw [platelayerlaw12_outside.f, if_neg h0, if_neg h1, if_pos h2]) (Ev.now _), fun h => by cases h⟩
  obtain ⟨b, hb, hp⟩ := right_loop P (l.map conv) (by rw [List.length_map]; omega) (l.map conv).length 0 (by omega) (by omega) (fun j hj => by omega)
  refine ⟨!b, Ev.congr (fun k => by rw [platelayerlaw12_outside.f, if_neg h0, if_neg h1, if_neg h2]) (Ev.bind (zones_ev l (by omega)) (Ev.bind (f := fun _ t => some (!t)) (a := b) ?_ (Ev.now _))), fun h => ?_⟩
  · simpa [platelayerref12_Right.f] using hb
  · obtain ⟨h3, h4⟩ := hp (by cases b <;> simp_all)
    exact fine_of P l (by omega) (by omega) h3 h4

/-! ### order, choice -/
def ord (pol P : Int) (l : List S29) : List S29 := (isort pol P.toNat (l.map toZ)).map ofZ
theorem ofZ_toZ (x : S29) : ofZ (toZ x) = x := rfl
theorem ord_perm (pol P : Int) (l : List S29) : (ord pol P l).Perm l := by
  have h := (isort_perm pol P.toNat (l.map toZ)).map ofZ
  rw [List.map_map] at h
  have e : l.map (ofZ ∘ toZ) = l := by rw [show (ofZ ∘ toZ) = id from funext ofZ_toZ]; simp
  rwa [e] at h
theorem fine_u32 {P : Int} {l : List S29} (h : Fine P l) (hu : ∀ x ∈ l, 0 ≤ x.f2 ∧ x.f2 ≤ 4294967295) : victim_ordered.ok P l = true := by
  simp only [victim_ordered.ok, Bool.and_eq_true, decide_eq_true_eq, List.all_eq_true]
  have := h.p0; have := h.p1; have := h.len
  exact ⟨⟨⟨⟨by omega, by omega⟩, by omega⟩, fun x hx => ⟨⟨⟨h.v0 x hx, h.v1 x hx⟩, (hu x hx).1⟩, (hu x hx).2⟩⟩, h.nd⟩
theorem ordered_eq {pol P : Int} {l : List S29} (h : Fine P l) (hu : ∀ x ∈ l, 0 ≤ x.f2 ∧ x.f2 ≤ 4294967295) : victim_ordered.f pol P l = some (ord pol P l) := by
  unfold victim_ordered.f; rw [if_pos (fine_u32 h hu)]; rfl
/-- how many of the rest, from place i on, are taken, so that the choice gains. -/
def firstGain (P : Int) : Nat → Int → List S29 → Option Nat
  | _, _, [] => none
  | i, live, z :: r => if (live + z.f1 + P - 1) / P ≤ mn (i : Int) 3 then some (i + 1) else firstGain P (i + 1) (live + z.f1) r
def oneChoice (P extra : Int) (o : List S29) : Option (List Int) := (firstGain P 0 extra o).map fun k => (o.take k).map S29.f0
theorem firstGain_le (P : Int) : ∀ (o : List S29) (i : Nat) (live : Int) (k : Nat), firstGain P i live o = some k → i < k ∧ k ≤ i + o.length
  | [], _, _, _, h => by simp [firstGain] at h
  | z :: r, i, live, k, h => by
    unfold firstGain at h
    split at h
    · obtain rfl := Option.some.inj h; simp
    · have := firstGain_le P r (i + 1) _ k h; simp; omega
def sumV (l : List S29) : Int := (l.map S29.f1).sum
theorem firstGain_gains (P : Int) : ∀ (o : List S29) (i : Nat) (live : Int) (k : Nat), firstGain P i live o = some k → (live + sumV (o.take (k - i)) + P - 1) / P ≤ mn ((k : Int) - 1) 3
  | [], _, _, _, h => by simp [firstGain] at h
  | z :: r, i, live, k, h => by
    have hk := firstGain_le P _ i live k h
    unfold firstGain at h
    split at h
    · obtain rfl := Option.some.inj h
      have e : i + 1 - i = 1 := by omega
      rw [e]
      have e2 : ((i + 1 : Nat) : Int) - 1 = i := by omega
      rw [e2]; simpa [sumV] using ‹_›
    · have hk2 := firstGain_le P _ (i + 1) _ k h
      have ih := firstGain_gains P r (i + 1) _ k h
      have e : k - i = (k - (i + 1)) + 1 := by omega
      rw [e, List.take_succ_cons]
      have e2 : sumV (z :: r.take (k - (i + 1))) = z.f1 + sumV (r.take (k - (i + 1))) := by simp [sumV]
      rw [e2, ← Int.add_assoc]; exact ih
/-- where a taking of so many would gain, one of no more is found. -/
theorem firstGain_finds (P : Int) : ∀ (o : List S29) (i : Nat) (live : Int) (k : Nat), i < k → k ≤ i + o.length → (live + sumV (o.take (k - i)) + P - 1) / P ≤ mn ((k : Int) - 1) 3 → ∃ k', firstGain P i live o = some k' ∧ k' ≤ k
  | [], i, _, k, h1, h2, _ => by simp at h2; omega
  | z :: r, i, live, k, h1, h2, h => by
    unfold firstGain
    split
    · exact ⟨_, rfl, by omega⟩
    · rename_i hn
      by_cases hk : k = i + 1
      · subst hk
        have e : i + 1 - i = 1 := by omega
        rw [e] at h
        have e2 : ((i + 1 : Nat) : Int) - 1 = i := by omega
        rw [e2] at h
        exact absurd (by simpa [sumV] using h) hn
      · refine firstGain_finds P r (i + 1) _ k (by omega) (by simp at h2; omega) ?_
        have e : k - i = (k - (i + 1)) + 1 := by omega
        rw [e, List.take_succ_cons] at h
        have e2 : sumV (z :: r.take (k - (i + 1))) = z.f1 + sumV (r.take (k - (i + 1))) := by simp [sumV]
        rw [e2, ← Int.add_assoc] at h; exact h
theorem choose_loop {pol P extra : Int} {l o : List S29} (hP : 1 ≤ P) (hP1 : P ≤ 16) (ho : o.length ≤ 24) (hv : ∀ x ∈ o, 0 ≤ x.f1 ∧ x.f1 ≤ P) {r : List Int}
    (hno : Ev (fun k => if pol = 0 then (some ([] : List Int)) else ((victim_Choose.f k 0 P extra l).bind fun t => some t)) r) :
    ∀ (rest pre : List S29) (live : Int), o = pre ++ rest → 0 ≤ live → live ≤ 1000 + 16 * pre.length →
      Ev (fun k => victim_Choose.l0 k pol P extra l o live o (o.length : Int) (pre.length : Int)) (match firstGain P pre.length live rest with | some k => (o.take k).map S29.f0 | none => r)
  | [], pre, live, h, _, _ => by
    exact Ev.step (fun k => by rw [victim_Choose.l0, if_neg (by rw [h]; simp)]) hno
  | z :: rest, pre, live, h, h0, h1 => by
    have hlen : pre.length < o.length := by rw [h]; simp
    obtain ⟨z0, z1⟩ := hv z (by rw [h]; simp)
    have e1 : wrap64 (live + z.f1) = live + z.f1 := by rw [w64] <;> omega
    have e2 : wrap64 (live + z.f1 + P) = live + z.f1 + P := by rw [w64] <;> omega
    have e3 : wrap64 (live + z.f1 + P - 1) = live + z.f1 + P - 1 := by rw [w64] <;> omega
    have e4 : Int.tdiv (live + z.f1 + P - 1) P = (live + z.f1 + P - 1) / P := Int.tdiv_eq_ediv_of_nonneg (by omega)
    have e5 : 0 ≤ (live + z.f1 + P - 1) / P := Int.ediv_nonneg (by omega) (by omega)
    have e6 : (live + z.f1 + P - 1) / P ≤ live + z.f1 + P - 1 := Int.ediv_le_self _ (by omega)
    have e7 : wrap64 ((live + z.f1 + P - 1) / P) = (live + z.f1 + P - 1) / P := by rw [w64] <;> omega
    unfold firstGain
    by_cases hg : (live + z.f1 + P - 1) / P ≤ mn (pre.length : Int) 3
    · rw [if_pos hg]
      refine Ev.step (fun k => by rw [victim_Choose.l0, if_pos (by omega), if_pos (by omega), if_pos (by omega), if_neg (by omega), rd29 o pre z rest h, e1, e2, e3, e4, e7, if_pos hg, w64_succ (by omega), if_pos (by omega), if_pos (by omega), Int.toNat_natCast]) ?_
      refine Ev.bind (f := fun _ t => some t) (ids_ev _ ?_) (Ev.now _)
      rw [List.length_take]; omega
    · rw [if_neg hg]
      have ih := choose_loop (pol := pol) (l := l) hP hP1 ho hv hno rest (pre ++ [z]) (live + z.f1) (by simp [h]) (by omega) (by simp; omega)
      rw [show (pre ++ [z]).length = pre.length + 1 by simp] at ih
      exact Ev.step (fun k => by rw [victim_Choose.l0, if_pos (by omega), if_pos (by omega), if_pos (by omega), if_neg (by omega), rd29 o pre z rest h, e1, e2, e3, e4, e7, if_neg hg, w64_succ (by omega)]) ih
def chosen (pol P extra : Int) (l : List S29) : List Int :=
  match firstGain P 0 extra (ord pol P l) with
  | some k => ((ord pol P l).take k).map S29.f0
  | none => if pol = 0 then [] else match firstGain P 0 extra (ord 0 P l) with
    | some k => ((ord 0 P l).take k).map S29.f0
    | none => []
theorem choose_ev {pol P extra : Int} {l : List S29} (h : Fine P l) (hu : ∀ x ∈ l, 0 ≤ x.f2 ∧ x.f2 ≤ 4294967295) (he0 : 0 ≤ extra) (he1 : extra ≤ 1000) : Ev (fun k => victim_Choose.f k pol P extra l) (chosen pol P extra l) := by
  have main : ∀ (pol : Int) (r : List Int), Ev (fun k => if pol = 0 then (some ([] : List Int)) else ((victim_Choose.f k 0 P extra l).bind fun t => some t)) r → Ev (fun k => victim_Choose.f k pol P extra l) (match firstGain P 0 extra (ord pol P l) with | some k => ((ord pol P l).take k).map S29.f0 | none => r) := fun pol r hr => by
    have hp := ord_perm pol P l
    refine Ev.step (fun k => by rw [victim_Choose.f, ordered_eq h hu, Option.bind_some]) ?_
    exact choose_loop h.p0 h.p1 (by rw [hp.length_eq]; exact h.len) (fun x hx => ⟨h.v0 x (hp.mem_iff.1 hx), h.v1 x (hp.mem_iff.1 hx)⟩) hr (ord pol P l) [] extra rfl he0 (by simp; omega)
  have greedy := main 0 [] (Ev.congr (fun k => by rw [if_pos rfl]) (Ev.now _))
  by_cases hpol : pol = 0
  · subst hpol; simpa [chosen] using greedy
  · have := main pol _ (Ev.congr (fun k => by rw [if_neg hpol]) (Ev.bind (f := fun _ t => some t) greedy (Ev.now _)))
    simpa [chosen, hpol] using this
theorem order_ev {pol P : Int} {l : List S29} (h : Fine P l) (hu : ∀ x ∈ l, 0 ≤ x.f2 ∧ x.f2 ≤ 4294967295) : Ev (fun k => victim_Order.f k pol P l) ((ord pol P l).map S29.f0) := by
  refine Ev.congr (fun k => by rw [victim_Order.f, ordered_eq h hu, Option.bind_some]) ?_
  exact Ev.bind (f := fun _ t => some t) (ids_ev _ (by rw [(ord_perm pol P l).length_eq]; have := h.len; omega)) (Ev.now _)
theorem awake_ev : Ev (fun k => platelayerlaw12_awake.f k) true := by
  refine Ev.of (fun k => platelayerlaw12_awake.mono k) (k := 30) ?_
  decide +kernel
end Go.Proofs.Ytkcpbglimpaieaa.V
