/- The plain statement of VictimGains: what its printed function comes to is true. -/
import Derived.Test.YtkcpbglimpaieaaVx4
import Derived.Test.YtkcpbglimpaieaaP
import Derived.Test.YtkcpbglimpaieaaE
namespace Go.Proofs.Ytkcpbglimpaieaa.V
open Go.RowKit Go.Proofs.YtkcpbglimpaieaaW.PrintWords Go.Proofs.YtkcpbglimpaieaaW.PrintLast Go.Proofs.YtkcpbglimpaieaaW.PrintMore

theorem sumV_nonneg {l : List S29} (h : ∀ x ∈ l, 0 ≤ x.f1) : 0 ≤ sumV l := by
  induction l with
  | nil => simp [sumV]
  | cons x l ih =>
    have h1 := h x List.mem_cons_self
    have h2 := ih (fun y hy => h y (List.mem_cons_of_mem _ hy))
    simp only [sumV, List.map_cons, List.sum_cons] at *; omega
theorem sumV_le {l : List S29} {P : Int} (h : ∀ x ∈ l, x.f1 ≤ P) : sumV l ≤ l.length * P := by
  induction l with
  | nil => simp [sumV]
  | cons x l ih =>
    have h1 := h x List.mem_cons_self
    have h2 := ih (fun y hy => h y (List.mem_cons_of_mem _ hy))
    simp only [sumV, List.map_cons, List.sum_cons, List.length_cons] at *
    have e : ((l.length + 1 : Nat) : Int) * P = l.length * P + P := by rw [Int.natCast_add, Int.add_mul]; simp
    omega
theorem sumV_append (a b : List S29) : sumV (a ++ b) = sumV a + sumV b := by simp [sumV]
theorem sumV_perm {a b : List S29} (h : a.Perm b) : sumV a = sumV b := by
  induction h with
  | nil => rfl
  | cons x _ ih => simp only [sumV, List.map_cons, List.sum_cons] at *; omega
  | swap x y l => simp only [sumV, List.map_cons, List.sum_cons]; omega
  | trans _ _ h1 h2 => exact h1.trans h2

/-! all pages, counted -/
theorem gains_l0 {P : Int} {l : List S29} (hl : l.length ≤ 24) (hv : ∀ x ∈ l, 0 ≤ x.f1 ∧ x.f1 ≤ 16) {ch : List Int} {live : Int} {r : Bool}
    (hn : Ev (fun k => platelayerlaw12_VictimGains.l1 k P l ch (sumV l) live ch (ch.length : Int) 0) r) :
    ∀ (rest pre : List S29), l = pre ++ rest → Ev (fun k => platelayerlaw12_VictimGains.l0 k P l ch (sumV pre) live l (l.length : Int) (pre.length : Int)) r
  | [], pre, h => by
    obtain rfl : l = pre := by simpa using h
    exact Ev.step (fun k => by rw [platelayerlaw12_VictimGains.l0, if_neg (by omega)]) hn
  | x :: rest, pre, h => by
    have hlen : pre.length < l.length := by rw [h]; simp
    have ih := gains_l0 hl hv hn rest (pre ++ [x]) (by simp [h])
    have hx := hv x (by rw [h]; simp)
    have h0 := sumV_nonneg (l := pre) (fun y hy => (hv y (by rw [h]; simp [hy])).1)
    have h1 := sumV_le (l := pre) (P := 16) (fun y hy => (hv y (by rw [h]; simp [hy])).2)
    have e : sumV (pre ++ [x]) = sumV pre + x.f1 := by rw [sumV_append]; simp [sumV]
    rw [e] at ih
    refine Ev.step (fun k => by rw [platelayerlaw12_VictimGains.l0, if_pos (by omega), if_pos (by omega), if_pos (by omega), rd29 l pre x rest h, w64 (by omega) (by omega), w64_succ (by omega)]) ?_
    simpa using ih

/-- the live pages of the zone of an id. -/
def liveOf (l : List S29) (id : Int) : Int := ((l.filter (fun x => x.f0 == id)).map S29.f1).sum
theorem gains_l2 {P : Int} {l : List S29} (hl : l.length ≤ 24) (hv : ∀ x ∈ l, 0 ≤ x.f1 ∧ x.f1 ≤ 16) {ch : List Int} {all : Int} {id : Int} {n : Nat} (hn24 : n ≤ 24) {r : Bool} {live0 : Int} (hb0 : 0 ≤ live0) (hb1 : live0 ≤ 100000)
    (hsome : ∃ x ∈ l, x.f0 = id)
    (hn : Ev (fun k => platelayerlaw12_VictimGains.l1 k P l ch all (live0 + liveOf l id) ch (ch.length : Int) ((n + 1 : Nat) : Int)) r) :
    ∀ (rest pre : List S29), l = pre ++ rest → Ev (fun k => platelayerlaw12_VictimGains.l2 k P l ch all (live0 + liveOf pre id) id (decide (∃ x ∈ pre, x.f0 = id)) ch (ch.length : Int) (n : Int) l (l.length : Int) (pre.length : Int)) r
  | [], pre, h => by
    obtain rfl : l = pre := by simpa using h
    exact Ev.step (fun k => by rw [platelayerlaw12_VictimGains.l2, if_neg (by omega), if_pos (by simpa using hsome), w64_succ (by omega)]) hn
  | x :: rest, pre, h => by
    have hlen : pre.length < l.length := by rw [h]; simp
    have ih := gains_l2 hl hv hn24 hb0 hb1 hsome hn rest (pre ++ [x]) (by simp [h])
    have hx := hv x (by rw [h]; simp)
    have hbd : 0 ≤ liveOf pre id ∧ liveOf pre id ≤ 24 * 16 := by
      have a := sumV_nonneg (l := pre.filter (fun x => x.f0 == id)) (fun y hy => (hv y (by rw [h]; simp [List.mem_filter.1 hy])).1)
      have b := sumV_le (l := pre.filter (fun x => x.f0 == id)) (P := 16) (fun y hy => (hv y (by rw [h]; simp [List.mem_filter.1 hy])).2)
      have c := List.length_filter_le (fun x : S29 => x.f0 == id) pre
      have e : liveOf pre id = sumV (pre.filter (fun x => x.f0 == id)) := rfl
      rw [e]; omega
    by_cases hid : x.f0 = id
    · have e1 : liveOf (pre ++ [x]) id = liveOf pre id + x.f1 := by simp [liveOf, hid]
      have e2 : decide (∃ y ∈ pre ++ [x], y.f0 = id) = true := by simp [hid]
      rw [e1, e2, ← Int.add_assoc] at ih
      refine Ev.step (fun k => by rw [platelayerlaw12_VictimGains.l2, if_pos (by omega), if_pos (by omega), if_pos (by omega), rd29 l pre x rest h, if_pos hid, w64 (by omega) (by omega), w64_succ (by omega)]) ?_
      simpa using ih
    · have e1 : liveOf (pre ++ [x]) id = liveOf pre id := by simp [liveOf, hid]
      have e2 : decide (∃ y ∈ pre ++ [x], y.f0 = id) = decide (∃ y ∈ pre, y.f0 = id) := by
        apply decide_eq_decide.2; constructor
        · rintro ⟨y, hy, e⟩
          rcases List.mem_append.1 hy with hy | hy
          · exact ⟨y, hy, e⟩
          · simp at hy; subst hy; exact absurd e hid
        · rintro ⟨y, hy, e⟩; exact ⟨y, List.mem_append_left _ hy, e⟩
      rw [e1, e2] at ih
      refine Ev.step (fun k => by rw [platelayerlaw12_VictimGains.l2, if_pos (by omega), if_pos (by omega), if_pos (by omega), rd29 l pre x rest h, if_neg hid, w64_succ (by omega)]) ?_
      simpa using ih
theorem rdI (l pre : List Int) (x : Int) (r : List Int) (h : l = pre ++ x :: r) : rd l (pre.length : Int) = x := by
  subst h; simp [rd]
theorem gains_l1 {P : Int} {l : List S29} (hl : l.length ≤ 24) (hv : ∀ x ∈ l, 0 ≤ x.f1 ∧ x.f1 ≤ 16) {ch : List Int} (hch : ch.length ≤ 24) (hin : ∀ id ∈ ch, ∃ x ∈ l, x.f0 = id) {all : Int} {extra : Int} (he0 : 0 ≤ extra) (he1 : extra ≤ 16) {r : Bool}
    (hn : Ev (fun k => platelayerlaw12_VictimGains.l1 k P l ch all (extra + (ch.map (liveOf l)).sum) ch (ch.length : Int) (ch.length : Int)) r) :
    ∀ (rest pre : List Int), ch = pre ++ rest → Ev (fun k => platelayerlaw12_VictimGains.l1 k P l ch all (extra + (pre.map (liveOf l)).sum) ch (ch.length : Int) (pre.length : Int)) r
  | [], pre, h => by
    obtain rfl : ch = pre := by simpa using h
    exact hn
  | id :: rest, pre, h => by
    have hlen : pre.length < ch.length := by rw [h]; simp
    have ih := gains_l1 hl hv hch hin he0 he1 hn rest (pre ++ [id]) (by simp [h])
    have hbd : ∀ q, 0 ≤ liveOf l q ∧ liveOf l q ≤ 24 * 16 := fun q => by
      have a := sumV_nonneg (l := l.filter (fun x => x.f0 == q)) (fun y hy => (hv y (List.mem_filter.1 hy).1).1)
      have b := sumV_le (l := l.filter (fun x => x.f0 == q)) (P := 16) (fun y hy => (hv y (List.mem_filter.1 hy).1).2)
      have c := List.length_filter_le (fun x : S29 => x.f0 == q) l
      have e : liveOf l q = sumV (l.filter (fun x => x.f0 == q)) := rfl
      rw [e]; omega
    have hsum : ∀ p : List Int, 0 ≤ (p.map (liveOf l)).sum ∧ (p.map (liveOf l)).sum ≤ p.length * 384 := fun p => by
      induction p with
      | nil => simp
      | cons q p ihp => have := hbd q; simp only [List.map_cons, List.sum_cons, List.length_cons]; omega
    have hs := hsum pre
    have e1 : ((pre ++ [id]).map (liveOf l)).sum = (pre.map (liveOf l)).sum + liveOf l id := by simp
    rw [e1, ← Int.add_assoc, show (pre ++ [id]).length = pre.length + 1 by simp] at ih
    have h2 := gains_l2 (all := all) hl hv (n := pre.length) (by omega) (live0 := extra + (pre.map (liveOf l)).sum) (by omega) (by omega) (hin id (by rw [h]; simp)) ih l [] rfl
    refine Ev.step (fun k => by rw [platelayerlaw12_VictimGains.l1, if_pos (by omega), if_pos (by omega), if_pos (by omega), rdI ch pre id rest h]) ?_
    simpa [liveOf] using h2
theorem liveOf_mem : ∀ {l : List S29} (_ : (l.map S29.f0).Nodup) {x : S29}, x ∈ l → liveOf l x.f0 = x.f1
  | y :: l, hnd, x, hx => by
    rw [List.map_cons, List.nodup_cons] at hnd
    rcases List.mem_cons.1 hx with rfl | hx
    · have : l.filter (fun y => y.f0 == x.f0) = [] := by
        rw [List.filter_eq_nil_iff]
        intro y hy; simp only [beq_iff_eq]; intro e; exact hnd.1 (e ▸ List.mem_map_of_mem hy)
      simp [liveOf, this]
    · have hne : y.f0 ≠ x.f0 := fun e => hnd.1 (e ▸ List.mem_map_of_mem hx)
      have := liveOf_mem hnd.2 hx
      simpa [liveOf, hne] using this
theorem liveOf_take {l o : List S29} (hnd : (l.map S29.f0).Nodup) (hp : o.Perm l) (k : Nat) : (((o.take k).map S29.f0).map (liveOf l)).sum = sumV (o.take k) := by
  have h : ∀ t : List S29, (∀ x ∈ t, x ∈ l) → ((t.map S29.f0).map (liveOf l)).sum = sumV t := fun t ht => by
    induction t with
    | nil => rfl
    | cons x t ih =>
      have h1 := liveOf_mem hnd (ht x List.mem_cons_self)
      have h2 := ih (fun y hy => ht y (List.mem_cons_of_mem _ hy))
      simp only [List.map_cons, List.sum_cons, sumV] at *
      rw [h1, h2]
  exact h _ (fun x hx => hp.mem_iff.1 (List.mem_of_mem_take hx))

/-- by Greedy none has fewer live pages than one ahead of it. -/
theorem ord_greedy (P : Int) (hP : 0 ≤ P) (l : List S29) (h0 : ∀ x ∈ l, 0 ≤ x.f1) (h1 : ∀ x ∈ l, x.f1 ≤ P) (hu : ∀ x ∈ l, 0 ≤ x.f2 ∧ x.f2 ≤ 4294967295) : (ord 0 P l).Pairwise (fun x y => x.f1 ≤ y.f1) := by
  have hs := isort_sorted 0 P.toNat (l.map toZ) (fun z hz => by
    obtain ⟨x, hx, rfl⟩ := List.mem_map.1 hz
    have := h1 x hx
    exact ⟨h0 x hx, by show x.f1 ≤ _; omega, (hu x hx).1, (hu x hx).2⟩)
  unfold ord
  rw [List.pairwise_map]
  refine hs.imp ?_
  intro x y h
  rw [lt_false] at h
  have ht := Q_total 0 P.toNat x y
  unfold Q at h ht
  simp only [if_true] at h ht
  show x.va ≤ y.va
  omega
theorem four_least : ∀ (o : List S29), o.Pairwise (fun x y => x.f1 ≤ y.f1) → 4 ≤ o.length → sumV (o.take 4) * o.length ≤ 4 * sumV o
  | a :: b :: c :: d :: r, hp, _ => by
    simp only [List.pairwise_cons, List.mem_cons, forall_eq_or_imp] at hp
    obtain ⟨⟨ab, ac, ad, ar⟩, ⟨bc, bd, br⟩, ⟨cd, cr⟩, dr, _⟩ := hp
    have hr : (r.length : Int) * d.f1 ≤ sumV r := by
      have : ∀ t : List S29, (∀ x ∈ t, d.f1 ≤ x.f1) → (t.length : Int) * d.f1 ≤ sumV t := fun t ht => by
        induction t with
        | nil => simp [sumV]
        | cons x t ih =>
          have h1 := ht x List.mem_cons_self
          have h2 := ih (fun y hy => ht y (List.mem_cons_of_mem _ hy))
          simp only [sumV, List.map_cons, List.sum_cons, List.length_cons] at *
          have e : ((t.length + 1 : Nat) : Int) * d.f1 = t.length * d.f1 + d.f1 := by rw [Int.natCast_add, Int.add_mul]; simp
          omega
      exact this r dr
    have e1 : sumV ((a :: b :: c :: d :: r).take 4) = a.f1 + b.f1 + c.f1 + d.f1 := by simp [sumV]; omega
    have e2 : sumV (a :: b :: c :: d :: r) = a.f1 + b.f1 + c.f1 + d.f1 + sumV r := by simp [sumV]; omega
    have e3 : ((a :: b :: c :: d :: r).length : Int) = r.length + 4 := by simp; omega
    rw [e1, e2, e3]
    generalize hs : a.f1 + b.f1 + c.f1 + d.f1 = s at *
    have h4 : s ≤ 4 * d.f1 := by omega
    have h5 : s * r.length ≤ 4 * d.f1 * r.length := Int.mul_le_mul_of_nonneg_right h4 (by omega)
    have h6 : 4 * d.f1 * (r.length : Int) = 4 * (r.length * d.f1) := by rw [Int.mul_assoc, Int.mul_comm d.f1]
    rw [Int.mul_add]
    omega
  | [], _, h | [_], _, h | [_, _], _, h | [_, _, _], _, h => by simp at h
end Go.Proofs.Ytkcpbglimpaieaa.V
namespace Go.Proofs.Ytkcpbglimpaieaa.Pure
open Go.RowKit Go.Proofs.YtkcpbglimpaieaaW.PrintWords Go.Proofs.YtkcpbglimpaieaaW.PrintLast Go.Proofs.YtkcpbglimpaieaaW.PrintMore Go.Proofs.Ytkcpbglimpaieaa.V
theorem u32_of {x : S29} (h : wf29 x) : 0 ≤ x.f2 ∧ x.f2 ≤ 4294967295 := by
  have := h.2.2
  simpa [Lit.wf, IntKind.min, IntKind.max, IntKind.signed, IntKind.bits] using this
theorem gains_some {P extra : Int} {l o : List S29} (h : Fine P l) (hp : o.Perm l) (he0 : 0 ≤ extra) (he1 : extra ≤ 16) {k : Nat} (hk : firstGain P 0 extra o = some k) :
    Ev (fun n => platelayerlaw12_VictimGains.l0 n P l ((o.take k).map S29.f0) 0 extra l (l.length : Int) 0) true := by
  have hP := h.p0; have hP1 := h.p1; have hl := h.len
  have hv : ∀ x ∈ l, 0 ≤ x.f1 ∧ x.f1 ≤ 16 := fun x hx => ⟨h.v0 x hx, Int.le_trans (h.v1 x hx) h.p1⟩
  obtain ⟨k1, k2⟩ := firstGain_le P o 0 extra k hk
  have hg := firstGain_gains P o 0 extra k hk
  rw [Nat.sub_zero] at hg
  have hol : o.length = l.length := hp.length_eq
  have hcl : ((o.take k).map S29.f0).length = k := by rw [List.length_map, List.length_take]; omega
  have hs0 := sumV_nonneg (l := o.take k) (fun x hx => (hv x (hp.mem_iff.1 (List.mem_of_mem_take hx))).1)
  have hs1 := sumV_le (l := o.take k) (P := 16) (fun x hx => (hv x (hp.mem_iff.1 (List.mem_of_mem_take hx))).2)
  have hs2 : (o.take k).length ≤ 24 := by rw [List.length_take]; omega
  have e2 : wrap64 (extra + sumV (o.take k) + P) = extra + sumV (o.take k) + P := by rw [w64] <;> omega
  have e3 : wrap64 (extra + sumV (o.take k) + P - 1) = extra + sumV (o.take k) + P - 1 := by rw [w64] <;> omega
  have e4 : Int.tdiv (extra + sumV (o.take k) + P - 1) P = (extra + sumV (o.take k) + P - 1) / P := Int.tdiv_eq_ediv_of_nonneg (by omega)
  have e5 : 0 ≤ (extra + sumV (o.take k) + P - 1) / P := Int.ediv_nonneg (by omega) (by omega)
  have e6 : (extra + sumV (o.take k) + P - 1) / P ≤ extra + sumV (o.take k) + P - 1 := Int.ediv_le_self _ (by omega)
  have e7 : wrap64 ((extra + sumV (o.take k) + P - 1) / P) = (extra + sumV (o.take k) + P - 1) / P := by rw [w64] <;> omega
  have hin : ∀ id ∈ (o.take k).map S29.f0, ∃ x ∈ l, x.f0 = id := fun id hid => by
    obtain ⟨x, hx, rfl⟩ := List.mem_map.1 hid
    exact ⟨x, hp.mem_iff.1 (List.mem_of_mem_take hx), rfl⟩
  have hmn : mn ((k : Int) - 1) 3 ≤ (k : Int) - 1 ∧ mn ((k : Int) - 1) 3 ≤ 3 := by unfold mn; split <;> omega
  have fin : Ev (fun n => platelayerlaw12_VictimGains.l1 n P l ((o.take k).map S29.f0) (sumV l) (extra + (((o.take k).map S29.f0).map (liveOf l)).sum) ((o.take k).map S29.f0) (((o.take k).map S29.f0).length : Int) (((o.take k).map S29.f0).length : Int)) true := by
    rw [liveOf_take h.nd hp k, hcl]
    refine Ev.step (fun n => by rw [platelayerlaw12_VictimGains.l1, if_neg (by omega), if_neg (by omega), if_pos (by rw [hcl]; omega), e2, e3, e4, e7, if_neg (by rw [hcl]; omega), if_neg (by omega), if_neg (by rw [hcl]; omega)]) (Ev.now _)
  have h1 := gains_l1 hl hv (by omega) hin he0 he1 fin _ [] rfl
  rw [List.map_nil, List.sum_nil, Int.add_zero] at h1
  have h0 := gains_l0 hl hv (ch := (o.take k).map S29.f0) (live := extra) h1 l [] rfl
  simpa [sumV] using h0
theorem gains_none {P extra : Int} {l : List S29} (h : Fine P l) (hu : ∀ x ∈ l, 0 ≤ x.f2 ∧ x.f2 ≤ 4294967295) (he1 : extra ≤ P) (hk : firstGain P 0 extra (ord 0 P l) = none) :
    Ev (fun n => platelayerlaw12_VictimGains.l0 n P l [] 0 extra l (l.length : Int) 0) true := by
  have hP := h.p0; have hP1 := h.p1; have hl := h.len
  have hv : ∀ x ∈ l, 0 ≤ x.f1 ∧ x.f1 ≤ 16 := fun x hx => ⟨h.v0 x hx, Int.le_trans (h.v1 x hx) h.p1⟩
  have hs0 := sumV_nonneg (l := l) (fun x hx => (hv x hx).1)
  have hs1 := sumV_le (l := l) (P := 16) (fun x hx => (hv x hx).2)
  have hlP : 0 ≤ (l.length : Int) * P ∧ (l.length : Int) * P ≤ 24 * 16 := ⟨Int.mul_nonneg (by omega) (by omega), Int.mul_le_mul (by omega) (by omega) (by omega) (by omega)⟩
  have fin : Ev (fun n => platelayerlaw12_VictimGains.l1 n P l [] (sumV l) extra [] (([] : List Int).length : Int) 0) true := by
    by_cases h4 : (l.length : Int) < 4
    · exact Ev.step (fun n => by rw [platelayerlaw12_VictimGains.l1, if_neg (by simp), if_neg (by omega), if_neg (by simp), if_pos h4]) (Ev.now _)
    · refine Ev.step (fun n => by rw [platelayerlaw12_VictimGains.l1, if_neg (by simp), if_neg (by omega), if_neg (by simp), if_neg h4, w64 (by omega) (by omega), w64 (by omega) (by omega)]) ?_
      have hgt : 2 * sumV l > (l.length : Int) * P := by
        refine Classical.byContradiction fun hn => ?_
        have hp := ord_perm 0 P l
        have hlen := hp.length_eq
        have hf := four_least (ord 0 P l) (ord_greedy P (by omega) l h.v0 h.v1 hu) (by omega)
        rw [sumV_perm hp, hlen] at hf
        have hs4 : sumV ((ord 0 P l).take 4) ≤ 2 * P := by
          refine Int.le_of_mul_le_mul_right (a := (l.length : Int)) ?_ (by omega)
          have : 2 * P * (l.length : Int) = 2 * (l.length * P) := by rw [Int.mul_assoc, Int.mul_comm P]
          omega
        have hs40 := sumV_nonneg (l := (ord 0 P l).take 4) (fun x hx => h.v0 x (hp.mem_iff.1 (List.mem_of_mem_take hx)))
        obtain ⟨k', hk', _⟩ := firstGain_finds P (ord 0 P l) 0 extra 4 (by omega) (by omega) (by
          have e : mn (((4 : Nat) : Int) - 1) 3 = 3 := by decide
          rw [e, Nat.sub_zero]
          have : (extra + sumV ((ord 0 P l).take 4) + P - 1) / P < 4 := Int.ediv_lt_of_lt_mul (by omega) (by omega)
          omega)
        rw [hk] at hk'; cases hk'
      simpa [hgt] using Ev.now true
  have h0 := gains_l0 hl hv (live := extra) fin l [] rfl
  simpa [sumV] using h0
theorem VictimGains (a0 a1 a2 : Int) (l3 : List S29) (_w0 : (Lit.int .i64 a0).wf = true) (_w1 : (Lit.int .i64 a1).wf = true) (_w2 : (Lit.int .i64 a2).wf = true) (_hm : l3.length ≤ maxLen) (hw : ∀ x ∈ l3, wf29 x) : ∃ k, platelayerlaw12_VictimGains.f k a0 a1 a2 l3 = some true := by
  refine Ev.rounds (g := fun k => platelayerlaw12_VictimGains.f k a0 a1 a2 l3) ?_
  have hu : ∀ x ∈ l3, 0 ≤ x.f2 ∧ x.f2 ≤ 4294967295 := fun x hx => u32_of (hw x hx)
  have hyes : Ev (fun k => platelayerlaw12_VictimGains.j0 k a0 a1 a2 l3 true) true := Ev.step (fun k => by rw [platelayerlaw12_VictimGains.j0, if_pos rfl]) (Ev.now _)
  obtain ⟨b, hb, hf⟩ := outside_ev a1 l3
  refine Ev.congr (fun k => by rw [platelayerlaw12_VictimGains.f]) (Ev.bind awake_ev (Ev.congr (fun k => by rw [if_pos rfl]) (Ev.bind hb ?_)))
  cases b with
  | true => exact Ev.congr (fun k => by rw [if_pos rfl]) hyes
  | false =>
    have h := hf rfl
    refine Ev.congr (fun k => by rw [if_neg (by simp)]) ?_
    by_cases h0 : a2 < 0
    · exact Ev.congr (fun k => by rw [if_pos h0]) hyes
    · refine Ev.congr (fun k => by rw [if_neg h0]) ?_
      by_cases h1 : a2 > a1
      · have : decide (a2 > a1) = true := by simpa using h1
        rw [this]; exact hyes
      · have : decide (a2 > a1) = false := by simpa using h1
        rw [this]
        have hp1 := h.p1
        refine Ev.step (fun k => by rw [platelayerlaw12_VictimGains.j0, if_neg (by simp)]) (Ev.bind (choose_ev (pol := a0) h hu (by omega) (by omega)) ?_)
        unfold chosen
        cases hk : firstGain a1 0 a2 (ord a0 a1 l3) with
        | some k => exact gains_some h (ord_perm _ _ _) (by omega) (by omega) hk
        | none =>
          by_cases hz : a0 = 0
          · subst hz
            simpa using gains_none h hu (by omega) hk
          · simp only [hz, if_false]
            cases hk2 : firstGain a1 0 a2 (ord 0 a1 l3) with
            | some k => exact gains_some h (ord_perm _ _ _) (by omega) (by omega) hk2
            | none => exact gains_none h hu (by omega) hk2
end Go.Proofs.Ytkcpbglimpaieaa.Pure
