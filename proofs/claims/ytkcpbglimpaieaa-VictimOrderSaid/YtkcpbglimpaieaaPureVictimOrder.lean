/- The plain statement of VictimOrder: what its printed function comes to is true. -/
import Derived.Test.YtkcpbglimpaieaaVx5
import Derived.Test.YtkcpbglimpaieaaPureVictimGains
namespace Go.Proofs.Ytkcpbglimpaieaa.V
open Go.RowKit Go.Proofs.YtkcpbglimpaieaaW.PrintWords Go.Proofs.YtkcpbglimpaieaaW.PrintLast Go.Proofs.YtkcpbglimpaieaaW.PrintMore

theorem same_loop (a : List Int) (ha : a.length ≤ 1000000) : ∀ (d i : Nat), a.length - i = d → i ≤ a.length → Ev (fun k => platelayerref08_Same.l0 k a a (i : Int)) true
  | 0, i, hd, hi => Ev.step (fun k => by rw [platelayerref08_Same.l0, if_neg (by omega)]) (Ev.now _)
  | d + 1, i, hd, hi => by
    have ih := same_loop a ha d (i + 1) (by omega) (by omega)
    exact Ev.step (fun k => by rw [platelayerref08_Same.l0, if_pos (by omega), if_pos (by omega), if_pos (by omega), if_pos rfl, w64_succ (by omega)]) ih
theorem same_ev (a : List Int) (ha : a.length ≤ 1000000) : Ev (fun k => platelayerref08_Same.f k a a) true :=
  Ev.congr (fun k => by rw [platelayerref08_Same.f, if_pos rfl]) (by simpa using same_loop a ha a.length 0 (by omega) (by omega))

theorem fine_perm {P : Int} {l m : List S29} (h : Fine P l) (hp : m.Perm l) : Fine P m :=
  ⟨h.p0, h.p1, by rw [hp.length_eq]; exact h.len, fun x hx => h.id0 x (hp.mem_iff.1 hx), fun x hx => h.v0 x (hp.mem_iff.1 hx), fun x hx => h.v1 x (hp.mem_iff.1 hx), (hp.map S29.f0).nodup_iff.2 h.nd⟩
theorem ord_of_perm (pol : Int) {P : Int} {l m : List S29} (h : Fine P l) (hu : ∀ x ∈ l, 0 ≤ x.f2 ∧ x.f2 ≤ 4294967295) (hp : m.Perm l) : ord pol P m = ord pol P l := by
  unfold ord
  congr 1
  have ok : ∀ z ∈ l.map toZ, z.ok P.toNat := fun z hz => by
    obtain ⟨x, hx, rfl⟩ := List.mem_map.1 hz
    have := h.v1 x hx
    exact ⟨h.v0 x hx, by show x.f1 ≤ _; omega, (hu x hx).1, (hu x hx).2⟩
  have hpz : (m.map toZ).Perm (l.map toZ) := hp.map toZ
  refine sorted_unique pol P.toNat _ _ ((isort_perm _ _ _).trans (hpz.trans (isort_perm _ _ _).symm)) ?_ (isort_sorted _ _ _ (fun z hz => ok z (hpz.mem_iff.1 hz))) (isort_sorted _ _ _ ok)
  have h1 := ((isort_perm pol P.toNat (m.map toZ)).map Z.id)
  rw [h1.nodup_iff, List.map_map]
  have := (fine_perm h hp).nd
  exact this

theorem order_l1 {pol : Int} {l : List S29} (hl : l.length ≤ 24) {o : List Int} {last : Int} {i : Nat} {z : S29} {p q : List S29} (h : l = p ++ z :: q) (hp : ∀ y ∈ p, y.f0 ≠ z.f0) (hq : ∀ y ∈ q, y.f0 ≠ z.f0)
    (hz : pol = 0 → last ≤ z.f1) (hi : i ≤ 24) {r : Bool}
    (hn : Ev (fun k => platelayerlaw12_VictimOrder.l0 k pol l z.f1 o (o.length : Int) ((i + 1 : Nat) : Int)) r) :
    Ev (fun k => platelayerlaw12_VictimOrder.l1 k pol l last z.f0 0 o (o.length : Int) (i : Int) l (l.length : Int) 0) r := by
  have late : ∀ (rest pre : List S29), l = pre ++ rest → (∀ y ∈ rest, y.f0 ≠ z.f0) → Ev (fun k => platelayerlaw12_VictimOrder.l1 k pol l z.f1 z.f0 1 o (o.length : Int) (i : Int) l (l.length : Int) (pre.length : Int)) r := by
    intro rest
    induction rest with
    | nil =>
      intro pre h _
      exact Ev.step (fun k => by rw [platelayerlaw12_VictimOrder.l1, if_neg (by rw [h]; simp), if_pos rfl, w64_succ (by omega)]) hn
    | cons x rest ih =>
      intro pre h hr
      have hlen : pre.length < l.length := by rw [h]; simp
      have ih' := ih (pre ++ [x]) (by simp [h]) (fun y hy => hr y (List.mem_cons_of_mem _ hy))
      rw [show (pre ++ [x]).length = pre.length + 1 by simp] at ih'
      exact Ev.step (fun k => by rw [platelayerlaw12_VictimOrder.l1, if_pos (by omega), if_pos (by omega), if_pos (by omega), rd29 l pre x rest h, if_neg (hr x List.mem_cons_self), w64_succ (by omega)]) ih'
  have early : ∀ (rest pre : List S29), p = pre ++ rest → Ev (fun k => platelayerlaw12_VictimOrder.l1 k pol l last z.f0 0 o (o.length : Int) (i : Int) l (l.length : Int) (pre.length : Int)) r := by
    intro rest
    induction rest with
    | nil =>
      intro pre h'
      obtain rfl : p = pre := by simpa using h'
      have hlen : p.length < l.length := by rw [h]; simp
      have ih' := late q (p ++ [z]) (by simp [h]) hq
      rw [show (p ++ [z]).length = p.length + 1 by simp] at ih'
      have e1 : wrap64 (0 + 1) = 1 := by rw [w64] <;> omega
      by_cases h0 : pol = 0
      · exact Ev.step (fun k => by rw [platelayerlaw12_VictimOrder.l1, if_pos (by omega), if_pos (by omega), if_pos (by omega), rd29 l p z q h, if_pos rfl, if_pos h0, if_neg (by have := hz h0; omega), e1, w64_succ (by omega)]) ih'
      · exact Ev.step (fun k => by rw [platelayerlaw12_VictimOrder.l1, if_pos (by omega), if_pos (by omega), if_pos (by omega), rd29 l p z q h, if_pos rfl, if_neg h0, e1, w64_succ (by omega)]) ih'
    | cons x rest ih =>
      intro pre h'
      have hlen : pre.length < l.length := by rw [h, h']; simp
      have ih' := ih (pre ++ [x]) (by simp [h'])
      rw [show (pre ++ [x]).length = pre.length + 1 by simp] at ih'
      exact Ev.step (fun k => by rw [platelayerlaw12_VictimOrder.l1, if_pos (by omega), if_pos (by omega), if_pos (by omega), rd29 l pre x (rest ++ z :: q) (by simp [h, h']), if_neg (hp x (by simp [h'])), w64_succ (by omega)]) ih'
  exact early p [] rfl
theorem split_at {l : List S29} (hnd : (l.map S29.f0).Nodup) {z : S29} (hz : z ∈ l) : ∃ p q, l = p ++ z :: q ∧ (∀ y ∈ p, y.f0 ≠ z.f0) ∧ (∀ y ∈ q, y.f0 ≠ z.f0) := by
  obtain ⟨p, q, rfl⟩ := List.append_of_mem hz
  refine ⟨p, q, rfl, fun y hy e => ?_, fun y hy e => ?_⟩
  · rw [List.map_append, List.nodup_append] at hnd
    exact hnd.2.2 y.f0 (List.mem_map_of_mem hy) z.f0 (by simp) e
  · rw [List.map_append, List.nodup_append] at hnd
    have := hnd.2.1
    rw [List.map_cons, List.nodup_cons] at this
    exact this.1 (e ▸ List.mem_map_of_mem hy)
theorem order_l0 {pol P : Int} {l o : List S29} (h : Fine P l) (hp : o.Perm l) (hs : pol = 0 → o.Pairwise (fun x y => x.f1 ≤ y.f1)) :
    ∀ (rest pre : List S29) (last : Int), o = pre ++ rest → (pol = 0 → ∀ x ∈ rest, last ≤ x.f1) → Ev (fun k => platelayerlaw12_VictimOrder.l0 k pol l last (o.map S29.f0) ((o.map S29.f0).length : Int) (pre.length : Int)) true
  | [], pre, last, e, _ => by
    exact Ev.step (fun k => by rw [platelayerlaw12_VictimOrder.l0, if_neg (by rw [e]; simp)]) (Ev.now _)
  | z :: rest, pre, last, e, hlast => by
    have hlen : pre.length < o.length := by rw [e]; simp
    have hol := hp.length_eq
    have hl := h.len
    obtain ⟨p, q, e1, e2, e3⟩ := split_at h.nd (hp.mem_iff.1 (show z ∈ o by rw [e]; simp))
    have ih := order_l0 h hp hs rest (pre ++ [z]) z.f1 (by simp [e]) (fun h0 y hy => by
      have := hs h0
      rw [e, List.pairwise_append] at this
      exact (List.pairwise_cons.1 this.2.1).1 y hy)
    rw [show (pre ++ [z]).length = pre.length + 1 by simp] at ih
    have step := order_l1 (pol := pol) hl e1 e2 e3 (last := last) (fun h0 => hlast h0 z List.mem_cons_self) (by omega) ih
    refine Ev.step (fun k => ?_) step
    rw [platelayerlaw12_VictimOrder.l0, if_pos (by rw [List.length_map]; omega), if_pos (by omega), if_pos (by rw [List.length_map]; omega)]
    rw [show rd (o.map S29.f0) (pre.length : Int) = z.f0 by rw [e]; simp [rd]]
end Go.Proofs.Ytkcpbglimpaieaa.V
namespace Go.Proofs.Ytkcpbglimpaieaa.Pure
open Go.RowKit Go.Proofs.YtkcpbglimpaieaaW.PrintWords Go.Proofs.YtkcpbglimpaieaaW.PrintLast Go.Proofs.YtkcpbglimpaieaaW.PrintMore Go.Proofs.Ytkcpbglimpaieaa.V
theorem chosen_len {pol P extra : Int} {l : List S29} : (chosen pol P extra l).length ≤ l.length := by
  have a := (ord_perm pol P l).length_eq
  have b := (ord_perm 0 P l).length_eq
  unfold chosen
  split
  · rw [List.length_map, List.length_take]; omega
  · split
    · simp
    · split
      · rw [List.length_map, List.length_take]; omega
      · simp
theorem VictimOrder (a0 a1 a2 : Int) (l3 : List S29) (a4 : Int) (_w0 : (Lit.int .i64 a0).wf = true) (_w1 : (Lit.int .i64 a1).wf = true) (_w2 : (Lit.int .i64 a2).wf = true) (_hm : l3.length ≤ maxLen) (hw : ∀ x ∈ l3, wf29 x) (_w4 : (Lit.int .i64 a4).wf = true) : ∃ k, platelayerlaw12_VictimOrder.f k a0 a1 a2 l3 a4 = some true := by
  refine Ev.rounds (g := fun k => platelayerlaw12_VictimOrder.f k a0 a1 a2 l3 a4) ?_
  have hu : ∀ x ∈ l3, 0 ≤ x.f2 ∧ x.f2 ≤ 4294967295 := fun x hx => u32_of (hw x hx)
  have hyes : Ev (fun k => platelayerlaw12_VictimOrder.j0 k a0 a1 a2 l3 a4 true) true := Ev.step (fun k => by rw [platelayerlaw12_VictimOrder.j0, if_pos rfl]) (Ev.now _)
  obtain ⟨b, hb, hf⟩ := outside_ev a1 l3
  refine Ev.congr (fun k => by rw [platelayerlaw12_VictimOrder.f]) (Ev.bind awake_ev (Ev.congr (fun k => by rw [if_pos rfl]) (Ev.bind hb ?_)))
  cases b with
  | true => exact Ev.congr (fun k => by rw [if_pos rfl]) hyes
  | false =>
    have h := hf rfl
    refine Ev.congr (fun k => by rw [if_neg (by simp)]) ?_
    by_cases h0 : a2 < 0
    · exact Ev.congr (fun k => by rw [if_pos h0]) hyes
    by_cases h1 : a2 > 16
    · exact Ev.congr (fun k => by rw [if_neg h0, if_pos h1]) hyes
    by_cases h2 : a4 < 0
    · exact Ev.congr (fun k => by rw [if_neg h0, if_neg h1, if_pos h2]) hyes
    refine Ev.congr (fun k => by rw [if_neg h0, if_neg h1, if_neg h2]) ?_
    by_cases h3 : a4 > (l3.length : Int)
    · have : decide (a4 > (l3.length : Int)) = true := by simpa using h3
      rw [this]; exact hyes
    · have : decide (a4 > (l3.length : Int)) = false := by simpa using h3
      rw [this]
      have hp1 := h.p1
      have hlen := h.len
      have hperm : (l3.drop a4.toNat ++ l3.take a4.toNat).Perm l3 := by
        have := List.perm_append_comm (l₁ := l3.drop a4.toNat) (l₂ := l3.take a4.toNat)
        rwa [List.take_append_drop] at this
      have hm := fine_perm h hperm
      have hum : ∀ x ∈ l3.drop a4.toNat ++ l3.take a4.toNat, 0 ≤ x.f2 ∧ x.f2 ≤ 4294967295 := fun x hx => hu x (hperm.mem_iff.1 hx)
      have oe : ∀ pol, ord pol a1 (l3.drop a4.toNat ++ l3.take a4.toNat) = ord pol a1 l3 := fun pol => ord_of_perm pol h hu hperm
      have ce : chosen a0 a1 a2 (l3.drop a4.toNat ++ l3.take a4.toNat) = chosen a0 a1 a2 l3 := by unfold chosen; rw [oe, oe]
      have o1 := order_ev (pol := a0) h hu
      have o2 := order_ev (pol := a0) hm hum
      rw [oe] at o2
      have c1 := choose_ev (pol := a0) (extra := a2) h hu (by omega) (by omega)
      have c2 := choose_ev (pol := a0) (extra := a2) hm hum (by omega) (by omega)
      rw [ce] at c2
      have ol := (ord_perm a0 a1 l3).length_eq
      have cl := chosen_len (pol := a0) (P := a1) (extra := a2) (l := l3)
      refine Ev.step (fun k => by rewrite [platelayerlaw12_VictimOrder.j0, if_neg (by simp)]; simp only [Option.bind_some]; rewrite [if_pos (by omega), if_pos (by omega), if_pos (by simp; omega), if_pos (by simp; omega), List.nil_append]; rfl) ?_
      refine Ev.bind o1 (Ev.bind o2 (Ev.bind (same_ev _ (by rw [List.length_map]; omega)) (Ev.congr (fun k => by rw [if_pos rfl]) ?_)))
      refine Ev.bind c1 (Ev.bind c2 (Ev.bind (same_ev _ (by omega)) (Ev.congr (fun k => by rw [if_pos rfl]) ?_)))
      have e0 : ((((ord a0 a1 l3).map S29.f0).length : Int) != (l3.length : Int)) = false := by simp [ol]
      rw [e0]
      refine Ev.step (fun k => by rw [platelayerlaw12_VictimOrder.j1, if_neg (by simp)]) ?_
      have := order_l0 (pol := a0) h (ord_perm a0 a1 l3) (fun h0 => by subst h0; exact ord_greedy a1 (by have := h.p0; omega) l3 h.v0 h.v1 hu) (ord a0 a1 l3) [] 0 rfl (fun _ x hx => h.v0 x ((ord_perm a0 a1 l3).mem_iff.1 hx))
      simpa using this
end Go.Proofs.Ytkcpbglimpaieaa.Pure
