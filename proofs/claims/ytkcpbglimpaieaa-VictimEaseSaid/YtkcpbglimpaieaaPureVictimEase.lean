/- The plain statement of VictimEase: what its printed function comes to is true. -/
import Derived.Test.YtkcpbglimpaieaaVx3
import Derived.Test.YtkcpbglimpaieaaPureVictimGains
namespace Go.Proofs.Ytkcpbglimpaieaa.V
open Go.RowKit Go.Proofs.YtkcpbglimpaieaaW.PrintWords Go.Proofs.YtkcpbglimpaieaaW.PrintLast Go.Proofs.YtkcpbglimpaieaaW.PrintMore

/-- a zone with fewer live pages. -/
def one (n : Int) (x : S29) : S29 := if n > 0 then ⟨x.f0, mx (x.f1 - mn n 16) 0, x.f2⟩ else x
def red : List Int → List S29 → List S29
  | [], l => l
  | _ :: _, [] => []
  | n :: ns, x :: l => one n x :: red ns l
theorem red_nil (ns : List Int) : red ns [] = [] := by cases ns <;> rfl
theorem one_f0 (n : Int) (x : S29) : (one n x).f0 = x.f0 ∧ (one n x).f2 = x.f2 := by unfold one; split <;> simp
theorem one_f1 (n : Int) (x : S29) (h : 0 ≤ x.f1) : 0 ≤ (one n x).f1 ∧ (one n x).f1 ≤ x.f1 := by
  unfold one mx mn
  split
  · dsimp only; split <;> split <;> omega
  · omega
theorem red_len : ∀ (ns : List Int) (l : List S29), (red ns l).length = l.length
  | [], _ => rfl
  | _ :: _, [] => rfl
  | _ :: ns, _ :: l => by simp [red, red_len ns l]
theorem red_ids : ∀ (ns : List Int) (l : List S29), (red ns l).map S29.f0 = l.map S29.f0
  | [], _ => rfl
  | _ :: _, [] => rfl
  | n :: ns, x :: l => by simp [red, red_ids ns l, (one_f0 n x).1]
theorem red_mem : ∀ (ns : List Int) (l : List S29) (y : S29), y ∈ red ns l → ∃ x ∈ l, y.f0 = x.f0 ∧ y.f2 = x.f2 ∧ (0 ≤ x.f1 → 0 ≤ y.f1 ∧ y.f1 ≤ x.f1)
  | [], _, y, h => ⟨y, h, rfl, rfl, fun h => ⟨h, Int.le_refl _⟩⟩
  | _ :: _, [], y, h => by simp [red] at h
  | n :: ns, x :: l, y, h => by
    rcases List.mem_cons.1 h with rfl | h
    · exact ⟨x, List.mem_cons_self, (one_f0 n x).1, (one_f0 n x).2, one_f1 n x⟩
    · obtain ⟨z, hz, r⟩ := red_mem ns l y h
      exact ⟨z, List.mem_cons_of_mem _ hz, r⟩
/-- what is short of t, summed. -/
def short (t : Int) (l : List S29) : Int := (l.map (fun x => mx (t - x.f1) 0)).sum
theorem short_cons (t : Int) (x : S29) (l : List S29) : short t (x :: l) = mx (t - x.f1) 0 + short t l := by simp [short]
theorem mx0 (a : Int) : 0 ≤ mx a 0 ∧ a ≤ mx a 0 := by unfold mx; split <;> omega
theorem short_nonneg (t : Int) : ∀ l, 0 ≤ short t l
  | [] => by simp [short]
  | x :: l => by have := short_nonneg t l; have := mx0 (t - x.f1); rw [short_cons]; omega
theorem short_append (t : Int) (a b : List S29) : short t (a ++ b) = short t a + short t b := by simp [short]
theorem short_perm (t : Int) {a b : List S29} (h : a.Perm b) : short t a = short t b := by
  induction h with
  | nil => rfl
  | cons x _ ih => simp only [short_cons]; omega
  | swap x y l => simp only [short_cons]; omega
  | trans _ _ h1 h2 => exact h1.trans h2
theorem sumV_cons (x : S29) (l : List S29) : sumV (x :: l) = x.f1 + sumV l := by simp [sumV]
theorem short_sum (t : Int) : ∀ l : List S29, l.length * t - short t l ≤ sumV l
  | [] => by simp [short, sumV]
  | x :: l => by
    have h := short_sum t l
    have := mx0 (t - x.f1)
    have e : ((l.length + 1 : Nat) : Int) * t = l.length * t + t := by rw [Int.natCast_add, Int.add_mul]; simp
    rw [short_cons, sumV_cons, List.length_cons, e]; omega
theorem short_least (t : Int) (o : List S29) (k : Nat) (hk : k ≤ o.length) : k * t - short t o ≤ sumV (o.take k) := by
  have h := short_sum t (o.take k)
  have e : short t o = short t (o.take k) + short t (o.drop k) := by rw [← short_append, List.take_append_drop]
  have := short_nonneg t (o.drop k)
  rw [List.length_take, Nat.min_eq_left hk] at h
  omega
theorem short_eq (t : Int) : ∀ l : List S29, (∀ x ∈ l, x.f1 ≤ t) → sumV l = l.length * t - short t l
  | [], _ => by simp [short, sumV]
  | x :: l, h => by
    have ih := short_eq t l (fun y hy => h y (List.mem_cons_of_mem _ hy))
    have hx := h x List.mem_cons_self
    have e : ((l.length + 1 : Nat) : Int) * t = l.length * t + t := by rw [Int.natCast_add, Int.add_mul]; simp
    have e2 : mx (t - x.f1) 0 = t - x.f1 := by unfold mx; split <;> omega
    rw [short_cons, sumV_cons, List.length_cons, e, e2]; omega
theorem short_none (t : Int) : ∀ l : List S29, (∀ x ∈ l, t ≤ x.f1) → short t l = 0
  | [], _ => by simp [short]
  | x :: l, h => by
    have ih := short_none t l (fun y hy => h y (List.mem_cons_of_mem _ hy))
    have hx := h x List.mem_cons_self
    have e2 : mx (t - x.f1) 0 = 0 := by unfold mx; split <;> omega
    rw [short_cons, e2, ih]; rfl
theorem sorted_eq (o : List S29) (hs : o.Pairwise (fun x y => x.f1 ≤ y.f1)) (i : Nat) (hi : i < o.length) : sumV (o.take (i + 1)) = ((i + 1 : Nat) : Int) * (o[i]).f1 - short (o[i]).f1 o := by
  have e : o = o.take (i + 1) ++ o.drop (i + 1) := (List.take_append_drop _ _).symm
  have et : o.take (i + 1) = o.take i ++ [o[i]] := List.take_succ_eq_append_getElem hi
  have hm : o[i] ∈ o.take (i + 1) := List.mem_take_iff_getElem.2 ⟨i, by omega, rfl⟩
  have hs' := hs
  rw [e, List.pairwise_append] at hs'
  have h1 : ∀ x ∈ o.take (i + 1), x.f1 ≤ (o[i]).f1 := fun x hx => by
    have h2 := hs'.1
    rw [et] at hx h2
    rw [List.pairwise_append] at h2
    rcases List.mem_append.1 hx with hx | hx
    · exact h2.2.2 x hx _ (by simp)
    · simp at hx; subst hx; exact Int.le_refl _
  have h2 : ∀ x ∈ o.drop (i + 1), (o[i]).f1 ≤ x.f1 := fun x hx => hs'.2.2 _ hm x hx
  have h3 := short_eq _ _ h1
  have h4 := short_none _ _ h2
  have h5 : short (o[i]).f1 o = short (o[i]).f1 (o.take (i + 1)) + short (o[i]).f1 (o.drop (i + 1)) := by rw [← short_append, List.take_append_drop]
  rw [List.length_take, Nat.min_eq_left (by omega)] at h3
  omega
theorem short_red (t : Int) : ∀ (ns : List Int) (l : List S29), (∀ x ∈ l, 0 ≤ x.f1) → short t l ≤ short t (red ns l)
  | [], _, _ => Int.le_refl _
  | _ :: _, [], _ => Int.le_refl _
  | n :: ns, x :: l, h => by
    have ih := short_red t ns l (fun y hy => h y (List.mem_cons_of_mem _ hy))
    have h1 := one_f1 n x (h x List.mem_cons_self)
    have : mx (t - x.f1) 0 ≤ mx (t - (one n x).f1) 0 := by unfold mx; split <;> split <;> omega
    rw [red, short_cons, short_cons]; omega
/-- so many of the zones with fewer live pages have together no more of them. -/
theorem least_red {l o o' : List S29} (ns : List Int) (h0 : ∀ x ∈ l, 0 ≤ x.f1) (hp : o.Perm l) (hp' : o'.Perm (red ns l)) (hs : o'.Pairwise (fun x y => x.f1 ≤ y.f1)) (k : Nat) (hk : 0 < k) (hk2 : k ≤ l.length) : sumV (o'.take k) ≤ sumV (o.take k) := by
  obtain ⟨i, rfl⟩ : ∃ i, k = i + 1 := ⟨k - 1, by omega⟩
  have hl' := hp'.length_eq
  rw [red_len] at hl'
  have a := sorted_eq o' hs i (by omega)
  have b := short_least (o'[i]'(by omega)).f1 o (i + 1) (by rw [hp.length_eq]; omega)
  have c := short_red (o'[i]'(by omega)).f1 ns l h0
  rw [short_perm _ hp] at b
  rw [short_perm _ hp'] at a
  omega
theorem fine_red {P : Int} {l : List S29} (h : Fine P l) (ns : List Int) : Fine P (red ns l) := by
  refine ⟨h.p0, h.p1, by rw [red_len]; exact h.len, fun y hy => ?_, fun y hy => ?_, fun y hy => ?_, by rw [red_ids]; exact h.nd⟩
  all_goals obtain ⟨x, hx, a, b, c⟩ := red_mem ns l y hy
  · rw [a]; exact h.id0 x hx
  · exact (c (h.v0 x hx)).1
  · have := (c (h.v0 x hx)).2; have := h.v1 x hx; omega
theorem red_u32 {l : List S29} (ns : List Int) (hu : ∀ x ∈ l, 0 ≤ x.f2 ∧ x.f2 ≤ 4294967295) : ∀ x ∈ red ns l, 0 ≤ x.f2 ∧ x.f2 ≤ 4294967295 := fun y hy => by
  obtain ⟨x, hx, _, b, _⟩ := red_mem ns l y hy
  rw [b]; exact hu x hx
theorem ease_l0 {P extra : Int} {l : List S29} {ns : List Int} (hl : l.length ≤ 24) (hns : ns.length ≤ 60) {r : Bool} :
    ∀ (rest pre : List S29), pre.length + rest.length ≤ 24 → (∀ x ∈ rest, 0 ≤ x.f1 ∧ x.f1 ≤ 16) →
      Ev (fun k => platelayerlaw12_VictimEase.l0 k P extra l ns (pre ++ red (ns.drop pre.length) rest) ((pre.length + rest.length : Nat) : Int) ((pre.length + rest.length : Nat) : Int)) r →
      Ev (fun k => platelayerlaw12_VictimEase.l0 k P extra l ns (pre ++ rest) ((pre.length + rest.length : Nat) : Int) (pre.length : Int)) r
  | [], pre, _, _, hn => by simpa [red_nil] using hn
  | x :: rest, pre, hlen, hv, hn => by
    have hlc : (x :: rest).length = rest.length + 1 := rfl
    have hx := hv x List.mem_cons_self
    have hset : ∀ y : S29, (pre ++ x :: rest).set pre.length y = pre ++ [y] ++ rest := fun y => by simp
    have hrd : rd_T29 (pre ++ x :: rest) (pre.length : Int) = x := rd29 _ pre x rest rfl
    have go : ∀ y : S29, red (ns.drop pre.length) (x :: rest) = y :: red (ns.drop (pre.length + 1)) rest →
        Ev (fun k => platelayerlaw12_VictimEase.l0 k P extra l ns (pre ++ [y] ++ rest) ((pre.length + (x :: rest).length : Nat) : Int) ((pre.length + 1 : Nat) : Int)) r := fun y hy => by
      have e1 : (pre ++ [y]).length = pre.length + 1 := by simp
      have e2 : pre.length + (x :: rest).length = (pre ++ [y]).length + rest.length := by rw [e1, hlc]; omega
      have ih := ease_l0 (P := P) (extra := extra) (ns := ns) (r := r) hl hns rest (pre ++ [y]) (by rw [e1]; omega) (fun z hz => hv z (List.mem_cons_of_mem _ hz))
      rw [e1] at ih
      rw [e2, e1]
      refine ih ?_
      rw [hy] at hn
      have e3 : pre ++ [y] ++ red (ns.drop (pre.length + 1)) rest = pre ++ y :: red (ns.drop (pre.length + 1)) rest := by simp
      rw [e3]
      rw [e2, e1] at hn
      exact hn
    by_cases hi : pre.length < ns.length
    · have hd : ns.drop pre.length = ns[pre.length] :: ns.drop (pre.length + 1) := List.drop_eq_getElem_cons hi
      have hrn : rd ns (pre.length : Int) = ns[pre.length] := by simp [rd, hi]
      have hy : red (ns.drop pre.length) (x :: rest) = one ns[pre.length] x :: red (ns.drop (pre.length + 1)) rest := by rw [hd]; rfl
      by_cases hp : ns[pre.length] > 0
      · have e1 : wrap64 (x.f1 - mn ns[pre.length] 16) = x.f1 - mn ns[pre.length] 16 := by
          have : mn ns[pre.length] 16 ≤ 16 ∧ 0 < mn ns[pre.length] 16 := by unfold mn; split <;> omega
          rw [w64] <;> omega
        have ho : one ns[pre.length] x = ⟨x.f0, mx (x.f1 - mn ns[pre.length] 16) 0, x.f2⟩ := by unfold one; rw [if_pos hp]
        refine Ev.step (fun k => ?_) (go _ hy)
        rewrite [platelayerlaw12_VictimEase.l0, if_pos (by omega), if_pos (by omega), if_pos (by omega), hrn, if_pos hp, if_pos (by simp; omega), hrd, e1, Int.toNat_natCast, hset, w64_succ (by omega), ho]
        rfl
      · have ho : one ns[pre.length] x = x := by unfold one; rw [if_neg hp]
        refine Ev.step (fun k => ?_) (go _ hy)
        rewrite [platelayerlaw12_VictimEase.l0, if_pos (by omega), if_pos (by omega), if_pos (by omega), hrn, if_neg hp, w64_succ (by omega), ho]
        simp
    · have hd : ns.drop pre.length = [] := List.drop_eq_nil_of_le (by omega)
      have hd' : ns.drop (pre.length + 1) = [] := List.drop_eq_nil_of_le (by omega)
      refine Ev.step (fun k => ?_) (go x (by rw [hd, hd']; rfl))
      rewrite [platelayerlaw12_VictimEase.l0, if_pos (by omega), if_neg (by omega), w64_succ (by omega)]
      simp
end Go.Proofs.Ytkcpbglimpaieaa.V
namespace Go.Proofs.Ytkcpbglimpaieaa.Pure
open Go.RowKit Go.Proofs.YtkcpbglimpaieaaW.PrintWords Go.Proofs.YtkcpbglimpaieaaW.PrintLast Go.Proofs.YtkcpbglimpaieaaW.PrintMore Go.Proofs.Ytkcpbglimpaieaa.V
theorem ease_choose {P extra : Int} {l : List S29} {ns : List Int} (h : Fine P l) (hu : ∀ x ∈ l, 0 ≤ x.f2 ∧ x.f2 ≤ 4294967295) {k : Nat} (hk : firstGain P 0 extra (ord 0 P l) = some k) :
    ∃ k', firstGain P 0 extra (ord 0 P (red ns l)) = some k' ∧ k' ≤ k := by
  have hp := ord_perm 0 P l
  have hp' := ord_perm 0 P (red ns l)
  obtain ⟨k1, k2⟩ := firstGain_le P _ 0 extra k hk
  have hg := firstGain_gains P _ 0 extra k hk
  have hlo := hp.length_eq
  have hlo' := hp'.length_eq
  rw [red_len] at hlo'
  have hm := fine_red h ns
  have hle := least_red ns h.v0 hp hp' (ord_greedy P (by have := h.p0; omega) _ hm.v0 hm.v1 (red_u32 ns hu)) k k1 (by omega)
  refine firstGain_finds P _ 0 extra k k1 (by omega) ?_
  rw [Nat.sub_zero] at hg ⊢
  have hP := h.p0
  exact Int.le_trans (Int.ediv_le_ediv (by omega) (by omega)) hg
theorem VictimEase (a0 a1 : Int) (l2 : List S29) (l3 : List Int) (_w0 : (Lit.int .i64 a0).wf = true) (_w1 : (Lit.int .i64 a1).wf = true) (_hm : l2.length ≤ maxLen) (hw : ∀ x ∈ l2, wf29 x) (_hm3 : l3.length ≤ maxLen) (_hw3 : ∀ x ∈ l3, (Lit.int .i64 x).wf = true) : ∃ k, platelayerlaw12_VictimEase.f k a0 a1 l2 l3 = some true := by
  refine Ev.rounds (g := fun k => platelayerlaw12_VictimEase.f k a0 a1 l2 l3) ?_
  have hu : ∀ x ∈ l2, 0 ≤ x.f2 ∧ x.f2 ≤ 4294967295 := fun x hx => u32_of (hw x hx)
  have hyes : Ev (fun k => platelayerlaw12_VictimEase.j0 k a0 a1 l2 l3 true) true := Ev.step (fun k => by rw [platelayerlaw12_VictimEase.j0, if_pos rfl]) (Ev.now _)
  obtain ⟨b, hb, hf⟩ := outside_ev a0 l2
  refine Ev.congr (fun k => by rw [platelayerlaw12_VictimEase.f]) (Ev.bind awake_ev (Ev.congr (fun k => by rw [if_pos rfl]) (Ev.bind hb ?_)))
  cases b with
  | true => exact Ev.congr (fun k => by rw [if_pos rfl]) hyes
  | false =>
    have h := hf rfl
    refine Ev.congr (fun k => by rw [if_neg (by simp)]) ?_
    by_cases h0 : a1 < 0
    · exact Ev.congr (fun k => by rw [if_pos h0]) hyes
    by_cases h1 : a1 > 16
    · exact Ev.congr (fun k => by rw [if_neg h0, if_pos h1]) hyes
    refine Ev.congr (fun k => by rw [if_neg h0, if_neg h1]) ?_
    by_cases h3 : (l3.length : Int) > 60
    · have : decide ((l3.length : Int) > 60) = true := by simpa using h3
      rw [this]; exact hyes
    · have : decide ((l3.length : Int) > 60) = false := by simpa using h3
      rw [this]
      have hlen := h.len
      have hp1 := h.p1
      have hm := fine_red h l3
      have c1 := choose_ev (pol := 0) (extra := a1) h hu (by omega) (by omega)
      have c2 := choose_ev (pol := 0) (extra := a1) hm (red_u32 l3 hu) (by omega) (by omega)
      refine Ev.step (fun k => by rewrite [platelayerlaw12_VictimEase.j0, if_neg (by simp)]; simp only [Option.bind_some]; rewrite [if_pos (by simp; omega), List.nil_append]; rfl) ?_
      have := ease_l0 (P := a0) (extra := a1) (ns := l3) (r := true) hlen (by omega) l2 [] (by simpa using hlen) (fun x hx => ⟨h.v0 x hx, Int.le_trans (h.v1 x hx) h.p1⟩)
      simp only [List.length_nil, Nat.zero_add, List.nil_append, List.drop_zero] at this
      refine this ?_
      refine Ev.step (fun k => by rewrite [platelayerlaw12_VictimEase.l0, if_neg (by omega)]; rfl) (Ev.bind c1 (Ev.bind c2 ?_))
      have hlo := (ord_perm 0 a0 l2).length_eq
      have hlo' := (ord_perm 0 a0 (red l3 l2)).length_eq
      rw [red_len] at hlo'
      cases hk : firstGain a0 0 a1 (ord 0 a0 l2) with
      | none =>
        have e : chosen 0 a0 a1 l2 = [] := by unfold chosen; rw [hk]; simp
        exact Ev.congr (fun k => by rw [e, if_pos (by simp)]) (Ev.now _)
      | some k =>
        obtain ⟨k', hk', hle⟩ := ease_choose (ns := l3) h hu hk
        obtain ⟨g1, g2⟩ := firstGain_le _ _ _ _ _ hk
        obtain ⟨g3, g4⟩ := firstGain_le _ _ _ _ _ hk'
        have e : (chosen 0 a0 a1 l2).length = k := by unfold chosen; rw [hk]; simp; omega
        have e' : (chosen 0 a0 a1 (red l3 l2)).length = k' := by unfold chosen; rw [hk']; simp; omega
        have hd : decide ((k' : Int) ≤ (k : Int)) = true := by simpa using hle
        exact Ev.congr (fun _ => by rw [e, e', if_neg (by omega), if_pos (by omega), hd]) (Ev.now _)
end Go.Proofs.Ytkcpbglimpaieaa.Pure
