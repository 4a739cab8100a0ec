/- slices.SortedFunc and victim.ordered: a permutation of the zones, sorted. -/
import Derived.Test.YtkcpbglimpaieaaB
import Derived.Test.YtkcpbglimpaieaaM
import Derived.Test.YtkcpbglimpaieaaL
import Derived.Shelf.SlSortCmp.NoneTotal
import Derived.Laws.EntriesVeiled
namespace Go.Proofs.Ytkcpbglimpaieaa
open Go.RowKit Go.Shelf Go.Sort

theorem zcells_get : ∀ (zs : List Z) (t : Nat), t < zs.length * 3 → (zcells zs)[t]! = ((zs[t / 3]?.getD z0).c)[t % 3]!
  | [], t, h => by simp at h
  | z :: zs, t, h => by
    have e : zcells (z :: zs) = z.c ++ zcells zs := rfl
    rw [e]
    have hl : z.c.length = 3 := rfl
    by_cases ht : t < 3
    · have h0 : t / 3 = 0 := by omega
      have h1 : t % 3 = t := by omega
      rw [h0, h1]
      simp [List.getElem?_append_left, hl, ht]
    · have ih := zcells_get zs (t - 3) (by simp at h; omega)
      have h0 : t / 3 = (t - 3) / 3 + 1 := by omega
      have h1 : t % 3 = (t - 3) % 3 := by omega
      rw [h0, h1, List.getElem?_cons_succ, ← ih]
      have : (z.c ++ zcells zs)[t]? = (zcells zs)[t - 3]? := by rw [List.getElem?_append_right (by omega), hl]
      rw [List.getElem!_eq_getElem?_getD, List.getElem!_eq_getElem?_getD, this]

def encP {P : Nat} (x : ZP P) : List Value := x.1.c
theorem flat_zcells {P : Nat} (d : Array (ZP P)) : (flatK encP 3 d).toList = zcells (d.toList.map (·.1)) := by
  apply List.ext_getElem
  · simp [zcells_length]
  · intro t h1 h2
    have h : t < d.size * 3 := by simpa using h1
    have e2 := zcells_get (d.toList.map (·.1)) t (by simpa using h)
    rw [getElem!_pos _ t h2] at e2
    have e3 := get_flatK (encP (P := P)) 3 d t h
    rw [getElem!_pos _ t (by simpa using h1)] at e3
    rw [e2, Array.getElem_toList, e3]
    have hi : t / 3 < d.size := by omega
    simp [encP, hi]

theorem own_form {w : World} {base n : Nat} {v : Value} {xs : List Value} (h : w.ownsRow base 29 3 v n xs) (hn : 0 < n) : ∃ g cap cur, v = .slice (some ⟨g, 0, none⟩) n cap ∧ base ≤ g ∧ w.heap[g]? = some (.cells cur 29 (0, 0)) ∧ n ≤ cap ∧ cap ≤ maxLen ∧ cur.size = cap * 3 ∧ cur.toList.take (n * 3) = xs := by
  rcases h.2 with ⟨_, h0⟩ | h
  · omega
  · exact h
theorem holds_of_own {P : Nat} {w : World} {g cap : Nat} {cur : Array Value} {d : Array (ZP P)} (hg : w.heap[g]? = some (.cells cur 29 (0, 0))) (hs : cur.size = cap * 3) (hc : d.size ≤ cap) (hx : cur.toList.take (d.size * 3) = zcells (d.toList.map (·.1))) : HoldsK encP 3 w g 0 d := by
  intro j hj
  have hj' : j < d.size * 3 := by simpa using hj
  rw [Nat.zero_add]
  refine ⟨?_, by simp [World.frozen?, hg]⟩
  rw [cell_of_row w g j cur 29 (0, 0) hg]
  have hjc : j < cur.size := by rw [hs]; omega
  rw [Array.getElem?_eq_getElem hjc, id]
  congr 1
  have e : (flatK encP 3 d)[j]'(by simpa using hj') = cur[j] := by
    have h1 : (flatK encP 3 d).toList = cur.toList.take (d.size * 3) := by rw [flat_zcells, hx]
    have h2 : (flatK encP 3 d).toList[j]? = (cur.toList.take (d.size * 3))[j]? := by rw [h1]
    rw [List.getElem?_take, if_pos hj'] at h2
    simpa [hj', hjc] using h2
  rw [getElem!_pos _ j (by simpa using hj'), e]

theorem own_sorted {P : Nat} {w : World} {base g cap n : Nat} {cur : Array Value} {d : Array (ZP P)} (hb : base ≤ g) (hg : w.heap[g]? = some (.cells cur 29 (0, 0))) (hs : cur.size = cap * 3) (hn : d.size = n) (hc : n ≤ cap) (hm : cap ≤ maxLen) (m : Nat) (os : Array Obj) :
    (sortWorldK encP 3 w g 0 m d os).ownsRow base 29 3 (.slice (some ⟨g, 0, none⟩) n cap) n (zcells (d.toList.map (·.1))) := by
  subst hn
  refine ⟨by simp [zcells_length], .inr ⟨g, cap, putCells id 0 (flatK encP 3 d) cur, rfl, hb, ?_, hc, hm, by simpa [putCells] using hs, ?_⟩⟩
  · have hlt : g < w.heap.size := (Array.getElem?_eq_some_iff.1 hg).1
    show ((putRowK encP 3 (Sort.ahead w m) g 0 d).heap ++ os)[g]? = _
    have : (putRowK encP 3 (Sort.ahead w m) g 0 d).heap = w.heap.modify g (onCells (putCells id 0 (flatK encP 3 d))) := rfl
    rw [this, Array.getElem?_append_left (by simpa using hlt), Array.getElem?_modify, if_pos rfl, hg]
    rfl
  · rw [← flat_zcells]
    apply List.ext_getElem?
    intro t
    rw [List.getElem?_take]
    by_cases ht : t < d.size * 3
    · have htc : t < cur.size := by rw [hs]; omega
      rw [if_pos ht]
      simp [putCells, htc, ht]
    · rw [if_neg ht, List.getElem?_eq_none (by simp; omega)]

theorem sortWorld_below {P : Nat} {w : World} {B g : Nat} (hB : B ≤ g) (hw : B ≤ w.heap.size) (m : Nat) (d : Array (ZP P)) (os : Array Obj) : Below B w (sortWorldK encP 3 w g 0 m d os) := by
  refine ⟨rfl, rfl, rfl, ?_, ?_⟩
  · show w.heap.size ≤ ((w.heap.modify g (onCells (putCells id 0 (flatK encP 3 d)))) ++ os).size
    simp
  · intro k hk
    show ((w.heap.modify g (onCells (putCells id 0 (flatK encP 3 d)))) ++ os)[k]? = _
    rw [Array.getElem?_append_left (by simp; omega), Array.getElem?_modify, if_neg (by omega)]

/-- v holds the zones zs', zs turned by rank, in memory from block B on. -/
def SortRes (B : Nat) (pol : Int) (P : Nat) (zs : List Z) (w : World) (v : Value) (W' : World) : Prop :=
  ∃ zs', zs'.Perm zs ∧ zs'.Pairwise (fun x y => lt pol P y x = false) ∧ W'.ownsRow B 29 3 v zs'.length (zcells zs') ∧ Below B w W'

theorem sort_calls {P : Nat} (hP : P ≤ 16) (pol : Int) (zs : List Z) (hok : ∀ z ∈ zs, z.ok P) (B Bq Bg Bp : Nat) (v : Value) (w : World) (hlen : zs.length ≤ 1000000)
    (hq : w.cell? ⟨Bq, 0, none⟩ = some (.int .i64 pol)) (hg : w.cell? ⟨Bg, 0, none⟩ = some (.func (.func 18) #[] #[.pointer (some ⟨Bp, 0, none⟩)])) (hp : w.cell? ⟨Bp, 0, none⟩ = some (.int .i64 P))
    (bq : Bq < B) (bg : Bg < B) (bp : Bp < B) (hB : B ≤ w.heap.size) (hown : w.ownsRow B 29 3 v zs.length (zcells zs)) :
    Calls Try.prog 27 #[v, .func (.func 21) #[] #[.pointer (some ⟨Bq, 0, none⟩), .pointer (some ⟨Bg, 0, none⟩)]] w fun e w' => e = .returned (.tuple #[]) ∧ SortRes B pol P zs w v w' := by
  rcases Nat.eq_zero_or_pos zs.length with h0 | h0
  · obtain rfl := List.eq_nil_of_length_eq_zero h0
    obtain ⟨p, cap, rfl⟩ : ∃ p cap, v = .slice p 0 cap := by
      rcases hown.2 with ⟨rfl, _⟩ | ⟨g, cap, _, rfl, _⟩
      · exact ⟨_, _, rfl⟩
      · exact ⟨_, _, rfl⟩
    refine (AnyF.slices_SortFunc_none Go.Proofs.Try.sortZone p cap _ w).mono ?_
    rintro e w' ⟨he, rfl⟩
    exact ⟨he, [], .refl _, .nil, hown, Below.refl _ _⟩
  · obtain ⟨g, cap, cur, rfl, hbg, hgh, hnc, hcm, hcs, htk⟩ := own_form hown h0
    obtain ⟨d, hd⟩ : ∃ d : Array (ZP P), d.toList.map (·.1) = zs := ⟨(zs.attach.map fun z => ⟨z.1, hok z.1 z.2⟩).toArray, by simp⟩
    have hds : d.size = zs.length := by rw [← hd]; simp
    have hH : HoldsK encP 3 w g 0 d := holds_of_own hgh hcs (by omega) (by rw [hd, hds]; exact htk)
    have hlt : g < w.heap.size := (Array.getElem?_eq_some_iff.1 hgh).1
    have hcell : ∀ (m : Nat) (os : Array Obj) (dk : Array (ZP P)) (b : Nat) (u : Value), b < B → w.cell? ⟨b, 0, none⟩ = some u → (sortWorldK encP 3 w g 0 m dk os).cell? ⟨b, 0, none⟩ = some u := fun m os dk b u hb hc =>
      ((sortWorld_below hbg hB m dk os).cell (p := ⟨b, 0, none⟩) hb).trans hc
    have hcmp : CmpLays Try.prog 21 #[.pointer (some ⟨Bq, 0, none⟩), .pointer (some ⟨Bg, 0, none⟩)] encP 3 (fun x y : ZP P => cf pol P x.1 y.1) g 0 d.size w := fun m os dk _ x y =>
      cmp_calls hP pol x.1 y.1 x.2 y.2 Bq Bg Bp _ (hcell m os dk Bq _ bq hq) (hcell m os dk Bg _ bg hg) (hcell m os dk Bp _ bp hp)
    have hcon := AnyQ.slices_SortFunc Go.Proofs.Try.sortZone 3 Try.isAgg29 Try.sizeOf29 encP (fun _ => rfl) (fun x v hv => by simp [encP, Z.c] at hv; rcases hv with rfl | rfl | rfl <;> rfl) (fun x y : ZP P => cf pol P x.1 y.1) (swo pol P) 21 _ g 0 cap d w (enters_of Try.func21 (by kernel_rfl) rfl) hcmp hH hlt (by omega)
    rw [hds] at hcon
    refine Calls.mono hcon ?_
    rintro e w' ⟨he, d', n, os, ⟨hs1, _, hs3⟩, hs, rfl⟩
    have hd's : d'.size = zs.length := by omega
    have e1 : (d'.extract 0 zs.length).toList = d'.toList := by rw [← hd's]; simp
    have e2 : (d.extract 0 zs.length).toList = d.toList := by rw [← hds]; simp
    rw [e1, e2] at hs3
    refine ⟨he, d'.toList.map (·.1), ?_, ?_, ?_, sortWorld_below hbg hB n d' os⟩
    · rw [← hd]; exact hs3.map _
    · rw [List.pairwise_map, List.pairwise_iff_getElem]
      intro i j hi hj hij
      have := hs i j (Nat.zero_le _) hij (by simpa [hd's] using hj)
      rw [getElem!_pos d' i (by simpa using hi), getElem!_pos d' j (by simpa using hj)] at this
      exact this
    · have h := own_sorted (P := P) (n := zs.length) (d := d') hbg hgh hcs hd's hnc hcm n os
      have e3 : (d'.toList.map (·.1)).length = zs.length := by rw [List.length_map, Array.length_toList, hd's]
      rw [e3]
      exact h
def SortedRes (pol : Int) (P : Nat) (zs : List Z) (w : World) (e : Ending) (W' : World) : Prop :=
  ∃ v zs', e = .returned v ∧ zs'.Perm zs ∧ zs'.Pairwise (fun x y => lt pol P y x = false) ∧ W'.ownsRow w.heap.size 29 3 v zs'.length (zcells zs') ∧ Below w.heap.size w W'
set_option maxHeartbeats 1000000 in
theorem sortedFunc_calls {P : Nat} (hP : P ≤ 16) (pol : Int) (zs : List Z) (hok : ∀ z ∈ zs, z.ok P) (Bs Bq Bg Bp cap : Nat) (A : Option Addr) (w : World)
    (hs : w.cell? ⟨Bs, 0, none⟩ = some (.slice A zs.length cap)) (hz : Zones w.heap.size w A zs)
    (hq : w.cell? ⟨Bq, 0, none⟩ = some (.int .i64 pol)) (hg : w.cell? ⟨Bg, 0, none⟩ = some (.func (.func 18) #[] #[.pointer (some ⟨Bp, 0, none⟩)])) (hp : w.cell? ⟨Bp, 0, none⟩ = some (.int .i64 P)) :
    Calls Try.prog 19 #[.func (.func 28) #[] #[.pointer (some ⟨Bs, 0, none⟩)], .func (.func 21) #[] #[.pointer (some ⟨Bq, 0, none⟩), .pointer (some ⟨Bg, 0, none⟩)]] w (SortedRes pol P zs w) := by
  have bs : Bs < w.heap.size := World.block_lt_of_cell? w _ hs
  have bq : Bq < w.heap.size := World.block_lt_of_cell? w _ hq
  have bg : Bg < w.heap.size := World.block_lt_of_cell? w _ hg
  have bp : Bp < w.heap.size := World.block_lt_of_cell? w _ hp
  have hlen := hz.1
  have H1 := Hd.mk (collect_calls Bs cap A zs w bs hs hz)
  have H2 := Hd.mk (fun (v : Value) (w1 : World) (h1 : w1.ownsRow w.heap.size 29 3 v zs.length (zcells zs)) (h2 : Below w.heap.size w w1) =>
    sort_calls hP pol zs hok w.heap.size Bq Bg Bp v w1 hlen ((h2.cell (p := ⟨Bq, 0, none⟩) bq).trans hq) ((h2.cell (p := ⟨Bg, 0, none⟩) bg).trans hg) ((h2.cell (p := ⟨Bp, 0, none⟩) bp).trans hp) bq bg bp h2.size h1)
  clear hs hz hq hg hp
  go_enter Try.func19, Try.ntmps19
  go_wp2_with (first | (go_at_call 26; refine H1.out.mono ?_; rintro e w1 ⟨v, rfl, h1, h2⟩; have H3 := Hd.mk (H2.out v w1 h1 h2); have H4 := Hd.mk h1; have H5 := Hd.mk h2; clear h1 h2) | (go_at_call 27; refine H3.out.mono ?_; rintro e w2 ⟨rfl, hr⟩; have H6 := Hd.mk hr; clear hr))
  go_ret
  obtain ⟨zs', h1, h2, h3, h4⟩ := H6.out
  exact ⟨_, zs', rfl, h1, h2, h3, H5.out.trans h4⟩
theorem own_lower {w : World} {base base' : Nat} {v : Value} {n : Nat} {xs : List Value} (h : w.ownsRow base 29 3 v n xs) (hb : base' ≤ base) : w.ownsRow base' 29 3 v n xs := by
  obtain ⟨h1, h2⟩ := h
  refine ⟨h1, ?_⟩
  rcases h2 with h2 | ⟨g, cap, cur, hv, hg, r⟩
  · exact .inl h2
  · exact .inr ⟨g, cap, cur, hv, Nat.le_trans hb hg, r⟩
theorem Zones.mono {n₀ n₁ : Nat} (h : n₀ ≤ n₁) {W : World} {sv : Option Addr} {zs : List Z} : Zones n₀ W sv zs → Zones n₁ W sv zs
  | ⟨hl, hc⟩ => ⟨hl, fun h0 => by
    obtain ⟨b, off, e, hb, hc⟩ := hc h0
    exact ⟨b, off, e, by omega, hc⟩⟩
set_option maxHeartbeats 1000000 in
theorem ordered_calls {P : Nat} (hP : P ≤ 16) (pol : Int) (zs : List Z) (hok : ∀ z ∈ zs, z.ok P) (cap : Nat) (A : Option Addr) (w : World) (hz : Zones w.heap.size w A zs) :
    Calls Try.prog 14 #[.int .i64 pol, .int .i64 P, .slice A zs.length cap] w (SortedRes pol P zs w) := by
  obtain ⟨w4, hw4⟩ : ∃ w4, (((w.alloc (.cells #[.int .i64 pol] 3)).alloc (.cells #[.int .i64 P] 3)).alloc (.cells #[.func (.func 18) #[] #[.pointer (some ⟨w.heap.size + 1, 0, none⟩)]] 44)).alloc (.cells #[.slice A zs.length cap] 22) = w4 := ⟨_, rfl⟩
  have hB : Below w.heap.size w w4 := by
    rw [← hw4]
    exact ((((Below.refl _ w).alloc (Nat.le_refl _) _).alloc (by simp) _).alloc (by simp; omega) _).alloc (by simp; omega) _
  have c0 : w4.cell? ⟨w.heap.size, 0, none⟩ = some (.int .i64 pol) := by rw [← hw4]; exact cell_alloc_old (cell_alloc_old (cell_alloc_old (cell_at_new _ _ _ _ 0 rfl) _) _) _
  have c1 : w4.cell? ⟨w.heap.size + 1, 0, none⟩ = some (.int .i64 P) := by rw [← hw4]; exact cell_alloc_old (cell_alloc_old (cell_at_new _ _ _ _ 0 (by simp)) _) _
  have c2 : w4.cell? ⟨w.heap.size + 1 + 1, 0, none⟩ = some (.func (.func 18) #[] #[.pointer (some ⟨w.heap.size + 1, 0, none⟩)]) := by rw [← hw4]; exact cell_alloc_old (cell_at_new _ _ _ _ 0 (by simp)) _
  have c3 : w4.cell? ⟨w.heap.size + 1 + 1 + 1, 0, none⟩ = some (.slice A zs.length cap) := by rw [← hw4]; exact cell_at_new _ _ _ _ 0 (by simp)
  have H := Hd.mk (sortedFunc_calls hP pol zs hok (w.heap.size + 1 + 1 + 1) w.heap.size (w.heap.size + 1 + 1) (w.heap.size + 1) cap A w4 c3 ((hz.below hB).mono hB.size) c0 c2 c1)
  have HB := Hd.mk hB
  have H4 := Hd.mk hw4
  clear hB hw4 c0 c1 c2 c3 hz
  go_enter Try.func14, Try.ntmps14
  go_wp2_with (first | (go_at_call 20; refine (values_calls _ _ _ _).mono ?_; rintro e w1 ⟨rfl, rfl⟩))
  go_wp2_with (first | (go_at_call 19; rw [H4.out]; refine H.out.mono ?_; rintro e w1 ⟨v, zs', rfl, h1, h2, h3, h4⟩; have H1 := Hd.mk (And.intro h1 (And.intro h2 (And.intro h3 h4))); clear h1 h2 h3 h4))
  go_ret
  obtain ⟨h1, h2, h3, h4⟩ := H1.out
  exact ⟨_, zs', rfl, h1, h2, own_lower h3 HB.out.size, HB.out.trans (h4.mono HB.out.size)⟩
end Go.Proofs.Ytkcpbglimpaieaa
