/- The reference's index in memory: New, Get, Keys. -/
import Derived.Test.YtpbjabpakkjomaaDoorIE
namespace Go.Proofs.YtpbjabpakkjomaaDoor
open Go.RowKit Go.Proofs.YtpbjabpakkjomaaDoorW.PrintWords Go.Proofs.YtpbjabpakkjomaaDoorW.PrintLast Go.Proofs.YtpbjabpakkjomaaDoorW.PrintMore
set_option linter.unusedVariables false
set_option linter.unusedSimpArgs false

abbrev kp : Kd (Int × Int) := Kd.pair (Kd.int .u32) (Kd.int .i64)
/-- the reference's object: a row of pairs of its own, how many may be; never block gi. -/
def Rx (W : World) (g base gi : Nat) (L : List (Int × Int)) (room : Int) : Prop := ∃ v, W.heap[g]? = some (.cells #[v, .int .i64 room] 44 (0, 0)) ∧ kp.R 58 W base (fun k => k ≠ gi) v L
theorem Rx.below {W W' : World} {g base gi : Nat} {L : List (Int × Int)} {room : Int} (h : Rx W g base gi L room) (hb : Below W.heap.size W W') : Rx W' g base gi L room := by
  obtain ⟨v, h1, h2⟩ := h
  exact ⟨v, (hb.block g (blk_lt h1)).trans h1, Kd.R_below h2 hb⟩
theorem Rx.keep {W W' : World} {g base gi : Nat} {L : List (Int × Int)} {room : Int} (h : Rx W g base gi L room) (hk : KB W W' gi) (hg : g ≠ gi) : Rx W' g base gi L room := by
  obtain ⟨v, h1, h2⟩ := h
  exact ⟨v, hk.keep.blk h1 hg (by simp), Kd.R_keep h2 hk.keep (fun _ h => h)⟩
theorem Rx.lt {W : World} {g base gi : Nat} {L : List (Int × Int)} {room : Int} (h : Rx W g base gi L room) : g < W.heap.size := by
  obtain ⟨v, h1, _⟩ := h
  exact blk_lt h1
theorem R_empty {α : Type} (d : Kd α) (W : World) (base e : Nat) (ok : Nat → Prop) (hb : base ≤ W.heap.size) (hok : ok W.heap.size) : d.R e (W.alloc (.cells #[] e)) base ok (.slice (some ⟨W.heap.size, 0, none⟩) 0 0) [] := by
  refine ⟨fun k hk => ?_, [], ?_, Reps.none _ _⟩
  · have : W.heap.size = k := by simpa [Value.ownBlock] using hk
    subst this
    exact hok
  · have h2 := World.ownsRow_lit (base := base) (e := e) (size := d.sz) W #[] 0 hb (by simp [maxLen]) (by simp)
    simpa using h2
/-- what a row of pairs holds at a place. -/
theorem pairs_at {W : World} {base : Nat} {ok : Nat → Prop} {A : Option Addr} {n c : Nat} {L : List (Int × Int)} (h : kp.R 58 W base ok (.slice A n c) L) (i : Nat) (hi : i < L.length) :
    ∃ b, A = some ⟨b, 0, none⟩ ∧ b < W.heap.size ∧ base ≤ b ∧ W.cell? ⟨b, i * 2, none⟩ = some (.int .u32 (L.getD i (0, 0)).1) ∧ W.cell? ⟨b, i * 2 + 1, none⟩ = some (.int .i64 (L.getD i (0, 0)).2) := by
  obtain ⟨b, cap, he, hb, hl, _⟩ := Kd.R_form h (by omega)
  injection he with h1 h2 h3
  obtain ⟨_, _, hC⟩ := Kd.R_reads' h
  obtain ⟨ad, cs, ha, hlen, hK, hcell⟩ := Kd.C_get hC (0, 0) (i : Int) (by omega) (by omega)
  rw [h1] at ha
  injection ha with ha
  obtain ⟨c0, c1, hc, k0, k1⟩ := hK
  simp only [Kd.int, Kd.scalar, Int.toNat_natCast] at k0 k1
  subst k0 k1
  refine ⟨b, h1, hl, hb, ?_, ?_⟩
  · have := hcell 0 (.int .u32 (L.getD i (0, 0)).1) (by rw [hc]; rfl)
    rw [← ha, add_plain] at this
    simpa [Kd.pair, Kd.int, Kd.scalar] using this
  · have := hcell 1 (.int .i64 (L.getD i (0, 0)).2) (by rw [hc]; rfl)
    rw [← ha, add_plain] at this
    simpa [Kd.pair, Kd.int, Kd.scalar] using this
theorem new_ref_bad (room : Int) (w : World) (h : room < 1 ∨ room > 64) :
    Calls Tryd.prog 6 #[.int .i64 room] w fun e w' => e = .returned (.tuple #[.pointer none, .int .i64 1]) ∧ w' = w := by
  by_cases h1 : room < 1
  · have d1 : decide (room < 1) = true := decide_eq_true h1
    go_enter Tryd.func6, Tryd.ntmps6
    go_wp2
    go_ret2
    exact ⟨rfl, rfl⟩
  · have d1 : decide (room < 1) = false := decide_eq_false h1
    have d2 : decide (64 < room) = true := decide_eq_true (by omega)
    go_enter Tryd.func6, Tryd.ntmps6
    go_wp2
    go_ret2
    exact ⟨rfl, rfl⟩
theorem new_ref_good (room : Int) (w : World) (h1 : ¬ room < 1) (h2 : ¬ room > 64) :
    Calls Tryd.prog 6 #[.int .i64 room] w fun e w' => e = .returned (.tuple #[.pointer (some ⟨w.heap.size, 0, none⟩), .int .i64 0]) ∧ (∀ base gi, Rx w' w.heap.size base gi [] room) ∧ Below w.heap.size w w' := by
  have d1 : decide (room < 1) = false := decide_eq_false h1
  have d2 : decide (64 < room) = false := decide_eq_false (by omega)
  go_enter Tryd.func6, Tryd.ntmps6
  go_wp2
  go_ret2
  exact ⟨rfl, fun base gi => ⟨_, heap_alloc_new w _, Kd.R_nil _ _ _ _ _⟩, below_alloc (Below.refl _ _) _⟩
theorem getD_drop (L : List (Int × Int)) (i : Nat) (hi : i < L.length) : L.drop i = L.getD i (0, 0) :: L.drop (i + 1) := by
  rw [List.drop_eq_getElem_cons hi]; simp [List.getD, hi]
/-- what the reference's Get answers, from a place on. -/
def getR (l : List (Int × Int)) (key : Int) : Int × Bool := match l.find? fun p => p.1 == key with | some p => (p.2, true) | none => (0, false)
theorem get_ref_calls (g base gi : Nat) (L : List (Int × Int)) (room key : Int) (w : World) (hR : Rx w g base gi L room) (hL : L.length ≤ 64) :
    Calls Tryd.prog 13 #[.pointer (some ⟨g, 0, none⟩), .int .u32 key] w fun e w' => e = .returned (.tuple #[.int .i64 (getR L key).1, .bool (getR L key).2]) ∧ ∃ n, w' = w.drewN n := by
  obtain ⟨v, hb, hr⟩ := hR
  obtain ⟨A, c, rfl, hlc, hC⟩ := Kd.R_reads hr
  have HR := Aside0.mk hr
  have hc0 := blk_cell hb 0
  have hc1 := blk_cell hb 1
  clear hr hC hb
  have HL := Aside0.mk hL
  have b0 : (L.length : Int) ≤ 64 := by omega
  clear hL
  go_enter Tryd.func13, Tryd.ntmps13
  go_wp2
  go_loopg [6] L.length (fun kq v6 w' => ∃ i : Nat, v6 = .int .i64 (i : Int) ∧ Aside0 (i + kq = L.length) ∧ Aside0 (getR (L.drop i) key = getR L key) ∧ w' = w)
  case atStart => exact ⟨0, rfl, .mk (by omega), .mk rfl, rfl⟩
  case round =>
    obtain ⟨i, rfl, HE, HG, rfl⟩ := hrel
    by_cases hi : i < L.length
    · obtain ⟨b, rfl, hbl, _, k1, k2⟩ := pairs_at HR.out i hi
      have b1 : (i : Int) < (L.length : Int) := by omega
      have e3 : wrap64 ((i : Int) + 1) = (i : Int) + 1 := IntWalk.wrap64_in _ ⟨by omega, by omega⟩
      have hd := getD_drop L i hi
      obtain ⟨p, hp⟩ : ∃ p, L.getD i (0, 0) = p := ⟨_, rfl⟩
      rw [hp] at k1 k2 hd
      have HD := Aside0.mk hd
      have HI := Aside0.mk hi
      clear hd hp hi
      by_cases hk : p.1 = key
      · have d1 : (p.1 == key) = true := by simpa using hk
        go_wp2
        go_ret2
        have hg : getR L key = (p.2, true) := by rw [← HG.out, HD.out]; unfold getR; rw [List.find?_cons, d1]
        exact ⟨by rw [hg]; rfl, 0, rfl⟩
      · have d1 : (p.1 == key) = false := by simpa using hk
        go_wp2
        go_roundg (gk - 1)
        case measure => have := HE.out; have := HI.out; omega
        case rel => exact ⟨i + 1, by rw [Int.natCast_add]; rfl, .mk (by have := HE.out; have := HI.out; omega), .mk (by rw [← HG.out, HD.out]; unfold getR; rw [List.find?_cons, d1]), rfl⟩
    · have b1 : ¬ (i : Int) < (L.length : Int) := by omega
      have d1 : decide ((i : Int) < (L.length : Int)) = false := decide_eq_false b1
      have HI := Aside0.mk hi
      clear hi
      go_wp2
      go_ret2
      have hg : getR L key = (0, false) := by rw [← HG.out, List.drop_eq_nil_of_le (by have := HI.out; omega)]; rfl
      exact ⟨by rw [hg]; rfl, 0, rfl⟩
theorem getD_at (L : List (Int × Int)) (i : Nat) (hi : i < L.length) : L.getD i (0, 0) = L[i] := by simp [List.getD, hi]
theorem take_keys (L : List (Int × Int)) (i : Nat) (hi : i < L.length) : (L.take (i + 1)).map (·.1) = (L.take i).map (·.1) ++ [(L.getD i (0, 0)).1] := by
  rw [List.take_succ_eq_append_getElem hi, List.map_append, getD_at L i hi]; rfl
set_option maxRecDepth 100000 in
theorem keys_ref_calls (g base gi : Nat) (L : List (Int × Int)) (room : Int) (w : World) (hR : Rx w g base gi L room) (hL : L.length ≤ 64) :
    Calls Tryd.prog 17 #[.pointer (some ⟨g, 0, none⟩)] w fun e w' => ∃ v, e = .returned v ∧ Kd.R (Kd.int .u32) 23 w' w.heap.size (fun _ => True) v (L.map (·.1)) ∧ Below w.heap.size w w' := by
  have HR := Aside0.mk hR
  obtain ⟨v, hb, hr⟩ := hR
  obtain ⟨A, c, rfl, hlc, hC⟩ := Kd.R_reads hr
  have hlt := blk_lt hb
  have hgb : g < w.heap.size := hlt
  have HK := Aside0.mk hr
  have HBL := Aside0.mk hb
  clear hr hC hb hlt
  have HL := Aside0.mk hL
  have b0 : (L.length : Int) ≤ 64 := by omega
  have b00 : (0 : Int) ≤ (L.length : Int) := by omega
  clear hL
  have HN : Aside0 ((Tryd.prog.info? 23).map (fun i => (i.zero, i.size, i.bytes)) = some (some (.int .u32 0), 1, 4)) := ⟨by kernel_rfl⟩
  have HB0 : Below w.heap.size w w := Below.refl _ _
  go_enter Tryd.func17, Tryd.ntmps17
  go_wp2
  have hR0 : (Kd.int .u32).R 23 (w.alloc (.cells #[] 23)) w.heap.size (fun _ => True) (.slice (some ⟨w.heap.size, 0, none⟩) 0 0) [] := R_empty _ w _ _ _ (Nat.le_refl _) trivial
  have HR0 := Aside0.mk hR0
  have hB1 : Below w.heap.size w (w.alloc (.cells #[] 23)) := HB0.alloc (Nat.le_refl _) _
  have HB1 := Aside0.mk hB1
  clear hR0 hB1 HB0
  go_loopg [3, 4] L.length (fun kq v3 v4 w' => ∃ i : Nat, v4 = .int .i64 (i : Int) ∧ Aside0 (i + kq = L.length) ∧ Aside0 (Kd.R (Kd.int .u32) 23 w' w.heap.size (fun _ => True) v3 ((L.take i).map (·.1))) ∧ Aside0 (Below w.heap.size w w'))
  case atStart => exact ⟨0, rfl, .mk (by omega), .mk HR0.out, HB1⟩
  case round =>
    clear HR0 HB1
    obtain ⟨i, rfl, HE, HV, HB⟩ := hrel
    have hbk := (HB.out.block g hgb).trans HBL.out
    have hc0 := blk_cell hbk 0
    have hsz := HB.out.size
    clear hbk
    by_cases hi : i < L.length
    · obtain ⟨b, rfl, hbl, _, k1, k2⟩ := pairs_at HK.out i hi
      have k1' := (HB.out.cell (p := ⟨b, i * 2, none⟩) hbl).trans k1
      have b1 : (i : Int) < (L.length : Int) := by omega
      have e3 : wrap64 ((i : Int) + 1) = (i : Int) + 1 := IntWalk.wrap64_in _ ⟨by omega, by omega⟩
      have hd : (L.take (i + 1)).map (·.1) = (L.take i).map (·.1) ++ [(L.getD i (0, 0)).1] := take_keys L i hi
      obtain ⟨p, hp⟩ : ∃ p, (L.getD i (0, 0)).1 = p := ⟨_, rfl⟩
      rw [hp] at k1' hd
      have HD := Aside0.mk hd
      have HI := Aside0.mk hi
      clear hd hp hi k1 k2
      obtain ⟨l, hl⟩ : ∃ l, (L.take i).map (·.1) = l := ⟨_, rfl⟩
      rw [hl] at HV HD
      have HLL : l.length ≤ 64 := by rw [← hl]; have := HL.out; simp; omega
      have HF3 : (l.length + 1) * 4 ≤ 140737488355328 := by omega
      clear hl HLL
      go_wp2_with ((at_builtin; refine R_append_at (Kd.int .u32) (w0 := w) w.heap.size rfl (.tmp 15) (.tmp 24) 46 23 (.int .u32 0) 4 rfl Tryd.underlying46 HN.out rfl (by decide) (by omega) u3 l p [.int .u32 p] (fun _ => True) (fun _ => False) rfl wr.heap.size rfl rfl rfl (fun _ hk => hk.elim) (fun _ _ => trivial) HV.out HB.out hsz HF3 ?_; intro v1 w1 hR1 hb1 _ _))
      have HR1 := Aside0.mk hR1
      have HB1 := Aside0.mk hb1
      clear hR1 hb1 HF3
      go_wp2
      go_roundg (gk - 1)
      case measure => have := HE.out; have := HI.out; omega
      case rel => exact ⟨i + 1, by rw [Int.natCast_add]; rfl, .mk (by have := HE.out; have := HI.out; omega), .mk (by rw [HD.out]; exact HR1.out), HB1⟩
    · have b1 : ¬ (i : Int) < (L.length : Int) := by omega
      have d1 : decide ((i : Int) < (L.length : Int)) = false := decide_eq_false b1
      have HI := Aside0.mk hi
      clear hi
      go_wp2
      go_ret
      have ht : L.take i = L := List.take_of_length_le (by have := HI.out; omega)
      exact ⟨_, rfl, by have := HV.out; rwa [ht] at this, HB.out⟩
end Go.Proofs.YtpbjabpakkjomaaDoor
