/- The reference's index: Put. -/
import Derived.Test.YtpbjabpakkjomaaDoorRB
import Derived.Deep.RegionHeld3
import Derived.Deep.RegionLaw
namespace Go.Proofs.YtpbjabpakkjomaaDoor
open Go.RowKit Go.Proofs.YtpbjabpakkjomaaDoorW.PrintWords Go.Proofs.YtpbjabpakkjomaaDoorW.PrintLast Go.Proofs.YtpbjabpakkjomaaDoorW.PrintMore
set_option linter.unusedVariables false
set_option linter.unusedSimpArgs false

theorem refIns_drop (L : List (Int × Int)) (key slot : Int) (i : Nat) (hi : i < L.length) (hk : (L.getD i (0, 0)).1 < key) : refIns (L.drop i) key slot = L.getD i (0, 0) :: refIns (L.drop (i + 1)) key slot := by
  rw [getD_drop L i hi]
  unfold refIns
  rw [List.takeWhile_cons_of_pos (by simpa using hk), List.dropWhile_cons_of_pos (by simpa using hk)]
  rfl
theorem refIns_stop (L : List (Int × Int)) (key slot : Int) (i : Nat) (hk : i < L.length → ¬ (L.getD i (0, 0)).1 < key) : refIns (L.drop i) key slot = (key, slot) :: L.drop i := by
  by_cases hi : i < L.length
  · rw [getD_drop L i hi]
    unfold refIns
    rw [List.takeWhile_cons_of_neg (by simpa using hk hi), List.dropWhile_cons_of_neg (by simpa using hk hi)]
    rfl
  · rw [List.drop_eq_nil_of_le (by omega)]; rfl
theorem take_snoc_pair (L : List (Int × Int)) (i : Nat) (hi : i < L.length) : L.take (i + 1) = L.take i ++ [L.getD i (0, 0)] := by
  rw [List.take_succ_eq_append_getElem hi, getD_at L i hi]
set_option maxRecDepth 100000 in
theorem put_ref_full (g base gi : Nat) (L : List (Int × Int)) (room key slot : Int) (w : World) (hR : Rx w g base gi L room) (hL : L.length ≤ 64) (h1 : (getR L key).2 = false) (h2 : room ≤ (L.length : Int)) :
    Calls Tryd.prog 9 #[.pointer (some ⟨g, 0, none⟩), .int .u32 key, .int .i64 slot] w fun e w' => e = .returned (.bool false) ∧ ∃ n, w' = w.drewN n := by
  have hG := get_ref_calls g base gi L room key w hR hL
  have HG := Aside0.mk hG
  rw [h1] at HG
  obtain ⟨v, hb, hr⟩ := hR
  obtain ⟨A, c, rfl, hlc, hC⟩ := Kd.R_reads hr
  have hc0 := blk_cell hb 0
  have hc1 := blk_cell hb 1
  obtain ⟨n0, hn0⟩ : ∃ n0, (getR L key).1 = n0 := ⟨_, rfl⟩
  rw [hn0] at HG
  have d1 : decide (room ≤ (L.length : Int)) = true := decide_eq_true h2
  have b0 : (L.length : Int) ≤ 64 := by omega
  clear hr hC hb hG h1 hn0
  go_enter Tryd.func9, Tryd.ntmps9
  go_wp2_with ((go_at_call 13; refine HG.out.mono ?_; rintro e w1 ⟨rfl, n, rfl⟩))
  go_region
  go_wp2
  go_ret
  exact ⟨rfl, n + 1, rfl⟩
theorem R_append_step_at {Wx : World} {P : Program} {ops : Array Oper} {o : Oper} {a : Act} {Q : Exit → Act → World → Prop} {Kc : Act → World → Prop} {α : Type} (d : Kd α) {w0 W : World} (base : Nat) (hw : Region.wanted o (yielded ops a.tmps) = true) (s x : Operand) (t e : TypeId) (z : Value) (bytes : Nat)
    (ho : o.op = .call { callee := .builtin .append, args := #[s, x], argTypes := #[t, t] })
    (ht : P.underlying t = some (.slice e)) (hinfo : (P.info? e).map (fun i => (i.zero, i.size, i.bytes)) = some (some z, d.sz, bytes)) (hz : z.cells.size = d.sz) (hs0 : 0 < d.sz) (hb0 : 0 < bytes)
    (v : Value) (xs : List α) (p : α) (cs : List Value) (ok okp : Nat → Prop) (hs : a.eval s = v) (H : Nat) (hH : W.heap.size = H) (hWx : Wx = W.alloc (.cells cs.toArray e)) (hx : a.eval x = .slice (some ⟨H, 0, none⟩) 1 1) (hp : d.M W base okp p cs) (hokp : ∀ k, okp k → ok k ∧ some k ≠ v.ownBlock) (hfresh : ∀ k, H ≤ k → ok k)
    (HO : d.R e W base ok v xs) (HB : Below base w0 W) (hbase : base ≤ H) (hl : (xs.length + 1) * bytes ≤ 140737488355328)
    (h : ∀ v1 w1, d.R e w1 base ok v1 (xs ++ [p]) → Below base w0 w1 → W.grownBy w1 v.ownBlock → (v1.ownBlock = v.ownBlock ∨ ∃ b, v1.ownBlock = some b ∧ H ≤ b) → Kc (a.put o.dst v1) w1) :
    if Region.wanted o (yielded ops a.tmps) = true then Oper.wp P o a Wx Kc Q else Kc (a.put o.dst undef) Wx := by
  subst hH
  subst hWx
  exact Kd.R_append_step d base hw s x t e z bytes ho ht hinfo hz hs0 hb0 v xs p cs ok okp hs hx hp hokp hfresh HO HB hbase hl h
set_option maxRecDepth 100000 in
set_option maxHeartbeats 2000000 in
theorem put_ref_ok (g base gi : Nat) (L : List (Int × Int)) (room key slot : Int) (w : World) (hR : Rx w g base gi L room) (hL : L.length ≤ 64) (hbase : base ≤ w.heap.size) (hgi : gi < w.heap.size) (h1 : (getR L key).2 = true ∨ ¬ room ≤ (L.length : Int)) :
    Calls Tryd.prog 9 #[.pointer (some ⟨g, 0, none⟩), .int .u32 key, .int .i64 slot] w fun e w' => e = .returned (.bool true) ∧ Rx w' g base gi (refIns (refDrop L key) key slot) room ∧ KB w w' g := by
  have hG := get_ref_calls g base gi L room key w hR hL
  have HG := Aside0.mk hG
  have hD : ∀ n, Calls Tryd.prog 11 #[.pointer (some ⟨g, 0, none⟩), .int .u32 key] (w.drewN n) fun e w' => e = .returned (.bool (decide ((refDrop L key).length < L.length))) ∧ Rx w' g base gi (refDrop L key) room ∧ KB w w' g := fun n => (drop_ref_calls g base gi L room key (w.drewN n) hR hL hbase hgi).mono fun _ _ hh => ⟨hh.1, hh.2.1, ⟨hh.2.2.keep, hh.2.2.os, hh.2.2.tape, hh.2.2.output⟩⟩
  have HD := Aside0.mk hD
  have HGI := Aside0.mk hgi
  have HBS := Aside0.mk hbase
  have HLL := Aside0.mk (Nat.le_trans (refDrop_le L key) hL)
  obtain ⟨v, hb, hr⟩ := hR
  obtain ⟨A, c, rfl, hlc, hC⟩ := Kd.R_reads hr
  have hc0 := blk_cell hb 0
  have hc1 := blk_cell hb 1
  have hlt := blk_lt hb
  have HLT := Aside0.mk hlt
  obtain ⟨n0, hn0⟩ : ∃ n0, (getR L key).1 = n0 := ⟨_, rfl⟩
  rw [hn0] at HG
  have b0 : (L.length : Int) ≤ 64 := by omega
  have HZ := Aside0.mk h1
  obtain ⟨is, his⟩ : ∃ is, (getR L key).2 = is := ⟨_, rfl⟩
  rw [his] at HG HZ
  obtain ⟨db, hdb⟩ : ∃ db, decide ((refDrop L key).length < L.length) = db := ⟨_, rfl⟩
  obtain ⟨L1, hL1⟩ : ∃ L1, refDrop L key = L1 := ⟨_, rfl⟩
  rw [hdb, hL1] at HD
  rw [hL1] at HLL
  have HL1 := Aside0.mk hL1
  clear hr hC hb hG hD h1 hn0 his hgi hbase hlt hdb hL1
  cases is
  all_goals
    have d1 := HZ.out
    simp at d1
    try have d2 : decide (room ≤ (L.length : Int)) = false := decide_eq_false (by omega)
    go_enter Tryd.func9, Tryd.ntmps9
    go_wp2_with ((go_at_call 13; refine HG.out.mono ?_; rintro e w1 ⟨rfl, n, rfl⟩))
    go_region
    go_wp2_with ((go_at_call 11; refine (HD.out _).mono ?_; rintro e w1 ⟨rfl, hR1, hK1⟩))
    clear d1
    try clear d2
    clear HG HD HZ hc0 hc1
    obtain ⟨v1, hb1, hr1⟩ := hR1
    obtain ⟨A1, c1, rfl, hlc1, hC1⟩ := Kd.R_reads hr1
    have hsz1 := hK1.keep.1
    have hgb : g < w1.heap.size := blk_lt hb1
    have HK := Aside0.mk hr1
    have HBL := Aside0.mk hb1
    have HKB := Aside0.mk hK1
    clear hr1 hC1 hb1 hK1
    have HBS1 : Aside0 (base ≤ w1.heap.size) := ⟨by have := HBS.out; omega⟩
    have HG1 : Aside0 (gi < w1.heap.size) := ⟨by have := HGI.out; omega⟩
    clear hsz1
    have b1 : (L1.length : Int) ≤ 64 := by have := HLL.out; omega
    have b2 : (0 : Int) ≤ (L1.length : Int) := by omega
    have hR0 : kp.R 58 (w1.alloc (.cells #[] 58)) w1.heap.size (fun k => k ≠ gi) (.slice (some ⟨w1.heap.size, 0, none⟩) 0 0) [] := R_empty _ w1 _ _ _ (Nat.le_refl _) (by have := HG1.out; omega)
    have HR0 := Aside0.mk hR0
    have hB1 : Below w1.heap.size w1 (w1.alloc (.cells #[] 58)) := (Below.refl _ _).alloc (Nat.le_refl _) _
    have HB1 := Aside0.mk hB1
    clear hR0 hB1
    go_loopg [9, 10] L1.length (fun kq v3 v4 w' => ∃ i : Nat, v4 = .int .i64 (i : Int) ∧ Aside0 (i + kq = L1.length) ∧ Aside0 (kp.R 58 w' w1.heap.size (fun k => k ≠ gi) v3 (L1.take i)) ∧ Aside0 (Below w1.heap.size w1 w') ∧ Aside0 (refIns L1 key slot = L1.take i ++ refIns (L1.drop i) key slot))
    case atStart => exact ⟨0, rfl, .mk (by omega), HR0, HB1, .mk rfl⟩
    case round =>
      clear HR0 HB1
      obtain ⟨i, rfl, HE, HV, HB, HS⟩ := hrel
      have hbk := (HB.out.block g hgb).trans HBL.out
      have hc0 := blk_cell hbk 0
      have hsz := HB.out.size
      have HBK := Aside0.mk hbk
      clear hbk
      have hlen : (L1.take i).length ≤ 64 := by have := HLL.out; simp; omega
      have HFR : Aside0 (∀ k, wr.heap.size ≤ k → k ≠ gi) := ⟨fun k hk => by have := HG1.out; omega⟩
      by_cases hi : i < L1.length ∧ (L1.getD i (0, 0)).1 < key
      · obtain ⟨hi, hk⟩ := hi
        obtain ⟨b, rfl, hbl, _, k1, k2⟩ := pairs_at HK.out i hi
        have k1' := (HB.out.cell (p := ⟨b, i * 2, none⟩) hbl).trans k1
        have k2' := (HB.out.cell (p := ⟨b, i * 2 + 1, none⟩) hbl).trans k2
        have b3 : (i : Int) < (L1.length : Int) := by omega
        have e3 : wrap64 ((i : Int) + 1) = (i : Int) + 1 := IntWalk.wrap64_in _ ⟨by omega, by omega⟩
        have hd := take_snoc_pair L1 i hi
        have hs := refIns_drop L1 key slot i hi hk
        obtain ⟨p, hp⟩ : ∃ p, L1.getD i (0, 0) = p := ⟨_, rfl⟩
        rw [hp] at k1' k2' hd hs hk
        obtain ⟨ky, sl⟩ := p
        dsimp only at k1' k2' hk
        have HI := Aside0.mk hi
        have HD := Aside0.mk hd
        have HS2 := Aside0.mk hs
        clear hp hi k1 k2 hd hs
        have HLT1 := Aside0.mk hlen
        obtain ⟨l, hl⟩ : ∃ l, L1.take i = l := ⟨_, rfl⟩
        rw [hl] at HV HD HLT1 HS
        have HF3 : (l.length + 1) * 16 ≤ 140737488355328 := by have := HLT1.out; omega
        clear hl
        have hM := kp_M wr w1.heap.size (fun _ => False) (ky, sl)
        have HM := Aside0.mk hM
        clear hM
        have d1 : decide (ky < key) = true := decide_eq_true hk
        go_wp2_with ((at_builtin; refine R_append_at kp (w0 := w1) w1.heap.size rfl (.tmp 54) (.tmp 62) 42 58 (.agg #[.int .u32 0, .int .i64 0]) 16 rfl Tryd.underlying42 info58 rfl (by decide) (by omega) u9 l (ky, sl) [.int .u32 ky, .int .i64 sl] (fun k => k ≠ gi) (fun _ => False) rfl wr.heap.size rfl rfl HM.out (fun _ hk => hk.elim) HFR.out HV.out HB.out hsz HF3 ?_; intro v1 w2 hR1 hb1 _ _; have HR1 := Aside0.mk hR1; have HB1 := Aside0.mk hb1; clear hR1 hb1 HF3 hk d1 k1' k2' hc0 hlc hlc1 hsz b0 b1 b2))
        refine Handed.intro (gk - 1) ?_ ?_
        · have := HE.out; have := HI.out; omega
        · go_step
          (repeat apply Exists.intro)
          refine ⟨?_, rfl⟩
          exact ⟨i + 1, by rw [Int.natCast_add]; rfl, .mk (by have := HE.out; have := HI.out; omega), .mk (by rw [HD.out]; exact HR1.out), HB1, .mk (by rw [HS.out, HS2.out, HD.out, List.append_assoc]; rfl)⟩
      · have hs := refIns_stop L1 key slot i (fun h h2 => hi ⟨h, h2⟩)
        have HS2 := Aside0.mk hs
        clear hs
        have hil : i ≤ L1.length := by have := HE.out; omega
        have b3 : (i : Int) ≤ (L1.length : Int) := by omega
        have HIL := Aside0.mk hil
        have HFR2 : Aside0 (∀ k, w1.heap.size ≤ k → k ≠ gi) := ⟨fun k hk => by have := HG1.out; omega⟩
        have HF3 : Aside0 (((L1.take i).length + 1) * 16 ≤ 140737488355328) := ⟨by omega⟩
        have HF4 : Aside0 (((L1.take i ++ [(key, slot)]).length + (L1.length - i)) * 16 ≤ 140737488355328) := ⟨by have := HLL.out; simp; omega⟩
        obtain ⟨A2, hA2⟩ : ∃ A2, (if c1 = i then A1 else A1.map (·.add (i * 2))) = A2 := ⟨_, rfl⟩
        have hcut : ∀ W : World, (Instr.slice 42 (.slice A1 L1.length c1) (some (.int .i64 (i : Int))) none none).run Tryd.prog W = .ok (.slice A2 (L1.length - i) (c1 - i)) W := by
          obtain ⟨ti, hti, htz⟩ := Option.map_eq_some_iff.1 info58
          have hsz2 : ti.size = 2 := by simp only [Prod.mk.injEq] at htz; exact htz.2.1
          intro W
          have := cut_from (P := Tryd.prog) 42 58 .i64 Tryd.underlying42 hti 2 hsz2 A1 L1.length c1 (i : Int) (by omega) (by omega) W
          rw [← hA2]
          simpa using this
        have hc2' := Kd.C_drop (Kd.R_reads' HK.out).2.2 hil hlc1
        have e2 : (L1.drop i).length = L1.length - i := List.length_drop
        rw [e2] at hc2'
        have HC2 : Aside0 (kp.C w1 A2 (L1.length - i) (L1.drop i)) := ⟨by rw [← hA2]; exact hc2'⟩
        clear hA2 hc2' e2 hlen
        by_cases hi2 : i < L1.length
        · obtain ⟨b, hA, hbl, _, k1, k2⟩ := pairs_at HK.out i hi2
          subst hA
          have k1' := (HB.out.cell (p := ⟨b, i * 2, none⟩) hbl).trans k1
          have hk : ¬ (L1.getD i (0, 0)).1 < key := fun h2 => hi ⟨hi2, h2⟩
          have b4 : (i : Int) < (L1.length : Int) := by omega
          obtain ⟨ky, hky⟩ : ∃ ky, (L1.getD i (0, 0)).1 = ky := ⟨_, rfl⟩
          rw [hky] at k1' hk
          have d1 : decide (ky < key) = false := decide_eq_false hk
          have d2 : key ≤ ky := by omega
          clear hi hi2 k1 k2 hky hil hk
          go_wp2
          have hc1 : wr.cell? ⟨g, 0, none⟩ = some (.slice (some ⟨b, 0, none⟩) L1.length c1) := (HB.out.cell (p := ⟨g, 0, none⟩) hgb).trans (blk_cell HBL.out 0)
          have HVD : Aside0 (kp.R 58 wr.drew w1.heap.size (fun k => k ≠ gi) u9 (L1.take i)) := ⟨HV.out⟩
          have HBD : Aside0 (Below w1.heap.size w1 wr.drew) := ⟨HB.out.drew⟩
          have HSZ : Aside0 (wr.drew.heap.size = wr.heap.size) := ⟨rfl⟩
          have hgw : g < wr.heap.size := by omega
          clear hc0 hlc hlc1 b0 b2
          go_region_law (first
            | ((refine R_append_step_at kp (w0 := w1) w1.heap.size (by rfl) (.tmp 67) (.tmp 71) 42 58 (.agg #[.int .u32 0, .int .i64 0]) 16 (by rfl) Tryd.underlying42 info58 rfl (by decide) (by omega) u9 (L1.take i) (key, slot) [.int .u32 key, .int .i64 slot] (fun k => k ≠ gi) (fun _ => False) (by rfl) wr.heap.size HSZ.out (by rfl) (by rfl) (kp_M _ _ _ (key, slot)) (fun _ hk => hk.elim) HFR.out HVD.out HBD.out hsz HF3.out ?_; intro v2 w2 hR2 hb2 hg2 _; have HR2 := Aside0.mk hR2; have HB2 := Aside0.mk hb2; have hc2 : w2.cell? ⟨g, 0, none⟩ = some (.slice (some ⟨b, 0, none⟩) L1.length c1) := (HB2.out.cell (p := ⟨g, 0, none⟩) hgb).trans (blk_cell HBL.out 0); clear hR2 hb2 hg2))
            | ((refine Kd.R_append_rows_step kp (Rr := kp.K w2) (w0 := w1) w1.heap.size (by rfl) (.tmp 72) (.tmp 78) 42 58 (.agg #[.int .u32 0, .int .i64 0]) 16 (by rfl) Tryd.underlying42 info58 rfl (by decide) (by omega) v2 (L1.take i ++ [(key, slot)]) (L1.drop i) A2 (L1.length - i) (c1 - i) (fun k => k ≠ gi) (fun _ => False) (by rfl) (by rfl) HR2.out (Kd.C_below HC2.out HB2.out) (fun _ _ h => h) (fun _ hk => hk.elim) (fun k hk => HFR2.out k (Nat.le_trans HB2.out.size hk)) HB2.out HB2.out.size HF4.out ?_; intro v3 w3 hR3 hb3 hg3 _; obtain ⟨A3, c3, he3, _, _⟩ := Kd.R_reads hR3; obtain ⟨n3, he4⟩ : ∃ n3, v3 = .slice A3 n3 c3 := ⟨_, he3⟩; clear he3; subst he4; have HR3 := Aside0.mk hR3; have HB3 := Aside0.mk hb3; have hc3 : w3.cell? ⟨g, 0, none⟩ = some (.slice (some ⟨b, 0, none⟩) L1.length c1) := (HB3.out.cell (p := ⟨g, 0, none⟩) hgb).trans (blk_cell HBL.out 0); have hf3 : w3.frozen? ⟨g, 0, none⟩ = false := (HB3.out.frozen (p := ⟨g, 0, none⟩) hgb).trans (blk_frozen HBL.out 0); clear hR3 hb3 hg3)))
          all_goals
            go_wp2
            go_ret
            have hb3 := (HB3.out.block g hgb).trans HBL.out
            have hr3 : kp.R 58 w3 w1.heap.size (fun k => k ≠ gi) (.slice A3 n3 c3) (L1.take i ++ (key, slot) :: L1.drop i) := by have := HR3.out; rw [List.append_assoc] at this; exact this
            exact ⟨rfl, ⟨_, by rw [blk_set hb3]; rfl, by rw [HL1.out, HS.out, HS2.out]; exact Kd.R_lower (Kd.R_set hr3 hb3 (by decide) 0 _) HBS1.out⟩, KB.trans HKB.out (KB.set_ (KB.of_below HB3.out g) 0 _)⟩
        · have d1 : decide ((i : Int) < (L1.length : Int)) = false := decide_eq_false (by omega)
          have d2 : (L1.length : Int) ≤ (i : Int) := by omega
          clear hi hi2 hil
          go_wp2
          have hc1 : wr.cell? ⟨g, 0, none⟩ = some (.slice A1 L1.length c1) := (HB.out.cell (p := ⟨g, 0, none⟩) hgb).trans (blk_cell HBL.out 0)
          have HVD : Aside0 (kp.R 58 wr.drew w1.heap.size (fun k => k ≠ gi) u9 (L1.take i)) := ⟨HV.out⟩
          have HBD : Aside0 (Below w1.heap.size w1 wr.drew) := ⟨HB.out.drew⟩
          have HSZ : Aside0 (wr.drew.heap.size = wr.heap.size) := ⟨rfl⟩
          have hgw : g < wr.heap.size := by omega
          clear hc0 hlc hlc1 b0 b2
          go_region_law (first
            | ((refine R_append_step_at kp (w0 := w1) w1.heap.size (by rfl) (.tmp 67) (.tmp 71) 42 58 (.agg #[.int .u32 0, .int .i64 0]) 16 (by rfl) Tryd.underlying42 info58 rfl (by decide) (by omega) u9 (L1.take i) (key, slot) [.int .u32 key, .int .i64 slot] (fun k => k ≠ gi) (fun _ => False) (by rfl) wr.heap.size HSZ.out (by rfl) (by rfl) (kp_M _ _ _ (key, slot)) (fun _ hk => hk.elim) HFR.out HVD.out HBD.out hsz HF3.out ?_; intro v2 w2 hR2 hb2 hg2 _; have HR2 := Aside0.mk hR2; have HB2 := Aside0.mk hb2; have hc2 : w2.cell? ⟨g, 0, none⟩ = some (.slice A1 L1.length c1) := (HB2.out.cell (p := ⟨g, 0, none⟩) hgb).trans (blk_cell HBL.out 0); clear hR2 hb2 hg2))
            | ((refine Kd.R_append_rows_step kp (Rr := kp.K w2) (w0 := w1) w1.heap.size (by rfl) (.tmp 72) (.tmp 78) 42 58 (.agg #[.int .u32 0, .int .i64 0]) 16 (by rfl) Tryd.underlying42 info58 rfl (by decide) (by omega) v2 (L1.take i ++ [(key, slot)]) (L1.drop i) A2 (L1.length - i) (c1 - i) (fun k => k ≠ gi) (fun _ => False) (by rfl) (by rfl) HR2.out (Kd.C_below HC2.out HB2.out) (fun _ _ h => h) (fun _ hk => hk.elim) (fun k hk => HFR2.out k (Nat.le_trans HB2.out.size hk)) HB2.out HB2.out.size HF4.out ?_; intro v3 w3 hR3 hb3 hg3 _; obtain ⟨A3, c3, he3, _, _⟩ := Kd.R_reads hR3; obtain ⟨n3, he4⟩ : ∃ n3, v3 = .slice A3 n3 c3 := ⟨_, he3⟩; clear he3; subst he4; have HR3 := Aside0.mk hR3; have HB3 := Aside0.mk hb3; have hc3 : w3.cell? ⟨g, 0, none⟩ = some (.slice A1 L1.length c1) := (HB3.out.cell (p := ⟨g, 0, none⟩) hgb).trans (blk_cell HBL.out 0); have hf3 : w3.frozen? ⟨g, 0, none⟩ = false := (HB3.out.frozen (p := ⟨g, 0, none⟩) hgb).trans (blk_frozen HBL.out 0); clear hR3 hb3 hg3)))
          all_goals
            go_wp2
            go_ret
            have hb3 := (HB3.out.block g hgb).trans HBL.out
            have hr3 : kp.R 58 w3 w1.heap.size (fun k => k ≠ gi) (.slice A3 n3 c3) (L1.take i ++ (key, slot) :: L1.drop i) := by have := HR3.out; rw [List.append_assoc] at this; exact this
            exact ⟨rfl, ⟨_, by rw [blk_set hb3]; rfl, by rw [HL1.out, HS.out, HS2.out]; exact Kd.R_lower (Kd.R_set hr3 hb3 (by decide) 0 _) HBS1.out⟩, KB.trans HKB.out (KB.set_ (KB.of_below HB3.out g) 0 _)⟩
end Go.Proofs.YtpbjabpakkjomaaDoor
