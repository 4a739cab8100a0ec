/- The reference's index: Drop. -/
import Derived.Test.YtpbjabpakkjomaaDoorRA
import Derived.Test.YtpbjabpakkjomaaDoorH
namespace Go.Proofs.YtpbjabpakkjomaaDoor
open Go.RowKit Go.Proofs.YtpbjabpakkjomaaDoorW.PrintWords Go.Proofs.YtpbjabpakkjomaaDoorW.PrintLast Go.Proofs.YtpbjabpakkjomaaDoorW.PrintMore
set_option linter.unusedVariables false
set_option linter.unusedSimpArgs false

theorem info58 : (Tryd.prog.info? 58).map (fun i => (i.zero, i.size, i.bytes)) = some (some (.agg #[.int .u32 0, .int .i64 0]), kp.sz, 16) := by kernel_rfl
theorem kp_M (W : World) (base : Nat) (ok : Nat → Prop) (p : Int × Int) : kp.M W base ok p [.int .u32 p.1, .int .i64 p.2] := ⟨[.int .u32 p.1], [.int .i64 p.2], rfl, rfl, rfl⟩
theorem refDrop_take (L : List (Int × Int)) (key : Int) (i : Nat) (hi : i < L.length) : refDrop (L.take (i + 1)) key = if (L.getD i (0, 0)).1 = key then refDrop (L.take i) key else refDrop (L.take i) key ++ [L.getD i (0, 0)] := by
  unfold refDrop
  rw [List.take_succ_eq_append_getElem hi, List.filter_append, getD_at L i hi]
  by_cases h : L[i].1 = key
  · rw [if_pos h]; simp [h]
  · rw [if_neg h]; simp [h]
theorem refDrop_le (L : List (Int × Int)) (key : Int) : (refDrop L key).length ≤ L.length := List.length_filter_le _ _
set_option maxRecDepth 100000 in
set_option maxHeartbeats 1000000 in
theorem drop_ref_calls (g base gi : Nat) (L : List (Int × Int)) (room key : Int) (w : World) (hR : Rx w g base gi L room) (hL : L.length ≤ 64) (hbase : base ≤ w.heap.size) (hgi : gi < w.heap.size) :
    Calls Tryd.prog 11 #[.pointer (some ⟨g, 0, none⟩), .int .u32 key] w fun e w' => e = .returned (.bool (decide ((refDrop L key).length < L.length))) ∧ Rx w' g base gi (refDrop L key) room ∧ KB w w' g := by
  have HR := Aside0.mk hR
  obtain ⟨v, hb, hr⟩ := hR
  obtain ⟨A, c, rfl, hlc, hC⟩ := Kd.R_reads hr
  have hlt := blk_lt hb
  have hgb : g < w.heap.size := hlt
  have HK := Aside0.mk hr
  have HBL := Aside0.mk hb
  clear hr hC hb hlt
  have HL := Aside0.mk hL
  have b0 : (L.length : Int) ≤ 64 := by omega
  have b00 : (0 : Int) ≤ (L.length : Int) := by omega
  have HG := Aside0.mk hgi
  have HBS := Aside0.mk hbase
  clear hL hgi hbase
  have HB0 : Below w.heap.size w w := Below.refl _ _
  go_enter Tryd.func11, Tryd.ntmps11
  go_wp2
  have hR0 : kp.R 58 (w.alloc (.cells #[] 58)) w.heap.size (fun k => k ≠ gi) (.slice (some ⟨w.heap.size, 0, none⟩) 0 0) [] := R_empty _ w _ _ _ (Nat.le_refl _) (by have := HG.out; omega)
  have HR0 := Aside0.mk hR0
  have hB1 : Below w.heap.size w (w.alloc (.cells #[] 58)) := HB0.alloc (Nat.le_refl _) _
  have HB1 := Aside0.mk hB1
  clear hR0 hB1 HB0
  go_loopg [5, 6] L.length (fun kq v3 v4 w' => ∃ i : Nat, v4 = .int .i64 (i : Int) ∧ Aside0 (i + kq = L.length) ∧ Aside0 (kp.R 58 w' w.heap.size (fun k => k ≠ gi) v3 (refDrop (L.take i) key)) ∧ Aside0 (Below w.heap.size w w'))
  case atStart => exact ⟨0, rfl, .mk (by omega), .mk HR0.out, HB1⟩
  case round =>
    clear HR0 HB1
    obtain ⟨i, rfl, HE, HV, HB⟩ := hrel
    have hbk := (HB.out.block g hgb).trans HBL.out
    have hc0 := blk_cell hbk 0
    have hsz := HB.out.size
    have HBK := Aside0.mk hbk
    clear hbk
    by_cases hi : i < L.length
    · obtain ⟨b, rfl, hbl, _, k1, k2⟩ := pairs_at HK.out i hi
      have k1' := (HB.out.cell (p := ⟨b, i * 2, none⟩) hbl).trans k1
      have k2' := (HB.out.cell (p := ⟨b, i * 2 + 1, none⟩) hbl).trans k2
      have b1 : (i : Int) < (L.length : Int) := by omega
      have e3 : wrap64 ((i : Int) + 1) = (i : Int) + 1 := IntWalk.wrap64_in _ ⟨by omega, by omega⟩
      have hd := refDrop_take L key i hi
      obtain ⟨p, hp⟩ : ∃ p, L.getD i (0, 0) = p := ⟨_, rfl⟩
      rw [hp] at k1' k2' hd
      obtain ⟨ky, sl⟩ := p
      dsimp only at k1' k2' hd
      have HI := Aside0.mk hi
      have hlen : (refDrop (L.take i) key).length ≤ 64 := by have := refDrop_le (L.take i) key; have := HL.out; simp at *; omega
      clear hp hi k1 k2
      obtain ⟨l, hl⟩ : ∃ l, refDrop (L.take i) key = l := ⟨_, rfl⟩
      rw [hl] at HV hd hlen
      have HF3 : (l.length + 1) * 16 ≤ 140737488355328 := by omega
      have HFR : Aside0 (∀ k, wr.heap.size ≤ k → k ≠ gi) := ⟨fun k hk => by have := HG.out; omega⟩
      clear hl hlen
      by_cases hk : ky = key
      · rw [if_pos hk] at hd
        have HD := Aside0.mk hd
        have d1 : (ky != key) = false := by simpa using hk
        clear hd hk HF3
        go_wp2
        go_roundg (gk - 1)
        case measure => have := HE.out; have := HI.out; omega
        case rel => exact ⟨i + 1, by rw [Int.natCast_add]; rfl, .mk (by have := HE.out; have := HI.out; omega), .mk (by rw [HD.out]; exact HV.out), HB⟩
      · rw [if_neg hk] at hd
        have HD := Aside0.mk hd
        have d1 : (ky != key) = true := by simpa using hk
        clear hd hk
        have hM := kp_M wr w.heap.size (fun _ => False) (ky, sl)
        have HM := Aside0.mk hM
        clear hM
        go_wp2_with ((at_builtin; refine R_append_at kp (w0 := w) w.heap.size rfl (.tmp 28) (.tmp 36) 42 58 (.agg #[.int .u32 0, .int .i64 0]) 16 rfl Tryd.underlying42 info58 rfl (by decide) (by omega) u5 l (ky, sl) [.int .u32 ky, .int .i64 sl] (fun k => k ≠ gi) (fun _ => False) rfl wr.heap.size rfl rfl HM.out (fun _ hk => hk.elim) HFR.out HV.out HB.out hsz HF3 ?_; intro v1 w1 hR1 hb1 _ _))
        have HR1 := Aside0.mk hR1
        have HB1 := Aside0.mk hb1
        clear hR1 hb1 HF3
        go_wp2
        refine Handed.intro (gk - 1) ?measure2 ?_
        rotate_left
        go_step
        (repeat apply Exists.intro)
        refine ⟨?rel2, rfl⟩
        case measure2 => have := HE.out; have := HI.out; omega
        case rel2 => exact ⟨i + 1, by rw [Int.natCast_add]; rfl, .mk (by have := HE.out; have := HI.out; omega), .mk (by rw [HD.out]; exact HR1.out), HB1⟩
    · have b1 : ¬ (i : Int) < (L.length : Int) := by omega
      have d1 : decide ((i : Int) < (L.length : Int)) = false := decide_eq_false b1
      have ht : L.take i = L := List.take_of_length_le (by omega)
      rw [ht] at HV
      clear ht hi
      obtain ⟨l, hl⟩ : ∃ l, refDrop L key = l := ⟨_, rfl⟩
      rw [hl] at HV
      have HLL := Aside0.mk hl
      clear hl
      obtain ⟨A', c', he, hlc', hC'⟩ := Kd.R_reads HV.out
      have hll := refDrop_le L key
      rw [HLL.out] at hll
      subst he
      have f0 := blk_frozen HBK.out 0
      clear hC'
      go_wp2
      go_ret
      exact ⟨by rw [HLL.out]; rfl, ⟨_, by rw [blk_set HBK.out]; rfl, by rw [HLL.out]; exact Kd.R_lower (Kd.R_set HV.out HBK.out (by decide) 0 _) HBS.out⟩, KB.set_ (KB.of_below HB.out g) 0 _⟩
end Go.Proofs.YtpbjabpakkjomaaDoor
